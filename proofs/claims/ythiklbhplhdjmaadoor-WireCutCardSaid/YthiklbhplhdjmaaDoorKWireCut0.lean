/- Texts of this claim's own repository, merged by wip/tool/pack.py: Px0, WireA, Px1, WireB, WireC, WireD, WireE, WireF, WireG, WireH, EvA, WireI, Shelf, WireJ, WireK, WireLs, WireP, WireLo, WireLc, Opn, Tied. -/
import Derived.Test.YthiklbhplhdjmaaDoorProg
import Derived.Below
import Derived.Deep.Draws
import Derived.Deep.AppendLies
import Derived.Maps.AppendAt
import Derived.OwnWalk
import Derived.Laws.BytesArg
import Derived.Laws.MakeOwn
import Derived.Laws.OwnMore
import Derived.Deep.OwnRows
import Derived.Tactics
import Derived.Lib.ConvBytes
import Derived.Laws.Slices
import Derived.WalkKit
import Derived.KernelRfl
import Derived.RowKit3
import Derived.Deep.LoopGhost
import Derived.Deep.QuietTactic
import Derived.BigQuiet
import Derived.WideLaws
import Derived.Deep.DeepCutAuto
import Derived.Deep.CutBlock
import Derived.Deep.RegionHeld3
import Derived.Laws.Rows
import Derived.Lib.AppendStr
import Derived.ArgAppend
import Derived.Laws.IdiomCopy
import Derived.OrdersHeld
import Derived.Laws.BitsLemmas
import Derived.RowKit
import Derived.Outline
import Derived.Test.YthiklbhplhdjmaaDoorWWords
import Derived.Test.YthiklbhplhdjmaaDoorWLast
import Derived.Test.YthiklbhplhdjmaaDoorWTab
import Derived.Test.YthiklbhplhdjmaaDoorWFour
import Derived.Test.YthiklbhplhdjmaaDoorWQPut
import Derived.Test.YthiklbhplhdjmaaDoorWApart
import Derived.Test.YthiklbhplhdjmaaDoorWArr
import Derived.Test.YthiklbhplhdjmaaDoorWZeros
import Derived.Test.YthiklbhplhdjmaaDoorWFoot
import Derived.Test.YthiklbhplhdjmaaDoorWKept
import Derived.Test.YthiklbhplhdjmaaDoorWShare
import Derived.Test.YthiklbhplhdjmaaDoorWN
import Derived.Test.YthiklbhplhdjmaaDoorWFootNe
import Derived.Test.YthiklbhplhdjmaaDoorWAt
import Derived.Test.YthiklbhplhdjmaaDoorWEqStruct
import Derived.Test.YthiklbhplhdjmaaDoorWRepsOne
import Derived.Test.YthiklbhplhdjmaaDoorWInv
import Derived.Test.YthiklbhplhdjmaaDoorWInvWords
import Derived.Test.YthiklbhplhdjmaaDoorWGuard
import Derived.Test.YthiklbhplhdjmaaDoorWNEv
import Derived.Test.YthiklbhplhdjmaaDoorWMore
import Derived.Lib.Builder
import Derived.Lib.Strings
import Derived.Lib.Walk
import Derived.Lib.Hide
import Derived.Laws.Externs
import Derived.Shelf.RegionOpenPlain
import Derived.BigRegion
import Derived.IntWalk
import Derived.LaidEql
import Derived.Stop.Asserts
import Derived.RowKitTokens
import Derived.Lib.Bytes
import Derived.Shelf.Strings.Builder1
import Derived.Shelf.Strings.BuilderF
import Derived.Deep.Slices
import Derived.ChangeArms
import Derived.ProofKit
import Derived.Test.YthiklbhplhdjmaaDoorRows
import Derived.ChangeSame
import Derived.ChangeVars
import Derived.JoinedOf
import Derived.LaidLaws
import Derived.LaidHandle
import Derived.Stop.Joined
set_option linter.unusedVariables false
set_option linter.unusedSimpArgs false
-- written by wip/tool/ownprint.py of this claim's own repository, out of the translation's print
namespace Go.Proofs.YthiklbhplhdjmaaDoor.P
open Go.RowKit Go.Proofs.YthiklbhplhdjmaaDoorW.PrintWords Go.Proofs.YthiklbhplhdjmaaDoorW.PrintLast Go.Proofs.YthiklbhplhdjmaaDoorW.PrintMore
attribute [local go_sem] max2_int min2_int max_two min_two max_three min_three max_four min_four   -- for this text's walks alone
set_option linter.unusedVariables false
set_option linter.unusedSimpArgs false



def errW : Option Int → Value
  | none => .nilIface
  | some c => .iface 0 (.int .i64 c)
theorem errW_none : errW none = .nilIface := rfl
theorem errW_some (c : Int) : errW (some c) = .iface 0 (.int .i64 c) := rfl

theorem info3 : (Tryd.prog.info? 3).map (fun i => (i.zero, i.size, i.bytes)) = some (some (.int .i64 0), 1, 8) := by kernel_rfl
theorem info5 : (Tryd.prog.info? 5).map (fun i => (i.zero, i.size, i.bytes)) = some (some (.int .u8 0), 1, 1) := by kernel_rfl
-- the values' own types

end Go.Proofs.YthiklbhplhdjmaaDoor.P
/- Numbers as bytes, alone: what is written of a number, what is taken of bytes. -/
namespace Go.Proofs.YthiklbhplhdjmaaDoor.P
open Go.Proofs.YthiklbhplhdjmaaDoorW.PrintWords
set_option linter.unusedVariables false
set_option linter.unusedSimpArgs false
namespace Wr

abbrev MX : Int := 1125899906842624
/-- a number's bytes -/
def vb (n : Nat) : List Int := if h : n < 128 then [(n : Int)] else ((n % 128 + 128 : Nat) : Int) :: vb (n / 128)
termination_by n
decreasing_by omega
theorem vb_lo {n : Nat} (h : n < 128) : vb n = [(n : Int)] := by rw [vb, dif_pos h]
theorem vb_hi {n : Nat} (h : ¬ n < 128) : vb n = ((n % 128 + 128 : Nat) : Int) :: vb (n / 128) := by rw [vb, dif_neg h]
theorem vb_ne (n : Nat) : vb n ≠ [] := by
  by_cases h : n < 128
  · rw [vb_lo h]; simp
  · rw [vb_hi h]; simp
theorem vb_len : ∀ (k n : Nat), n < 128 ^ (k + 1) → (vb n).length ≤ k + 1 := by
  intro k
  induction k with
  | zero => intro n h; rw [vb_lo (by simpa using h)]; simp
  | succ k ih =>
    intro n h
    by_cases hn : n < 128
    · rw [vb_lo hn]; simp
    · rw [vb_hi hn, List.length_cons]
      have := ih (n / 128) (by rw [Nat.div_lt_iff_lt_mul (by decide)]; rw [Nat.pow_succ] at h; exact h)
      omega
theorem vb_len8 {n : Nat} (h : (n : Int) ≤ MX) : (vb n).length ≤ 8 := vb_len 7 n (by simp only [MX] at h; omega)
theorem vb_len_pos (n : Nat) : 1 ≤ (vb n).length := List.length_pos_iff.mpr (vb_ne n)
theorem vb_bytes : ∀ (n : Nat) (b : Int), b ∈ vb n → 0 ≤ b ∧ b ≤ 255 := by
  intro n
  induction n using Nat.strongRecOn with
  | ind n ih =>
    intro b hb
    by_cases hn : n < 128
    · rw [vb_lo hn, List.mem_singleton] at hb; omega
    · rw [vb_hi hn, List.mem_cons] at hb
      rcases hb with rfl | hb
      · omega
      · exact ih (n / 128) (by omega) b hb
/-- what is written -/
def encN (n : Int) : List Int := if n < 0 ∨ n > MX then [] else vb n.toNat
def encI (n : Int) : List Int := if n < -MX ∨ n > MX then [] else if n < 0 then encN (-2 * n - 1) else encN (2 * n)
theorem encN_nat {n : Nat} (h : (n : Int) ≤ MX) : encN (n : Int) = vb n := by
  unfold encN
  rw [if_neg (by omega), Int.toNat_natCast]
theorem encN_in {n : Int} (h0 : 0 ≤ n) (h : n ≤ MX) : encN n = vb n.toNat := by
  unfold encN
  rw [if_neg (by omega)]
theorem encN_nil {n : Int} : encN n = [] ↔ n < 0 ∨ n > MX := by
  unfold encN
  by_cases h : n < 0 ∨ n > MX
  · rw [if_pos h]; simp [h]
  · rw [if_neg h]; simp [h, vb_ne]
/-- of a list: how many, and each, unless one has no bytes -/
def encA (one : Int → List Int) : List Int → List Int → List Int
  | out, [] => out
  | out, x :: t => if one x = [] then [] else encA one (out ++ one x) t
def encL (one : Int → List Int) (l : List Int) : List Int := encA one (encN (l.length : Int)) l
/-- what is taken -/
def tkL (S : List Int) (p : Nat) : Nat → Nat → Int → Int × Nat × Int
  | 0, _, _ => (0, p, 11)
  | d + 1, i, m =>
    if S.length ≤ p + i then (0, p, 10)
    else if 128 ≤ rd S ((p + i : Nat) : Int) then tkL S p d (i + 1) (m + (rd S ((p + i : Nat) : Int) - 128) * 128 ^ i)
    else if (rd S ((p + i : Nat) : Int) = 0 ∧ 0 < i) ∨ m + rd S ((p + i : Nat) : Int) * 128 ^ i > MX then (0, p, 11)
    else (m + rd S ((p + i : Nat) : Int) * 128 ^ i, p + i + 1, 0)
def tk (S : List Int) (p : Nat) : Int × Nat × Int := tkL S p 8 0 0
theorem rd_mid (A B : List Int) (x : Int) : rd (A ++ x :: B) ((A.length : Nat) : Int) = x := by
  simp [rd, List.getD_eq_getElem?_getD]
theorem rdn {S : List Int} {i : Nat} (h : i < S.length) : rd S (i : Int) = S[i] := by simp [rd, List.getD_eq_getElem?_getD, List.getElem?_eq_getElem h]
theorem mul_nn {a b : Int} (ha : 0 ≤ a) (hb : 0 ≤ b) : 0 ≤ a * b := Int.mul_nonneg ha hb
theorem pow_nn (i : Nat) : (0 : Int) < 128 ^ i := Int.pow_pos (by decide)
/-- a beginning of the bytes is cut off -/
theorem tkL_cut : ∀ (n : Nat) (A pre : List Int) (d c : Nat) (m : Int), (vb n).length ≤ d → c < (vb n).length →
    tkL (A ++ (pre ++ (vb n).take c)) A.length d pre.length m = (0, A.length, 10) := by
  intro n
  induction n using Nat.strongRecOn with
  | ind n ih =>
    intro A pre d c m hd hc
    obtain ⟨d, rfl⟩ : ∃ e, d = e + 1 := ⟨d - 1, by have := vb_len_pos n; omega⟩
    unfold tkL
    cases c with
    | zero => rw [if_pos (by simp)]
    | succ c =>
      have hn : ¬ n < 128 := fun h => by rw [vb_lo h] at hc; simp at hc
      rw [vb_hi hn, List.length_cons] at hc hd
      have e : A ++ (pre ++ (vb n).take (c + 1)) = (A ++ pre) ++ ((n % 128 + 128 : Nat) : Int) :: (vb (n / 128)).take c := by rw [vb_hi hn]; simp
      have er : rd ((A ++ pre) ++ ((n % 128 + 128 : Nat) : Int) :: (vb (n / 128)).take c) ((A.length + pre.length : Nat) : Int) = ((n % 128 + 128 : Nat) : Int) := by
        rw [← List.length_append]; exact rd_mid _ _ _
      rw [e, er, if_neg (by simp), if_pos (by omega)]
      have hq := ih (n / 128) (by omega) A (pre ++ [((n % 128 + 128 : Nat) : Int)]) d c (m + (((n % 128 + 128 : Nat) : Int) - 128) * 128 ^ pre.length) (by omega) (by omega)
      rw [List.length_append, List.length_singleton] at hq
      have e2 : A ++ (pre ++ [((n % 128 + 128 : Nat) : Int)] ++ (vb (n / 128)).take c) = (A ++ pre) ++ ((n % 128 + 128 : Nat) : Int) :: (vb (n / 128)).take c := by simp
      rw [e2] at hq
      exact hq
theorem tk_cut (n c : Nat) (h : (n : Int) ≤ MX) (hc : c < (vb n).length) : tk ((vb n).take c) 0 = (0, 0, 10) := by
  have := tkL_cut n [] [] 8 c 0 (vb_len8 h) hc
  simpa [tk] using this
/-- a byte more than it takes -/
theorem tkL_long : ∀ (n : Nat) (A pre : List Int) (d : Nat) (m : Int), (vb n).length + 1 ≤ d →
    tkL (A ++ (pre ++ ((vb n).dropLast ++ [(vb n).getLast (vb_ne n) + 128, 0]))) A.length d pre.length m = (0, A.length, 11) := by
  intro n
  induction n using Nat.strongRecOn with
  | ind n ih =>
    intro A pre d m hd
    obtain ⟨d, rfl⟩ : ∃ e, d = e + 1 := ⟨d - 1, by omega⟩
    unfold tkL
    by_cases hn : n < 128
    · have e : A ++ (pre ++ ((vb n).dropLast ++ [(vb n).getLast (vb_ne n) + 128, 0])) = (A ++ pre) ++ ((n : Int) + 128) :: [0] := by simp [vb_lo hn]
      have er : rd ((A ++ pre) ++ ((n : Int) + 128) :: [0]) ((A.length + pre.length : Nat) : Int) = (n : Int) + 128 := by
        rw [← List.length_append]; exact rd_mid _ _ _
      rw [e, er, if_neg (by simp), if_pos (by omega)]
      obtain ⟨d, rfl⟩ : ∃ e, d = e + 1 := ⟨d - 1, by have := vb_len_pos n; omega⟩
      unfold tkL
      have e3 : (A ++ pre) ++ ((n : Int) + 128) :: [0] = (A ++ (pre ++ [(n : Int) + 128])) ++ 0 :: [] := by simp
      have er3 : rd ((A ++ (pre ++ [(n : Int) + 128])) ++ 0 :: []) ((A.length + (pre.length + 1) : Nat) : Int) = 0 := by
        have := rd_mid (A ++ (pre ++ [(n : Int) + 128])) [] 0
        simp only [List.length_append, List.length_singleton] at this
        exact this
      rw [e3, er3, if_neg (by simp), if_neg (by decide), if_pos (.inl ⟨rfl, by omega⟩)]
    · have hne := vb_ne (n / 128)
      have e : A ++ (pre ++ ((vb n).dropLast ++ [(vb n).getLast (vb_ne n) + 128, 0])) = (A ++ pre) ++ ((n % 128 + 128 : Nat) : Int) :: ((vb (n / 128)).dropLast ++ [(vb (n / 128)).getLast hne + 128, 0]) := by
        have e1 : (vb n).dropLast = ((n % 128 + 128 : Nat) : Int) :: (vb (n / 128)).dropLast := by rw [vb_hi hn, List.dropLast_cons_of_ne_nil hne]
        have e2 : (vb n).getLast (vb_ne n) = (vb (n / 128)).getLast hne := by
          have : ∀ (l l' : List Int) (h : l ≠ []) (h' : l' ≠ []), l = l' → l.getLast h = l'.getLast h' := by intro l l' h h' e; subst e; rfl
          rw [this _ _ (vb_ne n) (by simp) (vb_hi hn), List.getLast_cons hne]
        rw [e1, e2]; simp
      have er : rd ((A ++ pre) ++ ((n % 128 + 128 : Nat) : Int) :: ((vb (n / 128)).dropLast ++ [(vb (n / 128)).getLast hne + 128, 0])) ((A.length + pre.length : Nat) : Int) = ((n % 128 + 128 : Nat) : Int) := by
        rw [← List.length_append]; exact rd_mid _ _ _
      rw [e, er, if_neg (by simp), if_pos (by omega)]
      have hl : (vb n).length = (vb (n / 128)).length + 1 := by rw [vb_hi hn]; rfl
      have hq := ih (n / 128) (by omega) A (pre ++ [((n % 128 + 128 : Nat) : Int)]) d (m + (((n % 128 + 128 : Nat) : Int) - 128) * 128 ^ pre.length) (by omega)
      rw [List.length_append, List.length_singleton] at hq
      have e2 : A ++ (pre ++ [((n % 128 + 128 : Nat) : Int)] ++ ((vb (n / 128)).dropLast ++ [(vb (n / 128)).getLast hne + 128, 0])) = (A ++ pre) ++ ((n % 128 + 128 : Nat) : Int) :: ((vb (n / 128)).dropLast ++ [(vb (n / 128)).getLast hne + 128, 0]) := by simp
      rw [e2] at hq
      exact hq
theorem tk_long (n : Nat) (h : (vb n).length ≤ 7) : tk ((vb n).dropLast ++ [(vb n).getLast (vb_ne n) + 128, 0]) 0 = (0, 0, 11) := by
  have := tkL_long n [] [] 8 0 (by omega)
  simpa [tk] using this
/-- whatever is taken: how it ends -/
theorem tkL_any (S : List Int) (p : Nat) (hb : ∀ b ∈ S, 0 ≤ b ∧ b ≤ 255) : ∀ (d i : Nat) (m : Int), 0 ≤ m →
    ((tkL S p d i m).2.2 = 0 ∧ 0 ≤ (tkL S p d i m).1 ∧ (tkL S p d i m).1 ≤ MX ∧ p + i < (tkL S p d i m).2.1 ∧ (tkL S p d i m).2.1 ≤ S.length) ∨ ((tkL S p d i m).1 = 0 ∧ (tkL S p d i m).2.1 = p ∧ ((tkL S p d i m).2.2 = 10 ∨ (tkL S p d i m).2.2 = 11)) := by
  intro d
  induction d with
  | zero => intro i m hm; exact .inr ⟨rfl, rfl, .inr rfl⟩
  | succ d ih =>
    intro i m hm
    unfold tkL
    by_cases h1 : S.length ≤ p + i
    · rw [if_pos h1]; exact .inr ⟨rfl, rfl, .inl rfl⟩
    rw [if_neg h1]
    have hc : 0 ≤ rd S ((p + i : Nat) : Int) := by
      have hlt : p + i < S.length := by omega
      have : rd S ((p + i : Nat) : Int) = S[p + i] := rdn hlt
      rw [this]
      exact (hb _ (List.getElem_mem hlt)).1
    have hp := pow_nn i
    by_cases h2 : 128 ≤ rd S ((p + i : Nat) : Int)
    · rw [if_pos h2]
      have := ih (i + 1) (m + (rd S ((p + i : Nat) : Int) - 128) * 128 ^ i) (by have := mul_nn (a := rd S ((p + i : Nat) : Int) - 128) (b := 128 ^ i) (by omega) (by omega); omega)
      rcases this with ⟨a, b, c, e, f⟩ | h
      · exact .inl ⟨a, b, c, by omega, f⟩
      · exact .inr h
    rw [if_neg h2]
    by_cases h3 : (rd S ((p + i : Nat) : Int) = 0 ∧ 0 < i) ∨ m + rd S ((p + i : Nat) : Int) * 128 ^ i > MX
    · rw [if_pos h3]; exact .inr ⟨rfl, rfl, .inr rfl⟩
    · rw [if_neg h3]
      have := mul_nn (a := rd S ((p + i : Nat) : Int)) (b := 128 ^ i) hc (by omega)
      exact .inl ⟨rfl, by show 0 ≤ m + _; omega, by show m + _ ≤ MX; omega, by show p + i < p + i + 1; omega, by show p + i + 1 ≤ _; omega⟩
theorem tk_any (S : List Int) (p : Nat) (hb : ∀ b ∈ S, 0 ≤ b ∧ b ≤ 255) :
    ((tk S p).2.2 = 0 ∧ 0 ≤ (tk S p).1 ∧ (tk S p).1 ≤ MX ∧ p < (tk S p).2.1 ∧ (tk S p).2.1 ≤ S.length) ∨ ((tk S p).1 = 0 ∧ (tk S p).2.1 = p ∧ ((tk S p).2.2 = 10 ∨ (tk S p).2.2 = 11)) := tkL_any S p hb 8 0 0 (Int.le_refl 0)
/-! ### the reader -/
abbrev St := Nat × Option (Nat × Int)
def numF (S : List Int) (st : St) : Int × St :=
  match st with
  | (p, some e) => (0, (p, some e))
  | (p, none) => if (tk S p).2.2 = 0 then ((tk S p).1, ((tk S p).2.1, none)) else (0, (p, some (p, (tk S p).2.2)))
def sgn (n : Int) : Int := if n % 2 = 1 then -((n + 1) / 2) else n / 2
def intF (S : List Int) (st : St) : Int × St := (sgn (numF S st).1, (numF S st).2)
def loopF (one : St → Int × St) : Nat → St → List Int → List Int × St
  | 0, st, out => (out, st)
  | d + 1, st, out => if (one st).2.2 = none then loopF one d (one st).2 (out ++ [(one st).1]) else ([], (one st).2)
def headF (S : List Int) (most : Int) (st : St) : Int × St :=
  if (numF S st).2.2 = none ∧ (numF S st).1 > most then ((numF S st).1, ((numF S st).2.1, some (st.1, 12))) else numF S st
def listF (S : List Int) (one : St → Int × St) (most : Int) (st : St) : List Int × St := loopF one (headF S most st).1.toNat (headF S most st).2 []
def endF (S : List Int) (st : St) : Int × Int :=
  match st with
  | (p, some (pl, c)) => (c, (pl : Int))
  | (p, none) => if p < S.length then (13, (p : Int)) else (0, (p : Int))
end Wr
end Go.Proofs.YthiklbhplhdjmaaDoor.P
-- written by wip/tool/ownprint.py of this claim's own repository, out of the translation's print
namespace Go.Proofs.YthiklbhplhdjmaaDoor.P
open Go.RowKit Go.Proofs.YthiklbhplhdjmaaDoorW.PrintWords Go.Proofs.YthiklbhplhdjmaaDoorW.PrintLast Go.Proofs.YthiklbhplhdjmaaDoorW.PrintMore
attribute [local go_sem] max2_int min2_int max_two min_two max_three min_three max_four min_four   -- for this text's walks alone
set_option linter.unusedVariables false
set_option linter.unusedSimpArgs false

/-! ### greenwoodref01_Same: function 11 -/
def greenwoodref01_Same.l0 : Nat → List Int → List Int → Int → Option (Bool)
  | 0, _, _, _ => none
  | k + 1, x0, x1, x5 => if x5 < (x0.length : Int) then (if 0 ≤ x5 then (if x5 < (x1.length : Int) then (if (rd x0 x5) = (rd x1 x5) then (greenwoodref01_Same.l0 k x0 x1 (wrap64 (x5 + 1))) else (some false)) else (none)) else (none)) else (some true)
def greenwoodref01_Same.f (k : Nat) (l0 : List Int) (l1 : List Int) : Option (Bool) := if (l0.length : Int) = (l1.length : Int) then (greenwoodref01_Same.l0 k l0 l1 0) else (some false)
set_option maxHeartbeats 8000000 in
set_option maxRecDepth 100000 in
theorem greenwoodref01_Same.calls (k : Nat) (A0 : Option Addr) (c0 : Nat) (l0 : List Int) (A1 : Option Addr) (c1 : Nat) (l1 : List Int) (r : Bool) (w : World) (hr0 : Kd.C (Kd.int .i64) w A0 l0.length l0) (hc0 : l0.length ≤ c0) (hr1 : Kd.C (Kd.int .i64) w A1 l1.length l1) (hc1 : l1.length ≤ c1) (h : greenwoodref01_Same.f k l0 l1 = some r) :
    Calls Tryd.prog 11 #[.slice A0 l0.length c0, .slice A1 l1.length c1] w fun e w' => e = .returned (.bool r) ∧ Drawn0 w w' := by
  have HR0 := Aside0.mk hr0
  have HC0 := Aside0.mk hc0
  clear hr0 hc0
  have HR1 := Aside0.mk hr1
  have HC1 := Aside0.mk hc1
  clear hr1 hc1
  have H : (if (l0.length : Int) = (l1.length : Int) then (greenwoodref01_Same.l0 k l0 l1 0) else (some false)) = some r := h
  clear h
  by_cases c3 : (l0.length : Int) = (l1.length : Int)
  · rw [if_pos c3] at H
    have c3b0 : ((l0.length : Int) == (l1.length : Int)) = true := beq_iff_eq.mpr c3
    have c3b1 : ((l0.length : Int) != (l1.length : Int)) = false := bne_eq_false_iff_eq.mpr c3
    have c3b2 : (l0.length == l1.length) = true := by first | simpa using c3 | (simp at c3 ⊢; omega)
    clear c3
    have H' := Aside0.mk H
    clear H
    go_enter Tryd.func11, Tryd.ntmps11
    go_wp2
    repeat (go_quiet (fail); try go_wp2)
    go_loopg [5] k (fun kq v5 w' => ∃ (x5_1 : Int), v5 = .int .i64 x5_1 ∧ Aside0 (greenwoodref01_Same.l0 kq l0 l1 x5_1 = some r) ∧ Aside0 (kq ≤ k) ∧ Drawn0 w w')
    case atStart => exact ⟨(0), (by first | rfl | (simp; done) | (simp [*]; done)), H', ⟨Nat.le_refl _⟩, by repeat (first | exact Drawn0.refl _ | apply Drawn0.step)⟩
    case round =>
      clear H'
      try clear c1
      try clear p2
      try clear c3
      try clear c3b0
      try clear c3b1
      try clear c3b2
      obtain ⟨x5_1, rfl, HA, HK1, ⟨m1, rfl⟩⟩ := hrel
      cases gk with
      | zero => exact absurd HA.out (by simp [greenwoodref01_Same.l0])
      | succ k1 =>
        have H := HA.out
        clear HA
        simp only [greenwoodref01_Same.l0] at H
        by_cases c4 : x5_1 < (l0.length : Int)
        · rw [if_pos c4] at H
          have c4b0 : decide (x5_1 < (l0.length : Int)) = true := decide_eq_true c4
          clear c4
          by_cases c5 : 0 ≤ x5_1
          · rw [if_pos c5] at H
            have c5b0 : decide (0 ≤ x5_1) = true := decide_eq_true c5
            clear c5
            by_cases c6 : x5_1 < (l1.length : Int)
            · rw [if_pos c6] at H
              have c6b0 : decide (x5_1 < (l1.length : Int)) = true := decide_eq_true c6
              clear c6
              by_cases c7 : (rd l0 x5_1) = (rd l1 x5_1)
              · rw [if_pos c7] at H
                have c7b0 : ((rd l0 x5_1) == (rd l1 x5_1)) = true := beq_iff_eq.mpr c7
                have c7b1 : ((rd l0 x5_1) != (rd l1 x5_1)) = false := bne_eq_false_iff_eq.mpr c7
                clear c7
                have H' := Aside0.mk H
                clear H
                have p101 : 0 ≤ (x5_1 : Int) := of_decide_eq_true (by first | (with_reducible assumption) | assumption)
                have q101 : x5_1 < (l0.length : Int) := of_decide_eq_true (by first | (with_reducible assumption) | assumption)
                obtain ⟨ad101, e101, hx101_0⟩ := Kd.at_int HR0.out x5_1 p101 q101
                cases e101
                replace p101 := eq_true p101
                replace q101 := eq_true q101
                have p102 : 0 ≤ (x5_1 : Int) := of_decide_eq_true (by first | (with_reducible assumption) | assumption)
                have q102 : x5_1 < (l1.length : Int) := of_decide_eq_true (by first | (with_reducible assumption) | assumption)
                obtain ⟨ad102, e102, hx102_0⟩ := Kd.at_int HR1.out x5_1 p102 q102
                cases e102
                replace p102 := eq_true p102
                replace q102 := eq_true q102
                go_wp2
                repeat (go_quiet (fail); try go_wp2)
                go_roundg k1
                case measure => have := HK1.out; omega
                case rel => exact ⟨(wrap64 (x5_1 + 1)), (by first | rfl | (simp; done) | (simp [*]; done)), H', ⟨by have := HK1.out; omega⟩, by repeat (first | exact Drawn0.refl _ | apply Drawn0.step)⟩
              · rw [if_neg c7] at H
                have c7b0 : ((rd l0 x5_1) == (rd l1 x5_1)) = false := beq_eq_false_iff_ne.mpr c7
                have c7b1 : ((rd l0 x5_1) != (rd l1 x5_1)) = true := bne_iff_ne.mpr c7
                obtain rfl := Option.some.inj H
                have p101 : 0 ≤ (x5_1 : Int) := of_decide_eq_true (by first | (with_reducible assumption) | assumption)
                have q101 : x5_1 < (l0.length : Int) := of_decide_eq_true (by first | (with_reducible assumption) | assumption)
                obtain ⟨ad101, e101, hx101_0⟩ := Kd.at_int HR0.out x5_1 p101 q101
                cases e101
                replace p101 := eq_true p101
                replace q101 := eq_true q101
                have p102 : 0 ≤ (x5_1 : Int) := of_decide_eq_true (by first | (with_reducible assumption) | assumption)
                have q102 : x5_1 < (l1.length : Int) := of_decide_eq_true (by first | (with_reducible assumption) | assumption)
                obtain ⟨ad102, e102, hx102_0⟩ := Kd.at_int HR1.out x5_1 p102 q102
                cases e102
                replace p102 := eq_true p102
                replace q102 := eq_true q102
                go_wp2
                repeat (go_quiet (fail); try go_wp2)
                go_ret
                exact ⟨by first | rfl | (simp; done) | (simp [*]; done), by repeat (first | exact Drawn0.refl _ | apply Drawn0.step)⟩
            · rw [if_neg c6] at H
              exact absurd H (by simp)
          · rw [if_neg c5] at H
            exact absurd H (by simp)
        · rw [if_neg c4] at H
          have c4b0 : decide (x5_1 < (l0.length : Int)) = false := decide_eq_false c4
          clear c4
          obtain rfl := Option.some.inj H
          go_wp2
          repeat (go_quiet (fail); try go_wp2)
          go_ret
          exact ⟨by first | rfl | (simp; done) | (simp [*]; done), by repeat (first | exact Drawn0.refl _ | apply Drawn0.step)⟩
  · rw [if_neg c3] at H
    have c3b0 : ((l0.length : Int) == (l1.length : Int)) = false := beq_eq_false_iff_ne.mpr c3
    have c3b1 : ((l0.length : Int) != (l1.length : Int)) = true := bne_iff_ne.mpr c3
    have c3b2 : (l0.length == l1.length) = false := by first | simpa using c3 | (simp at c3 ⊢; omega)
    obtain rfl := Option.some.inj H
    go_enter Tryd.func11, Tryd.ntmps11
    go_wp2
    repeat (go_quiet (fail); try go_wp2)
    go_ret
    exact ⟨by first | rfl | (simp; done) | (simp [*]; done), by repeat (first | exact Drawn0.refl _ | apply Drawn0.step)⟩

/-! ### wire_Num: function 14 -/
mutual
def wire_Num.j0 : Nat → Int → Bool → Option (ByteArray)
  | 0, _, _ => none
  | k + 1, x0, x9 => if x9 = true then (some (⟨#[]⟩ : ByteArray)) else (wire_Num.l0 k x0 ([] : List Int))
def wire_Num.l0 : Nat → Int → List Int → Option (ByteArray)
  | 0, _, _ => none
  | k + 1, x0, x3 => if x0 ≥ 128 then (if x3.length < 140737488355328 then (wire_Num.l0 k (x0 / 128) (x3 ++ [(wrap64 ((Int.tmod x0 128) + 128)) % 256])) else (none)) else (if x3.length < 140737488355328 then (some (strOfNums (x3 ++ [(x0) % 256]))) else (none))
end
def wire_Num.f (k : Nat) (a0 : Int) : Option (ByteArray) := if a0 < 0 then (wire_Num.j0 k a0 true) else (wire_Num.j0 k a0 (decide (a0 > 1125899906842624)))
set_option maxHeartbeats 8000000 in
set_option maxRecDepth 100000 in
theorem wire_Num.calls (k : Nat) (a0 : Int) (r : ByteArray) (w : World) (h : wire_Num.f k a0 = some r) :
    Calls Tryd.prog 14 #[.int .i64 a0] w fun e w' => e = .returned (.string r) ∧ Below w.heap.size w w' := by
  have HB := Aside0.mk (Below.refl w.heap.size w)
  have H : (if a0 < 0 then (wire_Num.j0 k a0 true) else (wire_Num.j0 k a0 (decide (a0 > 1125899906842624)))) = some r := h
  clear h
  have HC2 := Aside0.mk H
  clear H
  go_enter Tryd.func14, Tryd.ntmps14
  go_upto_region 1 with (fail)
  go_cut [9] (fun v9 wc => ∃ (kq : Nat) (x9_1 : Bool), v9 = .bool x9_1 ∧ Aside0 (wire_Num.j0 kq a0 x9_1 = some r) ∧ Aside0 (kq ≤ k) ∧ Aside0 (Below w.heap.size w wc))
  case first =>
    have H := HC2.out
    clear HC2
    by_cases c3 : a0 < 0
    · rw [if_pos c3] at H
      have c3b0 : decide (a0 < 0) = true := decide_eq_true c3
      clear c3
      (first | rw [c3b0] | (simp only [i64_w, i32_w]; rw [c3b0]) | skip)
      have H' := Aside0.mk H
      clear H
      go_wp2
      go_meet
      case rel => exact ⟨_, (true), (by first | rfl | (simp; done) | (simp [*]; done)), H', ⟨by first | omega | exact Nat.le_refl _⟩, ⟨by repeat (first | (with_reducible first | exact HB.out | apply below_alloc | apply pw_below_drewN | apply below_drew1) | exact HB.out)⟩⟩
    · rw [if_neg c3] at H
      have c3b0 : decide (a0 < 0) = false := decide_eq_false c3
      clear c3
      (first | rw [c3b0] | (simp only [i64_w, i32_w]; rw [c3b0]) | skip)
      have H' := Aside0.mk H
      clear H
      go_wp2
      go_meet
      case rel => exact ⟨_, (decide (a0 > 1125899906842624)), (by first | rfl | (simp; done) | (simp [*]; done)), H', ⟨by first | omega | exact Nat.le_refl _⟩, ⟨by repeat (first | (with_reducible first | exact HB.out | apply below_alloc | apply pw_below_drewN | apply below_drew1) | exact HB.out)⟩⟩
  case rest =>
    clear HC2
    try clear c1
    try clear p2
    try clear c3
    try clear c3b0
    obtain ⟨kq, x9_1, rfl, HA, HJ1, HB⟩ := hcut
    cases kq with
    | zero => exact absurd HA.out (by simp [wire_Num.j0])
    | succ kj1 =>
      have H := HA.out
      clear HA
      simp only [wire_Num.j0] at H
      by_cases c4 : x9_1 = true
      · subst c4
        have H1 : (some (⟨#[]⟩ : ByteArray)) = some r := by rw [if_pos rfl] at H; exact H
        clear H
        have H := H1
        clear H1
        obtain rfl := Option.some.inj H
        go_wp2
        go_ret
        exact ⟨by first | rfl | (simp [errW_none, errW_some] <;> rfl) | (simp [*, errW_none, errW_some] <;> rfl), by repeat (first | (with_reducible first | exact HB.out | apply below_alloc | apply pw_below_drewN | apply below_drew1) | exact HB.out)⟩
      · replace c4 := Bool.eq_false_iff.mpr c4
        subst c4
        have H1 : (wire_Num.l0 kj1 a0 ([] : List Int)) = some r := by rw [if_neg (show ¬ (false = true) by decide)] at H; exact H
        clear H
        have H := H1
        clear H1
        have H' := Aside0.mk H
        clear H
        go_wp2
        go_loopg [0, 3] kj1 (fun kq v0 v3 w' => ∃ (x0_2 : Int) (x3_2 : List Int), v0 = .int .i64 x0_2 ∧ Aside0 (wire_Num.l0 kq x0_2 x3_2 = some r) ∧ Aside0 (kq ≤ kj1) ∧ Aside0 (Kd.R (Kd.int .u8) 5 w' w.heap.size (fun _ => True) v3 x3_2) ∧ Aside0 (Below w.heap.size w w'))
        case atStart => exact ⟨(a0), (([] : List Int)), (by first | rfl | (simp; done) | (simp [*]; done)), H', ⟨Nat.le_refl _⟩, ⟨by first | exact Kd.R_nil _ _ _ _ _ | exact Kd.N_nil _ _ _ _ _ | exact Kd.V_nil _ _ _ _ _ | exact Kd.Q_nil _ _ _ _ _ | exact Kd.S_nil _ _ _ _ _⟩, ⟨by repeat (first | (with_reducible first | exact HB.out | apply below_alloc | apply pw_below_drewN | apply below_drew1) | exact HB.out)⟩⟩
        case round =>
          clear H'
          try clear c1
          try clear p2
          try clear c3
          try clear c3b0
          try clear c4
          try clear p2
          obtain ⟨x0_2, x3_2, rfl, HA, HK2, HO_3, HB⟩ := hrel
          cases gk with
          | zero => exact absurd HA.out (by simp [wire_Num.l0])
          | succ k2 =>
            have H := HA.out
            clear HA
            simp only [wire_Num.l0] at H
            by_cases c5 : x0_2 ≥ 128
            · rw [if_pos c5] at H
              have c5b0 : decide (128 ≤ x0_2) = true := decide_eq_true c5
              clear c5
              by_cases c6 : x3_2.length < 140737488355328
              · rw [if_pos c6] at H
                have LMc6 := Aside0.mk c6
                clear c6
                obtain ⟨y103, hy103⟩ : ∃ y_ : List Int, y_ = (x3_2 ++ [(wrap64 ((Int.tmod x0_2 128) + 128)) % 256]) := ⟨_, rfl⟩
                replace H : (wire_Num.l0 k2 (x0_2 / 128) y103) = some r := by first | (rw [hy103]; with_reducible exact H) | (have H2_ := (Option.bind_some _ _).symm.trans H; rw [hy103]; with_reducible exact H2_) | (have H2_ := (Option.bind_some _ _).symm.trans H; with_reducible exact H2_) | with_reducible exact H | (rw [hy103]; exact H) | exact H
                have Ny103 := Aside0.mk hy103
                clear hy103
                have H' := Aside0.mk H
                clear H
                go_wp2_with (first | ((with_reducible refine gate_builtin (b := .append) (xs := #[.tmp 14, .tmp 19]) rfl ?_); at_builtin; refine Kd.R_append (Kd.int .u8) (w0 := w) w.heap.size rfl (.tmp 14) (.tmp 19) 39 5 (.int .u8 0) 1 rfl Tryd.underlying39 info5 rfl (by decide) (by omega) u3 x3_2 ((wrap64 ((Int.tmod x0_2 128) + 128)) % 256) [.int .u8 ((wrap64 ((Int.tmod x0_2 128) + 128)) % 256)] (fun _ => True) (fun _ => False) rfl rfl ?aP (fun _ hk => hk.elim) ?aF ?aO ?aB ?aS ?aL ?_; (case aP => exact rfl); (case aB => exact (by repeat (first | (with_reducible first | exact HB.out | apply below_alloc | apply pw_below_drewN | apply below_drew1) | exact HB.out))); (case aF => exact (fun _ _ => trivial)); (case aO => exact (by (with_reducible repeat (first | apply Kd.R_alloc | apply Kd.R_drewN | apply Kd.R_drew)); exact HO_3.out)); (case aS => exact (below_size (by repeat (first | (with_reducible first | exact HB.out | apply below_alloc | apply pw_below_drewN | apply below_drew1) | exact HB.out)))); (case aL => have := LMc6.out; omega); intro v104 w7 ho hb hg hat; rw [← Ny103.out] at ho; have n0_ := Aside0.mk (hb); have n1_ := Aside0.mk (ho); clear HB; clear HO_3; have HB := n0_; have HO105 := n1_; clear n0_ n1_; clear ho hb hg hat))
                go_roundg k2
                case measure => have := HJ1.out; have := HK2.out; omega
                case rel => exact ⟨(x0_2 / 128), (y103), (by first | rfl | (simp; done) | (simp [*]; done)), H', ⟨by have := HJ1.out; have := HK2.out; omega⟩, ⟨by (with_reducible repeat (first | apply Kd.R_alloc | apply Kd.R_drewN | apply Kd.R_drew)); exact HO105.out⟩, ⟨by repeat (first | (with_reducible first | exact HB.out | apply below_alloc | apply pw_below_drewN | apply below_drew1) | exact HB.out)⟩⟩
              · rw [if_neg c6] at H
                exact absurd H (by simp)
            · rw [if_neg c5] at H
              have c5b0 : decide (128 ≤ x0_2) = false := decide_eq_false c5
              clear c5
              by_cases c8 : x3_2.length < 140737488355328
              · rw [if_pos c8] at H
                have LMc8 := Aside0.mk c8
                clear c8
                obtain ⟨y106, hy106⟩ : ∃ y_ : List Int, y_ = (x3_2 ++ [(x0_2) % 256]) := ⟨_, rfl⟩
                replace H : (some (strOfNums y106)) = some r := by first | (rw [hy106]; with_reducible exact H) | (have H2_ := (Option.bind_some _ _).symm.trans H; rw [hy106]; with_reducible exact H2_) | (have H2_ := (Option.bind_some _ _).symm.trans H; with_reducible exact H2_) | with_reducible exact H | (rw [hy106]; exact H) | exact H
                have Ny106 := Aside0.mk hy106
                clear hy106
                obtain rfl := Option.some.inj H
                go_wp2_with (first | ((with_reducible refine gate_builtin (b := .append) (xs := #[.tmp 21, .tmp 24]) rfl ?_); at_builtin; refine Kd.R_append (Kd.int .u8) (w0 := w) w.heap.size rfl (.tmp 21) (.tmp 24) 39 5 (.int .u8 0) 1 rfl Tryd.underlying39 info5 rfl (by decide) (by omega) u3 x3_2 ((x0_2) % 256) [.int .u8 ((x0_2) % 256)] (fun _ => True) (fun _ => False) rfl rfl ?aP (fun _ hk => hk.elim) ?aF ?aO ?aB ?aS ?aL ?_; (case aP => exact rfl); (case aB => exact (by repeat (first | (with_reducible first | exact HB.out | apply below_alloc | apply pw_below_drewN | apply below_drew1) | exact HB.out))); (case aF => exact (fun _ _ => trivial)); (case aO => exact (by (with_reducible repeat (first | apply Kd.R_alloc | apply Kd.R_drewN | apply Kd.R_drew)); exact HO_3.out)); (case aS => exact (below_size (by repeat (first | (with_reducible first | exact HB.out | apply below_alloc | apply pw_below_drewN | apply below_drew1) | exact HB.out)))); (case aL => have := LMc8.out; omega); intro v107 w9 ho hb hg hat; rw [← Ny106.out] at ho; have n0_ := Aside0.mk (hb); have n1_ := Aside0.mk (ho); clear HB; clear HO_3; have HB := n0_; have HO108 := n1_; clear n0_ n1_; clear ho hb hg hat; have hcv10 := own_string (P := Tryd.prog) Tryd.underlying39 Tryd.underlying5 Tryd.underlying9 (Kd.own_of_R HO108.out)))
                go_ret
                exact ⟨by first | rfl | (simp [errW_none, errW_some] <;> rfl) | (simp [*, errW_none, errW_some] <;> rfl), by repeat (first | (with_reducible first | exact HB.out | apply below_alloc | apply pw_below_drewN | apply below_drew1) | exact HB.out)⟩
              · rw [if_neg c8] at H
                exact absurd H (by simp)

/-! ### wire_Int: function 16 -/
def wire_Int.j0 : Nat → Int → Bool → Option (ByteArray)
  | 0, _, _ => none
  | k + 1, x0, x8 => if x8 = true then (some (⟨#[]⟩ : ByteArray)) else (if x0 < 0 then ((wire_Num.f k (wrap64 ((wrap64 ((-2) * x0)) - 1))).bind fun t109 => (some t109)) else ((wire_Num.f k (wrap64 (2 * x0))).bind fun t110 => (some t110)))
def wire_Int.f (k : Nat) (a0 : Int) : Option (ByteArray) := if a0 < (-1125899906842624) then (wire_Int.j0 k a0 true) else (wire_Int.j0 k a0 (decide (a0 > 1125899906842624)))
set_option maxHeartbeats 8000000 in
set_option maxRecDepth 100000 in
theorem wire_Int.calls (k : Nat) (a0 : Int) (r : ByteArray) (w : World) (h : wire_Int.f k a0 = some r) :
    Calls Tryd.prog 16 #[.int .i64 a0] w fun e w' => e = .returned (.string r) ∧ Below w.heap.size w w' := by
  have HB := Aside0.mk (Below.refl w.heap.size w)
  have H : (if a0 < (-1125899906842624) then (wire_Int.j0 k a0 true) else (wire_Int.j0 k a0 (decide (a0 > 1125899906842624)))) = some r := h
  clear h
  have HC2 := Aside0.mk H
  clear H
  go_enter Tryd.func16, Tryd.ntmps16
  go_upto_region 1 with (fail)
  go_cut [8] (fun v8 wc => ∃ (kq : Nat) (x8_1 : Bool), v8 = .bool x8_1 ∧ Aside0 (wire_Int.j0 kq a0 x8_1 = some r) ∧ Aside0 (kq ≤ k) ∧ Aside0 (Below w.heap.size w wc))
  case first =>
    have H := HC2.out
    clear HC2
    by_cases c3 : a0 < (-1125899906842624)
    · rw [if_pos c3] at H
      have c3b0 : decide (a0 < (-1125899906842624)) = true := decide_eq_true c3
      clear c3
      (first | rw [c3b0] | (simp only [i64_w, i32_w]; rw [c3b0]) | skip)
      have H' := Aside0.mk H
      clear H
      go_wp2
      go_meet
      case rel => exact ⟨_, (true), (by first | rfl | (simp; done) | (simp [*]; done)), H', ⟨by first | omega | exact Nat.le_refl _⟩, ⟨by repeat (first | (with_reducible first | exact HB.out | apply below_alloc | apply pw_below_drewN | apply below_drew1) | exact HB.out)⟩⟩
    · rw [if_neg c3] at H
      have c3b0 : decide (a0 < (-1125899906842624)) = false := decide_eq_false c3
      clear c3
      (first | rw [c3b0] | (simp only [i64_w, i32_w]; rw [c3b0]) | skip)
      have H' := Aside0.mk H
      clear H
      go_wp2
      go_meet
      case rel => exact ⟨_, (decide (a0 > 1125899906842624)), (by first | rfl | (simp; done) | (simp [*]; done)), H', ⟨by first | omega | exact Nat.le_refl _⟩, ⟨by repeat (first | (with_reducible first | exact HB.out | apply below_alloc | apply pw_below_drewN | apply below_drew1) | exact HB.out)⟩⟩
  case rest =>
    clear HC2
    try clear c1
    try clear p2
    try clear c3
    try clear c3b0
    obtain ⟨kq, x8_1, rfl, HA, HJ1, HB⟩ := hcut
    cases kq with
    | zero => exact absurd HA.out (by simp [wire_Int.j0])
    | succ kj1 =>
      have H := HA.out
      clear HA
      simp only [wire_Int.j0] at H
      by_cases c4 : x8_1 = true
      · subst c4
        have H1 : (some (⟨#[]⟩ : ByteArray)) = some r := by rw [if_pos rfl] at H; exact H
        clear H
        have H := H1
        clear H1
        obtain rfl := Option.some.inj H
        go_wp2
        go_ret
        exact ⟨by first | rfl | (simp [errW_none, errW_some] <;> rfl) | (simp [*, errW_none, errW_some] <;> rfl), by repeat (first | (with_reducible first | exact HB.out | apply below_alloc | apply pw_below_drewN | apply below_drew1) | exact HB.out)⟩
      · replace c4 := Bool.eq_false_iff.mpr c4
        subst c4
        have H1 : (if a0 < 0 then ((wire_Num.f kj1 (wrap64 ((wrap64 ((-2) * a0)) - 1))).bind fun t109 => (some t109)) else ((wire_Num.f kj1 (wrap64 (2 * a0))).bind fun t110 => (some t110))) = some r := by rw [if_neg (show ¬ (false = true) by decide)] at H; exact H
        clear H
        have H := H1
        clear H1
        by_cases c5 : a0 < 0
        · rw [if_pos c5] at H
          have c5b0 : decide (a0 < 0) = true := decide_eq_true c5
          clear c5
          replace H := Option.bind_eq_some_iff.mp H
          obtain ⟨t109, A60, H⟩ := H
          replace H : (some t109) = some r := H
          have A6 := Aside0.mk A60
          clear A60
          obtain rfl := Option.some.inj H
          go_wp2_with (first | ((with_reducible refine gate_callee (f := 14) rfl ?_); refine goesL_ (some 14) rfl rfl Tryd.func14 (by kernel_rfl) rfl #[.int .i64 (wrap64 ((wrap64 ((-2) * a0)) - 1))] rfl (by (try simp only [List.map_toArray, List.map_cons, List.map_nil]); first | done | rfl | (simp only [List.length_drop, List.length_take]; rfl)) ?_; (with_reducible refine (wire_Num.calls kj1 (wrap64 ((wrap64 ((-2) * a0)) - 1)) t109 _ A6.out).mono ?_); rintro e w7 ⟨rfl, hb⟩; refine ⟨_, rfl, ?_⟩; have n0_ := Aside0.mk (below_step (by repeat (first | (with_reducible first | exact HB.out | apply below_alloc | apply pw_below_drewN | apply below_drew1) | exact HB.out)) hb); clear HB; have HB := n0_; clear n0_; (try clear hb); (try clear hb2); (try clear hk); (try clear hi)))
          go_ret
          exact ⟨by first | rfl | (simp [errW_none, errW_some] <;> rfl) | (simp [*, errW_none, errW_some] <;> rfl), by repeat (first | (with_reducible first | exact HB.out | apply below_alloc | apply pw_below_drewN | apply below_drew1) | exact HB.out)⟩
        · rw [if_neg c5] at H
          have c5b0 : decide (a0 < 0) = false := decide_eq_false c5
          clear c5
          replace H := Option.bind_eq_some_iff.mp H
          obtain ⟨t110, A80, H⟩ := H
          replace H : (some t110) = some r := H
          have A8 := Aside0.mk A80
          clear A80
          obtain rfl := Option.some.inj H
          go_wp2_with (first | ((with_reducible refine gate_callee (f := 14) rfl ?_); refine goesL_ (some 17) rfl rfl Tryd.func14 (by kernel_rfl) rfl #[.int .i64 (wrap64 (2 * a0))] rfl (by (try simp only [List.map_toArray, List.map_cons, List.map_nil]); first | done | rfl | (simp only [List.length_drop, List.length_take]; rfl)) ?_; (with_reducible refine (wire_Num.calls kj1 (wrap64 (2 * a0)) t110 _ A8.out).mono ?_); rintro e w9 ⟨rfl, hb⟩; refine ⟨_, rfl, ?_⟩; have n0_ := Aside0.mk (below_step (by repeat (first | (with_reducible first | exact HB.out | apply below_alloc | apply pw_below_drewN | apply below_drew1) | exact HB.out)) hb); clear HB; have HB := n0_; clear n0_; (try clear hb); (try clear hb2); (try clear hk); (try clear hi)))
          go_ret
          exact ⟨by first | rfl | (simp [errW_none, errW_some] <;> rfl) | (simp [*, errW_none, errW_some] <;> rfl), by repeat (first | (with_reducible first | exact HB.out | apply below_alloc | apply pw_below_drewN | apply below_drew1) | exact HB.out)⟩

-- NOT PRINTED: function 51 (abi_NoEscape)

-- NOT PRINTED: function 48 (strings_Builder_copyCheck)

-- NOT PRINTED: function 40 (strings_Builder_WriteString)

-- NOT PRINTED: function 41 (strings_Builder_String)

-- NOT PRINTED: function 33 (wire_all)

-- NOT PRINTED: function 18 (wire_Nums)

-- NOT PRINTED: function 20 (wire_Ints)

-- NOT PRINTED: function 22 (wire_Read)

-- NOT PRINTED: function 34 (wire_Reader_take)

-- NOT PRINTED: function 23 (wire_Reader_Num)

-- NOT PRINTED: function 24 (wire_Reader_Int)

-- NOT PRINTED: function 35 (wire_Reader_list)

-- NOT PRINTED: function 25 (wire_Reader_Nums)

-- NOT PRINTED: function 26 (wire_Reader_Ints)

-- NOT PRINTED: function 42 (reflectlite_ValueOf)

-- NOT PRINTED: function 43 (reflectlite_Value_Type)

-- NOT PRINTED: function 44 (reflectlite_Value_IsNil)

-- NOT PRINTED: function 46 (reflectlite_TypeOf)

-- NOT PRINTED: function 49 (reflectlite_Value_Elem)

-- NOT PRINTED: function 50 (reflectlite_Value_Set)

-- NOT PRINTED: function 45 (errors_as)

-- NOT PRINTED: function 36 (errors_As)

-- NOT PRINTED: function 47 (errors_is)

-- NOT PRINTED: function 37 (errors_Is)

-- NOT PRINTED: function 27 (wire_Reader_End)

-- NOT PRINTED: function 10 (greenwoodlaw01_fixed)

-- NOT PRINTED: function 12 (greenwoodlaw01_script)

/-- A state of type 43 at block g of W; what its slices lead to came in by w0. -/
def IsS43 (w0 W : World) (g : Nat) (f0 : ByteArray) (f1 : Int) (f2 : Int) : Prop := W.heap[g]? = some (.cells #[.string f0, .int .i64 f1, .int .i64 f2] 43 (0, 0)) ∧ w0.heap.size ≤ g
theorem IsS43.grown {w0 W : World} {g : Nat} {f0 : ByteArray} {f1 : Int} {f2 : Int} {W1 : World} {row : Option Nat} (h : IsS43 w0 W g f0 f1 f2) (hw : W.grownBy W1 row) (hne : some g ≠ row) : IsS43 w0 W1 g f0 f1 f2 := by
  obtain ⟨hb, hg⟩ := h
  exact ⟨blk_grown hb hw hne, hg⟩
theorem IsS43.below {w0 W : World} {g : Nat} {f0 : ByteArray} {f1 : Int} {f2 : Int} {W1 : World} (h : IsS43 w0 W g f0 f1 f2) (hw : Below W.heap.size W W1) : IsS43 w0 W1 g f0 f1 f2 := h.grown (grown_of_below hw none) (by simp)
theorem IsS43.alloc {w0 W : World} {g : Nat} {f0 : ByteArray} {f1 : Int} {f2 : Int} (h : IsS43 w0 W g f0 f1 f2) (o : Obj) : IsS43 w0 (W.alloc o) g f0 f1 f2 := h.below (below_alloc (Below.refl _ _) o)
theorem IsS43.drewN {w0 W : World} {g : Nat} {f0 : ByteArray} {f1 : Int} {f2 : Int} (h : IsS43 w0 W g f0 f1 f2) (m : Nat) : IsS43 w0 (W.drewN m) g f0 f1 f2 := h
theorem IsS43.drew {w0 W : World} {g : Nat} {f0 : ByteArray} {f1 : Int} {f2 : Int} (h : IsS43 w0 W g f0 f1 f2) : IsS43 w0 W.drew g f0 f1 f2 := h
theorem IsS43.lt {w0 W : World} {g : Nat} {f0 : ByteArray} {f1 : Int} {f2 : Int} (h : IsS43 w0 W g f0 f1 f2) : g < W.heap.size := by
  obtain ⟨hb, hg⟩ := h
  exact blk_lt hb
end Go.Proofs.YthiklbhplhdjmaaDoor.P
/- strings.Builder as a call of the wire's own makes it: copyCheck, WriteString. -/
namespace Go.Proofs.YthiklbhplhdjmaaDoor.P
open Go.RowKit Go.Lib Go.Proofs.YthiklbhplhdjmaaDoorW.PrintWords Go.Proofs.YthiklbhplhdjmaaDoorW.PrintLast Go.Proofs.YthiklbhplhdjmaaDoorW.PrintMore
set_option linter.unusedVariables false
set_option linter.unusedSimpArgs false

theorem infoBd : (Tryd.prog.info? 65).map (·.size) = some 2 := by kernel_rfl
theorem infoBy : (Tryd.prog.info? 5).map (fun i => (i.zero, i.size, i.bytes)) = some (some (.int .u8 0), 1, 1) := by kernel_rfl
set_option maxHeartbeats 1000000 in
set_option maxRecDepth 100000 in
theorem bcheck_used (b : Nat) (w : World) (h0 : w.cell? ⟨b, 0, none⟩ = some (.pointer (some ⟨b, 0, none⟩))) :
    Calls Tryd.prog 48 #[.pointer (some ⟨b, 0, none⟩)] w fun e w' => e = .returned (.tuple #[]) ∧ w' = w := by
  obtain ⟨j, hj, _⟩ := Option.map_eq_some_iff.1 infoBd
  go_enter Tryd.func48, Tryd.ntmps48
  go_wp2
  rw [Lib.run_neq_ptr_same w _ Tryd.underlying63 hj]
  go_wp2
  go_end0
  exact ⟨rfl, rfl⟩
set_option maxHeartbeats 1000000 in
set_option maxRecDepth 100000 in
theorem bcheck_fresh (b : Nat) (w : World) (h0 : w.cell? ⟨b, 0, none⟩ = some (.pointer none)) (hsh : w.shape? b = some (65, 2)) (hfz : w.frozen? ⟨b, 0, none⟩ = false) :
    Calls Tryd.prog 48 #[.pointer (some ⟨b, 0, none⟩)] w fun e w' => e = .returned (.tuple #[]) ∧ w' = w.setCell ⟨b, 0, none⟩ (.pointer (some ⟨b, 0, none⟩)) := by
  obtain ⟨j, hj, hjs⟩ := Option.map_eq_some_iff.1 infoBd
  go_enter Tryd.func48, Tryd.ntmps48
  go_wp2
  rw [Lib.run_to_unsafe w ⟨b, 0, none⟩ Tryd.underlying63 Tryd.underlying68 hj (by rw [hjs]; decide) hsh (Nat.zero_lt_succ 1)]
  simp only [Result.andThen]
  rw [Oper.upon_value]
  go_wp2
  rw [run_callFunc_extern Tryd.func51 (by kernel_rfl) (by kernel_rfl) (by kernel_rfl) (e := Extern.AbiNoEscape.same) (by kernel_rfl)]
  rw [Lib.run_noEscape]
  simp only [Result.andThen]
  rw [Oper.upon_value]
  go_wp2
  rw [Lib.run_from_unsafe w ⟨b, 0, none⟩ Tryd.underlying68 Tryd.underlying63 hj hsh (by kernel_rfl)]
  simp only [Result.andThen]
  rw [Oper.upon_value]
  go_wp2
  go_end0
  exact ⟨rfl, rfl⟩
theorem bcheck_c (B b : Nat) (bs : List Value) (w : World) (h : Lib.IsBuilder 65 5 B b bs w) :
    Calls Tryd.prog 48 #[.pointer (some ⟨b, 0, none⟩)] w fun e w' => e = .returned (.tuple #[]) ∧ (Lib.BuilderAt 65 5 B b (.pointer (some ⟨b, 0, none⟩)) bs w' ∧ Below B w w') := by
  rcases h with h | h
  · refine (bcheck_fresh b w h.cell0 h.shape h.frozen0).mono ?_
    rintro e w' ⟨rfl, rfl⟩
    exact ⟨rfl, h.used _, (Below.refl B w).setCell (p := ⟨b, 0, none⟩) h.1 _⟩
  · refine (bcheck_used b w h.cell0).mono ?_
    rintro e w' ⟨rfl, rfl⟩
    exact ⟨rfl, h, Below.refl B _⟩
set_option maxHeartbeats 2000000 in
set_option maxRecDepth 100000 in
theorem bwrite_c (B b : Nat) (bs : List Value) (s : ByteArray) (w : World) (h : Lib.IsBuilder 65 5 B b bs w) (hlen : bs.length + s.size ≤ 140737488355328) (hBw : B ≤ w.heap.size) :
    Calls Tryd.prog 40 #[.pointer (some ⟨b, 0, none⟩), .string s] w fun e w' => e = .returned (.tuple #[.int .i64 s.size, .nilIface]) ∧ (Lib.BuilderAt 65 5 B b (.pointer (some ⟨b, 0, none⟩)) (bs ++ Lib.strCells s) w' ∧ Below B w w') := by
  obtain ⟨i0, hi, hz0, hz1, hz2⟩ := info_parts infoBy
  go_enter Tryd.func40, Tryd.ntmps40
  go_wp2_with (go_at_call 48; refine (bcheck_c B b bs _ h).mono ?_)
  rintro e w1 ⟨rfl, h1, hb1⟩
  obtain ⟨hB, v, hbk, hown, hne⟩ := h1
  have c0 : w1.cell? ⟨b, 0, none⟩ = some (.pointer (some ⟨b, 0, none⟩)) := by rw [Lib.cell_of_heap hbk]; rfl
  have c1 : w1.cell? ⟨b, 1, none⟩ = some v := by rw [Lib.cell_of_heap hbk]; rfl
  go_wp2_with (at_builtin; refine Lib.wpList_append_own_string _ rfl _ _ 39 9 rfl B 5 i0 Tryd.underlying39 Tryd.underlying9 hi hz0 hz1 hz2 _ _ _ rfl hown s rfl ?c3 ?c4 ?c5 ?_)
  case c3 => unfold maxLen; omega
  case c4 => omega
  case c5 => have := hb1.size; omega
  intro v' w2 hown' hgrow _
  have hlt : b < w1.heap.size := by
    rcases Nat.lt_or_ge b w1.heap.size with h' | h'
    · exact h'
    · simp [Array.getElem?_eq_none h'] at hbk
  have hb2 : w2.heap[b]? = some (.cells #[.pointer (some ⟨b, 0, none⟩), v] 65 (0, 0)) := by
    rw [hgrow.block b hlt (fun e => hne e.symm)]
    exact hbk
  have d0 : w2.cell? ⟨b, 0, none⟩ = some (.pointer (some ⟨b, 0, none⟩)) := by rw [Lib.cell_of_heap hb2]; rfl
  have d1 : w2.cell? ⟨b, 1, none⟩ = some v := by rw [Lib.cell_of_heap hb2]; rfl
  have f1 : w2.frozen? ⟨b, 1, none⟩ = false := Lib.frozen_of_heap hb2 1
  obtain ⟨ao, n', cap, rfl⟩ : ∃ ao n' cap, v' = .slice ao n' cap := by
    rcases hown'.2 with ⟨hv, _⟩ | ⟨g, cap, cur, hv, _⟩
    · exact ⟨_, _, _, hv⟩
    · exact ⟨_, _, _, hv⟩
  go_wp2
  go_ret2
  refine ⟨rfl, ?_, ?_⟩
  · exact Lib.BuilderAt.put (T := 65) (e := 5) hB hb2 (bs' := bs ++ Lib.strCells s) (by simpa [Lib.strCells_length] using hown') (by decide)
  · exact (hb1.grown hgrow (by have := hb1.size; omega) (fun k hk => (hown.lt k hk).1)).setCell (p := ⟨b, 1, none⟩) hB _
end Go.Proofs.YthiklbhplhdjmaaDoor.P
/- The wire's reader, walked: take, Num, Int, Read. -/
namespace Go.Proofs.YthiklbhplhdjmaaDoor.P
open Go.RowKit Go.Proofs.YthiklbhplhdjmaaDoorW.PrintWords Go.Proofs.YthiklbhplhdjmaaDoorW.PrintLast Go.Proofs.YthiklbhplhdjmaaDoorW.PrintMore
open Wr
set_option linter.unusedVariables false
set_option linter.unusedSimpArgs false

theorem grown_drewN {w wr : World} {row : Option Nat} (h : w.grownBy wr row) (q : Nat) : w.grownBy (wr.drewN q) row := ⟨h.os, h.tape, h.output, h.size, h.block⟩
/-- a reader's three cells -/
def RC (w : World) (B : Nat) (s : ByteArray) (p : Nat) (ev : Value) : Prop := w.heap[B]? = some (.cells #[.string s, .int .i64 (p : Int), ev] 49 (0, 0))
theorem RC.cells {w : World} {B : Nat} {s : ByteArray} {p : Nat} {ev : Value} (h : RC w B s p ev) : w.cell? ⟨B, 0, none⟩ = some (.string s) ∧ w.cell? ⟨B, 1, none⟩ = some (.int .i64 (p : Int)) ∧ w.cell? ⟨B, 2, none⟩ = some ev ∧ w.frozen? ⟨B, 1, none⟩ = false ∧ w.frozen? ⟨B, 2, none⟩ = false := by
  unfold RC at h
  refine ⟨?_, ?_, ?_, ?_, ?_⟩ <;> simp [World.cell?, World.frozen?, h]
theorem RC.lt {w : World} {B : Nat} {s : ByteArray} {p : Nat} {ev : Value} (h : RC w B s p ev) : B < w.heap.size := World.block_lt_of_cell? w _ h.cells.1
theorem RC.setAt {w w0 : World} {B : Nat} {s : ByteArray} {p : Nat} {ev : Value} (h : RC w B s p ev) (hg : w0.grownBy w (some B)) (q : Nat) (x : Int) (hx : x = (q : Int)) : RC (w.setCell ⟨B, 1, none⟩ (.int .i64 x)) B s q ev ∧ w0.grownBy (w.setCell ⟨B, 1, none⟩ (.int .i64 x)) (some B) := by
  subst hx
  unfold RC at h ⊢
  refine ⟨by simp [World.setCell, Array.getElem?_modify, h], hg.os, hg.tape, hg.output, by have := hg.size; simpa [World.setCell] using this, fun k hk hne => ?_⟩
  rw [Below.heap_setCell _ _ _ _ (fun e => hne (by rw [e]))]
  exact hg.block k hk hne
theorem RC.setErr {w w0 : World} {B : Nat} {s : ByteArray} {p : Nat} {ev : Value} (h : RC w B s p ev) (hg : w0.grownBy w (some B)) (ev' : Value) : RC (w.setCell ⟨B, 2, none⟩ ev') B s p ev' ∧ w0.grownBy (w.setCell ⟨B, 2, none⟩ ev') (some B) := by
  unfold RC at h ⊢
  refine ⟨by simp [World.setCell, Array.getElem?_modify, h], hg.os, hg.tape, hg.output, by have := hg.size; simpa [World.setCell] using this, fun k hk hne => ?_⟩
  rw [Below.heap_setCell _ _ _ _ (fun e => hne (by rw [e]))]
  exact hg.block k hk hne
/-- a number's error, as take tells it -/
def tErr (c : Int) : Value := if c = 0 then .nilIface else .iface 58 (.int .i64 c)
theorem or64 (a b : Nat) (ha : a < 9223372036854775808) (hb : b < 9223372036854775808) : bits .or .i64 (a : Int) (b : Int) = ((a ||| b : Nat) : Int) := by
  have hx : a ||| b < 2 ^ 63 := Nat.or_lt_two_pow (by omega) (by omega)
  have h1 : (BitVec.ofInt 64 (a : Int)).toNat = a := by
    rw [BitVec.ofInt_natCast, BitVec.toNat_ofNat]; exact Nat.mod_eq_of_lt (by omega)
  have h2 : (BitVec.ofInt 64 (b : Int)).toNat = b := by
    rw [BitVec.ofInt_natCast, BitVec.toNat_ofNat]; exact Nat.mod_eq_of_lt (by omega)
  show IntKind.i64.wrap ((BitVec.ofInt 64 (a : Int) ||| BitVec.ofInt 64 (b : Int)).toNat : Int) = _
  rw [BitVec.toNat_or, h1, h2]
  exact IntWalk.i64_in _ (by omega)
theorem pow_le_7 {i : Nat} (h : i < 8) : 128 ^ i ≤ 562949953421312 := by
  have : 128 ^ i ≤ 128 ^ 7 := Nat.pow_le_pow_right (by decide) (by omega)
  omega
theorem orstep (m c i : Nat) (hm : m < 128 ^ i) (hi : i < 8) : bits .or .i64 (m : Int) (wrap64 ((c : Int) % 128 * 2 ^ (7 * i))) = ((m + c % 128 * 128 ^ i : Nat) : Int) ∧ m + c % 128 * 128 ^ i < 128 ^ (i + 1) := by
  have hp := pow_le_7 hi
  have hq : c % 128 * 128 ^ i ≤ 127 * 128 ^ i := Nat.mul_le_mul_right _ (by omega)
  have e : (c : Int) % 128 * 2 ^ (7 * i) = ((c % 128 * 128 ^ i : Nat) : Int) := by
    rw [Int.natCast_mul, Int.natCast_pow, Int.pow_mul]
    congr 1
  rw [e, show wrap64 ((c % 128 * 128 ^ i : Nat) : Int) = ((c % 128 * 128 ^ i : Nat) : Int) by unfold wrap64; omega, or64 _ _ (by omega) (by omega)]
  refine ⟨?_, by rw [Nat.pow_succ]; omega⟩
  congr 1
  have h2 : (128 : Nat) ^ i = 2 ^ (7 * i) := by rw [Nat.pow_mul]
  rw [Nat.or_comm, Nat.add_comm, Nat.mul_comm, h2]
  exact (Nat.two_pow_add_eq_or_of_lt (by rw [← h2]; exact hm) _).symm
set_option maxHeartbeats 4000000 in
set_option maxRecDepth 100000 in
theorem take_c {w : World} {B : Nat} {s : ByteArray} {p : Nat} {ev : Value} (h : RC w B s p ev) (hs : s.size ≤ 1000000000) (hp : p ≤ s.size) :
    Calls Tryd.prog 34 #[.pointer (some ⟨B, 0, none⟩)] w fun e w' => e = .returned (.tuple #[.int .i64 (tk (bytesOf s) p).1, tErr (tk (bytesOf s) p).2.2]) ∧ RC w' B s (tk (bytesOf s) p).2.1 ev ∧ w.grownBy w' (some B) := by
  have HH := Aside0.mk (And.intro h (And.intro hs hp))
  clear h hs hp
  go_enter Tryd.func34, Tryd.ntmps34
  go_wp2
  go_loopw [4, 7] (fun v4 v7 wr => ∃ (i : Nat) (m : Nat), i ≤ 8 ∧ v4 = .int .i64 (m : Int) ∧ v7 = .int .i64 (i : Int) ∧ Aside0 (RC wr B s p ev ∧ w.grownBy wr (some B)) ∧ Aside0 (m < 128 ^ i ∧ tk (bytesOf s) p = tkL (bytesOf s) p (8 - i) i (m : Int))) (fun _ v7 _ => (8 - (intOf v7).toNat))
  case atStart => exact ⟨0, 0, by omega, rfl, rfl, ⟨HH.out.1, World.grownBy.refl _ _⟩, ⟨by decide, rfl⟩⟩
  case round =>
    obtain ⟨i, m, hi, rfl, rfl, HR, HT⟩ := hrel
    obtain ⟨c0, c1, c2, f1, f2⟩ := HR.out.1.cells
    have hs := HH.out.2.1
    have hp := HH.out.2.2
    have wpi : IntKind.i64.wrap ((p : Int) + (i : Int)) = (p : Int) + (i : Int) := IntWalk.i64_in _ (by omega)
    have pi0 : 0 ≤ (p : Int) + (i : Int) := by omega
    have pit : ((p : Int) + (i : Int)).toNat = p + i := by omega
    by_cases hlt : i < 8
    · by_cases h1 : s.size ≤ p + i
      · have d1 : decide ((s.size : Int) ≤ (p : Int) + (i : Int)) = true := decide_eq_true (by omega)
        have ht : tk (bytesOf s) p = (0, p, 10) := by
          rw [HT.out.2, show 8 - i = (7 - i) + 1 by omega]
          unfold tkL
          rw [bytesOf_length, if_pos h1]
        have HT2 := Aside0.mk ht
        clear ht
        go_wp2
        go_quiet (fail)
        go_wp2
        go_ret2
        rw [HT2.out]
        exact ⟨rfl, HR.out.1, grown_drewN HR.out.2 _⟩
      · have d1 : decide ((s.size : Int) ≤ (p : Int) + (i : Int)) = false := decide_eq_false (by omega)
        have pil : (p : Int) + (i : Int) < (s.size : Int) := by omega
        have pil2 : p + i < s.size := by omega
        obtain ⟨c, hc⟩ : ∃ c : Nat, s[p + i].toNat = c := ⟨_, rfl⟩
        have hc255 : c ≤ 255 := by have := s[p + i].toNat_lt; omega
        have hrd : rd (bytesOf s) ((p + i : Nat) : Int) = (c : Int) := by
          rw [rd_bytesOf, bt, Int.toNat_natCast, dif_pos pil2, hc]
        have ht := HT.out.2
        rw [show 8 - i = (7 - i) + 1 by omega] at ht
        unfold tkL at ht
        rw [bytesOf_length, if_neg h1, hrd] at ht
        obtain ⟨hor, hlt2⟩ := orstep m c i HT.out.1 hlt
        obtain ⟨m', hm'⟩ : ∃ m', m' = m + c % 128 * 128 ^ i := ⟨_, rfl⟩
        rw [← hm'] at hor hlt2
        have hp7 := pow_le_7 hlt
        have hmv : (m : Int) + ((c % 128 : Nat) : Int) * 128 ^ i = (m' : Int) := by rw [hm', Int.natCast_add, Int.natCast_mul, Int.natCast_pow]; rfl
        have HM := Aside0.mk hlt2
        clear hrd hm' hlt2
        by_cases h2 : 128 ≤ c
        · have d2 : decide (128 ≤ c) = true := decide_eq_true h2
          rw [if_pos (by omega), show (c : Int) - 128 = ((c % 128 : Nat) : Int) by omega, hmv] at ht
          have HT2 := Aside0.mk ht
          clear ht hmv hp7
          go_wp2
          go_quiet (fail)
          go_wp2
          go_quiet (fail)
          go_wp2
          go_roundw
          case rel => exact ⟨i + 1, m', by omega, rfl, by go_num, ⟨HR.out.1, grown_drewN HR.out.2 _⟩, ⟨HM.out, by rw [HT2.out, show 8 - (i + 1) = 7 - i by omega]⟩⟩
          case measure => simp [intOf]; omega
        · have d2 : decide (128 ≤ c) = false := decide_eq_false h2
          rw [if_neg (by omega), show (c : Int) = ((c % 128 : Nat) : Int) by omega, hmv, show ((c % 128 : Nat) : Int) = (c : Int) by omega] at ht
          clear hmv hp7
          by_cases hb : (c = 0 ∧ 0 < i) ∨ (m' : Int) > MX
          · rw [if_pos (by rcases hb with ⟨h, h'⟩ | h; (exact .inl ⟨by omega, h'⟩); (exact .inr h))] at ht
            have HT2 := Aside0.mk ht
            have hways : (((c : Int) == 0) = true ∧ decide (0 < i) = true) ∨ (((c : Int) == 0) = true ∧ decide (0 < i) = false ∧ decide (1125899906842624 < (m' : Int)) = true) ∨ (((c : Int) == 0) = false ∧ decide (1125899906842624 < (m' : Int)) = true) := by
              by_cases e : c = 0
              · have e' : ((c : Int) == 0) = true := beq_iff_eq.mpr (by omega)
                by_cases e2 : 0 < i
                · exact .inl ⟨e', decide_eq_true e2⟩
                · exact .inr (.inl ⟨e', decide_eq_false e2, decide_eq_true (by rcases hb with h | h; (exact absurd h.2 e2); (exact h))⟩)
              · exact .inr (.inr ⟨beq_eq_false_iff_ne.mpr (by omega), decide_eq_true (by rcases hb with h | h; (exact absurd h.1 e); (exact h))⟩)
            clear ht hb
            rcases hways with ⟨y0, y1⟩ | ⟨y0, y1, y2⟩ | ⟨y0, y2⟩
            all_goals
              go_wp2
              go_quiet (fail)
              go_wp2
              go_quiet (fail)
              go_wp2
              go_ret2
              rw [HT2.out]
              exact ⟨rfl, HR.out.1, grown_drewN HR.out.2 _⟩
          · rw [if_neg (by
              intro h
              apply hb
              rcases h with ⟨h, h'⟩ | h
              · exact .inl ⟨by omega, h'⟩
              · exact .inr h)] at ht
            have HT2 := Aside0.mk ht
            have y2 : decide (1125899906842624 < (m' : Int)) = false := decide_eq_false (fun h => hb (.inr h))
            have hways : (((c : Int) == 0) = true ∧ decide (0 < i) = false) ∨ ((c : Int) == 0) = false := by
              by_cases e : c = 0
              · exact .inl ⟨beq_iff_eq.mpr (by omega), decide_eq_false (fun h => hb (.inl ⟨e, h⟩))⟩
              · exact .inr (beq_eq_false_iff_ne.mpr (by omega))
            have wi1 : IntKind.i64.wrap ((i : Int) + 1) = (i : Int) + 1 := IntWalk.i64_in _ (by omega)
            have wpi1 : IntKind.i64.wrap ((p : Int) + ((i : Int) + 1)) = (p : Int) + ((i : Int) + 1) := IntWalk.i64_in _ (by omega)
            clear ht hb
            rcases hways with ⟨y0, y1⟩ | y0
            all_goals
              go_wp2
              go_quiet (fail)
              go_wp2
              go_quiet (fail)
              go_wp2
              go_ret2
              rw [HT2.out]
              refine ⟨rfl, RC.setAt (p := p) ?_ ?_ (p + i + 1) _ (by omega)⟩
              · exact HR.out.1
              · exact grown_drewN HR.out.2 _
    · obtain rfl : i = 8 := by omega
      have ht : tk (bytesOf s) p = (0, p, 11) := HT.out.2
      have HT2 := Aside0.mk ht
      clear ht
      go_wp2
      go_ret2
      rw [HT2.out]
      exact ⟨rfl, HR.out.1, HR.out.2⟩
/-- the reader's error in memory -/
def RdE (w : World) (base B : Nat) (ev : Value) : Option (Nat × Int) → Prop
  | none => ev = .nilIface
  | some (pl, c) => ∃ g, ev = .iface 52 (.pointer (some ⟨g, 0, none⟩)) ∧ base ≤ g ∧ g ≠ B ∧ w.heap[g]? = some (.cells #[.int .i64 (pl : Int), .iface 58 (.int .i64 c)] 54 (0, 0))
/-- a reader at B: its bytes, its place, its error -/
def Rd (w : World) (base B : Nat) (s : ByteArray) (st : St) : Prop := base ≤ B ∧ ∃ ev, RC w B s st.1 ev ∧ RdE w base B ev st.2
theorem Rd.lt {w : World} {base B : Nat} {s : ByteArray} {st : St} (h : Rd w base B s st) : B < w.heap.size := by
  obtain ⟨_, ev, h1, _⟩ := h
  exact h1.lt
theorem RdE.keep {w w1 : World} {base B : Nat} {ev : Value} {er : Option (Nat × Int)} (h : RdE w base B ev er) (hk : ∀ g, g ≠ B → g < w.heap.size → (∀ v, w.heap[g]? = some v → (∃ c, v = .cells c 54 (0, 0)) → w1.heap[g]? = w.heap[g]?)) : RdE w1 base B ev er := by
  cases er with
  | none => exact h
  | some pc =>
    obtain ⟨pl, c⟩ := pc
    obtain ⟨g, e1, e2, e3, e4⟩ := h
    refine ⟨g, e1, e2, e3, ?_⟩
    have hlt : g < w.heap.size := by
      rcases Nat.lt_or_ge g w.heap.size with h | h
      · exact h
      · simp [Array.getElem?_eq_none h] at e4
    rw [hk g e3 hlt _ e4 ⟨_, rfl⟩]
    exact e4
/-- another block has been written, of another type than an error's -/
theorem Rd.grown {w w1 : World} {base B : Nat} {s : ByteArray} {st : St} (h : Rd w base B s st) {row : Option Nat} (hg : w.grownBy w1 row) (hne : some B ≠ row) (ht : ∀ k, row = some k → k < w.heap.size → ∀ c, w.heap[k]? ≠ some (.cells c 54 (0, 0))) : Rd w1 base B s st := by
  have hB := h.lt
  obtain ⟨h0, ev, h1, h2⟩ := h
  refine ⟨h0, ev, (hg.block B hB hne).trans h1, h2.keep (fun g hgB hlt v hv hc => hg.block g hlt (fun e => ?_))⟩
  obtain ⟨c, rfl⟩ := hc
  exact ht g e.symm hlt c hv
theorem Rd.below {w w1 : World} {base B : Nat} {s : ByteArray} {st : St} (h : Rd w base B s st) (hb : Below w.heap.size w w1) : Rd w1 base B s st :=
  h.grown (row := none) ⟨hb.os, hb.tape, hb.output, hb.size, fun k hk _ => hb.block k hk⟩ (by simp) (fun k e => by simp at e)
theorem Rd.drewN {w : World} {base B : Nat} {s : ByteArray} {st : St} (h : Rd w base B s st) (q : Nat) : Rd (w.drewN q) base B s st := h.below (pw_below_drewN (Below.refl _ _) q)
/-- another reader is at work -/
theorem Rd.other {w w1 : World} {base B B2 : Nat} {s s2 : ByteArray} {st st2 : St} (h : Rd w base B s st) (h2 : Rd w base B2 s2 st2) (hne : B ≠ B2) (hg : w.grownBy w1 (some B2)) : Rd w1 base B s st := by
  refine h.grown hg (fun e => hne (Option.some.inj e)) (fun k e hk c hc => ?_)
  obtain rfl := Option.some.inj e
  obtain ⟨_, ev, h3, _⟩ := h2
  rw [RC] at h3
  rw [h3] at hc
  injection hc with hc
  injection hc with _ hc
  exact absurd hc (by decide)
theorem grown_below {w w1 : World} {base B : Nat} {s : ByteArray} {st : St} (h : Rd w base B s st) (hbase : base ≤ w.heap.size) (hg : w.grownBy w1 (some B)) : Below base w w1 :=
  (Below.refl _ _).grown hg hbase (fun k e => by obtain rfl := Option.some.inj e; exact h.1)
theorem grown_trans {w w1 w2 : World} {row : Option Nat} (h1 : w.grownBy w1 row) (h2 : w1.grownBy w2 row) : w.grownBy w2 row :=
  ⟨h2.os.trans h1.os, h2.tape.trans h1.tape, h2.output.trans h1.output, Nat.le_trans h1.size h2.size, fun k hk hne => (h2.block k (Nat.lt_of_lt_of_le hk h1.size) hne).trans (h1.block k hk hne)⟩
theorem grown_of_below {w w1 w2 : World} {row : Option Nat} (h1 : w.grownBy w1 row) (hb : Below w1.heap.size w1 w2) : w.grownBy w2 row :=
  grown_trans h1 ⟨hb.os, hb.tape, hb.output, hb.size, fun k hk _ => hb.block k hk⟩

theorem read_c {w : World} {base : Nat} (hbase : base ≤ w.heap.size) (s : ByteArray) :
    Calls Tryd.prog 22 #[.string s] w fun e w' => e = .returned (.pointer (some ⟨w.heap.size, 0, none⟩)) ∧ Rd w' base w.heap.size s (0, none) ∧ Below w.heap.size w w' := by
  go_enter Tryd.func22, Tryd.ntmps22
  go_wp2
  go_ret
  have hb : Below w.heap.size w (w.alloc (.cells #[.string s, .int .i64 0, .nilIface] 49)) := (Below.refl _ _).alloc (Nat.le_refl _) _
  exact ⟨rfl, ⟨hbase, .nilIface, Array.getElem?_push_size, rfl⟩, hb⟩
end Go.Proofs.YthiklbhplhdjmaaDoor.P
/- The wire's reader, walked: Num, Int. -/
namespace Go.Proofs.YthiklbhplhdjmaaDoor.P
open Go.RowKit Go.Proofs.YthiklbhplhdjmaaDoorW.PrintWords Go.Proofs.YthiklbhplhdjmaaDoorW.PrintLast Go.Proofs.YthiklbhplhdjmaaDoorW.PrintMore
open Wr
set_option linter.unusedVariables false
set_option linter.unusedSimpArgs false

theorem bytesOf_in (s : ByteArray) : ∀ b ∈ bytesOf s, 0 ≤ b ∧ b ≤ 255 := by
  intro b hb
  simp only [bytesOf, List.mem_map] at hb
  obtain ⟨x, _, rfl⟩ := hb
  have := x.toNat_lt
  omega
theorem num_some {w : World} {B : Nat} {s : ByteArray} {p : Nat} {v : Value} (h : RC w B s p (.iface 52 v)) :
    Calls Tryd.prog 23 #[.pointer (some ⟨B, 0, none⟩)] w fun e w' => e = .returned (.int .i64 0) ∧ ∃ q, w' = w.drewN q := by
  obtain ⟨c0, c1, c2, f1, f2⟩ := h.cells
  clear h
  go_enter Tryd.func23, Tryd.ntmps23
  go_wp2
  go_ret
  exact ⟨rfl, by first | exact ⟨0, rfl⟩ | exact ⟨_, rfl⟩⟩
theorem num_nil {w : World} :
    Calls Tryd.prog 23 #[.pointer none] w fun e w' => e = .returned (.int .i64 0) ∧ ∃ q, w' = w.drewN q := by
  go_enter Tryd.func23, Tryd.ntmps23
  go_wp2
  go_ret
  exact ⟨rfl, by first | exact ⟨0, rfl⟩ | exact ⟨_, rfl⟩⟩
set_option maxHeartbeats 2000000 in
set_option maxRecDepth 100000 in
theorem num_ok {w : World} {B : Nat} {s : ByteArray} {p : Nat} (h : RC w B s p .nilIface) (hs : s.size ≤ 1000000000) (hp : p ≤ s.size) (h0 : (tk (bytesOf s) p).2.2 = 0) :
    Calls Tryd.prog 23 #[.pointer (some ⟨B, 0, none⟩)] w fun e w' => e = .returned (.int .i64 (tk (bytesOf s) p).1) ∧ RC w' B s (tk (bytesOf s) p).2.1 .nilIface ∧ w.grownBy w' (some B) := by
  obtain ⟨c0, c1, c2, f1, f2⟩ := h.cells
  have hk := take_c h hs hp
  rw [h0] at hk
  have HK := Aside0.mk hk
  clear h hk h0
  go_enter Tryd.func23, Tryd.ntmps23
  go_wp2_with (go_at_call 34; refine HK.out.mono ?_; rintro e w1 ⟨rfl, hr, hg⟩; (have H1 := Aside0.mk (And.intro hr hg)); clear hr hg; simp only [tErr, if_true])
  go_ret
  exact ⟨rfl, H1.out⟩
theorem World.heap_alloc_at_lt (w : World) (o : Obj) (i : Nat) (h : i < w.heap.size) : (w.alloc o).heap[i]? = w.heap[i]? := by
  show (Array.push _ _)[i]? = _
  rw [Array.getElem?_push, if_neg (by omega)]
theorem grown_alloc {w w1 : World} {row : Option Nat} (h : w.grownBy w1 row) (o : Obj) : w.grownBy (w1.alloc o) row := grown_of_below h ((Below.refl _ _).alloc (Nat.le_refl _) o)
set_option maxHeartbeats 2000000 in
set_option maxRecDepth 100000 in
theorem num_err {w : World} {base B : Nat} {s : ByteArray} {p : Nat} (hb : base ≤ B) (h : RC w B s p .nilIface) (hs : s.size ≤ 1000000000) (hp : p ≤ s.size) (h0 : (tk (bytesOf s) p).2.2 ≠ 0) :
    Calls Tryd.prog 23 #[.pointer (some ⟨B, 0, none⟩)] w fun e w' => e = .returned (.int .i64 0) ∧ Rd w' base B s (p, some (p, (tk (bytesOf s) p).2.2)) ∧ w.grownBy w' (some B) := by
  obtain ⟨c0, c1, c2, f1, f2⟩ := h.cells
  have hB := h.lt
  have hk := take_c h hs hp
  obtain ⟨h1, h2, h3⟩ : (tk (bytesOf s) p).1 = 0 ∧ (tk (bytesOf s) p).2.1 = p ∧ ((tk (bytesOf s) p).2.2 = 10 ∨ (tk (bytesOf s) p).2.2 = 11) := by
    rcases tk_any (bytesOf s) p (bytesOf_in s) with h | h
    · exact absurd h.1 h0
    · exact h
  rw [h1, h2] at hk
  obtain ⟨c, hc⟩ : ∃ c, c = (tk (bytesOf s) p).2.2 := ⟨_, rfl⟩
  rw [← hc] at hk h0 ⊢
  rw [show tErr c = .iface 58 (.int .i64 c) from if_neg h0] at hk
  have HK := Aside0.mk hk
  have HB := Aside0.mk (And.intro hb hB)
  clear h hk h0 h1 h2 h3 hc hb hB
  go_enter Tryd.func23, Tryd.ntmps23
  go_wp2_with (go_at_call 34; refine HK.out.mono ?_; rintro e w1 ⟨rfl, hr, hg⟩; (obtain ⟨d0, d1, d2, g1, g2⟩ := hr.cells); (have hlt := hr.lt); (have H1 := Aside0.mk (And.intro hr hg)); clear hr hg)
  go_ret
  obtain ⟨hr, hg⟩ := H1.out
  have hfin := RC.setErr hr hg (.iface 52 (.pointer (some ⟨w1.heap.size, 0, none⟩)))
  have hsz : (w1.setCell ⟨B, 2, none⟩ (.iface 52 (.pointer (some ⟨w1.heap.size, 0, none⟩)))).heap.size = w1.heap.size := by simp [World.setCell]
  refine ⟨rfl, ⟨HB.out.1, _, (World.heap_alloc_at_lt _ _ _ (by rw [hsz]; exact hlt)).trans hfin.1, w1.heap.size, rfl, Nat.le_of_lt (Nat.lt_of_le_of_lt HB.out.1 hlt), Nat.ne_of_gt hlt, ?_⟩, grown_alloc hfin.2 _⟩
  have hps := @Array.getElem?_push_size _ (w1.setCell ⟨B, 2, none⟩ (.iface 52 (.pointer (some ⟨w1.heap.size, 0, none⟩)))).heap (.cells #[.int .i64 (p : Int), .iface 58 (.int .i64 c)] 54)
  rw [hsz] at hps
  exact hps
theorem ret_int {k : IntKind} {a b : Int} (h : a = b) : Ending.returned (.int k a) = .returned (.int k b) := by rw [h]
theorem num_c {w : World} {base B : Nat} {s : ByteArray} {st : St} (h : Rd w base B s st) (hs : s.size ≤ 1000000000) (hp : st.1 ≤ s.size) :
    Calls Tryd.prog 23 #[.pointer (some ⟨B, 0, none⟩)] w fun e w' => e = .returned (.int .i64 (numF (bytesOf s) st).1) ∧ Rd w' base B s (numF (bytesOf s) st).2 ∧ w.grownBy w' (some B) := by
  obtain ⟨p, er⟩ := st
  obtain ⟨h0, ev, h1, h2⟩ := id h
  cases er with
  | some pc =>
    obtain ⟨pl, c⟩ := pc
    obtain ⟨g, rfl, _⟩ := h2
    refine (num_some h1).mono ?_
    rintro e w' ⟨rfl, q, rfl⟩
    exact ⟨rfl, h.drewN q, grown_drewN (World.grownBy.refl _ _) q⟩
  | none =>
    obtain rfl : ev = .nilIface := h2
    by_cases hc : (tk (bytesOf s) p).2.2 = 0
    · refine (num_ok h1 hs hp hc).mono ?_
      rintro e w' ⟨rfl, hr, hg⟩
      have e : numF (bytesOf s) (p, none) = ((tk (bytesOf s) p).1, ((tk (bytesOf s) p).2.1, none)) := by simp only [numF, hc, if_true]
      rw [e]
      exact ⟨rfl, ⟨h0, _, hr, rfl⟩, hg⟩
    · refine (num_err h0 h1 hs hp hc).mono ?_
      rintro e w' ⟨rfl, hr, hg⟩
      have e : numF (bytesOf s) (p, none) = (0, (p, some (p, (tk (bytesOf s) p).2.2))) := by simp only [numF, if_neg hc]
      rw [e]
      exact ⟨rfl, hr, hg⟩
/-- where a reader's place comes to -/
theorem numF_at {S : List Int} (hb : ∀ b ∈ S, 0 ≤ b ∧ b ≤ 255) (st : St) (hp : st.1 ≤ S.length) : (numF S st).2.1 ≤ S.length ∧ st.1 ≤ (numF S st).2.1 ∧ 0 ≤ (numF S st).1 ∧ (numF S st).1 ≤ MX ∧ ((numF S st).2.2 = none → st.1 < (numF S st).2.1) := by
  obtain ⟨p, er⟩ := st
  cases er with
  | some pc => exact ⟨hp, Nat.le_refl _, Int.le_refl _, by simp [numF], fun h => by simp [numF] at h⟩
  | none =>
    rcases tk_any S p hb with h | h
    · simp only [numF, h.1, if_true]
      exact ⟨h.2.2.2.2, Nat.le_of_lt h.2.2.2.1, h.2.1, h.2.2.1, fun _ => h.2.2.2.1⟩
    · have hc : (tk S p).2.2 ≠ 0 := by rcases h.2.2 with h | h <;> omega
      simp only [numF, if_neg hc]
      exact ⟨hp, Nat.le_refl _, Int.le_refl _, by decide, fun h => by simp at h⟩
set_option maxHeartbeats 2000000 in
set_option maxRecDepth 100000 in
theorem int_c {w : World} {base B : Nat} {s : ByteArray} {st : St} (h : Rd w base B s st) (hs : s.size ≤ 1000000000) (hp : st.1 ≤ s.size) :
    Calls Tryd.prog 24 #[.pointer (some ⟨B, 0, none⟩)] w fun e w' => e = .returned (.int .i64 (intF (bytesOf s) st).1) ∧ Rd w' base B s (intF (bytesOf s) st).2 ∧ w.grownBy w' (some B) := by
  have HN := Aside0.mk (num_c h hs hp)
  obtain ⟨-, -, hn0, hn1, -⟩ := numF_at (bytesOf_in s) st (by rw [bytesOf_length]; exact hp)
  unfold intF
  obtain ⟨n, hn⟩ : ∃ n, n = (numF (bytesOf s) st).1 := ⟨_, rfl⟩
  rw [← hn] at HN hn0 hn1 ⊢
  clear h hs hp hn
  simp only [MX] at hn1
  by_cases hm : n % 2 = 1
  · have e : sgn n = -((n + 1) / 2) := by unfold sgn; rw [if_pos hm]
    have hmb : (n % 2 == 1) = true := beq_iff_eq.mpr hm
    have E := Aside0.mk e
    clear e hm
    go_enter Tryd.func24, Tryd.ntmps24
    go_wp2_with (go_at_call 23; refine HN.out.mono ?_; rintro e w1 ⟨rfl, hr⟩; (have H1 := Aside0.mk hr); clear hr)
    go_ret
    rw [E.out]
    refine ⟨ret_int ?_, H1.out⟩
    rw [Int.tdiv_eq_ediv_of_nonneg (by omega)]
    unfold wrap64
    omega
  · have e : sgn n = n / 2 := by unfold sgn; rw [if_neg hm]
    have hmb : (n % 2 == 1) = false := beq_eq_false_iff_ne.mpr hm
    have E := Aside0.mk e
    clear e hm
    go_enter Tryd.func24, Tryd.ntmps24
    go_wp2_with (go_at_call 23; refine HN.out.mono ?_; rintro e w1 ⟨rfl, hr⟩; (have H1 := Aside0.mk hr); clear hr)
    go_ret
    rw [E.out]
    exact ⟨rfl, H1.out⟩
end Go.Proofs.YthiklbhplhdjmaaDoor.P
/- The wire's reader, walked: lists. -/
namespace Go.Proofs.YthiklbhplhdjmaaDoor.P
open Go.RowKit Go.Proofs.YthiklbhplhdjmaaDoorW.PrintWords Go.Proofs.YthiklbhplhdjmaaDoorW.PrintLast Go.Proofs.YthiklbhplhdjmaaDoorW.PrintMore
open Wr
set_option linter.unusedVariables false
set_option linter.unusedSimpArgs false
theorem Rd.fail {w0 w1 : World} {base B : Nat} {s : ByteArray} {p : Nat} (hb : base ≤ B) (hr : RC w1 B s p .nilIface) (hg : w0.grownBy w1 (some B)) (pl : Nat) (c : Int) :
    Rd ((w1.setCell ⟨B, 2, none⟩ (.iface 52 (.pointer (some ⟨w1.heap.size, 0, none⟩)))).alloc (.cells #[.int .i64 (pl : Int), .iface 58 (.int .i64 c)] 54)) base B s (p, some (pl, c)) ∧
    w0.grownBy ((w1.setCell ⟨B, 2, none⟩ (.iface 52 (.pointer (some ⟨w1.heap.size, 0, none⟩)))).alloc (.cells #[.int .i64 (pl : Int), .iface 58 (.int .i64 c)] 54)) (some B) := by
  have hlt := hr.lt
  have hfin := RC.setErr hr hg (.iface 52 (.pointer (some ⟨w1.heap.size, 0, none⟩)))
  have hsz : (w1.setCell ⟨B, 2, none⟩ (.iface 52 (.pointer (some ⟨w1.heap.size, 0, none⟩)))).heap.size = w1.heap.size := by simp [World.setCell]
  refine ⟨⟨hb, _, (World.heap_alloc_at_lt _ _ _ (by rw [hsz]; exact hlt)).trans hfin.1, w1.heap.size, rfl, Nat.le_of_lt (Nat.lt_of_le_of_lt hb hlt), Nat.ne_of_gt hlt, ?_⟩, grown_alloc hfin.2 _⟩
  have hps := @Array.getElem?_push_size _ (w1.setCell ⟨B, 2, none⟩ (.iface 52 (.pointer (some ⟨w1.heap.size, 0, none⟩)))).heap (.cells #[.int .i64 (pl : Int), .iface 58 (.int .i64 c)] 54)
  rw [hsz] at hps
  exact hps
theorem loopF_succ (one : St → Int × St) (d : Nat) (st : St) (out : List Int) : loopF one (d + 1) st out = if (one st).2.2 = none then loopF one d (one st).2 (out ++ [(one st).1]) else ([], (one st).2) := rfl
theorem intF_at {S : List Int} (hb : ∀ b ∈ S, 0 ≤ b ∧ b ≤ 255) (st : St) (hp : st.1 ≤ S.length) : (intF S st).2.1 ≤ S.length ∧ st.1 ≤ (intF S st).2.1 ∧ ((intF S st).2.2 = none → st.1 < (intF S st).2.1) := by
  obtain ⟨a1, a2, a3, a4, a5⟩ := numF_at hb st hp
  exact ⟨a1, a2, a5⟩
theorem numF_at' {S : List Int} (hb : ∀ b ∈ S, 0 ≤ b ∧ b ≤ 255) (st : St) (hp : st.1 ≤ S.length) : (numF S st).2.1 ≤ S.length ∧ st.1 ≤ (numF S st).2.1 ∧ ((numF S st).2.2 = none → st.1 < (numF S st).2.1) := by
  obtain ⟨a1, a2, a3, a4, a5⟩ := numF_at hb st hp
  exact ⟨a1, a2, a5⟩
/-- what was made since W0 is written: all before it stays but the reader -/
theorem grown_new {w wr w1 : World} {B : Nat} {v : Value} (h : w.grownBy wr (some B)) (hg : wr.grownBy w1 v.ownBlock) (hv : ∀ k, v.ownBlock = some k → w.heap.size ≤ k) : w.grownBy w1 (some B) :=
  ⟨hg.os.trans h.os, hg.tape.trans h.tape, hg.output.trans h.output, Nat.le_trans h.size hg.size, fun k hk hne => (hg.block k (Nat.lt_of_lt_of_le hk h.size) (fun e => by have := hv k e.symm; omega)).trans (h.block k hk hne)⟩
theorem R_base {α : Type} {d : Kd α} {e : Nat} {w : World} {base : Nat} {ok : Nat → Prop} {v : Value} {xs : List α} (h : d.R e w base ok v xs) : ∀ k, v.ownBlock = some k → base ≤ k := by
  intro k hk
  rcases Kd.R_base2 h with h | ⟨k', h1, h2⟩
  · rw [h] at hk; simp at hk
  · rw [h1] at hk; obtain rfl := Option.some.inj hk; exact h2
theorem Rd.row {w w1 : World} {base B b0 : Nat} {s : ByteArray} {st : St} {v : Value} {xs : List Int} (h : Rd w base B s st) (hr : (Kd.int .i64).R 3 w b0 (fun k => k ≠ B) v xs) (hg : w.grownBy w1 v.ownBlock) : Rd w1 base B s st := by
  refine h.grown hg (fun e => hr.1 B e.symm rfl) (fun k e hk c hc => ?_)
  obtain ⟨cells, hcells⟩ := Kd.R_typed hr k e
  rw [hcells] at hc
  injection hc with hc
  injection hc with _ hc
  exact absurd hc (by decide)

set_option maxHeartbeats 4000000 in
set_option maxRecDepth 100000 in
theorem list_num {w : World} {base B : Nat} {s : ByteArray} {st : St} (most : Int) (h : Rd w base B s st) (hs : s.size ≤ 1000000000) (hp : st.1 ≤ s.size) (hbase : base ≤ w.heap.size) :
    Calls Tryd.prog 35 #[.pointer (some ⟨B, 0, none⟩), .int .i64 most, .func (Fn.func 23) #[.pointer (some ⟨B, 0, none⟩)] #[]] w fun e w' => ∃ v, e = .returned v ∧ (Kd.int .i64).R 3 w' w.heap.size (fun k => k ≠ B) v (listF (bytesOf s) (numF (bytesOf s)) most st).1 ∧ Rd w' base B s (listF (bytesOf s) (numF (bytesOf s)) most st).2 ∧ w.grownBy w' (some B) := by
  obtain ⟨a1, a2, a3, a4, a5⟩ := numF_at (bytesOf_in s) st (by rw [bytesOf_length]; exact hp)
  rw [bytesOf_length] at a1
  have hh := num_c h hs hp
  obtain ⟨n, st1, hn⟩ : ∃ n st1, numF (bytesOf s) st = (n, st1) := ⟨_, _, rfl⟩
  have hhd : headF (bytesOf s) most st = (n, if st1.2 = none ∧ n > most then (st1.1, some (st.1, 12)) else st1) := by
    unfold headF
    rw [hn]
    split <;> rfl
  unfold listF
  rw [hhd]
  rw [hn] at hh a1 a3 a4
  obtain ⟨p, er⟩ := st
  obtain ⟨p1, er1⟩ := st1
  obtain ⟨h0, ev0, hrc, hre⟩ := id h
  obtain ⟨c0, c1, c2, f1, f2⟩ := hrc.cells
  have hB := hrc.lt
  have a3' : 0 ≤ n := a3
  obtain ⟨N, rfl⟩ : ∃ N : Nat, n = (N : Int) := ⟨n.toNat, by omega⟩
  have a4' : (N : Int) ≤ 1125899906842624 := a4
  have hh' : Calls Tryd.prog 23 #[.pointer (some ⟨B, 0, none⟩)] w fun e w' => e = .returned (.int .i64 (N : Int)) ∧ Rd w' base B s (p1, er1) ∧ w.grownBy w' (some B) := hh
  have HH := Aside0.mk hh'
  have HS := Aside0.mk (And.intro hs (And.intro hbase (And.intro h0 hB)))
  obtain ⟨st2, hst2⟩ : ∃ st2 : St, st2 = (if er1 = none ∧ (N : Int) > most then (p1, some (p, 12)) else (p1, er1)) := ⟨_, rfl⟩
  have HST := Aside0.mk (And.intro hst2 (show p1 ≤ s.size from a1))
  simp only [Int.toNat_natCast]
  rw [← hst2]
  have hways : (er1 = none ∧ decide (most < (N : Int)) = true) ∨ (er1 = none ∧ decide (most < (N : Int)) = false) ∨ (∃ pc, er1 = some pc) := by
    cases er1 with
    | none =>
      by_cases hm : most < (N : Int)
      · exact .inl ⟨rfl, decide_eq_true hm⟩
      · exact .inr (.inl ⟨rfl, decide_eq_false hm⟩)
    | some pc => exact .inr (.inr ⟨pc, rfl⟩)
  clear h hs hp hh hh' hn hhd hbase h0 hrc hre a1 a2 a3 a3' a4 a5 hB hst2
  simp only at c1
  rcases hways with ⟨rfl, y1⟩ | ⟨rfl, y1⟩ | ⟨⟨pl0, cc0⟩, rfl⟩
  · have E2 : Aside0 (st2 = (p1, some (p, 12))) := ⟨by rw [HST.out.1]; exact if_pos ⟨rfl, of_decide_eq_true y1⟩⟩
    go_enter Tryd.func35, Tryd.ntmps35
    go_upto_region 7 with ((go_at_call 23; refine HH.out.mono ?_; rintro e w1 ⟨rfl, hr, hg⟩; (obtain ⟨h10, ev1, hrc1, hre1⟩ := id hr); (obtain rfl : ev1 = .nilIface := hre1); (obtain ⟨d0, d1, d2, g1, g2⟩ := hrc1.cells); (have hlt1 := hrc1.lt); (have H1 := Aside0.mk (And.intro hr (And.intro hg hrc1))); clear hr hg h10 hrc1))
    go_wp2
    go_loopw [9, 38] (fun v9 v38 wr => ∃ (d : Nat) (st : St) (out : List Int), d ≤ N ∧ v38 = .int .i64 (d : Int) ∧ Aside0 ((Kd.int .i64).R 3 wr w.heap.size (fun k => k ≠ B) v9 out ∧ Rd wr base B s st ∧ w.grownBy wr (some B)) ∧ Aside0 (st.1 ≤ s.size ∧ out.length ≤ st.1 ∧ loopF (numF (bytesOf s)) N st2 [] = loopF (numF (bytesOf s)) (N - d) st out)) (fun _ v38 _ => (N - (intOf v38).toNat))
    case atStart => exact ⟨0, st2, [], Nat.zero_le _, rfl, ⟨Kd.R_nil _ _ _ _ _, by rw [E2.out]; exact Rd.fail HS.out.2.2.1 H1.out.2.2 H1.out.2.1 p 12⟩, ⟨by rw [HST.out.1]; split <;> exact HST.out.2, Nat.zero_le _, rfl⟩⟩
    case round =>
      obtain ⟨d, st, out, hd, rfl, HR, HT⟩ := hrel
      by_cases hlt : d < N
      · have hone := num_c HR.out.2.1 HS.out.1 HT.out.1
        obtain ⟨b1, b2, b3⟩ := numF_at' (bytesOf_in s) st (by rw [bytesOf_length]; exact HT.out.1)
        rw [bytesOf_length] at b1
        have hl2 := HT.out.2.2
        rw [show N - d = (N - (d + 1)) + 1 by omega] at hl2
        rw [loopF_succ] at hl2
        obtain ⟨x, st', hx⟩ : ∃ x st', numF (bytesOf s) st = (x, st') := ⟨_, _, rfl⟩
        rw [hx] at hone hl2 b1 b2 b3
        obtain ⟨p', er'⟩ := st'
        have hone' : Calls Tryd.prog 23 #[.pointer (some ⟨B, 0, none⟩)] wr fun e w' => e = .returned (.int .i64 x) ∧ Rd w' base B s (p', er') ∧ wr.grownBy w' (some B) := hone
        have HO := Aside0.mk hone'
        cases er' with
        | none =>
          have hl3 : loopF (numF (bytesOf s)) N st2 [] = loopF (numF (bytesOf s)) (N - (d + 1)) (p', none) (out ++ [x]) := by rw [hl2]; rfl
          have HL := Aside0.mk (And.intro (show p' ≤ s.size from b1) (And.intro (show st.1 < p' from b3 rfl) hl3))
          clear hone hone' hl2 hl3 b1 b2 b3 hx
          go_wp2_with (first
            | (go_at_call 23; refine HO.out.mono ?_; rintro e w3 ⟨rfl, hr, hg⟩; (obtain ⟨h30, ev3, hrc3, hre3⟩ := id hr); (obtain rfl : ev3 = .nilIface := hre3); (obtain ⟨k0, k1, k2, k3, k4⟩ := hrc3.cells); (have hr3 := Kd.R_grown HR.out.1 hg (fun k hk e => hk (Option.some.inj e))); (have H3 := Aside0.mk (And.intro hr3 (And.intro hr (grown_trans HR.out.2.2 hg)))); clear hr hg h30 hrc3 hr3)
            | ((with_reducible refine gate_dst (N := 50) rfl ?_); refine Kd.R_append (Kd.int .i64) w.heap.size rfl (.tmp 47) (.tmp 49) 22 3 (.int .i64 0) 8 rfl Tryd.underlying22 info3 rfl (by decide) (by omega) _ out x [.int .i64 x] (fun k => k ≠ B) (fun _ => False) rfl rfl ?aP (fun _ hk => hk.elim) ?aF ?aO (Below.refl _ _) ?aS ?aL ?_; (case aP => exact rfl); (case aF => exact (fun k hk => by have := H3.out.2.1.lt; omega)); (case aO => exact H3.out.1); (case aS => exact H3.out.2.2.size); (case aL => have := HL.out; have := HT.out; have := HS.out; omega); intro v4 w4 ho hb hg hat; (have H4 := Aside0.mk (And.intro ho (And.intro (H3.out.2.1.row H3.out.1 hg) (grown_new H3.out.2.2 hg (R_base H3.out.1))))); clear ho hb hg hat))
          go_roundw
          case rel => exact ⟨d + 1, _, _, by omega, by go_num, H4, ⟨HL.out.1, by have := HL.out.2.1; have := HT.out.2.1; simp; omega, HL.out.2.2⟩⟩
          case measure => simp [intOf]; omega
        | some pc =>
          obtain ⟨pl, c⟩ := pc
          have hl3 : loopF (numF (bytesOf s)) N st2 [] = ([], (p', some (pl, c))) := by rw [hl2]; rfl
          have HL := Aside0.mk hl3
          clear hone hone' hl2 hl3 b1 b2 b3 hx
          go_wp2_with (go_at_call 23; refine HO.out.mono ?_; rintro e w3 ⟨rfl, hr, hg⟩; (obtain ⟨h30, ev3, hrc3, hre3⟩ := id hr); (obtain ⟨g3, rfl, -⟩ := hre3); (obtain ⟨k0, k1, k2, k3, k4⟩ := hrc3.cells); (have H3 := Aside0.mk (And.intro hr (grown_trans HR.out.2.2 hg))); clear hr hg h30 hrc3)
          go_ret
          rw [HL.out]
          exact ⟨_, rfl, Kd.R_nil _ _ _ _ _, H3.out⟩
      · obtain rfl : d = N := by omega
        have hl3 : loopF (numF (bytesOf s)) d st2 [] = (out, st) := by have := HT.out.2.2; rw [Nat.sub_self] at this; exact this
        have HL := Aside0.mk hl3
        clear hl3
        go_wp2
        go_ret
        rw [HL.out]
        exact ⟨_, rfl, HR.out⟩
  · have E2 : Aside0 (st2 = (p1, none)) := ⟨by rw [HST.out.1]; exact if_neg (fun h => of_decide_eq_false y1 h.2)⟩
    go_enter Tryd.func35, Tryd.ntmps35
    go_upto_region 7 with ((go_at_call 23; refine HH.out.mono ?_; rintro e w1 ⟨rfl, hr, hg⟩; (obtain ⟨h10, ev1, hrc1, hre1⟩ := id hr); (obtain rfl : ev1 = .nilIface := hre1); (obtain ⟨d0, d1, d2, g1, g2⟩ := hrc1.cells); (have hlt1 := hrc1.lt); (have H1 := Aside0.mk (And.intro hr (And.intro hg hrc1))); clear hr hg h10 hrc1))
    go_wp2
    go_loopw [9, 38] (fun v9 v38 wr => ∃ (d : Nat) (st : St) (out : List Int), d ≤ N ∧ v38 = .int .i64 (d : Int) ∧ Aside0 ((Kd.int .i64).R 3 wr w.heap.size (fun k => k ≠ B) v9 out ∧ Rd wr base B s st ∧ w.grownBy wr (some B)) ∧ Aside0 (st.1 ≤ s.size ∧ out.length ≤ st.1 ∧ loopF (numF (bytesOf s)) N st2 [] = loopF (numF (bytesOf s)) (N - d) st out)) (fun _ v38 _ => (N - (intOf v38).toNat))
    case atStart => exact ⟨0, st2, [], Nat.zero_le _, rfl, ⟨Kd.R_nil _ _ _ _ _, by rw [E2.out]; exact ⟨H1.out.1, H1.out.2.1⟩⟩, ⟨by rw [HST.out.1]; split <;> exact HST.out.2, Nat.zero_le _, rfl⟩⟩
    case round =>
      obtain ⟨d, st, out, hd, rfl, HR, HT⟩ := hrel
      by_cases hlt : d < N
      · have hone := num_c HR.out.2.1 HS.out.1 HT.out.1
        obtain ⟨b1, b2, b3⟩ := numF_at' (bytesOf_in s) st (by rw [bytesOf_length]; exact HT.out.1)
        rw [bytesOf_length] at b1
        have hl2 := HT.out.2.2
        rw [show N - d = (N - (d + 1)) + 1 by omega] at hl2
        rw [loopF_succ] at hl2
        obtain ⟨x, st', hx⟩ : ∃ x st', numF (bytesOf s) st = (x, st') := ⟨_, _, rfl⟩
        rw [hx] at hone hl2 b1 b2 b3
        obtain ⟨p', er'⟩ := st'
        have hone' : Calls Tryd.prog 23 #[.pointer (some ⟨B, 0, none⟩)] wr fun e w' => e = .returned (.int .i64 x) ∧ Rd w' base B s (p', er') ∧ wr.grownBy w' (some B) := hone
        have HO := Aside0.mk hone'
        cases er' with
        | none =>
          have hl3 : loopF (numF (bytesOf s)) N st2 [] = loopF (numF (bytesOf s)) (N - (d + 1)) (p', none) (out ++ [x]) := by rw [hl2]; rfl
          have HL := Aside0.mk (And.intro (show p' ≤ s.size from b1) (And.intro (show st.1 < p' from b3 rfl) hl3))
          clear hone hone' hl2 hl3 b1 b2 b3 hx
          go_wp2_with (first
            | (go_at_call 23; refine HO.out.mono ?_; rintro e w3 ⟨rfl, hr, hg⟩; (obtain ⟨h30, ev3, hrc3, hre3⟩ := id hr); (obtain rfl : ev3 = .nilIface := hre3); (obtain ⟨k0, k1, k2, k3, k4⟩ := hrc3.cells); (have hr3 := Kd.R_grown HR.out.1 hg (fun k hk e => hk (Option.some.inj e))); (have H3 := Aside0.mk (And.intro hr3 (And.intro hr (grown_trans HR.out.2.2 hg)))); clear hr hg h30 hrc3 hr3)
            | ((with_reducible refine gate_dst (N := 50) rfl ?_); refine Kd.R_append (Kd.int .i64) w.heap.size rfl (.tmp 47) (.tmp 49) 22 3 (.int .i64 0) 8 rfl Tryd.underlying22 info3 rfl (by decide) (by omega) _ out x [.int .i64 x] (fun k => k ≠ B) (fun _ => False) rfl rfl ?aP (fun _ hk => hk.elim) ?aF ?aO (Below.refl _ _) ?aS ?aL ?_; (case aP => exact rfl); (case aF => exact (fun k hk => by have := H3.out.2.1.lt; omega)); (case aO => exact H3.out.1); (case aS => exact H3.out.2.2.size); (case aL => have := HL.out; have := HT.out; have := HS.out; omega); intro v4 w4 ho hb hg hat; (have H4 := Aside0.mk (And.intro ho (And.intro (H3.out.2.1.row H3.out.1 hg) (grown_new H3.out.2.2 hg (R_base H3.out.1))))); clear ho hb hg hat))
          go_roundw
          case rel => exact ⟨d + 1, _, _, by omega, by go_num, H4, ⟨HL.out.1, by have := HL.out.2.1; have := HT.out.2.1; simp; omega, HL.out.2.2⟩⟩
          case measure => simp [intOf]; omega
        | some pc =>
          obtain ⟨pl, c⟩ := pc
          have hl3 : loopF (numF (bytesOf s)) N st2 [] = ([], (p', some (pl, c))) := by rw [hl2]; rfl
          have HL := Aside0.mk hl3
          clear hone hone' hl2 hl3 b1 b2 b3 hx
          go_wp2_with (go_at_call 23; refine HO.out.mono ?_; rintro e w3 ⟨rfl, hr, hg⟩; (obtain ⟨h30, ev3, hrc3, hre3⟩ := id hr); (obtain ⟨g3, rfl, -⟩ := hre3); (obtain ⟨k0, k1, k2, k3, k4⟩ := hrc3.cells); (have H3 := Aside0.mk (And.intro hr (grown_trans HR.out.2.2 hg))); clear hr hg h30 hrc3)
          go_ret
          rw [HL.out]
          exact ⟨_, rfl, Kd.R_nil _ _ _ _ _, H3.out⟩
      · obtain rfl : d = N := by omega
        have hl3 : loopF (numF (bytesOf s)) d st2 [] = (out, st) := by have := HT.out.2.2; rw [Nat.sub_self] at this; exact this
        have HL := Aside0.mk hl3
        clear hl3
        go_wp2
        go_ret
        rw [HL.out]
        exact ⟨_, rfl, HR.out⟩
  · have E2 : Aside0 (st2 = (p1, some (pl0, cc0))) := ⟨by rw [HST.out.1]; exact if_neg (fun h => by simp at h)⟩
    go_enter Tryd.func35, Tryd.ntmps35
    go_upto_region 7 with ((go_at_call 23; refine HH.out.mono ?_; rintro e w1 ⟨rfl, hr, hg⟩; (obtain ⟨h10, ev1, hrc1, hre1⟩ := id hr); (obtain ⟨g0, rfl, -⟩ := hre1); (obtain ⟨d0, d1, d2, g1, g2⟩ := hrc1.cells); (have hlt1 := hrc1.lt); (have H1 := Aside0.mk (And.intro hr (And.intro hg hrc1))); clear hr hg h10 hrc1))
    go_wp2
    go_loopw [9, 38] (fun v9 v38 wr => ∃ (d : Nat) (st : St) (out : List Int), d ≤ N ∧ v38 = .int .i64 (d : Int) ∧ Aside0 ((Kd.int .i64).R 3 wr w.heap.size (fun k => k ≠ B) v9 out ∧ Rd wr base B s st ∧ w.grownBy wr (some B)) ∧ Aside0 (st.1 ≤ s.size ∧ out.length ≤ st.1 ∧ loopF (numF (bytesOf s)) N st2 [] = loopF (numF (bytesOf s)) (N - d) st out)) (fun _ v38 _ => (N - (intOf v38).toNat))
    case atStart => exact ⟨0, st2, [], Nat.zero_le _, rfl, ⟨Kd.R_nil _ _ _ _ _, by rw [E2.out]; exact ⟨H1.out.1, H1.out.2.1⟩⟩, ⟨by rw [HST.out.1]; split <;> exact HST.out.2, Nat.zero_le _, rfl⟩⟩
    case round =>
      obtain ⟨d, st, out, hd, rfl, HR, HT⟩ := hrel
      by_cases hlt : d < N
      · have hone := num_c HR.out.2.1 HS.out.1 HT.out.1
        obtain ⟨b1, b2, b3⟩ := numF_at' (bytesOf_in s) st (by rw [bytesOf_length]; exact HT.out.1)
        rw [bytesOf_length] at b1
        have hl2 := HT.out.2.2
        rw [show N - d = (N - (d + 1)) + 1 by omega] at hl2
        rw [loopF_succ] at hl2
        obtain ⟨x, st', hx⟩ : ∃ x st', numF (bytesOf s) st = (x, st') := ⟨_, _, rfl⟩
        rw [hx] at hone hl2 b1 b2 b3
        obtain ⟨p', er'⟩ := st'
        have hone' : Calls Tryd.prog 23 #[.pointer (some ⟨B, 0, none⟩)] wr fun e w' => e = .returned (.int .i64 x) ∧ Rd w' base B s (p', er') ∧ wr.grownBy w' (some B) := hone
        have HO := Aside0.mk hone'
        cases er' with
        | none =>
          have hl3 : loopF (numF (bytesOf s)) N st2 [] = loopF (numF (bytesOf s)) (N - (d + 1)) (p', none) (out ++ [x]) := by rw [hl2]; rfl
          have HL := Aside0.mk (And.intro (show p' ≤ s.size from b1) (And.intro (show st.1 < p' from b3 rfl) hl3))
          clear hone hone' hl2 hl3 b1 b2 b3 hx
          go_wp2_with (first
            | (go_at_call 23; refine HO.out.mono ?_; rintro e w3 ⟨rfl, hr, hg⟩; (obtain ⟨h30, ev3, hrc3, hre3⟩ := id hr); (obtain rfl : ev3 = .nilIface := hre3); (obtain ⟨k0, k1, k2, k3, k4⟩ := hrc3.cells); (have hr3 := Kd.R_grown HR.out.1 hg (fun k hk e => hk (Option.some.inj e))); (have H3 := Aside0.mk (And.intro hr3 (And.intro hr (grown_trans HR.out.2.2 hg)))); clear hr hg h30 hrc3 hr3)
            | ((with_reducible refine gate_dst (N := 50) rfl ?_); refine Kd.R_append (Kd.int .i64) w.heap.size rfl (.tmp 47) (.tmp 49) 22 3 (.int .i64 0) 8 rfl Tryd.underlying22 info3 rfl (by decide) (by omega) _ out x [.int .i64 x] (fun k => k ≠ B) (fun _ => False) rfl rfl ?aP (fun _ hk => hk.elim) ?aF ?aO (Below.refl _ _) ?aS ?aL ?_; (case aP => exact rfl); (case aF => exact (fun k hk => by have := H3.out.2.1.lt; omega)); (case aO => exact H3.out.1); (case aS => exact H3.out.2.2.size); (case aL => have := HL.out; have := HT.out; have := HS.out; omega); intro v4 w4 ho hb hg hat; (have H4 := Aside0.mk (And.intro ho (And.intro (H3.out.2.1.row H3.out.1 hg) (grown_new H3.out.2.2 hg (R_base H3.out.1))))); clear ho hb hg hat))
          go_roundw
          case rel => exact ⟨d + 1, _, _, by omega, by go_num, H4, ⟨HL.out.1, by have := HL.out.2.1; have := HT.out.2.1; simp; omega, HL.out.2.2⟩⟩
          case measure => simp [intOf]; omega
        | some pc =>
          obtain ⟨pl, c⟩ := pc
          have hl3 : loopF (numF (bytesOf s)) N st2 [] = ([], (p', some (pl, c))) := by rw [hl2]; rfl
          have HL := Aside0.mk hl3
          clear hone hone' hl2 hl3 b1 b2 b3 hx
          go_wp2_with (go_at_call 23; refine HO.out.mono ?_; rintro e w3 ⟨rfl, hr, hg⟩; (obtain ⟨h30, ev3, hrc3, hre3⟩ := id hr); (obtain ⟨g3, rfl, -⟩ := hre3); (obtain ⟨k0, k1, k2, k3, k4⟩ := hrc3.cells); (have H3 := Aside0.mk (And.intro hr (grown_trans HR.out.2.2 hg))); clear hr hg h30 hrc3)
          go_ret
          rw [HL.out]
          exact ⟨_, rfl, Kd.R_nil _ _ _ _ _, H3.out⟩
      · obtain rfl : d = N := by omega
        have hl3 : loopF (numF (bytesOf s)) d st2 [] = (out, st) := by have := HT.out.2.2; rw [Nat.sub_self] at this; exact this
        have HL := Aside0.mk hl3
        clear hl3
        go_wp2
        go_ret
        rw [HL.out]
        exact ⟨_, rfl, HR.out⟩

set_option maxHeartbeats 4000000 in
set_option maxRecDepth 100000 in
theorem list_int {w : World} {base B : Nat} {s : ByteArray} {st : St} (most : Int) (h : Rd w base B s st) (hs : s.size ≤ 1000000000) (hp : st.1 ≤ s.size) (hbase : base ≤ w.heap.size) :
    Calls Tryd.prog 35 #[.pointer (some ⟨B, 0, none⟩), .int .i64 most, .func (Fn.func 24) #[.pointer (some ⟨B, 0, none⟩)] #[]] w fun e w' => ∃ v, e = .returned v ∧ (Kd.int .i64).R 3 w' w.heap.size (fun k => k ≠ B) v (listF (bytesOf s) (intF (bytesOf s)) most st).1 ∧ Rd w' base B s (listF (bytesOf s) (intF (bytesOf s)) most st).2 ∧ w.grownBy w' (some B) := by
  obtain ⟨a1, a2, a3, a4, a5⟩ := numF_at (bytesOf_in s) st (by rw [bytesOf_length]; exact hp)
  rw [bytesOf_length] at a1
  have hh := num_c h hs hp
  obtain ⟨n, st1, hn⟩ : ∃ n st1, numF (bytesOf s) st = (n, st1) := ⟨_, _, rfl⟩
  have hhd : headF (bytesOf s) most st = (n, if st1.2 = none ∧ n > most then (st1.1, some (st.1, 12)) else st1) := by
    unfold headF
    rw [hn]
    split <;> rfl
  unfold listF
  rw [hhd]
  rw [hn] at hh a1 a3 a4
  obtain ⟨p, er⟩ := st
  obtain ⟨p1, er1⟩ := st1
  obtain ⟨h0, ev0, hrc, hre⟩ := id h
  obtain ⟨c0, c1, c2, f1, f2⟩ := hrc.cells
  have hB := hrc.lt
  have a3' : 0 ≤ n := a3
  obtain ⟨N, rfl⟩ : ∃ N : Nat, n = (N : Int) := ⟨n.toNat, by omega⟩
  have a4' : (N : Int) ≤ 1125899906842624 := a4
  have hh' : Calls Tryd.prog 23 #[.pointer (some ⟨B, 0, none⟩)] w fun e w' => e = .returned (.int .i64 (N : Int)) ∧ Rd w' base B s (p1, er1) ∧ w.grownBy w' (some B) := hh
  have HH := Aside0.mk hh'
  have HS := Aside0.mk (And.intro hs (And.intro hbase (And.intro h0 hB)))
  obtain ⟨st2, hst2⟩ : ∃ st2 : St, st2 = (if er1 = none ∧ (N : Int) > most then (p1, some (p, 12)) else (p1, er1)) := ⟨_, rfl⟩
  have HST := Aside0.mk (And.intro hst2 (show p1 ≤ s.size from a1))
  simp only [Int.toNat_natCast]
  rw [← hst2]
  have hways : (er1 = none ∧ decide (most < (N : Int)) = true) ∨ (er1 = none ∧ decide (most < (N : Int)) = false) ∨ (∃ pc, er1 = some pc) := by
    cases er1 with
    | none =>
      by_cases hm : most < (N : Int)
      · exact .inl ⟨rfl, decide_eq_true hm⟩
      · exact .inr (.inl ⟨rfl, decide_eq_false hm⟩)
    | some pc => exact .inr (.inr ⟨pc, rfl⟩)
  clear h hs hp hh hh' hn hhd hbase h0 hrc hre a1 a2 a3 a3' a4 a5 hB hst2
  simp only at c1
  rcases hways with ⟨rfl, y1⟩ | ⟨rfl, y1⟩ | ⟨⟨pl0, cc0⟩, rfl⟩
  · have E2 : Aside0 (st2 = (p1, some (p, 12))) := ⟨by rw [HST.out.1]; exact if_pos ⟨rfl, of_decide_eq_true y1⟩⟩
    go_enter Tryd.func35, Tryd.ntmps35
    go_upto_region 7 with ((go_at_call 23; refine HH.out.mono ?_; rintro e w1 ⟨rfl, hr, hg⟩; (obtain ⟨h10, ev1, hrc1, hre1⟩ := id hr); (obtain rfl : ev1 = .nilIface := hre1); (obtain ⟨d0, d1, d2, g1, g2⟩ := hrc1.cells); (have hlt1 := hrc1.lt); (have H1 := Aside0.mk (And.intro hr (And.intro hg hrc1))); clear hr hg h10 hrc1))
    go_wp2
    go_loopw [9, 38] (fun v9 v38 wr => ∃ (d : Nat) (st : St) (out : List Int), d ≤ N ∧ v38 = .int .i64 (d : Int) ∧ Aside0 ((Kd.int .i64).R 3 wr w.heap.size (fun k => k ≠ B) v9 out ∧ Rd wr base B s st ∧ w.grownBy wr (some B)) ∧ Aside0 (st.1 ≤ s.size ∧ out.length ≤ st.1 ∧ loopF (intF (bytesOf s)) N st2 [] = loopF (intF (bytesOf s)) (N - d) st out)) (fun _ v38 _ => (N - (intOf v38).toNat))
    case atStart => exact ⟨0, st2, [], Nat.zero_le _, rfl, ⟨Kd.R_nil _ _ _ _ _, by rw [E2.out]; exact Rd.fail HS.out.2.2.1 H1.out.2.2 H1.out.2.1 p 12⟩, ⟨by rw [HST.out.1]; split <;> exact HST.out.2, Nat.zero_le _, rfl⟩⟩
    case round =>
      obtain ⟨d, st, out, hd, rfl, HR, HT⟩ := hrel
      by_cases hlt : d < N
      · have hone := int_c HR.out.2.1 HS.out.1 HT.out.1
        obtain ⟨b1, b2, b3⟩ := intF_at (bytesOf_in s) st (by rw [bytesOf_length]; exact HT.out.1)
        rw [bytesOf_length] at b1
        have hl2 := HT.out.2.2
        rw [show N - d = (N - (d + 1)) + 1 by omega] at hl2
        rw [loopF_succ] at hl2
        obtain ⟨x, st', hx⟩ : ∃ x st', intF (bytesOf s) st = (x, st') := ⟨_, _, rfl⟩
        rw [hx] at hone hl2 b1 b2 b3
        obtain ⟨p', er'⟩ := st'
        have hone' : Calls Tryd.prog 24 #[.pointer (some ⟨B, 0, none⟩)] wr fun e w' => e = .returned (.int .i64 x) ∧ Rd w' base B s (p', er') ∧ wr.grownBy w' (some B) := hone
        have HO := Aside0.mk hone'
        cases er' with
        | none =>
          have hl3 : loopF (intF (bytesOf s)) N st2 [] = loopF (intF (bytesOf s)) (N - (d + 1)) (p', none) (out ++ [x]) := by rw [hl2]; rfl
          have HL := Aside0.mk (And.intro (show p' ≤ s.size from b1) (And.intro (show st.1 < p' from b3 rfl) hl3))
          clear hone hone' hl2 hl3 b1 b2 b3 hx
          go_wp2_with (first
            | (go_at_call 24; refine HO.out.mono ?_; rintro e w3 ⟨rfl, hr, hg⟩; (obtain ⟨h30, ev3, hrc3, hre3⟩ := id hr); (obtain rfl : ev3 = .nilIface := hre3); (obtain ⟨k0, k1, k2, k3, k4⟩ := hrc3.cells); (have hr3 := Kd.R_grown HR.out.1 hg (fun k hk e => hk (Option.some.inj e))); (have H3 := Aside0.mk (And.intro hr3 (And.intro hr (grown_trans HR.out.2.2 hg)))); clear hr hg h30 hrc3 hr3)
            | ((with_reducible refine gate_dst (N := 50) rfl ?_); refine Kd.R_append (Kd.int .i64) w.heap.size rfl (.tmp 47) (.tmp 49) 22 3 (.int .i64 0) 8 rfl Tryd.underlying22 info3 rfl (by decide) (by omega) _ out x [.int .i64 x] (fun k => k ≠ B) (fun _ => False) rfl rfl ?aP (fun _ hk => hk.elim) ?aF ?aO (Below.refl _ _) ?aS ?aL ?_; (case aP => exact rfl); (case aF => exact (fun k hk => by have := H3.out.2.1.lt; omega)); (case aO => exact H3.out.1); (case aS => exact H3.out.2.2.size); (case aL => have := HL.out; have := HT.out; have := HS.out; omega); intro v4 w4 ho hb hg hat; (have H4 := Aside0.mk (And.intro ho (And.intro (H3.out.2.1.row H3.out.1 hg) (grown_new H3.out.2.2 hg (R_base H3.out.1))))); clear ho hb hg hat))
          go_roundw
          case rel => exact ⟨d + 1, _, _, by omega, by go_num, H4, ⟨HL.out.1, by have := HL.out.2.1; have := HT.out.2.1; simp; omega, HL.out.2.2⟩⟩
          case measure => simp [intOf]; omega
        | some pc =>
          obtain ⟨pl, c⟩ := pc
          have hl3 : loopF (intF (bytesOf s)) N st2 [] = ([], (p', some (pl, c))) := by rw [hl2]; rfl
          have HL := Aside0.mk hl3
          clear hone hone' hl2 hl3 b1 b2 b3 hx
          go_wp2_with (go_at_call 24; refine HO.out.mono ?_; rintro e w3 ⟨rfl, hr, hg⟩; (obtain ⟨h30, ev3, hrc3, hre3⟩ := id hr); (obtain ⟨g3, rfl, -⟩ := hre3); (obtain ⟨k0, k1, k2, k3, k4⟩ := hrc3.cells); (have H3 := Aside0.mk (And.intro hr (grown_trans HR.out.2.2 hg))); clear hr hg h30 hrc3)
          go_ret
          rw [HL.out]
          exact ⟨_, rfl, Kd.R_nil _ _ _ _ _, H3.out⟩
      · obtain rfl : d = N := by omega
        have hl3 : loopF (intF (bytesOf s)) d st2 [] = (out, st) := by have := HT.out.2.2; rw [Nat.sub_self] at this; exact this
        have HL := Aside0.mk hl3
        clear hl3
        go_wp2
        go_ret
        rw [HL.out]
        exact ⟨_, rfl, HR.out⟩
  · have E2 : Aside0 (st2 = (p1, none)) := ⟨by rw [HST.out.1]; exact if_neg (fun h => of_decide_eq_false y1 h.2)⟩
    go_enter Tryd.func35, Tryd.ntmps35
    go_upto_region 7 with ((go_at_call 23; refine HH.out.mono ?_; rintro e w1 ⟨rfl, hr, hg⟩; (obtain ⟨h10, ev1, hrc1, hre1⟩ := id hr); (obtain rfl : ev1 = .nilIface := hre1); (obtain ⟨d0, d1, d2, g1, g2⟩ := hrc1.cells); (have hlt1 := hrc1.lt); (have H1 := Aside0.mk (And.intro hr (And.intro hg hrc1))); clear hr hg h10 hrc1))
    go_wp2
    go_loopw [9, 38] (fun v9 v38 wr => ∃ (d : Nat) (st : St) (out : List Int), d ≤ N ∧ v38 = .int .i64 (d : Int) ∧ Aside0 ((Kd.int .i64).R 3 wr w.heap.size (fun k => k ≠ B) v9 out ∧ Rd wr base B s st ∧ w.grownBy wr (some B)) ∧ Aside0 (st.1 ≤ s.size ∧ out.length ≤ st.1 ∧ loopF (intF (bytesOf s)) N st2 [] = loopF (intF (bytesOf s)) (N - d) st out)) (fun _ v38 _ => (N - (intOf v38).toNat))
    case atStart => exact ⟨0, st2, [], Nat.zero_le _, rfl, ⟨Kd.R_nil _ _ _ _ _, by rw [E2.out]; exact ⟨H1.out.1, H1.out.2.1⟩⟩, ⟨by rw [HST.out.1]; split <;> exact HST.out.2, Nat.zero_le _, rfl⟩⟩
    case round =>
      obtain ⟨d, st, out, hd, rfl, HR, HT⟩ := hrel
      by_cases hlt : d < N
      · have hone := int_c HR.out.2.1 HS.out.1 HT.out.1
        obtain ⟨b1, b2, b3⟩ := intF_at (bytesOf_in s) st (by rw [bytesOf_length]; exact HT.out.1)
        rw [bytesOf_length] at b1
        have hl2 := HT.out.2.2
        rw [show N - d = (N - (d + 1)) + 1 by omega] at hl2
        rw [loopF_succ] at hl2
        obtain ⟨x, st', hx⟩ : ∃ x st', intF (bytesOf s) st = (x, st') := ⟨_, _, rfl⟩
        rw [hx] at hone hl2 b1 b2 b3
        obtain ⟨p', er'⟩ := st'
        have hone' : Calls Tryd.prog 24 #[.pointer (some ⟨B, 0, none⟩)] wr fun e w' => e = .returned (.int .i64 x) ∧ Rd w' base B s (p', er') ∧ wr.grownBy w' (some B) := hone
        have HO := Aside0.mk hone'
        cases er' with
        | none =>
          have hl3 : loopF (intF (bytesOf s)) N st2 [] = loopF (intF (bytesOf s)) (N - (d + 1)) (p', none) (out ++ [x]) := by rw [hl2]; rfl
          have HL := Aside0.mk (And.intro (show p' ≤ s.size from b1) (And.intro (show st.1 < p' from b3 rfl) hl3))
          clear hone hone' hl2 hl3 b1 b2 b3 hx
          go_wp2_with (first
            | (go_at_call 24; refine HO.out.mono ?_; rintro e w3 ⟨rfl, hr, hg⟩; (obtain ⟨h30, ev3, hrc3, hre3⟩ := id hr); (obtain rfl : ev3 = .nilIface := hre3); (obtain ⟨k0, k1, k2, k3, k4⟩ := hrc3.cells); (have hr3 := Kd.R_grown HR.out.1 hg (fun k hk e => hk (Option.some.inj e))); (have H3 := Aside0.mk (And.intro hr3 (And.intro hr (grown_trans HR.out.2.2 hg)))); clear hr hg h30 hrc3 hr3)
            | ((with_reducible refine gate_dst (N := 50) rfl ?_); refine Kd.R_append (Kd.int .i64) w.heap.size rfl (.tmp 47) (.tmp 49) 22 3 (.int .i64 0) 8 rfl Tryd.underlying22 info3 rfl (by decide) (by omega) _ out x [.int .i64 x] (fun k => k ≠ B) (fun _ => False) rfl rfl ?aP (fun _ hk => hk.elim) ?aF ?aO (Below.refl _ _) ?aS ?aL ?_; (case aP => exact rfl); (case aF => exact (fun k hk => by have := H3.out.2.1.lt; omega)); (case aO => exact H3.out.1); (case aS => exact H3.out.2.2.size); (case aL => have := HL.out; have := HT.out; have := HS.out; omega); intro v4 w4 ho hb hg hat; (have H4 := Aside0.mk (And.intro ho (And.intro (H3.out.2.1.row H3.out.1 hg) (grown_new H3.out.2.2 hg (R_base H3.out.1))))); clear ho hb hg hat))
          go_roundw
          case rel => exact ⟨d + 1, _, _, by omega, by go_num, H4, ⟨HL.out.1, by have := HL.out.2.1; have := HT.out.2.1; simp; omega, HL.out.2.2⟩⟩
          case measure => simp [intOf]; omega
        | some pc =>
          obtain ⟨pl, c⟩ := pc
          have hl3 : loopF (intF (bytesOf s)) N st2 [] = ([], (p', some (pl, c))) := by rw [hl2]; rfl
          have HL := Aside0.mk hl3
          clear hone hone' hl2 hl3 b1 b2 b3 hx
          go_wp2_with (go_at_call 24; refine HO.out.mono ?_; rintro e w3 ⟨rfl, hr, hg⟩; (obtain ⟨h30, ev3, hrc3, hre3⟩ := id hr); (obtain ⟨g3, rfl, -⟩ := hre3); (obtain ⟨k0, k1, k2, k3, k4⟩ := hrc3.cells); (have H3 := Aside0.mk (And.intro hr (grown_trans HR.out.2.2 hg))); clear hr hg h30 hrc3)
          go_ret
          rw [HL.out]
          exact ⟨_, rfl, Kd.R_nil _ _ _ _ _, H3.out⟩
      · obtain rfl : d = N := by omega
        have hl3 : loopF (intF (bytesOf s)) d st2 [] = (out, st) := by have := HT.out.2.2; rw [Nat.sub_self] at this; exact this
        have HL := Aside0.mk hl3
        clear hl3
        go_wp2
        go_ret
        rw [HL.out]
        exact ⟨_, rfl, HR.out⟩
  · have E2 : Aside0 (st2 = (p1, some (pl0, cc0))) := ⟨by rw [HST.out.1]; exact if_neg (fun h => by simp at h)⟩
    go_enter Tryd.func35, Tryd.ntmps35
    go_upto_region 7 with ((go_at_call 23; refine HH.out.mono ?_; rintro e w1 ⟨rfl, hr, hg⟩; (obtain ⟨h10, ev1, hrc1, hre1⟩ := id hr); (obtain ⟨g0, rfl, -⟩ := hre1); (obtain ⟨d0, d1, d2, g1, g2⟩ := hrc1.cells); (have hlt1 := hrc1.lt); (have H1 := Aside0.mk (And.intro hr (And.intro hg hrc1))); clear hr hg h10 hrc1))
    go_wp2
    go_loopw [9, 38] (fun v9 v38 wr => ∃ (d : Nat) (st : St) (out : List Int), d ≤ N ∧ v38 = .int .i64 (d : Int) ∧ Aside0 ((Kd.int .i64).R 3 wr w.heap.size (fun k => k ≠ B) v9 out ∧ Rd wr base B s st ∧ w.grownBy wr (some B)) ∧ Aside0 (st.1 ≤ s.size ∧ out.length ≤ st.1 ∧ loopF (intF (bytesOf s)) N st2 [] = loopF (intF (bytesOf s)) (N - d) st out)) (fun _ v38 _ => (N - (intOf v38).toNat))
    case atStart => exact ⟨0, st2, [], Nat.zero_le _, rfl, ⟨Kd.R_nil _ _ _ _ _, by rw [E2.out]; exact ⟨H1.out.1, H1.out.2.1⟩⟩, ⟨by rw [HST.out.1]; split <;> exact HST.out.2, Nat.zero_le _, rfl⟩⟩
    case round =>
      obtain ⟨d, st, out, hd, rfl, HR, HT⟩ := hrel
      by_cases hlt : d < N
      · have hone := int_c HR.out.2.1 HS.out.1 HT.out.1
        obtain ⟨b1, b2, b3⟩ := intF_at (bytesOf_in s) st (by rw [bytesOf_length]; exact HT.out.1)
        rw [bytesOf_length] at b1
        have hl2 := HT.out.2.2
        rw [show N - d = (N - (d + 1)) + 1 by omega] at hl2
        rw [loopF_succ] at hl2
        obtain ⟨x, st', hx⟩ : ∃ x st', intF (bytesOf s) st = (x, st') := ⟨_, _, rfl⟩
        rw [hx] at hone hl2 b1 b2 b3
        obtain ⟨p', er'⟩ := st'
        have hone' : Calls Tryd.prog 24 #[.pointer (some ⟨B, 0, none⟩)] wr fun e w' => e = .returned (.int .i64 x) ∧ Rd w' base B s (p', er') ∧ wr.grownBy w' (some B) := hone
        have HO := Aside0.mk hone'
        cases er' with
        | none =>
          have hl3 : loopF (intF (bytesOf s)) N st2 [] = loopF (intF (bytesOf s)) (N - (d + 1)) (p', none) (out ++ [x]) := by rw [hl2]; rfl
          have HL := Aside0.mk (And.intro (show p' ≤ s.size from b1) (And.intro (show st.1 < p' from b3 rfl) hl3))
          clear hone hone' hl2 hl3 b1 b2 b3 hx
          go_wp2_with (first
            | (go_at_call 24; refine HO.out.mono ?_; rintro e w3 ⟨rfl, hr, hg⟩; (obtain ⟨h30, ev3, hrc3, hre3⟩ := id hr); (obtain rfl : ev3 = .nilIface := hre3); (obtain ⟨k0, k1, k2, k3, k4⟩ := hrc3.cells); (have hr3 := Kd.R_grown HR.out.1 hg (fun k hk e => hk (Option.some.inj e))); (have H3 := Aside0.mk (And.intro hr3 (And.intro hr (grown_trans HR.out.2.2 hg)))); clear hr hg h30 hrc3 hr3)
            | ((with_reducible refine gate_dst (N := 50) rfl ?_); refine Kd.R_append (Kd.int .i64) w.heap.size rfl (.tmp 47) (.tmp 49) 22 3 (.int .i64 0) 8 rfl Tryd.underlying22 info3 rfl (by decide) (by omega) _ out x [.int .i64 x] (fun k => k ≠ B) (fun _ => False) rfl rfl ?aP (fun _ hk => hk.elim) ?aF ?aO (Below.refl _ _) ?aS ?aL ?_; (case aP => exact rfl); (case aF => exact (fun k hk => by have := H3.out.2.1.lt; omega)); (case aO => exact H3.out.1); (case aS => exact H3.out.2.2.size); (case aL => have := HL.out; have := HT.out; have := HS.out; omega); intro v4 w4 ho hb hg hat; (have H4 := Aside0.mk (And.intro ho (And.intro (H3.out.2.1.row H3.out.1 hg) (grown_new H3.out.2.2 hg (R_base H3.out.1))))); clear ho hb hg hat))
          go_roundw
          case rel => exact ⟨d + 1, _, _, by omega, by go_num, H4, ⟨HL.out.1, by have := HL.out.2.1; have := HT.out.2.1; simp; omega, HL.out.2.2⟩⟩
          case measure => simp [intOf]; omega
        | some pc =>
          obtain ⟨pl, c⟩ := pc
          have hl3 : loopF (intF (bytesOf s)) N st2 [] = ([], (p', some (pl, c))) := by rw [hl2]; rfl
          have HL := Aside0.mk hl3
          clear hone hone' hl2 hl3 b1 b2 b3 hx
          go_wp2_with (go_at_call 24; refine HO.out.mono ?_; rintro e w3 ⟨rfl, hr, hg⟩; (obtain ⟨h30, ev3, hrc3, hre3⟩ := id hr); (obtain ⟨g3, rfl, -⟩ := hre3); (obtain ⟨k0, k1, k2, k3, k4⟩ := hrc3.cells); (have H3 := Aside0.mk (And.intro hr (grown_trans HR.out.2.2 hg))); clear hr hg h30 hrc3)
          go_ret
          rw [HL.out]
          exact ⟨_, rfl, Kd.R_nil _ _ _ _ _, H3.out⟩
      · obtain rfl : d = N := by omega
        have hl3 : loopF (intF (bytesOf s)) d st2 [] = (out, st) := by have := HT.out.2.2; rw [Nat.sub_self] at this; exact this
        have HL := Aside0.mk hl3
        clear hl3
        go_wp2
        go_ret
        rw [HL.out]
        exact ⟨_, rfl, HR.out⟩
theorem nums_c {w : World} {base B : Nat} {s : ByteArray} {st : St} (most : Int) (h : Rd w base B s st) (hs : s.size ≤ 1000000000) (hp : st.1 ≤ s.size) (hbase : base ≤ w.heap.size) :
    Calls Tryd.prog 25 #[.pointer (some ⟨B, 0, none⟩), .int .i64 most] w fun e w' => ∃ v, e = .returned v ∧ (Kd.int .i64).R 3 w' w.heap.size (fun k => k ≠ B) v (listF (bytesOf s) (numF (bytesOf s)) most st).1 ∧ Rd w' base B s (listF (bytesOf s) (numF (bytesOf s)) most st).2 ∧ w.grownBy w' (some B) := by
  have H := Aside0.mk (list_num most h hs hp hbase)
  clear h hs hp hbase
  go_enter Tryd.func25, Tryd.ntmps25
  go_wp2_with (go_at_call 35; refine H.out.mono ?_; rintro e w1 ⟨v, rfl, h1⟩; (have H1 := Aside0.mk h1); clear h1)
  go_ret
  exact ⟨_, rfl, H1.out⟩
theorem ints_c {w : World} {base B : Nat} {s : ByteArray} {st : St} (most : Int) (h : Rd w base B s st) (hs : s.size ≤ 1000000000) (hp : st.1 ≤ s.size) (hbase : base ≤ w.heap.size) :
    Calls Tryd.prog 26 #[.pointer (some ⟨B, 0, none⟩), .int .i64 most] w fun e w' => ∃ v, e = .returned v ∧ (Kd.int .i64).R 3 w' w.heap.size (fun k => k ≠ B) v (listF (bytesOf s) (intF (bytesOf s)) most st).1 ∧ Rd w' base B s (listF (bytesOf s) (intF (bytesOf s)) most st).2 ∧ w.grownBy w' (some B) := by
  have H := Aside0.mk (list_int most h hs hp hbase)
  clear h hs hp hbase
  go_enter Tryd.func26, Tryd.ntmps26
  go_wp2_with (go_at_call 35; refine H.out.mono ?_; rintro e w1 ⟨v, rfl, h1⟩; (have H1 := Aside0.mk h1); clear h1)
  go_ret
  exact ⟨_, rfl, H1.out⟩
end Go.Proofs.YthiklbhplhdjmaaDoor.P
/- errors.As at the reader's own error, errors.Is at a number's flaw: Go's text of both walked (turned from a worked proof of the kit). -/
namespace Go.Proofs.YthiklbhplhdjmaaDoor.P
open Go.RowKit Go.Extern.Stop Go.Stop Go.Extern
set_option linter.unusedVariables false
set_option linter.unusedSimpArgs false
theorem wr_valueOf27 (t : Addr) (w : World) : (ReflectliteValue.unpack (.iface 57 (.pointer (some t)))).run Tryd.prog w
    = .ok (.agg #[.pointer (some ⟨1, 57, none⟩), .pointer (some ⟨w.heap.size, 0, none⟩), .int .u64 150]) (w.alloc (.cells #[.pointer (some t)] 57)) := by kernel_rfl
theorem wr_type27 (a : Addr) (w : World) : (ReflectliteValue.methodAny (ReflectliteValue.valueError "reflectlite.Value.Type" 0) (fun t _ _ _ => ReflectliteType.toType t) #[.agg #[.pointer (some ⟨1, 57, none⟩), .pointer (some a), .int .u64 150]]).run Tryd.prog w
    = .ok (.iface 84 (.agg #[.pointer (some ⟨1, 57, none⟩)])) w := by kernel_rfl
theorem wr_methodKind (h : Value) (w : World) : (Go.method 227 84 (.agg #[h]) "Kind").run Tryd.prog w = .ok (66, h) w := by kernel_rfl
theorem wr_kind27 (w : World) : ((ReflectliteType.abiMethod fun t => (fun a : Nat => Value.int IntKind.u8 (a : Int)) <$> Rtype.kind t) #[.pointer (some ⟨1, 57, none⟩)]).run Tryd.prog w = .ok (.int .u8 22) w := by kernel_rfl
theorem wr_kind25 (w : World) : ((ReflectliteType.abiMethod fun t => (fun a : Nat => Value.int IntKind.u8 (a : Int)) <$> Rtype.kind t) #[.pointer (some ⟨1, 52, none⟩)]).run Tryd.prog w = .ok (.int .u8 22) w := by kernel_rfl

theorem rlm (z : Sem Value) (f : TypeId → Addr → Nat → Nat → Sem Value) (v : Value) :
    ReflectliteValue.method z f #[v] = (do match ← ReflectliteValue.parts v with | none => z | some (t, a, fl) => f t a fl (fl % 32)) := rfl
theorem wr_parts27 (a : Addr) (w : World) : (ReflectliteValue.parts (.agg #[.pointer (some ⟨1, 57, none⟩), .pointer (some a), .int .u64 150])).run Tryd.prog w = .ok (some (57, a, 150)) w := by kernel_rfl
theorem wr_isNil27 (a p : Addr) (W : World) (ha : W.cell? a = some (.pointer (some p))) :
    (ReflectliteValue.method (ReflectliteValue.valueError "reflectlite.Value.IsNil" 0) ReflectliteValue.isNil #[.agg #[.pointer (some ⟨1, 57, none⟩), .pointer (some a), .int .u64 150]]).run Tryd.prog W = .ok (.bool false) W := by
  rw [rlm]
  simp only [Sem.run_bind, wr_parts27, Result.andThen]
  simp [ReflectliteValue.isNil, loadVar, isAgg, underlying, Tryd.underlying57, ha, Result.andThen]

theorem wr_methodElem (h : Value) (w : World) : (Go.method 227 84 (.agg #[h]) "Elem").run Tryd.prog w = .ok (79, .agg #[h]) w := by kernel_rfl
theorem wr_methodImplements (h : Value) (w : World) : (Go.method 227 84 (.agg #[h]) "Implements").run Tryd.prog w = .ok (80, .agg #[h]) w := by kernel_rfl
theorem wr_methodAssignableTo (h : Value) (w : World) : (Go.method 227 84 (.agg #[h]) "AssignableTo").run Tryd.prog w = .ok (77, .agg #[h]) w := by kernel_rfl
theorem wr_elem27 (w : World) : (ReflectliteType.method ReflectliteType.elem #[.agg #[.pointer (some ⟨1, 57, none⟩)]]).run Tryd.prog w = .ok (.iface 84 (.agg #[.pointer (some ⟨1, 52, none⟩)])) w := by kernel_rfl
theorem wr_implements25 (w : World) : (ReflectliteType.relation "Implements" ReflectliteType.implements_ #[.agg #[.pointer (some ⟨1, 52, none⟩)], .iface 84 (.agg #[.pointer (some ⟨1, 47, none⟩)])]).run Tryd.prog w = .ok (.bool true) w := by kernel_rfl
theorem wr_typeOf25 (v : Value) (w : World) : (ReflectliteType.typeOf #[.iface 52 v]).run Tryd.prog w = .ok (.iface 84 (.agg #[.pointer (some ⟨1, 52, none⟩)])) w := by kernel_rfl
theorem wr_assignable25 (w : World) : (ReflectliteType.relation "AssignableTo" ReflectliteType.assignableTo #[.agg #[.pointer (some ⟨1, 52, none⟩)], .iface 84 (.agg #[.pointer (some ⟨1, 52, none⟩)])]).run Tryd.prog w = .ok (.bool true) w := by kernel_rfl
theorem wr_valueOf25 (e : Addr) (w : World) : (ReflectliteValue.unpack (.iface 52 (.pointer (some e)))).run Tryd.prog w
    = .ok (.agg #[.pointer (some ⟨1, 52, none⟩), .pointer (some ⟨w.heap.size, 0, none⟩), .int .u64 150]) (w.alloc (.cells #[.pointer (some e)] 52)) := by kernel_rfl

theorem wr_elemOf27 (w : World) : (Rtype.elem? 57).run Tryd.prog w = .ok (some 52) w := by kernel_rfl
theorem wr_mk25 (p : Addr) (w : World) : (ReflectliteValue.mk 52 p ReflectliteValue.flagAddr).run Tryd.prog w = .ok (.agg #[.pointer (some ⟨1, 52, none⟩), .pointer (some p), .int .u64 406]) w := by kernel_rfl
theorem wr_elemV27 (a p : Addr) (W : World) (ha : W.cell? a = some (.pointer (some p))) :
    (ReflectliteValue.method (ReflectliteValue.valueError "reflectlite.Value.Elem" 0) ReflectliteValue.elem #[.agg #[.pointer (some ⟨1, 57, none⟩), .pointer (some a), .int .u64 150]]).run Tryd.prog W
      = .ok (.agg #[.pointer (some ⟨1, 52, none⟩), .pointer (some p), .int .u64 406]) W := by
  rw [rlm]
  simp only [Sem.run_bind, wr_parts27, Result.andThen]
  simp [ReflectliteValue.elem, loadVar, isAgg, underlying, Tryd.underlying57, ha, Result.andThen, wr_elemOf27, wr_mk25]
theorem rls (v x : Value) : ReflectliteValue.set #[v, x] = (do
    let (some (dst, a, fl), some (src, b, _)) := (← ReflectliteValue.parts v, ← ReflectliteValue.parts x)
      | unsupported (.noEntry "extern/(internal/reflectlite.Value).Set.zeroValue")
    if fl / ReflectliteValue.flagAddr % 2 == 0 then unsupported (.noEntry "extern/(internal/reflectlite.Value).Set.unaddressable")
    let val ← loadVar src b
    if ← Rtype.directlyAssignable dst src then storeVar dst a val
    else if ← Rtype.implements dst src then
      if (← Rtype.kind src) == 20 then
        match val with
        | .nilIface => unsupported (.noEntry "extern/reflectlite: a nil value of one interface type handed on as a value of another")
        | _ => storeVar dst a val
      else storeVar dst a (.iface src val)
    else panicString ("reflectlite.Set: value of type " ++ (← Rtype.spelt src) ++ " is not assignable to type " ++ (← Rtype.spelt dst))
    pure (.tuple #[])) := rfl
theorem wr_parts25a (a : Addr) (w : World) : (ReflectliteValue.parts (.agg #[.pointer (some ⟨1, 52, none⟩), .pointer (some a), .int .u64 406])).run Tryd.prog w = .ok (some (52, a, 406)) w := by kernel_rfl
theorem wr_parts25 (a : Addr) (w : World) : (ReflectliteValue.parts (.agg #[.pointer (some ⟨1, 52, none⟩), .pointer (some a), .int .u64 150])).run Tryd.prog w = .ok (some (52, a, 150)) w := by kernel_rfl
theorem wr_direct25 (w : World) : (Rtype.directlyAssignable 52 52).run Tryd.prog w = .ok true w := by kernel_rfl
theorem wr_set25 (ta b e : Addr) (old : Value) (W : World) (hb : W.cell? b = some (.pointer (some e))) (ht : W.cell? ta = some old) (hf : W.frozen? ta = false) :
    (ReflectliteValue.set #[.agg #[.pointer (some ⟨1, 52, none⟩), .pointer (some ta), .int .u64 406], .agg #[.pointer (some ⟨1, 52, none⟩), .pointer (some b), .int .u64 150]]).run Tryd.prog W
      = .ok (.tuple #[]) (W.setCell ta (.pointer (some e))) := by
  rw [rls]
  simp only [Sem.run_bind, wr_parts25a, wr_parts25, Result.andThen]
  simp [ReflectliteValue.flagAddr, loadVar, isAgg, underlying, Tryd.underlying52, hb, Result.andThen, wr_direct25, storeVar, Value.cells, storeCells, Addr.add]
  rw [run_store Tryd.prog W ta _ _ (by rfl)]
  simp [ht, hf]

set_option maxHeartbeats 4000000 in
theorem as_hit (e t : Addr) (old : Value) (w : World) (hg : w.cell? ⟨0, 0, none⟩ = some (.iface 84 (.agg #[.pointer (some ⟨1, 47, none⟩)]))) (ht0 : w.cell? t = some old) (hf0 : w.frozen? t = false) :
    Calls Tryd.prog 36 #[.iface 52 (.pointer (some e)), .iface 57 (.pointer (some t))] w fun ev w' => ev = .returned (.bool true) ∧ w' = ((((w.alloc (.cells #[.pointer (some t)] 57)).alloc (.cells #[.pointer (some ⟨1, 57, none⟩), .pointer (some ⟨w.heap.size, 0, none⟩), .int .u64 150] 71)).alloc (.cells #[.pointer (some ⟨1, 57, none⟩), .pointer (some ⟨w.heap.size, 0, none⟩), .int .u64 150] 71)).alloc (.cells #[.pointer (some e)] 52)).setCell t (.pointer (some e)) := by
  have h6 := @run_callFunc_extern Tryd.prog 42 _ (fun args => ReflectliteValue.unpack (args.getD 0 (.tuple #[]))) Tryd.func42 (by kernel_rfl) (by kernel_rfl) (by kernel_rfl) (by kernel_rfl)
  have h7 := @run_callFunc_extern Tryd.prog 43 _ (ReflectliteValue.methodAny (ReflectliteValue.valueError "reflectlite.Value.Type" 0) (fun t _ _ _ => ReflectliteType.toType t)) Tryd.func43 (by kernel_rfl) (by kernel_rfl) (by kernel_rfl) (by kernel_rfl)
  have h8 := @run_callFunc_extern Tryd.prog 44 _ (ReflectliteValue.method (ReflectliteValue.valueError "reflectlite.Value.IsNil" 0) ReflectliteValue.isNil) Tryd.func44 (by kernel_rfl) (by kernel_rfl) (by kernel_rfl) (by kernel_rfl)
  have h27 := @run_callFunc_extern Tryd.prog 66 _ (ReflectliteType.abiMethod fun t => do pure (.int .u8 (← Rtype.kind t))) Tryd.func66 (by kernel_rfl) (by kernel_rfl) (by kernel_rfl) (by kernel_rfl)
  have h37 := @run_callFunc_extern Tryd.prog 79 _ (ReflectliteType.method ReflectliteType.elem) Tryd.func79 (by kernel_rfl) (by kernel_rfl) (by kernel_rfl) (by kernel_rfl)
  have h38 := @run_callFunc_extern Tryd.prog 80 _ (ReflectliteType.relation "Implements" ReflectliteType.implements_) Tryd.func80 (by kernel_rfl) (by kernel_rfl) (by kernel_rfl) (by kernel_rfl)
  have h10 := @run_callFunc_extern Tryd.prog 46 _ ReflectliteType.typeOf Tryd.func46 (by kernel_rfl) (by kernel_rfl) (by kernel_rfl) (by kernel_rfl)
  have h35 := @run_callFunc_extern Tryd.prog 77 _ (ReflectliteType.relation "AssignableTo" ReflectliteType.assignableTo) Tryd.func77 (by kernel_rfl) (by kernel_rfl) (by kernel_rfl) (by kernel_rfl)
  have h11 := @run_callFunc_extern Tryd.prog 49 _ (ReflectliteValue.method (ReflectliteValue.valueError "reflectlite.Value.Elem" 0) ReflectliteValue.elem) Tryd.func49 (by kernel_rfl) (by kernel_rfl) (by kernel_rfl) (by kernel_rfl)
  have h12 := @run_callFunc_extern Tryd.prog 50 _ ReflectliteValue.set Tryd.func50 (by kernel_rfl) (by kernel_rfl) (by kernel_rfl) (by kernel_rfl)
  have tO := wr_typeOf25
  have mA := wr_methodAssignableTo
  have a25 := wr_assignable25
  have v25 := wr_valueOf25
  have f6 := wr_valueOf27
  have f7 := wr_type27
  have mK := wr_methodKind
  have mE := wr_methodElem
  have mI := wr_methodImplements
  have k27 := wr_kind27
  have k25 := wr_kind25
  have e27 := wr_elem27
  have i25 := wr_implements25
  have n8 := wr_isNil27 ⟨w.heap.size, 0, none⟩ t ((w.alloc (.cells #[.pointer (some t)] 57)).alloc (.cells #[.pointer (some ⟨1, 57, none⟩), .pointer (some ⟨w.heap.size, 0, none⟩), .int .u64 150] 71)) (by simp)
  have hlt : 0 < w.heap.size := by
    rcases Nat.eq_zero_or_pos w.heap.size with h0 | h
    · simp [World.cell?, h0] at hg
    · exact h
  have hg2 : ((w.alloc (.cells #[.pointer (some t)] 57)).alloc (.cells #[.pointer (some ⟨1, 57, none⟩), .pointer (some ⟨w.heap.size, 0, none⟩), .int .u64 150] 71)).cell? ⟨0, 0, none⟩ = some (.iface 84 (.agg #[.pointer (some ⟨1, 47, none⟩)])) := by
    rw [World.cell?_alloc_lt _ _ ⟨0, 0, none⟩ (by simp), World.cell?_alloc_lt _ _ ⟨0, 0, none⟩ hlt]; exact hg
  have htl : t.block < w.heap.size := by
    rcases Nat.lt_or_ge t.block w.heap.size with h | h
    · exact h
    · simp [World.cell?, Array.getElem?_eq_none h] at ht0
  have el := wr_elemV27 ⟨w.heap.size, 0, none⟩ t (((w.alloc (.cells #[.pointer (some t)] 57)).alloc (.cells #[.pointer (some ⟨1, 57, none⟩), .pointer (some ⟨w.heap.size, 0, none⟩), .int .u64 150] 71)).alloc (.cells #[.pointer (some ⟨1, 57, none⟩), .pointer (some ⟨w.heap.size, 0, none⟩), .int .u64 150] 71)) (by rw [World.cell?_alloc_lt _ _ ⟨w.heap.size, 0, none⟩ (by simp; omega)]; simp)
  have st := wr_set25 t ⟨w.heap.size + 1 + 1 + 1, 0, none⟩ e old ((((w.alloc (.cells #[.pointer (some t)] 57)).alloc (.cells #[.pointer (some ⟨1, 57, none⟩), .pointer (some ⟨w.heap.size, 0, none⟩), .int .u64 150] 71)).alloc (.cells #[.pointer (some ⟨1, 57, none⟩), .pointer (some ⟨w.heap.size, 0, none⟩), .int .u64 150] 71)).alloc (.cells #[.pointer (some e)] 52))
    (by rw [World.cell?_alloc_at _ _ _ _ (by simp)]; rfl)
    (by rw [World.cell?_alloc_lt _ _ t (by simp; omega), World.cell?_alloc_lt _ _ t (by simp; omega), World.cell?_alloc_lt _ _ t (by simp; omega), World.cell?_alloc_lt _ _ t htl]; exact ht0)
    (by rw [World.frozen?_alloc_old _ _ t (by simp; omega), World.frozen?_alloc_old _ _ t (by simp; omega), World.frozen?_alloc_old _ _ t (by simp; omega), World.frozen?_alloc_old _ _ t (Nat.ne_of_lt htl)]; exact hf0)
  go_enter Tryd.func36, Tryd.ntmps36
  go_wp2
  refine wp_loop_rounds 1 ?_
  rw [rounds_succ]
  go_wp2
  go_ret
  exact ⟨rfl, rfl⟩
end Go.Proofs.YthiklbhplhdjmaaDoor.P
/- errors.Is at the reader's own error. -/
namespace Go.Proofs.YthiklbhplhdjmaaDoor.P
open Go.RowKit Go.Extern.Stop Go.Stop Go.Extern
set_option linter.unusedVariables false
set_option linter.unusedSimpArgs false

theorem wr_typeOfF (v : Value) (w : World) : (ReflectliteType.typeOf #[.iface 58 v]).run Tryd.prog w = .ok (.iface 84 (.agg #[.pointer (some ⟨1, 58, none⟩)])) w := by kernel_rfl
theorem wr_methodComparable (h : Value) (w : World) : (Go.method 227 84 (.agg #[h]) "Comparable").run Tryd.prog w = .ok (78, .agg #[h]) w := by kernel_rfl
theorem wr_comparableF (w : World) : ((ReflectliteType.method fun t => do Rtype.noPackHeld "Comparable" t; (fun a => Value.bool a.comparable) <$> typeInfo t) #[.agg #[.pointer (some ⟨1, 58, none⟩)]]).run Tryd.prog w = .ok (.bool true) w := by kernel_rfl
theorem wr_eq1 (g : Nat) (c : Int) (W : World) : (binOp .eql 47 (.iface 52 (.pointer (some ⟨g, 0, none⟩))) (.iface 58 (.int .i64 c))).run Tryd.prog W = .ok (.bool false) W := by kernel_rfl
theorem wr_eq2 (a b : Int) (W : World) : (binOp .eql 47 (.iface 58 (.int .i64 a)) (.iface 58 (.int .i64 b))).run Tryd.prog W = .ok (.bool (a == b)) W := by kernel_rfl
theorem wr_ta1 (v : Value) (W : World) : (Instr.typeAssert (.iface 52 v) 47 96 true).run Tryd.prog W = .ok (.tuple #[.nilIface, .bool false]) W := run_typeAssert_lacksB Tryd.underlying96 (by decide +kernel) (by kernel_rfl) _ _ _
theorem wr_ta2 (v : Value) (W : World) : (Instr.typeAssert (.iface 52 v) 47 91 true).run Tryd.prog W = .ok (.tuple #[.iface 52 v, .bool true]) W := by kernel_rfl
theorem wr_ta3 (v : Value) (W : World) : (Instr.typeAssert (.iface 58 v) 47 96 true).run Tryd.prog W = .ok (.tuple #[.nilIface, .bool false]) W := run_typeAssert_lacksB Tryd.underlying96 (by decide +kernel) (by kernel_rfl) _ _ _
theorem wr_ta4 (v : Value) (W : World) : (Instr.typeAssert (.iface 58 v) 47 91 true).run Tryd.prog W = .ok (.tuple #[.nilIface, .bool false]) W := run_typeAssert_lacksB Tryd.underlying91 (by decide +kernel) (by kernel_rfl) _ _ _
theorem wr_ta5 (v : Value) (W : World) : (Instr.typeAssert (.iface 58 v) 47 93 true).run Tryd.prog W = .ok (.tuple #[.nilIface, .bool false]) W := run_typeAssert_lacksB Tryd.underlying93 (by decide +kernel) (by kernel_rfl) _ _ _
theorem wr_methodUnwrap (g : Nat) (W : World) : (Go.method 227 52 (.pointer (some ⟨g, 0, none⟩)) "Unwrap").run Tryd.prog W = .ok (70, .pointer (some ⟨g, 0, none⟩)) W := by kernel_rfl
set_option maxHeartbeats 2000000 in
set_option maxRecDepth 100000 in
theorem is_c {w : World} {g : Nat} {pl : Int} {c c' : Int} (hg : w.heap[g]? = some (.cells #[.int .i64 pl, .iface 58 (.int .i64 c)] 54 (0, 0))) :
    Calls Tryd.prog 37 #[.iface 52 (.pointer (some ⟨g, 0, none⟩)), .iface 58 (.int .i64 c')] w fun e w' => e = .returned (.bool (decide (c = c'))) ∧ ∃ q, w' = w.drewN q := by
  have h10 := @run_callFunc_extern Tryd.prog 46 _ ReflectliteType.typeOf Tryd.func46 (by kernel_rfl) (by kernel_rfl) (by kernel_rfl) (by kernel_rfl)
  have h78 := @run_callFunc_extern Tryd.prog 78 _ (ReflectliteType.method fun t => do Rtype.noPackHeld "Comparable" t; pure (.bool (← typeInfo t).comparable)) Tryd.func78 (by kernel_rfl) (by kernel_rfl) (by kernel_rfl) (by kernel_rfl)
  have tO := wr_typeOfF
  have cF := wr_comparableF
  have mC := wr_methodComparable
  have k0 : w.cell? ⟨g, 0, none⟩ = some (.int .i64 pl) := by simp [World.cell?, hg]
  have k1 : w.cell? ⟨g, 1, none⟩ = some (.iface 58 (.int .i64 c)) := by simp [World.cell?, hg]
  have e1 := wr_eq1
  have e2 := wr_eq2
  have t1 := wr_ta1
  have t2 := wr_ta2
  have t3 := wr_ta3
  have t4 := wr_ta4
  have t5 := wr_ta5
  have mU := wr_methodUnwrap
  clear hg
  by_cases hcc : c = c'
  · have hcb : (c == c') = true := beq_iff_eq.mpr hcc
    clear hcc
    go_enter Tryd.func37, Tryd.ntmps37
    go_wp2
    refine wp_loop_rounds 2 ?_
    rw [rounds_succ]
    go_wp2
    rw [rounds_succ]
    go_wp2
    go_ret
    exact ⟨by rw [decide_eq_true (beq_iff_eq.mp hcb)]; rfl, by first | exact ⟨0, rfl⟩ | exact ⟨_, rfl⟩⟩
  · have hcb : (c == c') = false := beq_eq_false_iff_ne.mpr hcc
    clear hcc
    go_enter Tryd.func37, Tryd.ntmps37
    go_wp2
    refine wp_loop_rounds 2 ?_
    rw [rounds_succ]
    go_wp2
    rw [rounds_succ]
    go_wp2
    go_ret
    exact ⟨by rw [decide_eq_false (beq_eq_false_iff_ne.mp hcb)]; rfl, by first | exact ⟨0, rfl⟩ | exact ⟨_, rfl⟩⟩
end Go.Proofs.YthiklbhplhdjmaaDoor.P
/- The wire's reader, walked: End. -/
namespace Go.Proofs.YthiklbhplhdjmaaDoor.P
open Go.RowKit Go.Proofs.YthiklbhplhdjmaaDoorW.PrintWords Go.Proofs.YthiklbhplhdjmaaDoorW.PrintLast Go.Proofs.YthiklbhplhdjmaaDoorW.PrintMore
open Wr
set_option linter.unusedVariables false
set_option linter.unusedSimpArgs false

/-- the one variable of the library's that errors.As reads -/
def EV (w : World) : Prop := w.cell? ⟨0, 0, none⟩ = some (.iface 84 (.agg #[.pointer (some ⟨1, 47, none⟩)]))
theorem EV.pos {w : World} (h : EV w) : 0 < w.heap.size := World.block_lt_of_cell? w _ h
theorem EV.below {w w1 : World} {b : Nat} (h : EV w) (hb : Below b w w1) (h0 : 0 < b) : EV w1 := (hb.cell (p := ⟨0, 0, none⟩) h0).trans h
theorem end_nil {w : World} :
    Calls Tryd.prog 27 #[.pointer none] w fun e w' => e = .returned (.tuple #[.int .i64 1, .int .i64 0]) ∧ ∃ q, w' = w.drewN q := by
  go_enter Tryd.func27, Tryd.ntmps27
  go_wp2
  go_ret2
  exact ⟨rfl, by first | exact ⟨0, rfl⟩ | exact ⟨_, rfl⟩ | exact ⟨_, World.drewN_drewN _ _ _⟩⟩
theorem end_ok {w : World} {B : Nat} {s : ByteArray} {p : Nat} (h : RC w B s p .nilIface) :
    Calls Tryd.prog 27 #[.pointer (some ⟨B, 0, none⟩)] w fun e w' => e = .returned (.tuple #[.int .i64 (if p < s.size then 13 else 0), .int .i64 (p : Int)]) ∧ ∃ q, w' = w.drewN q := by
  obtain ⟨c0, c1, c2, f1, f2⟩ := h.cells
  clear h
  by_cases hlt : p < s.size
  · have d1 : decide (p < s.size) = true := decide_eq_true hlt
    rw [if_pos hlt]
    clear hlt
    go_enter Tryd.func27, Tryd.ntmps27
    go_wp2
    go_quiet (fail)
    go_wp2
    go_quiet (fail)
    go_wp2
    go_ret2
    exact ⟨rfl, by first | exact ⟨0, rfl⟩ | exact ⟨_, rfl⟩ | exact ⟨_, World.drewN_drewN _ _ _⟩⟩
  · have d1 : decide (p < s.size) = false := decide_eq_false hlt
    rw [if_neg hlt]
    clear hlt
    go_enter Tryd.func27, Tryd.ntmps27
    go_wp2
    go_quiet (fail)
    go_wp2
    go_quiet (fail)
    go_wp2
    go_ret2
    exact ⟨rfl, by first | exact ⟨0, rfl⟩ | exact ⟨_, rfl⟩ | exact ⟨_, World.drewN_drewN _ _ _⟩⟩
theorem wr_idx0 (W : World) : (Instr.index 59 (.agg #[.int .i64 10, .int .i64 11]) (.int .i64 0)).run Tryd.prog W = .ok (.int .i64 10) W := by kernel_rfl
theorem wr_idx1 (W : World) : (Instr.index 59 (.agg #[.int .i64 10, .int .i64 11]) (.int .i64 1)).run Tryd.prog W = .ok (.int .i64 11) W := by kernel_rfl
theorem as_c {w : World} (hE : EV w) (g : Nat) :
    Calls Tryd.prog 36 #[.iface 52 (.pointer (some ⟨g, 0, none⟩)), .iface 57 (.pointer (some ⟨w.heap.size, 0, none⟩))] (w.alloc (.cells #[.pointer none] 52)) fun e w' => e = .returned (.bool true) ∧ Below w.heap.size w w' ∧ w'.cell? ⟨w.heap.size, 0, none⟩ = some (.pointer (some ⟨g, 0, none⟩)) := by
  have hp := hE.pos
  have hb : Below w.heap.size w (w.alloc (.cells #[.pointer none] 52)) := (Below.refl _ _).alloc (Nat.le_refl _) _
  have hcell : (w.alloc (.cells #[.pointer none] 52)).heap[w.heap.size]? = some (.cells #[.pointer none] 52 (0, 0)) := Array.getElem?_push_size
  refine (as_hit ⟨g, 0, none⟩ ⟨w.heap.size, 0, none⟩ (.pointer none) _ (hE.below hb hp) (by simp) (by simp only [World.frozen?, hcell]; rfl)).mono ?_
  rintro e w' ⟨rfl, rfl⟩
  refine ⟨rfl, ?_, ?_⟩
  · refine Below.setCell (p := ⟨w.heap.size, 0, none⟩) ?_ (Nat.le_refl _) _
    refine Below.alloc (Below.alloc (Below.alloc (Below.alloc hb ?_ _) ?_ _) ?_ _) ?_ _ <;> simp <;> omega
  · have hs : ∀ (W : World) (v v0 : Value) (t : TypeId), W.heap[w.heap.size]? = some (.cells #[v0] t (0, 0)) → (W.setCell ⟨w.heap.size, 0, none⟩ v).cell? ⟨w.heap.size, 0, none⟩ = some v := by
      intro W v v0 t h
      simp [World.setCell, World.cell?, Array.getElem?_modify, h]
    refine hs _ _ (.pointer none) 52 ?_
    rw [World.heap_alloc_at_lt _ _ _ (by simp; omega), World.heap_alloc_at_lt _ _ _ (by simp; omega), World.heap_alloc_at_lt _ _ _ (by simp; omega), World.heap_alloc_at_lt _ _ _ (by simp)]
    exact Array.getElem?_push_size
theorem is_at {w W : World} {g : Nat} {pl : Int} {c c' : Int} (hg : w.heap[g]? = some (.cells #[.int .i64 pl, .iface 58 (.int .i64 c)] 54 (0, 0))) (e : W.heap = w.heap) :
    Calls Tryd.prog 37 #[.iface 52 (.pointer (some ⟨g, 0, none⟩)), .iface 58 (.int .i64 c')] W fun e w' => e = .returned (.bool (decide (c = c'))) ∧ ∃ q, w' = W.drewN q := is_c (by rw [e]; exact hg)
set_option maxHeartbeats 4000000 in
set_option maxRecDepth 100000 in
theorem end_err {w : World} {B : Nat} {s : ByteArray} {p g pl : Nat} {c : Int} (hE : EV w) (h : RC w B s p (.iface 52 (.pointer (some ⟨g, 0, none⟩)))) (hg : w.heap[g]? = some (.cells #[.int .i64 (pl : Int), .iface 58 (.int .i64 c)] 54 (0, 0))) (hc : c = 10 ∨ c = 11 ∨ c = 12) :
    Calls Tryd.prog 27 #[.pointer (some ⟨B, 0, none⟩)] w fun e w' => e = .returned (.tuple #[.int .i64 c, .int .i64 (pl : Int)]) ∧ Below w.heap.size w w' := by
  obtain ⟨c0, c1, c2, f1, f2⟩ := h.cells
  have hB := h.lt
  have i0 := wr_idx0
  have i1 := wr_idx1
  have HG := Aside0.mk (And.intro hE hg)
  have hglt : g < w.heap.size := by
    rcases Nat.lt_or_ge g w.heap.size with h | h
    · exact h
    · simp [Array.getElem?_eq_none h] at hg
  clear h hg hE
  rcases hc with rfl | rfl | rfl
  all_goals
    go_enter Tryd.func27, Tryd.ntmps27
    go_wp2_with (go_at_call 36; refine (as_c HG.out.1 g).mono ?_; rintro e w1 ⟨rfl, hb, k6⟩; (have hg1 := (hb.block g hglt).trans HG.out.2); (have k7 : w1.cell? ⟨g, 0, none⟩ = some (.int .i64 (pl : Int)) := by simp [World.cell?, hg1]); (have k8 : w1.cell? ⟨B, 2, none⟩ = _ := (hb.cell (p := ⟨B, 2, none⟩) hB).trans c2); (have H1 := Aside0.mk (And.intro hb hg1)); clear hb hg1)
    refine wp_loop_rounds 3 ?_
    rw [rounds_succ]
    go_wp2_with (go_at_call 37; refine (is_at H1.out.2 (by rfl)).mono ?_; rintro e w2 ⟨rfl, q2, rfl⟩)
    rw [rounds_succ]
    go_wp2_with (go_at_call 37; refine (is_at H1.out.2 (by rfl)).mono ?_; rintro e w2 ⟨rfl, q2, rfl⟩)
    rw [rounds_succ]
    go_wp2
    go_ret2
    exact ⟨rfl, by first | exact pw_below_drewN H1.out.1 _ | exact pw_below_drewN (pw_below_drewN H1.out.1 _) _⟩
theorem end_c {w : World} {base B : Nat} {s : ByteArray} {st : St} (hE : EV w) (h : Rd w base B s st) (hok : ∀ pc, st.2 = some pc → pc.2 = 10 ∨ pc.2 = 11 ∨ pc.2 = 12) :
    Calls Tryd.prog 27 #[.pointer (some ⟨B, 0, none⟩)] w fun e w' => e = .returned (.tuple #[.int .i64 (endF (bytesOf s) st).1, .int .i64 (endF (bytesOf s) st).2]) ∧ Below w.heap.size w w' := by
  obtain ⟨p, er⟩ := st
  obtain ⟨h0, ev, h1, h2⟩ := h
  cases er with
  | none =>
    obtain rfl : ev = .nilIface := h2
    refine (end_ok h1).mono ?_
    rintro e w' ⟨rfl, q, rfl⟩
    refine ⟨?_, pw_below_drewN (Below.refl _ _) q⟩
    simp only [endF, bytesOf_length]
    split <;> rfl
  | some pc =>
    obtain ⟨pl, c⟩ := pc
    obtain ⟨g, rfl, -, -, hg⟩ := h2
    exact end_err hE h1 hg (hok (pl, c) rfl)
end Go.Proofs.YthiklbhplhdjmaaDoor.P
/- Values of printed functions: general words, and Same. (Cut out of ElimV for the other layers.) -/
namespace Go.Proofs.YthiklbhplhdjmaaDoor.P
open Go.RowKit Go.Proofs.YthiklbhplhdjmaaDoorW.PrintWords Go.Proofs.YthiklbhplhdjmaaDoorW.PrintLast Go.Proofs.YthiklbhplhdjmaaDoorW.PrintMore
set_option linter.unusedVariables false
set_option linter.unusedSimpArgs false

theorem Ev.ifp {α : Type} {c : Prop} [Decidable c] {g f : Nat → Option α} {r : α} (h : c) (e : Ev g r) : Ev (fun n => if c then g n else f n) r := by
  simp only [if_pos h]; exact e
theorem Ev.ifn {α : Type} {c : Prop} [Decidable c] {g f : Nat → Option α} {r : α} (h : ¬ c) (e : Ev f r) : Ev (fun n => if c then g n else f n) r := by
  simp only [if_neg h]; exact e
theorem Ev.val {α : Type} {r t : α} (h : r = t) : Ev (fun _ => some r) t := by subst h; exact Ev.now r
theorem rd_at {l : List Int} {i : Nat} (h : i < l.length) : rd l (i : Int) = l[i] := by simp [rd, List.getD_eq_getElem?_getD, List.getElem?_eq_getElem h]
theorem w1 {i : Nat} {n : Nat} (h : i < n) (hn : n ≤ 1000000) : wrap64 ((i : Int) + 1) = ((i + 1 : Nat) : Int) := by unfold wrap64; omega

end Go.Proofs.YthiklbhplhdjmaaDoor.P
/- What the wire's writers come to: Num, Int, and the document's, likewise. -/
namespace Go.Proofs.YthiklbhplhdjmaaDoor.P
open Go.RowKit Go.Proofs.YthiklbhplhdjmaaDoorW.PrintWords Go.Proofs.YthiklbhplhdjmaaDoorW.PrintLast Go.Proofs.YthiklbhplhdjmaaDoorW.PrintMore
open Wr
set_option linter.unusedVariables false
set_option linter.unusedSimpArgs false

theorem sn_app (a b : List Int) : strOfNums a ++ strOfNums b = strOfNums (a ++ b) := by
  apply ByteArray.ext
  rw [ByteArray.data_append]
  simp [strOfNums]
theorem sn_toList (a : List Int) : (strOfNums a).toList = [] ↔ a = [] := by
  rw [Lib.toList_data]
  simp [strOfNums]
theorem wnum_l0 : ∀ (n : Nat) (acc : List Int), (n : Int) ≤ MX → acc.length + (vb n).length ≤ 1000 → Ev (fun k => wire_Num.l0 k (n : Int) acc) (strOfNums (acc ++ vb n)) := by
  intro n
  induction n using Nat.strongRecOn with
  | ind n ih =>
    intro acc hn hl
    simp only [MX] at hn
    have hv := vb_len_pos n
    refine Ev.step (fun k => by rw [wire_Num.l0]) ?_
    by_cases h : n < 128
    · refine Ev.ifn (by omega) (Ev.ifp (by omega) (Ev.val ?_))
      rw [vb_lo h, show ((n : Int) % 256) = (n : Int) by omega]
    · refine Ev.ifp (by omega) (Ev.ifp (by omega) ?_)
      have e : (wrap64 (Int.tmod (n : Int) 128 + 128)) % 256 = ((n % 128 + 128 : Nat) : Int) := by
        rw [Int.tmod_eq_emod_of_nonneg (by omega)]
        unfold wrap64
        omega
      rw [e, show ((n : Int) / 128) = ((n / 128 : Nat) : Int) by omega]
      have hv2 : (vb n).length = (vb (n / 128)).length + 1 := by rw [vb_hi h]; rfl
      have := ih (n / 128) (by omega) (acc ++ [((n % 128 + 128 : Nat) : Int)]) (by simp only [MX]; omega) (by rw [List.length_append, List.length_singleton]; omega)
      rw [vb_hi h]
      simpa using this
theorem wnum_ev (n : Int) : Ev (fun k => wire_Num.f k n) (strOfNums (encN n)) := by
  unfold wire_Num.f
  by_cases h0 : n < 0
  · refine Ev.ifp h0 (Ev.step (fun k => by rw [wire_Num.j0]) (Ev.ifp rfl (Ev.val ?_)))
    rw [encN_nil.2 (.inl h0)]; rfl
  · refine Ev.ifn h0 (Ev.step (fun k => by rw [wire_Num.j0]) ?_)
    by_cases h1 : n > 1125899906842624
    · refine Ev.ifp (decide_eq_true h1) (Ev.val ?_)
      rw [encN_nil.2 (.inr h1)]; rfl
    · refine Ev.ifn (by simpa using h1) ?_
      obtain ⟨m, rfl⟩ : ∃ m : Nat, n = (m : Int) := ⟨n.toNat, by omega⟩
      have hm : (m : Int) ≤ MX := by simp only [MX]; omega
      rw [encN_nat hm]
      have := wnum_l0 m [] hm (by have := vb_len8 hm; simp; omega)
      simpa using this
theorem wint_ev (n : Int) : Ev (fun k => wire_Int.f k n) (strOfNums (encI n)) := by
  unfold wire_Int.f encI
  by_cases h0 : n < -1125899906842624
  · rw [if_pos (.inl h0)]
    refine Ev.ifp h0 (Ev.step (fun k => by rw [wire_Int.j0]) ?_)
    exact Ev.ifp rfl (Ev.val rfl)
  · refine Ev.ifn h0 (Ev.step (fun k => by rw [wire_Int.j0]) ?_)
    by_cases h1 : n > 1125899906842624
    · rw [if_pos (.inr h1)]
      exact Ev.ifp (decide_eq_true h1) (Ev.val rfl)
    · rw [if_neg (by simp only [MX]; omega)]
      refine Ev.ifn (by simpa using h1) ?_
      by_cases h2 : n < 0
      · refine Ev.ifp h2 ?_
        rw [if_pos h2, show wrap64 (wrap64 (-2 * n) - 1) = -2 * n - 1 by unfold wrap64; omega]
        exact Ev.bind (wnum_ev _) (Ev.val rfl)
      · refine Ev.ifn h2 ?_
        rw [if_neg h2, show wrap64 (2 * n) = 2 * n by unfold wrap64; omega]
        exact Ev.bind (wnum_ev _) (Ev.val rfl)
theorem encN_len (n : Int) : (encN n).length ≤ 8 := by
  by_cases h : n < 0 ∨ n > MX
  · rw [encN_nil.2 h]; simp
  · rw [encN_in (by omega) (by omega)]
    exact vb_len8 (by omega)
theorem encI_len (n : Int) : (encI n).length ≤ 8 := by
  unfold encI
  split
  · simp
  · split <;> exact encN_len _
/-- contracts with closed values -/
theorem wnum_c (n : Int) (w : World) : Calls Tryd.prog 14 #[.int .i64 n] w fun e w' => e = .returned (.string (strOfNums (encN n))) ∧ Below w.heap.size w w' := by
  obtain ⟨k, hk⟩ := (wnum_ev n).rounds
  exact wire_Num.calls k n _ w hk
theorem wint_c (n : Int) (w : World) : Calls Tryd.prog 16 #[.int .i64 n] w fun e w' => e = .returned (.string (strOfNums (encI n))) ∧ Below w.heap.size w w' := by
  obtain ⟨k, hk⟩ := (wint_ev n).rounds
  exact wire_Int.calls k n _ w hk
end Go.Proofs.YthiklbhplhdjmaaDoor.P
/-
  DERIVED: THE SHELF's CONTRACTS AT THIS DUMP, IN PLAIN WORDS (tools/lay-plain.mjs out of 'YthiklbhplhdjmaaDoorShelf.lean', which tools/lay-shelf.mjs wrote): THE SAME DECLARATIONS UNDER THE SAME NAMES: 'import', 'namespace', 'open', 'def', 'theorem' AND NOTHING ELSE: no command of the shelf's: FOR A HAND-IN. Each laying: the table of numbers ('.._ren') and one theorem, a field a fact of the dump's own or the kernel's comparison; each contract: ONE APPLICATION.
-/
namespace Go.Proofs
open Go.Shelf
def Tryd.lays169_ren : Go.Shelf.Ren := ⟨fun | 169 => 41 | n => n, fun | 70 => 63 | 9 => 9 | 0 => 0 | 72 => 65 | 37 => 39 | 127 => 82 | 3 => 3 | 5 => 5 | n => n, fun | n => n⟩
theorem Tryd.lays169 : Go.Proofs.Lays.n169 Tryd.prog Tryd.lays169_ren := {
  mixed := by kernel_rfl
  f169 := Tryd.func41.trans (congrArg some (by kernel_rfl))
  t0 := Tryd.underlying0
  a0 := Tryd.isAgg0
  z0 := Tryd.sizeOf0
  v0 := Tryd.zeroValue0
  t3 := Tryd.underlying3
  a3 := Tryd.isAgg3
  z3 := Tryd.sizeOf3
  v3 := Tryd.zeroValue3
  t9 := Tryd.underlying9
  a9 := Tryd.isAgg9
  z9 := Tryd.sizeOf9
  v9 := Tryd.zeroValue9
  t37 := Tryd.underlying39
  a37 := Tryd.isAgg39
  z37 := Tryd.sizeOf39
  v37 := Tryd.zeroValue39
  t70 := Tryd.underlying63
  a70 := Tryd.isAgg63
  z70 := Tryd.sizeOf63
  v70 := Tryd.zeroValue63
  t72 := Tryd.underlying65
  a72 := Tryd.isAgg65
  z72 := Tryd.sizeOf65
  v72 := Tryd.zeroValue65
  t127 := Tryd.underlying82
  a127 := Tryd.isAgg82
  z127 := Tryd.sizeOf82
  v127 := Tryd.zeroValue82 }
theorem Tryd.Builder_Extra_169 : Builder.Extra Tryd.prog Tryd.lays169_ren := {
  sizeBuilder := by kernel_rfl
  liesBuilder := by kernel_rfl
  t5 := Tryd.underlying5
  a5 := Tryd.isAgg5
  z5 := Tryd.sizeOf5
  v5 := Tryd.zeroValue5
  infoByte := by kernel_rfl
  cellsByte := by kernel_rfl
  sizeByte := by kernel_rfl
  neB5 := by decide }
open Go.RowKit in
/-- (*strings.Builder).String: "String returns the accumulated string.": WHATEVER THE BUILDER HOLDS. (LAID: no walk: one application.) -/
theorem Tryd.Builder_String_any (B b : Nat) (l : List UInt8) (w : World) (h : Lib.IsBuilder 65 5 B b (Lib.byteCells l) w) (hBw : B ≤ w.heap.size) :
    Calls Tryd.prog 41 #[.pointer (some ⟨b, 0, none⟩)] w fun e w' => e = .returned (.string ⟨l.toArray⟩) ∧ Below B w w' := Any.Builder_String_any Tryd.lays169 Tryd.Builder_Extra_169 B b l w h hBw
end Go.Proofs
/- wire.all, Nums, Ints: lists written. -/
namespace Go.Proofs.YthiklbhplhdjmaaDoor.P
open Go.RowKit Go.Proofs.YthiklbhplhdjmaaDoorW.PrintWords Go.Proofs.YthiklbhplhdjmaaDoorW.PrintLast Go.Proofs.YthiklbhplhdjmaaDoorW.PrintMore
open Wr
set_option linter.unusedVariables false
set_option linter.unusedSimpArgs false
theorem C_at {W : World} {A : Option Addr} {l : List Int} (h : Kd.C (Kd.int .i64) W A l.length l) {i : Nat} (hi : i < l.length) : ∃ ad, A = some ad ∧ W.cell? (ad.add i) = some (.int .i64 (rd l (i : Int))) := by
  obtain ⟨ad, e, hx⟩ := Kd.at_int h (i : Int) (by omega) (by omega)
  exact ⟨ad, e, by simpa using hx⟩
theorem strCells_sn (a b : List Int) : Lib.strCells (strOfNums a) ++ Lib.strCells (strOfNums b) = Lib.strCells (strOfNums (a ++ b)) := by simp [Lib.strCells, strOfNums]
theorem _root_.Go.Lib.BuilderAt.below {T e : TypeId} {B b : Nat} {p : Value} {bs : List Value} {w w1 : World} (h : Lib.BuilderAt T e B b p bs w) (hb : Below w.heap.size w w1) : Lib.BuilderAt T e B b p bs w1 := by
  have hlt := h.lt
  obtain ⟨h1, v, h2, h3, h4⟩ := h
  exact ⟨h1, v, (hb.block b hlt).trans h2, own_move h3 (fun k hk => hb.block k (own_lt h3 k hk)), h4⟩
theorem _root_.Go.Lib.IsBuilder.below {T e : TypeId} {B b : Nat} {bs : List Value} {w w1 : World} (h : Lib.IsBuilder T e B b bs w) (hb : Below w.heap.size w w1) : Lib.IsBuilder T e B b bs w1 := by
  rcases h with h | h
  · exact .inl (h.below hb)
  · exact .inr (h.below hb)

set_option maxHeartbeats 4000000 in
set_option maxRecDepth 100000 in
theorem all_num {w : World} {A0 : Option Addr} {c0 : Nat} {l0 : List Int} (hr0 : Kd.C (Kd.int .i64) w A0 l0.length l0) (hl : l0.length ≤ 1000000) :
    Calls Tryd.prog 33 #[.slice A0 l0.length c0, .func (Fn.func 14) #[] #[]] w fun e w' => e = .returned (.string (strOfNums (encL encN l0))) ∧ Below w.heap.size w w' := by
  have HR0 := Aside0.mk hr0
  have HL := Aside0.mk hl
  clear hr0 hl
  have hfr := Lib.fresh_isBuilder 65 5 w
  have hb0 : Below w.heap.size w (w.alloc (.cells #[.pointer none, .slice none 0 0] 65)) := (Below.refl _ _).alloc (Nat.le_refl _) _
  have HF := Aside0.mk (And.intro hfr hb0)
  clear hfr hb0
  go_enter Tryd.func33, Tryd.ntmps33
  go_wp2_with (first
    | (go_at_call 14; refine (wnum_c _ _).mono ?_; rintro e w1 ⟨rfl, hb⟩; (have H1 := Aside0.mk (And.intro (HF.out.1.below hb) (below_step HF.out.2 hb))); clear hb)
    | (go_at_call 40; refine (bwrite_c w.heap.size w.heap.size [] _ _ H1.out.1 (by have := encN_len (l0.length : Int); rw [strOfNums_size]; simp; omega) H1.out.2.size).mono ?_; rintro e w2 ⟨rfl, hbd, hb⟩; rw [List.nil_append] at hbd; (have H2 := Aside0.mk (And.intro hbd (H1.out.2.trans hb))); clear hbd hb))
  go_loopw [15] (fun v15 wr => ∃ (i : Nat) (acc : List Int), i ≤ l0.length ∧ v15 = .int .i64 (i : Int) ∧ Aside0 (Lib.BuilderAt 65 5 w.heap.size w.heap.size (.pointer (some ⟨w.heap.size, 0, none⟩)) (Lib.strCells (strOfNums acc)) wr ∧ Below w.heap.size w wr) ∧ Aside0 (acc.length ≤ 8 * (i + 1) ∧ encL encN l0 = encA encN acc (l0.drop i))) (fun v15 _ => (l0.length - (RowKit.intOf v15).toNat))
  case atStart => exact ⟨0, _, Nat.zero_le _, rfl, H2, ⟨by have := encN_len (l0.length : Int); omega, by rw [List.drop_zero]; rfl⟩⟩
  case round =>
    obtain ⟨i, acc, hi, rfl, HR, HT⟩ := hrel
    by_cases hlt : i < l0.length
    · obtain ⟨ad, rfl, hx⟩ := C_at HR0.out hlt
      replace hx := (HR.out.2.cell (World.block_lt_of_cell? w _ hx)).trans hx
      obtain ⟨x, hxx⟩ : ∃ x, x = rd l0 (i : Int) := ⟨_, rfl⟩
      rw [← hxx] at hx
      have he := HT.out.2
      rw [List.drop_eq_getElem_cons hlt, encA, ← rd_at hlt, ← hxx] at he
      have hi100 : i < 1000000 := by have := HL.out; omega
      have hlen8 := encN_len x
      have H8 := Aside0.mk hlen8
      clear hxx hlen8
      by_cases hz : encN x = []
      · rw [if_pos hz] at he
        have HE := Aside0.mk he
        have hzz : strOfNums (encN x) = (⟨#[]⟩ : ByteArray) := by rw [hz]; rfl
        clear he hz
        go_wp2_with (go_at_call 14; refine (wnum_c _ _).mono ?_; rintro e w3 ⟨rfl, hb⟩; (have H3 := Aside0.mk (below_step HR.out.2 hb)); clear hb)
        go_ret
        rw [HE.out]
        exact ⟨rfl, H3.out⟩
      · rw [if_neg hz] at he
        have HE := Aside0.mk he
        have hz1 : (strOfNums (encN x)).toList ≠ [] := fun h => hz ((sn_toList _).1 h)
        have hz2 : (strOfNums (encN x)).toList.isEmpty = false := by simpa using hz1
        have hz3 : (!(strOfNums (encN x)).toList.isEmpty) = true := by rw [hz2]; rfl
        clear he hz
        go_wp2_with (first
          | (go_at_call 14; refine (wnum_c _ _).mono ?_; rintro e w3 ⟨rfl, hb⟩; (have H3 := Aside0.mk (And.intro (HR.out.1.below hb) (below_step HR.out.2 hb))); clear hb)
          | (go_at_call 40; refine (bwrite_c w.heap.size w.heap.size _ _ _ (.inr H3.out.1) (by have := HT.out.1; have := H8.out; rw [Lib.strCells_length, strOfNums_size, strOfNums_size]; omega) H3.out.2.size).mono ?_; rintro e w4 ⟨rfl, hbd, hb⟩; rw [strCells_sn] at hbd; (have H4 := Aside0.mk (And.intro hbd (H3.out.2.trans hb))); clear hbd hb))
        go_roundw
        case rel => exact ⟨i + 1, _, by omega, by go_num, H4, ⟨by have := HT.out.1; have := H8.out; rw [List.length_append]; omega, HE.out⟩⟩
        case measure => simp [RowKit.intOf]; omega
    · have he := HT.out.2
      rw [List.drop_eq_nil_of_le (by omega), encA] at he
      have HE := Aside0.mk he
      clear he
      go_wp2_with (go_at_call 41; refine (Tryd.Builder_String_any w.heap.size w.heap.size (strOfNums acc).data.toList _ (.inr HR.out.1) HR.out.2.size).mono ?_; rintro e w5 ⟨rfl, hb⟩; (have H5 := Aside0.mk (HR.out.2.trans hb)); clear hb)
      go_ret
      rw [HE.out]
      exact ⟨rfl, H5.out⟩

set_option maxHeartbeats 4000000 in
set_option maxRecDepth 100000 in
theorem all_int {w : World} {A0 : Option Addr} {c0 : Nat} {l0 : List Int} (hr0 : Kd.C (Kd.int .i64) w A0 l0.length l0) (hl : l0.length ≤ 1000000) :
    Calls Tryd.prog 33 #[.slice A0 l0.length c0, .func (Fn.func 16) #[] #[]] w fun e w' => e = .returned (.string (strOfNums (encL encI l0))) ∧ Below w.heap.size w w' := by
  have HR0 := Aside0.mk hr0
  have HL := Aside0.mk hl
  clear hr0 hl
  have hfr := Lib.fresh_isBuilder 65 5 w
  have hb0 : Below w.heap.size w (w.alloc (.cells #[.pointer none, .slice none 0 0] 65)) := (Below.refl _ _).alloc (Nat.le_refl _) _
  have HF := Aside0.mk (And.intro hfr hb0)
  clear hfr hb0
  go_enter Tryd.func33, Tryd.ntmps33
  go_wp2_with (first
    | (go_at_call 14; refine (wnum_c _ _).mono ?_; rintro e w1 ⟨rfl, hb⟩; (have H1 := Aside0.mk (And.intro (HF.out.1.below hb) (below_step HF.out.2 hb))); clear hb)
    | (go_at_call 40; refine (bwrite_c w.heap.size w.heap.size [] _ _ H1.out.1 (by have := encN_len (l0.length : Int); rw [strOfNums_size]; simp; omega) H1.out.2.size).mono ?_; rintro e w2 ⟨rfl, hbd, hb⟩; rw [List.nil_append] at hbd; (have H2 := Aside0.mk (And.intro hbd (H1.out.2.trans hb))); clear hbd hb))
  go_loopw [15] (fun v15 wr => ∃ (i : Nat) (acc : List Int), i ≤ l0.length ∧ v15 = .int .i64 (i : Int) ∧ Aside0 (Lib.BuilderAt 65 5 w.heap.size w.heap.size (.pointer (some ⟨w.heap.size, 0, none⟩)) (Lib.strCells (strOfNums acc)) wr ∧ Below w.heap.size w wr) ∧ Aside0 (acc.length ≤ 8 * (i + 1) ∧ encL encI l0 = encA encI acc (l0.drop i))) (fun v15 _ => (l0.length - (RowKit.intOf v15).toNat))
  case atStart => exact ⟨0, _, Nat.zero_le _, rfl, H2, ⟨by have := encN_len (l0.length : Int); omega, by rw [List.drop_zero]; rfl⟩⟩
  case round =>
    obtain ⟨i, acc, hi, rfl, HR, HT⟩ := hrel
    by_cases hlt : i < l0.length
    · obtain ⟨ad, rfl, hx⟩ := C_at HR0.out hlt
      replace hx := (HR.out.2.cell (World.block_lt_of_cell? w _ hx)).trans hx
      obtain ⟨x, hxx⟩ : ∃ x, x = rd l0 (i : Int) := ⟨_, rfl⟩
      rw [← hxx] at hx
      have he := HT.out.2
      rw [List.drop_eq_getElem_cons hlt, encA, ← rd_at hlt, ← hxx] at he
      have hi100 : i < 1000000 := by have := HL.out; omega
      have hlen8 := encI_len x
      have H8 := Aside0.mk hlen8
      clear hxx hlen8
      by_cases hz : encI x = []
      · rw [if_pos hz] at he
        have HE := Aside0.mk he
        have hzz : strOfNums (encI x) = (⟨#[]⟩ : ByteArray) := by rw [hz]; rfl
        clear he hz
        go_wp2_with (go_at_call 16; refine (wint_c _ _).mono ?_; rintro e w3 ⟨rfl, hb⟩; (have H3 := Aside0.mk (below_step HR.out.2 hb)); clear hb)
        go_ret
        rw [HE.out]
        exact ⟨rfl, H3.out⟩
      · rw [if_neg hz] at he
        have HE := Aside0.mk he
        have hz1 : (strOfNums (encI x)).toList ≠ [] := fun h => hz ((sn_toList _).1 h)
        have hz2 : (strOfNums (encI x)).toList.isEmpty = false := by simpa using hz1
        have hz3 : (!(strOfNums (encI x)).toList.isEmpty) = true := by rw [hz2]; rfl
        clear he hz
        go_wp2_with (first
          | (go_at_call 16; refine (wint_c _ _).mono ?_; rintro e w3 ⟨rfl, hb⟩; (have H3 := Aside0.mk (And.intro (HR.out.1.below hb) (below_step HR.out.2 hb))); clear hb)
          | (go_at_call 40; refine (bwrite_c w.heap.size w.heap.size _ _ _ (.inr H3.out.1) (by have := HT.out.1; have := H8.out; rw [Lib.strCells_length, strOfNums_size, strOfNums_size]; omega) H3.out.2.size).mono ?_; rintro e w4 ⟨rfl, hbd, hb⟩; rw [strCells_sn] at hbd; (have H4 := Aside0.mk (And.intro hbd (H3.out.2.trans hb))); clear hbd hb))
        go_roundw
        case rel => exact ⟨i + 1, _, by omega, by go_num, H4, ⟨by have := HT.out.1; have := H8.out; rw [List.length_append]; omega, HE.out⟩⟩
        case measure => simp [RowKit.intOf]; omega
    · have he := HT.out.2
      rw [List.drop_eq_nil_of_le (by omega), encA] at he
      have HE := Aside0.mk he
      clear he
      go_wp2_with (go_at_call 41; refine (Tryd.Builder_String_any w.heap.size w.heap.size (strOfNums acc).data.toList _ (.inr HR.out.1) HR.out.2.size).mono ?_; rintro e w5 ⟨rfl, hb⟩; (have H5 := Aside0.mk (HR.out.2.trans hb)); clear hb)
      go_ret
      rw [HE.out]
      exact ⟨rfl, H5.out⟩
theorem wnums_c {w : World} {A0 : Option Addr} {c0 : Nat} {l0 : List Int} (hr0 : Kd.C (Kd.int .i64) w A0 l0.length l0) (hl : l0.length ≤ 1000000) :
    Calls Tryd.prog 18 #[.slice A0 l0.length c0] w fun e w' => e = .returned (.string (strOfNums (encL encN l0))) ∧ Below w.heap.size w w' := by
  have H := Aside0.mk (all_num (c0 := c0) hr0 hl)
  clear hr0 hl
  go_enter Tryd.func18, Tryd.ntmps18
  go_wp2_with (go_at_call 33; refine H.out.mono ?_; rintro e w1 ⟨rfl, h1⟩; (have H1 := Aside0.mk h1); clear h1)
  go_ret
  exact ⟨rfl, H1.out⟩
theorem wints_c {w : World} {A0 : Option Addr} {c0 : Nat} {l0 : List Int} (hr0 : Kd.C (Kd.int .i64) w A0 l0.length l0) (hl : l0.length ≤ 1000000) :
    Calls Tryd.prog 20 #[.slice A0 l0.length c0] w fun e w' => e = .returned (.string (strOfNums (encL encI l0))) ∧ Below w.heap.size w w' := by
  have H := Aside0.mk (all_int (c0 := c0) hr0 hl)
  clear hr0 hl
  go_enter Tryd.func20, Tryd.ntmps20
  go_wp2_with (go_at_call 33; refine H.out.mono ?_; rintro e w1 ⟨rfl, h1⟩; (have H1 := Aside0.mk h1); clear h1)
  go_ret
  exact ⟨rfl, H1.out⟩
end Go.Proofs.YthiklbhplhdjmaaDoor.P
/- Layer 1's fixed calls, walked. -/
namespace Go.Proofs.YthiklbhplhdjmaaDoor.P
open Go.RowKit Go.Proofs.YthiklbhplhdjmaaDoorW.PrintWords Go.Proofs.YthiklbhplhdjmaaDoorW.PrintLast Go.Proofs.YthiklbhplhdjmaaDoorW.PrintMore
open Wr
set_option linter.unusedVariables false
set_option linter.unusedSimpArgs false

theorem lit_R (W : World) (base : Nat) (xs : List Int) (hb : base ≤ W.heap.size) (hm : xs.length ≤ 9223372036854775807) : (Kd.int .i64).R 3 (W.alloc (.cells (nums .i64 xs).toArray 3)) base (fun _ => True) (.slice (some ⟨W.heap.size, 0, none⟩) xs.length xs.length) xs :=
  Kd.R_of_own (own_lit W base 3 .i64 xs hb hm) (fun _ _ => trivial)
theorem lit_C (W : World) (xs : List Int) (hm : xs.length ≤ 9223372036854775807) : (Kd.int .i64).C (W.alloc (.cells (nums .i64 xs).toArray 3)) (some ⟨W.heap.size, 0, none⟩) xs.length xs :=
  (Kd.R_reads' (lit_R W 0 xs (Nat.zero_le _) hm)).2.2
theorem vb300 : vb 300 = [172, 2] := by rw [vb_hi (by decide), vb_lo (by decide)]; rfl
theorem fxs1 : strOfNums (encN 300) = ⟨#[172, 2]⟩ := by rw [show encN 300 = vb 300 from encN_nat (n := 300) (by decide), vb300]; rfl
theorem vlo (n : Nat) (h : n < 128) : encN (n : Int) = [(n : Int)] := by rw [encN_nat (by simp only [MX]; omega), vb_lo h]
theorem fxs2 : strOfNums (encI (-1)) = ⟨#[1]⟩ := by rw [show encI (-1) = encN ((1 : Nat) : Int) from rfl, vlo 1 (by decide)]; rfl
theorem fxs3 : strOfNums (encL encI [5, -5]) = ⟨#[2, 10, 9]⟩ := by
  have h1 : encI 5 = [10] := by rw [show encI 5 = encN ((10 : Nat) : Int) from rfl, vlo 10 (by decide)]; rfl
  have h2 : encI (-5) = [9] := by rw [show encI (-5) = encN ((9 : Nat) : Int) from rfl, vlo 9 (by decide)]; rfl
  have h3 : encN (([5, -5] : List Int).length : Int) = [2] := by rw [show ((([5, -5] : List Int).length : Nat) : Int) = ((2 : Nat) : Int) from rfl, vlo 2 (by decide)]; rfl
  simp only [encL, encA, h1, h2, h3]
  rfl
theorem fxs4 : strOfNums (encL encN [1, 2, 3]) = ⟨#[3, 1, 2, 3]⟩ := by
  have h1 : encN 1 = [1] := vlo 1 (by decide)
  have h2 : encN 2 = [2] := vlo 2 (by decide)
  have h4 : encN 3 = [3] := vlo 3 (by decide)
  have h3 : encN (([1, 2, 3] : List Int).length : Int) = [3] := vlo 3 (by decide)
  simp only [encL, encA, h1, h2, h3, h4]
  rfl
def fxb : ByteArray := ⟨#[172, 2, 1, 2, 10, 9, 128, 0]⟩
def fxc : ByteArray := ⟨#[3, 1, 2, 3]⟩
theorem fxn1 : numF (bytesOf fxb) (0, none) = (300, (2, none)) := by decide +kernel
theorem fxn2 : intF (bytesOf fxb) (2, none) = (-1, (3, none)) := by decide +kernel
theorem fxn3 : listF (bytesOf fxb) (intF (bytesOf fxb)) 2 (3, none) = ([5, -5], (6, none)) := by decide +kernel
theorem fxn4 : numF (bytesOf fxb) (6, none) = (0, (6, some (6, 11))) := by decide +kernel
theorem fxn5 : listF (bytesOf fxc) (numF (bytesOf fxc)) 2 (0, none) = ([], (1, some (0, 12))) := by decide +kernel
theorem fxb_eq : (({ data := #[172, 2] } ++ { data := #[1] } ++ { data := #[2, 10, 9] } ++ { data := #[128, 0] }) : ByteArray) = fxb := by decide +kernel
theorem fxs0 : strOfNums (encN (-1)) = ⟨#[]⟩ := by rw [encN_nil.2 (.inl (by decide))]; rfl
set_option maxHeartbeats 8000000 in
set_option maxRecDepth 100000 in
theorem fix1 (w : World) (hE : EV w) : Calls Tryd.prog 10 #[] w fun e w' => e = .returned (.bool true) ∧ Below w.heap.size w w' := by
  have HE := Aside0.mk hE
  clear hE
  go_enter Tryd.func10, Tryd.ntmps10
  go_wp2_with (first
    | (go_at_call 23; (have z := H17.out); clear z; refine (num_nil).mono ?_; rintro e w18 ⟨rfl, q18, hw⟩; have H18 := Aside0.mk (show Below w.heap.size w w18 by rw [hw]; exact pw_below_drewN H17.out _); clear hw)
    | (go_at_call 11; (have z := H16.out); clear z; refine (greenwoodref01_Same.calls 10 A6 c6 [5, -5] (some ⟨w16.heap.size, 0, none⟩) 2 [5, -5] true _ (Kd.C_alloc (Kd.R_reads' H16.out.2).2.2 _) (Kd.R_reads' H16.out.2).2.1 (lit_C w16 [5, -5] (by decide)) (by decide) (by decide +kernel)).mono ?_; rintro e w17 ⟨rfl, hd⟩; have H17 := Aside0.mk (show Below w.heap.size w w17 from (below_alloc H16.out.1 _).trans (hd.below.mono (by have := H16.out.1.size; simp; omega))); clear hd)
    | (go_at_call 14; (have z := H15.out); clear z; refine (wnum_c _ _).mono ?_; rintro e w16 ⟨rfl, hb⟩; rw [fxs0]; (have hl := Kd.R_below H15.out.2 hb); have H16 := Aside0.mk (And.intro (below_step H15.out.1 hb) hl); clear hb hl)
    | (go_at_call 16; (have z := H14.out); clear z; refine (wint_c _ _).mono ?_; rintro e w15 ⟨rfl, hb⟩; rw [fxs2]; (have hl := Kd.R_below H14.out.2 hb); have H15 := Aside0.mk (And.intro (below_step H14.out.1 hb) hl); clear hb hl)
    | (go_at_call 14; (have z := H13.out); clear z; refine (wnum_c _ _).mono ?_; rintro e w14 ⟨rfl, hb⟩; rw [fxs1]; (have hl := Kd.R_below H13.out.2 hb); have H14 := Aside0.mk (And.intro (below_step H13.out.1 hb) hl); clear hb hl)
    | (go_at_call 27; (have z := H12.out); clear z; refine (end_nil).mono ?_; rintro e w13 ⟨rfl, q13, hw⟩; have H13 := Aside0.mk (show Below w.heap.size w w13 ∧ (Kd.int .i64).R 3 w13 w.heap.size (fun k => k ≠ B2) (.slice A6 2 c6) [5, -5] by rw [hw]; exact ⟨pw_below_drewN H12.out.1 _, Kd.R_drewN H12.out.2 _⟩); clear hw)
    | (go_at_call 27; (have z := H11.out); clear z; refine (end_c (HE.out.below H11.out.1 HE.out.pos) H11.out.2.1 (fun pc h => by obtain rfl := Option.some.inj h; exact .inr (.inr rfl))).mono ?_; rintro e w12 ⟨rfl, hb⟩; simp only [endF]; (have hl := Kd.R_below H11.out.2.2 hb); have H12 := Aside0.mk (And.intro (below_step H11.out.1 hb) hl); clear hb hl)
    | (go_at_call 25; (have z := H10.out); clear z; (have hc := nums_c 2 H10.out.2.1 (by decide) (by decide) H10.out.1.size); rw [fxn5] at hc; refine hc.mono ?_; rintro e w11 ⟨v11, rfl, hl, hr, hg⟩; (obtain ⟨A11, c11, hv11⟩ := Kd.R_slice hl); (have hv11' : v11 = .slice A11 0 c11 := hv11); subst hv11'; (have hl2 := Kd.R_grown H10.out.2.2 hg (fun k hk e => hk (Option.some.inj e))); have H11 := Aside0.mk (And.intro (H10.out.1.trans (grown_below H10.out.2.1 H10.out.1.size hg)) (And.intro hr hl2)); clear hc hr hg hl hl2 hv11)
    | (go_at_call 22; (have z := H9.out); clear z; refine (read_c (base := w.heap.size) H9.out.1.size fxc).mono ?_; rintro e w10 ⟨rfl, hr, hb⟩; (obtain ⟨B2, hB2⟩ : ∃ B2, B2 = w9.heap.size := ⟨_, rfl⟩); (have hl : (Kd.int .i64).R 3 w10 w.heap.size (fun k => k ≠ B2) (.slice A6 2 c6) [5, -5] := Kd.R_mono (Kd.R_below (Kd.R_bound H9.out.2) hb) (fun k hk => by have := hk.2.2.1; omega)); rw [← hB2] at hr ⊢; have H10 := Aside0.mk (And.intro (below_step H9.out.1 hb) (And.intro hr hl)); clear hb hr hl hB2)
    | (go_at_call 18; (have z := H8.out); clear z; (have hC := lit_C w8 [1, 2, 3] (by decide)); refine (wnums_c (c0 := 3) (l0 := [1, 2, 3]) hC (by decide)).mono ?_; rintro e w9 ⟨rfl, hb⟩; rw [fxs4]; (have hl := Kd.R_below (Kd.R_alloc H8.out.2 _) hb); have H9 := Aside0.mk (And.intro (below_step (below_alloc H8.out.1 _) hb) hl); clear hb hC hl)
    | (go_at_call 27; (have z := H7.out); clear z; refine (end_c (HE.out.below H7.out.1 HE.out.pos) H7.out.2.1 (fun pc h => by obtain rfl := Option.some.inj h; exact .inr (.inl rfl))).mono ?_; rintro e w8 ⟨rfl, hb⟩; simp only [endF]; (have hl := Kd.R_below H7.out.2.2 hb); have H8 := Aside0.mk (And.intro (below_step H7.out.1 hb) hl); clear hb hl)
    | (go_at_call 23; (have z := H6.out); clear z; (have hc := num_c H6.out.2.1 (by decide) (by decide)); rw [fxn4] at hc; refine hc.mono ?_; rintro e w7 ⟨rfl, hr, hg⟩; (have hl := Kd.R_grown H6.out.2.2 hg (fun k hk e => hk (Option.some.inj e))); have H7 := Aside0.mk (And.intro (H6.out.1.trans (grown_below H6.out.2.1 H6.out.1.size hg)) (And.intro hr hl)); clear hc hr hg hl)
    | (go_at_call 26; (have z := H5.out); clear z; (have hc := ints_c 2 H5.out.2 (by decide) (by decide) H5.out.1.size); rw [fxn3] at hc; refine hc.mono ?_; rintro e w6 ⟨v6, rfl, hl, hr, hg⟩; (obtain ⟨A6, c6, hv6⟩ := Kd.R_slice hl); (have hv6' : v6 = .slice A6 2 c6 := hv6); subst hv6'; (have hl2 := Kd.R_lower hl H5.out.1.size); have H6 := Aside0.mk (And.intro (H5.out.1.trans (grown_below H5.out.2 H5.out.1.size hg)) (And.intro hr hl2)); clear hc hr hg hl hl2 hv6)
    | (go_at_call 24; (have z := H4.out); clear z; (have hc := int_c H4.out.2 (by decide) (by decide)); rw [fxn2] at hc; refine hc.mono ?_; rintro e w5 ⟨rfl, hr, hg⟩; have H5 := Aside0.mk (And.intro (H4.out.1.trans (grown_below H4.out.2 H4.out.1.size hg)) hr); clear hc hr hg)
    | (go_at_call 23; (have z := H3.out); clear z; (have hc := num_c H3.out.2 (by decide) (by decide)); rw [fxn1] at hc; refine hc.mono ?_; rintro e w4 ⟨rfl, hr, hg⟩; have H4 := Aside0.mk (And.intro (H3.out.1.trans (grown_below H3.out.2 H3.out.1.size hg)) hr); clear hc hr hg)
    | (go_at_call 22; (have z := H2.out); clear z; rw [fxb_eq]; refine (read_c (base := w.heap.size) H2.out.size fxb).mono ?_; rintro e w3 ⟨rfl, hr, hb⟩; (obtain ⟨B, hB⟩ : ∃ B, B = w2.heap.size := ⟨_, rfl⟩); rw [← hB] at hr ⊢; have H3 := Aside0.mk (And.intro (below_step H2.out hb) hr); clear hb hr hB)
    | (go_at_call 20; (have z := H1.out); clear z; (have hC := lit_C w1 [5, -5] (by decide)); refine (wints_c (c0 := 2) (l0 := [5, -5]) hC (by decide)).mono ?_; rintro e w2 ⟨rfl, hb⟩; rw [fxs3]; have H2 := Aside0.mk (below_step (below_alloc H1.out _) hb); clear hb hC)
    | (go_at_call 16; (have z := H0.out); clear z; refine (wint_c _ _).mono ?_; rintro e w1 ⟨rfl, hb⟩; rw [fxs2]; have H1 := Aside0.mk (below_step H0.out hb); clear hb)
    | (go_at_call 14; refine (wnum_c _ _).mono ?_; rintro e w0 ⟨rfl, hb⟩; rw [fxs1]; have H0 := Aside0.mk hb; clear hb)
    )
  go_ret
  exact ⟨rfl, H18.out⟩
end Go.Proofs.YthiklbhplhdjmaaDoor.P
/- Layer 1: WireSigns, walked. -/
namespace Go.Proofs.YthiklbhplhdjmaaDoor.P
open Go.RowKit Go.Proofs.YthiklbhplhdjmaaDoorW.PrintWords Go.Proofs.YthiklbhplhdjmaaDoorW.PrintLast Go.Proofs.YthiklbhplhdjmaaDoorW.PrintMore
open Wr
set_option linter.unusedVariables false
set_option linter.unusedSimpArgs false

theorem HB_step {w w1 w2 : World} (h : Aside0 (Below w.heap.size w w1)) (hb : Below w1.heap.size w1 w2) : Aside0 (Below w.heap.size w w2) := ⟨below_step h.out hb⟩
theorem EV_at {w w1 : World} (hE : Aside0 (EV w)) (h : Aside0 (Below w.heap.size w w1)) : EV w1 := hE.out.below h.out hE.out.pos
end Go.Proofs.YthiklbhplhdjmaaDoor.P
/- What is written is taken: numbers, signed ones, lists, alone. -/
namespace Go.Proofs.YthiklbhplhdjmaaDoor.P
open Go.RowKit Go.Proofs.YthiklbhplhdjmaaDoorW.PrintWords Go.Proofs.YthiklbhplhdjmaaDoorW.PrintLast Go.Proofs.YthiklbhplhdjmaaDoorW.PrintMore
open Wr
set_option linter.unusedVariables false
set_option linter.unusedSimpArgs false

theorem bytesOf_sn {l : List Int} (hl : ∀ x ∈ l, 0 ≤ x ∧ x ≤ 255) : bytesOf (strOfNums l) = l := by
  simp only [bytesOf, strOfNums, List.map_map]
  conv => rhs; rw [← List.map_id l]
  apply List.map_congr_left
  intro x hx
  have := hl x hx
  simp [Function.comp_def]
  omega
end Go.Proofs.YthiklbhplhdjmaaDoor.P
/- Layer 1: WireOne, walked. -/
namespace Go.Proofs.YthiklbhplhdjmaaDoor.P
open Go.RowKit Go.Proofs.YthiklbhplhdjmaaDoorW.PrintWords Go.Proofs.YthiklbhplhdjmaaDoorW.PrintLast Go.Proofs.YthiklbhplhdjmaaDoorW.PrintMore
open Wr
set_option linter.unusedVariables false
set_option linter.unusedSimpArgs false

theorem sn_take (s : ByteArray) (p : Nat) : strOfNums ((bytesOf s).take p) = s.extract 0 p := by
  apply ByteArray.ext
  apply Array.ext'
  simp [strOfNums, bytesOf, Function.comp_def, ← List.map_take]
end Go.Proofs.YthiklbhplhdjmaaDoor.P
/- Layer 1: WireCut, walked. -/
namespace Go.Proofs.YthiklbhplhdjmaaDoor.P
open Go.RowKit Go.Proofs.YthiklbhplhdjmaaDoorW.PrintWords Go.Proofs.YthiklbhplhdjmaaDoorW.PrintLast Go.Proofs.YthiklbhplhdjmaaDoorW.PrintMore
open Wr
set_option linter.unusedVariables false
set_option linter.unusedSimpArgs false

theorem bytesOf_get (s : ByteArray) (i : Nat) (h : i < s.size) : (bytesOf s)[i]'(by rw [bytesOf_length]; exact h) = ((s[i].toNat : Nat) : Int) := by
  simp only [bytesOf, List.getElem_map]
  rfl
theorem or128 (a : Nat) (h : a < 128) : bits BinOp.or IntKind.u8 ((a : Nat) : Int) 128 = (a : Int) + 128 := by
  have key : ∀ a : Fin 128, bits BinOp.or IntKind.u8 ((a.val : Nat) : Int) 128 = (a.val : Int) + 128 := by decide +kernel
  exact key ⟨a, h⟩
theorem vb_last : ∀ (n : Nat), 0 ≤ (vb n).getLast (vb_ne n) ∧ (vb n).getLast (vb_ne n) < 128 := by
  intro n
  induction n using Nat.strongRecOn with
  | ind n ih =>
    by_cases h : n < 128
    · simp only [vb_lo h, List.getLast_singleton]; omega
    · have := ih (n / 128) (by omega)
      simp only [vb_hi h]
      rw [List.getLast_cons (vb_ne _)]
      exact this
theorem cut_t (nn : Nat) (hn : nn ≤ 4398046511104) (s1 : ByteArray) (e1 : strOfNums (encN (nn : Int)) = s1) (k : Nat) (hk : s1.size = k + 1) (q2 : k < s1.size) :
    ∃ t : ByteArray, s1.extract 0 k ++ strOfNums [bits BinOp.or IntKind.u8 ((s1[k].toNat : Nat) : Int) 128] ++ { data := #[0] } = t ∧ t.size ≤ 1000000000 ∧ numF (bytesOf t) (0, none) = (0, (0, some (0, 11))) := by
  have hM : (nn : Int) ≤ MX := by simp only [MX]; omega
  rw [encN_nat hM] at e1
  have hlen : (vb nn).length ≤ 7 := vb_len 6 nn (by omega)
  have hbs : bytesOf s1 = vb nn := by rw [← e1, bytesOf_sn (vb_bytes nn)]
  have hsz : (vb nn).length = k + 1 := by rw [← hbs, bytesOf_length, hk]
  have hlast := vb_last nn
  have hg : ((s1[k].toNat : Nat) : Int) = (vb nn).getLast (vb_ne nn) := by
    rw [← bytesOf_get s1 k q2, List.getLast_eq_getElem]
    simp only [hbs, hsz, Nat.add_sub_cancel]
  have hx : s1.extract 0 k = strOfNums ((vb nn).dropLast) := by
    rw [← sn_take, hbs, List.dropLast_eq_take, hsz, Nat.add_sub_cancel]
  refine ⟨_, rfl, ?_, ?_⟩
  · rw [hx, show ({ data := #[0] } : ByteArray) = strOfNums [0] from rfl, sn_app, sn_app, strOfNums_size]
    simp; omega
  · rw [hx, or128 _ (by omega), hg, show ({ data := #[0] } : ByteArray) = strOfNums [0] from rfl, sn_app, sn_app, List.append_assoc, bytesOf_sn ?_]
    · simp only [numF, List.cons_append, List.nil_append, tk_long nn hlen]
      rfl
    · intro x hx
      rcases List.mem_append.1 hx with hx | hx
      · exact vb_bytes nn x (List.dropLast_subset _ hx)
      · simp at hx; omega
theorem cut_u (nn : Nat) (hn : nn ≤ 4398046511104) (s1 : ByteArray) (e1 : strOfNums (encN (nn : Int)) = s1) (c : Nat) (hc : c < s1.size) :
    ∃ u : ByteArray, s1.extract 0 c = u ∧ u.size ≤ 1000000000 ∧ numF (bytesOf u) (0, none) = (0, (0, some (0, 10))) := by
  have hM : (nn : Int) ≤ MX := by simp only [MX]; omega
  rw [encN_nat hM] at e1
  have hlen : (vb nn).length ≤ 7 := vb_len 6 nn (by omega)
  have hbs : bytesOf s1 = vb nn := by rw [← e1, bytesOf_sn (vb_bytes nn)]
  have hsz : (vb nn).length = s1.size := by rw [← hbs, bytesOf_length]
  refine ⟨_, rfl, ?_, ?_⟩
  · rw [← sn_take, hbs, strOfNums_size, List.length_take]; omega
  · rw [← sn_take, hbs, bytesOf_sn (fun x hx => vb_bytes nn x (List.mem_of_mem_take hx))]
    simp only [numF, tk_cut nn c hM (by omega)]
    rfl
theorem conv1 (W : World) (x : Int) : (convert 39 9 (.slice (some ⟨W.heap.size, 0, none⟩) 1 1)).run Tryd.prog (W.alloc (.cells #[.int .u8 x] 5)).drew = Result.ok (.string (strOfNums [x])) (W.alloc (.cells #[.int .u8 x] 5)).drew := by
  have h := own_lit W 0 5 .u8 [x] (Nat.zero_le _) (by simp)
  exact own_string Tryd.underlying39 Tryd.underlying5 Tryd.underlying9 h
set_option maxHeartbeats 8000000 in
set_option maxRecDepth 100000 in
theorem cut_long (n m : Int) (w : World) (hE : EV w) (hg : decide (n < 0) = true ∨ (decide (n < 0) = false ∧ decide (4398046511104 < n) = true)) :
    Calls Tryd.prog 8 #[.int .i64 n, .int .i64 m] w fun e w' => e = .returned (.bool true) ∧ Below w.heap.size w w' := by
  have HE := Aside0.mk hE
  have HB := Aside0.mk (Below.refl w.heap.size w)
  clear hE
  rcases hg with g2 | ⟨g2, g3⟩
  all_goals
    go_enter Tryd.func8, Tryd.ntmps8
    go_wp2_with (go_at_call 10; refine (fix1 _ (EV_at HE HB)).mono ?_; rintro e w1 ⟨rfl, hb⟩; have HB' := HB_step HB hb; clear HB hb; have HB := HB'; clear HB')
    go_ret
    exact ⟨rfl, HB.out⟩
set_option maxHeartbeats 16000000 in
set_option maxRecDepth 100000 in
theorem cut_main (n m : Int) (w : World) (hE : EV w) (s1 : ByteArray) (k : Nat) (e1 : strOfNums (encN n) = s1) (hz : ((s1.size : Int) == 0) = false) (hk : s1.size = k + 1) (hs8 : s1.size ≤ 8) (q2 : k < s1.size) (g2 : decide (n < 0) = false) (g3 : decide (4398046511104 < n) = false)
    (HT : ∃ t : ByteArray, s1.extract 0 k ++ strOfNums [bits BinOp.or IntKind.u8 ((s1[k].toNat : Nat) : Int) 128] ++ { data := #[0] } = t ∧ t.size ≤ 1000000000 ∧ numF (bytesOf t) (0, none) = (0, (0, some (0, 11))))
    (hm : decide (m < 0) = true ∨ (decide (m < 0) = false ∧ decide ((s1.size : Int) ≤ m) = true) ∨ (decide (m < 0) = false ∧ decide ((s1.size : Int) ≤ m) = false ∧ ∃ u : ByteArray, s1.extract 0 m.toNat = u ∧ 0 ≤ m ∧ m ≤ (s1.size : Int) ∧ u.size ≤ 1000000000 ∧ numF (bytesOf u) (0, none) = (0, (0, some (0, 10))))) :
    Calls Tryd.prog 8 #[.int .i64 n, .int .i64 m] w fun e w' => e = .returned (.bool true) ∧ Below w.heap.size w w' := by
  have HE := Aside0.mk hE
  have E1 := Aside0.mk e1
  have HB := Aside0.mk (Below.refl w.heap.size w)
  have q1 : IntKind.i64.wrap ((s1.size : Int) - 1) = (k : Int) := by rw [IntWalk.i64_in _ (by omega)]; omega
  have q3 : k ≤ s1.size := by omega
  have q4 := conv1
  have sz1 : ∀ x : Int, (strOfNums [x]).size = 1 := fun x => by rw [strOfNums_size]; rfl
  have q5 : ∀ x : Int, (9223372036854775807 < k + (strOfNums [x]).size) = False := fun x => eq_false (by rw [sz1]; omega)
  have q6 : ∀ x : Int, (9223372036854775807 < k + (strOfNums [x]).size + 1) = False := fun x => eq_false (by rw [sz1]; omega)
  have q7 : ∀ x : Int, (9223372036854775807 < k + (strOfNums [x]).size + (⟨#[0]⟩ : ByteArray).size) = False := fun x => eq_false (by rw [sz1]; show ¬ 9223372036854775807 < k + 1 + 1; omega)
  obtain ⟨t, ht, htt⟩ := HT
  have FT := Aside0.mk ht
  have FS := Aside0.mk htt
  clear sz1 hE e1 hk ht htt
  rcases hm with m1 | ⟨m1, m2⟩ | ⟨m1, m2, u, hu, m3, m4, huu⟩
  · go_enter Tryd.func8, Tryd.ntmps8
    go_wp2_with (first
      | (go_at_call 14; refine (wnum_c _ _).mono ?_; rintro e w2 ⟨rfl, hb⟩; rw [E1.out]; have HB' := HB_step HB hb; clear HB hb; have HB := HB'; clear HB')
      | (go_at_call 10; refine (fix1 _ (EV_at HE HB)).mono ?_; rintro e w1 ⟨rfl, hb⟩; have HB' := HB_step HB hb; clear HB hb; have HB := HB'; clear HB'))
    go_region
    have H2 := Aside0.mk (below_drew1 (below_alloc HB.out (Obj.cells #[Value.int IntKind.u8 (bits BinOp.or IntKind.u8 ((s1[k].toNat : Nat) : Int) 128)] 5)))
    generalize (w2.alloc (Obj.cells #[Value.int IntKind.u8 (bits BinOp.or IntKind.u8 ((s1[k].toNat : Nat) : Int) 128)] 5)).drew = wr at H2 ⊢
    clear HB
    go_wp2_with (first
      | (go_at_call 27; (have z := H4.out); clear z; (have hc := end_c (HE.out.below H4.out.1 HE.out.pos) H4.out.2 (fun pc h => by obtain rfl := Option.some.inj h; exact .inr (.inl rfl))); (have he : endF (bytesOf t) (0, some (0, 11)) = (11, ((0 : Nat) : Int)) := rfl); rw [he] at hc; refine hc.mono ?_; rintro e w5 ⟨rfl, hb⟩; have H5 := Aside0.mk (below_step H4.out.1 hb); clear hb hc he H4)
      | (go_at_call 23; (have z := H3.out); clear z; (have hc := num_c H3.out.2 FS.out.1 (Nat.zero_le _)); rw [FS.out.2] at hc; refine hc.mono ?_; rintro e w4 ⟨rfl, hr, hg⟩; have H4 := Aside0.mk (And.intro (H3.out.1.trans (grown_below H3.out.2 H3.out.1.size hg)) hr); clear hc hr hg H3)
      | (go_at_call 22; (have z := H2.out); clear z; rw [FT.out]; refine (read_c (base := w.heap.size) H2.out.size t).mono ?_; rintro e w3 ⟨rfl, hr, hb⟩; (obtain ⟨B2, hB⟩ : ∃ B, B = wr.heap.size := ⟨_, rfl⟩); rw [← hB] at hr ⊢; have H3 := Aside0.mk (And.intro (below_step H2.out hb) hr); clear hB hr hb H2))
    go_ret
    exact ⟨rfl, H5.out⟩
  · go_enter Tryd.func8, Tryd.ntmps8
    go_wp2_with (first
      | (go_at_call 14; refine (wnum_c _ _).mono ?_; rintro e w2 ⟨rfl, hb⟩; rw [E1.out]; have HB' := HB_step HB hb; clear HB hb; have HB := HB'; clear HB')
      | (go_at_call 10; refine (fix1 _ (EV_at HE HB)).mono ?_; rintro e w1 ⟨rfl, hb⟩; have HB' := HB_step HB hb; clear HB hb; have HB := HB'; clear HB'))
    go_region
    have H2 := Aside0.mk (below_drew1 (below_alloc HB.out (Obj.cells #[Value.int IntKind.u8 (bits BinOp.or IntKind.u8 ((s1[k].toNat : Nat) : Int) 128)] 5)))
    generalize (w2.alloc (Obj.cells #[Value.int IntKind.u8 (bits BinOp.or IntKind.u8 ((s1[k].toNat : Nat) : Int) 128)] 5)).drew = wr at H2 ⊢
    clear HB
    go_wp2_with (first
      | (go_at_call 27; (have z := H4.out); clear z; (have hc := end_c (HE.out.below H4.out.1 HE.out.pos) H4.out.2 (fun pc h => by obtain rfl := Option.some.inj h; exact .inr (.inl rfl))); (have he : endF (bytesOf t) (0, some (0, 11)) = (11, ((0 : Nat) : Int)) := rfl); rw [he] at hc; refine hc.mono ?_; rintro e w5 ⟨rfl, hb⟩; have H5 := Aside0.mk (below_step H4.out.1 hb); clear hb hc he H4)
      | (go_at_call 23; (have z := H3.out); clear z; (have hc := num_c H3.out.2 FS.out.1 (Nat.zero_le _)); rw [FS.out.2] at hc; refine hc.mono ?_; rintro e w4 ⟨rfl, hr, hg⟩; have H4 := Aside0.mk (And.intro (H3.out.1.trans (grown_below H3.out.2 H3.out.1.size hg)) hr); clear hc hr hg H3)
      | (go_at_call 22; (have z := H2.out); clear z; rw [FT.out]; refine (read_c (base := w.heap.size) H2.out.size t).mono ?_; rintro e w3 ⟨rfl, hr, hb⟩; (obtain ⟨B2, hB⟩ : ∃ B, B = wr.heap.size := ⟨_, rfl⟩); rw [← hB] at hr ⊢; have H3 := Aside0.mk (And.intro (below_step H2.out hb) hr); clear hB hr hb H2))
    go_ret
    exact ⟨rfl, H5.out⟩
  · have FU := Aside0.mk hu
    have FV := Aside0.mk huu
    clear hu huu
    go_enter Tryd.func8, Tryd.ntmps8
    go_wp2_with (first
      | (go_at_call 14; refine (wnum_c _ _).mono ?_; rintro e w2 ⟨rfl, hb⟩; rw [E1.out]; have HB' := HB_step HB hb; clear HB hb; have HB := HB'; clear HB')
      | (go_at_call 10; refine (fix1 _ (EV_at HE HB)).mono ?_; rintro e w1 ⟨rfl, hb⟩; have HB' := HB_step HB hb; clear HB hb; have HB := HB'; clear HB'))
    go_region
    have H2 := Aside0.mk (below_drew1 (below_alloc HB.out (Obj.cells #[Value.int IntKind.u8 (bits BinOp.or IntKind.u8 ((s1[k].toNat : Nat) : Int) 128)] 5)))
    generalize (w2.alloc (Obj.cells #[Value.int IntKind.u8 (bits BinOp.or IntKind.u8 ((s1[k].toNat : Nat) : Int) 128)] 5)).drew = wr at H2 ⊢
    clear HB
    go_wp2_with (first
      | (go_at_call 27; (have z := H7.out); clear z; (have hc := end_c (HE.out.below H7.out.1 HE.out.pos) H7.out.2 (fun pc h => by obtain rfl := Option.some.inj h; exact .inl rfl)); (have he : endF (bytesOf u) (0, some (0, 10)) = (10, ((0 : Nat) : Int)) := rfl); rw [he] at hc; refine hc.mono ?_; rintro e w8 ⟨rfl, hb⟩; have H8 := Aside0.mk (below_step H7.out.1 hb); clear hb hc he H7)
      | (go_at_call 23; (have z := H6.out); clear z; (have hc := num_c H6.out.2 FV.out.1 (Nat.zero_le _)); rw [FV.out.2] at hc; refine hc.mono ?_; rintro e w7 ⟨rfl, hr, hg⟩; have H7 := Aside0.mk (And.intro (H6.out.1.trans (grown_below H6.out.2 H6.out.1.size hg)) hr); clear hc hr hg H6)
      | (go_at_call 22; (have z := H5.out); clear z; rw [FU.out]; refine (read_c (base := w.heap.size) H5.out.size u).mono ?_; rintro e w6 ⟨rfl, hr, hb⟩; (obtain ⟨B5, hB⟩ : ∃ B, B = w5.heap.size := ⟨_, rfl⟩); rw [← hB] at hr ⊢; have H6 := Aside0.mk (And.intro (below_step H5.out hb) hr); clear hB hr hb H5)
      | (go_at_call 27; (have z := H4.out); clear z; (have hc := end_c (HE.out.below H4.out.1 HE.out.pos) H4.out.2 (fun pc h => by obtain rfl := Option.some.inj h; exact .inr (.inl rfl))); (have he : endF (bytesOf t) (0, some (0, 11)) = (11, ((0 : Nat) : Int)) := rfl); rw [he] at hc; refine hc.mono ?_; rintro e w5 ⟨rfl, hb⟩; have H5 := Aside0.mk (below_step H4.out.1 hb); clear hb hc he H4)
      | (go_at_call 23; (have z := H3.out); clear z; (have hc := num_c H3.out.2 FS.out.1 (Nat.zero_le _)); rw [FS.out.2] at hc; refine hc.mono ?_; rintro e w4 ⟨rfl, hr, hg⟩; have H4 := Aside0.mk (And.intro (H3.out.1.trans (grown_below H3.out.2 H3.out.1.size hg)) hr); clear hc hr hg H3)
      | (go_at_call 22; (have z := H2.out); clear z; rw [FT.out]; refine (read_c (base := w.heap.size) H2.out.size t).mono ?_; rintro e w3 ⟨rfl, hr, hb⟩; (obtain ⟨B2, hB⟩ : ∃ B, B = wr.heap.size := ⟨_, rfl⟩); rw [← hB] at hr ⊢; have H3 := Aside0.mk (And.intro (below_step H2.out hb) hr); clear hB hr hb H2))
    go_ret
    exact ⟨rfl, H8.out⟩
theorem greenwoodlaw01_WireCut.callsT (a0 a1 : Int) (r : Bool) (w : World) (hE : EV w) (hrT : r = true) (h : (some true : Option Bool) = some r) :
    Calls Tryd.prog 8 #[.int .i64 a0, .int .i64 a1] w fun e w' => e = .returned (.bool r) ∧ Below w.heap.size w w' := by
  subst hrT
  by_cases h2 : a0 < 0
  · exact cut_long a0 a1 w hE (.inl (decide_eq_true h2))
  have g2 := decide_eq_false h2
  by_cases h3 : 4398046511104 < a0
  · exact cut_long a0 a1 w hE (.inr ⟨g2, decide_eq_true h3⟩)
  obtain ⟨nn, rfl⟩ : ∃ nn : Nat, a0 = (nn : Int) := ⟨a0.toNat, by omega⟩
  have hn : nn ≤ 4398046511104 := by omega
  have hsz : (strOfNums (encN (nn : Int))).size = (vb nn).length := by rw [strOfNums_size, encN_nat (by simp only [MX]; omega)]
  have hp := vb_len_pos nn
  have h8 : (vb nn).length ≤ 7 := vb_len 6 nn (by omega)
  obtain ⟨k, hk⟩ : ∃ k, (strOfNums (encN (nn : Int))).size = k + 1 := ⟨(vb nn).length - 1, by omega⟩
  have q2 : k < (strOfNums (encN (nn : Int))).size := by omega
  refine cut_main _ a1 w hE (strOfNums (encN (nn : Int))) k rfl (beq_eq_false_iff_ne.mpr (by omega)) hk (by omega) q2 g2 (decide_eq_false h3) (cut_t nn hn _ rfl k hk q2) ?_
  by_cases m1 : a1 < 0
  · exact .inl (decide_eq_true m1)
  by_cases m2 : ((strOfNums (encN (nn : Int))).size : Int) ≤ a1
  · exact .inr (.inl ⟨decide_eq_false m1, decide_eq_true m2⟩)
  obtain ⟨u, u1, u2, u3⟩ := cut_u nn hn _ rfl a1.toNat (by omega)
  exact .inr (.inr ⟨decide_eq_false m1, decide_eq_false m2, u, u1, by omega, by omega, u2, u3⟩)
theorem WireCut_ev (a0 a1 : Int) : (some true : Option Bool) = some true := rfl
end Go.Proofs.YthiklbhplhdjmaaDoor.P
/- What came in, opened kind by kind: an argument's reading tells a list (of lists ..) that its cells hold. -/
namespace Go.Proofs.YthiklbhplhdjmaaDoor.P
open Go.RowKit Go.Proofs.YthiklbhplhdjmaaDoorW.PrintWords Go.Proofs.YthiklbhplhdjmaaDoorW.PrintLast Go.Proofs.YthiklbhplhdjmaaDoorW.PrintMore
set_option linter.unusedVariables false
set_option linter.unusedSimpArgs false

structure Opens (P : Program) (t : TypeId) {α : Type} (d : Kd α) (q : α → Prop) : Prop where
  sz : P.cellsOf t = d.sz
  op : ∀ {H : Type} {enc : TypeId × Value → H} {w : World} {base fuel : Nat} {held : Bool} {cs : List Value} {x : DataW H × List MemPlace}, DataW.trod enc P w base (fun _ => true) held fuel t cs = some x → ∃ a : α, d.K w a cs ∧ q a
section
variable {P : Program} {α : Type} {d : Kd α} {q : α → Prop}
theorem Opens.mono {t : TypeId} {q' : α → Prop} (h : Opens P t d q) (hq : ∀ a, q a → q' a) : Opens P t d q' :=
  ⟨h.sz, fun ht => by obtain ⟨a, hk, ha⟩ := h.op ht; exact ⟨a, hk, hq a ha⟩⟩
end
end Go.Proofs.YthiklbhplhdjmaaDoor.P
/- What a tied row's premise gives a walk: the one variable of the library's, laid; a world that meets it. (Turned from a worked proof of the kit.) -/
namespace Go.Proofs.YthiklbhplhdjmaaDoor.P
open Go.ChangeShapes Go.WideShapes Go.RowKit
set_option linter.unusedVariables false
set_option linter.unusedSimpArgs false

theorem td_et : Tryd.prog.globalNamed "errors.errorType" = some 0 := by kernel_rfl
theorem td_rt : (Tryd.prog.cutTypes.find? (·.1 == "internal/reflectlite.rtype")).map (·.2) = some 84 := by kernel_rfl
theorem td_oneRow : ((List.range 127).filter fun t => Tryd.prog.rowNamed t [101, 114, 114, 111, 114]) = [47] := by kernel_rfl
theorem td_size : Tryd.prog.types.size = 127 := by kernel_rfl
def laidE {H : Type} : List (String × DataW H) := [("errors.errorType", Rows.laid_errors_errorType)]
theorem ev_of_laid {W : World} (h : laidMetH Tryd.prog laidE W) : EV W := by
  have h' : laidMet Tryd.prog [] W ∧ handlesMet Tryd.prog laidE W := h
  obtain ⟨name, u, ty, e1, e2, e3, e4, e5⟩ := h'.2 _ (List.mem_singleton.2 rfl)
  have en : name = [101, 114, 114, 111, 114] := (Option.some.inj e1).symm
  subst en
  obtain rfl := Option.some.inj (td_rt.symm.trans e2)
  have hm : ty ∈ (List.range 127).filter fun t => Tryd.prog.rowNamed t [101, 114, 114, 111, 114] := List.mem_filter.2 ⟨List.mem_range.2 (by rw [← td_size]; exact e3), e4⟩
  rw [td_oneRow] at hm
  obtain rfl := List.mem_singleton.1 hm
  have hh : typeHandle Tryd.prog 47 = .pointer (some ⟨1, 47, none⟩) := by kernel_rfl
  rw [hh] at e5
  have := World.var?_cell td_et e5 0
  unfold EV
  simpa using this
noncomputable def laidWorld (os : Os) : World :=
  let w0 := World.holding Tryd.prog os ⟨#[], #[], []⟩
  { w0 with heap := w0.heap.modify 0 fun
      | .cells _ t frozen => .cells #[.iface 84 (.agg #[.pointer (some ⟨1, 47, none⟩)])] t frozen
      | o => o }
theorem laidWorld_met (os : Os) (args : Array Value) : laidMetH Tryd.prog laidE ((laidWorld os).forCall (fun _ _ => 0) ⟨#[], args, []⟩).memory :=
  laidMetH_of_parts (laidMet_nil _ _) (by kernel_rfl)
end Go.Proofs.YthiklbhplhdjmaaDoor.P
