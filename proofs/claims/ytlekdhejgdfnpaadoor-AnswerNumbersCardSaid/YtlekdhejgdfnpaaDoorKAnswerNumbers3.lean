/- Texts of this claim's own repository, merged by wip/tool/pack.py: AnsQ, WireF, WireG, EvCell, WireH, WireEb, AnsJ, AnsK, Shelf, WireJb, AnsB, AnsC, Opn, AnsD, AnsL, AnsS, AnsM, AnsN, AnsE, AnsF, AnsG, AnsH, AnsI, AnsO, AnsP. -/
import Derived.LaidEql
import Derived.Stop.Asserts
import Derived.RowKitTokens
import Derived.Shelf.Strings.Builder1
import Derived.Shelf.Strings.BuilderF
import Derived.Shelf.Strings.BuilderK
import Derived.Shelf.Strings.BuilderCap
import Derived.Test.YtlekdhejgdfnpaaDoorProg
import Derived.Deep.Slices
import Derived.ChangeArms
import Derived.ProofKit
import Derived.Deep.RegionHeld
import Derived.Test.YtlekdhejgdfnpaaDoorKAnswerNumbers2
set_option linter.unusedVariables false
set_option linter.unusedSimpArgs false
/- Readers and writers, in general: what is written is read, what is cut is cut, what is read is written. -/
namespace Go.Proofs.YtlekdhejgdfnpaaDoor.P
open Go.RowKit Go.Proofs.YtlekdhejgdfnpaaDoorW.PrintWords Go.Proofs.YtlekdhejgdfnpaaDoorW.PrintLast Go.Proofs.YtlekdhejgdfnpaaDoorW.PrintMore
open Wr
set_option linter.unusedVariables false
set_option linter.unusedSimpArgs false

abbrev Rdr (α : Type) := List Int → St → α × St
def EncOk {α : Type} (F : Rdr α) (E : α → List Int) (P : α → Prop) : Prop := ∀ (A B : List Int) (x : α), P x → F (A ++ (E x ++ B)) (A.length, none) = (x, (A.length + (E x).length, none))
def CutOk {α : Type} (F : Rdr α) (E : α → List Int) (P : α → Prop) : Prop := ∀ (A : List Int) (x : α) (c : Nat), P x → c < (E x).length → ∃ p q, q ≤ A.length + c ∧ (F (A ++ (E x).take c) (A.length, none)).2 = (p, some (q, 10))
def BackOk {α : Type} (F : Rdr α) (E : α → List Int) (Q : α → Prop) : Prop := ∀ (S : List Int) (p : Nat), (∀ b ∈ S, 0 ≤ b ∧ b ≤ 255) → p ≤ S.length → (F S (p, none)).2.2 = none →
 (F S (p, none)).2.1 = p + (E (F S (p, none)).1).length ∧ (S.drop p).take (E (F S (p, none)).1).length = E (F S (p, none)).1 ∧ Q (F S (p, none)).1
def ErrOk {α : Type} (F : Rdr α) : Prop := ∀ (S : List Int) (st : St), st.2 ≠ none → (F S st).2 = st
def bindR {α β : Type} (F : Rdr α) (G : α → Rdr β) : Rdr (α × β) := fun S st => (((F S st).1, (G (F S st).1 S (F S st).2).1), (G (F S st).1 S (F S st).2).2)
section
variable {α β : Type} {F : Rdr α} {G : α → Rdr β} {E : α → List Int} {E2 : α → β → List Int} {P : α → Prop} {P2 : α → β → Prop}
theorem take_le {S : List Int} {p n : Nat} {e : List Int} (h : (S.drop p).take n = e) (he : e.length = n) : p ≤ S.length → p + n ≤ S.length := by
 intro hp
 have := congrArg List.length h
 rw [List.length_take, List.length_drop] at this
 omega
theorem EncOk.bind (h : EncOk F E P) (h2 : ∀ x, P x → EncOk (G x) (E2 x) (P2 x)) : EncOk (bindR F G) (fun xy => E xy.1 ++ E2 xy.1 xy.2) (fun xy => P xy.1 ∧ P2 xy.1 xy.2) := by
 rintro A B ⟨x, y⟩ ⟨hx, hy⟩
 have e1 : A ++ ((E x ++ E2 x y) ++ B) = A ++ (E x ++ (E2 x y ++ B)) := by simp [List.append_assoc]
 have h1 := h A (E2 x y ++ B) x hx
 have h3 := h2 x hx (A ++ E x) B y hy
 rw [show (A ++ E x) ++ (E2 x y ++ B) = A ++ (E x ++ (E2 x y ++ B)) by simp [List.append_assoc], List.length_append] at h3
 show bindR F G (A ++ ((E x ++ E2 x y) ++ B)) _ = _
 rw [e1]
 unfold bindR
 rw [h1]
 dsimp only
 rw [h3]
 simp only [List.length_append, Nat.add_assoc]
theorem ErrOk.bind (h : ErrOk F) (h2 : ∀ x, ErrOk (G x)) : ErrOk (bindR F G) := by
 intro S st hs
 show (G (F S st).1 S (F S st).2).2 = st
 rw [h2 _ S _ (by rw [h S st hs]; exact hs), h S st hs]
theorem CutOk.bind (h : CutOk F E P) (he : EncOk F E P) (h2 : ∀ x, P x → CutOk (G x) (E2 x) (P2 x)) (hg : ∀ x, ErrOk (G x)) : CutOk (bindR F G) (fun xy => E xy.1 ++ E2 xy.1 xy.2) (fun xy => P xy.1 ∧ P2 xy.1 xy.2) := by
 rintro A ⟨x, y⟩ c ⟨hx, hy⟩ hc
 dsimp only at hc ⊢
 by_cases hl : c < (E x).length
 ·obtain ⟨p, q, hq, hr⟩ := h A x c hx hl
  refine ⟨p, q, hq, ?_⟩
  rw [List.take_append_of_le_length (Nat.le_of_lt hl)]
  show (G _ _ (F (A ++ (E x).take c) (A.length, none)).2).2 = _
  rw [hr]
  exact hg _ _ _ (by simp)
 ·have e1 : (E x ++ E2 x y).take c = E x ++ (E2 x y).take (c - (E x).length) := by rw [List.take_append, List.take_of_length_le (by omega)]
  have h1 := he A ((E2 x y).take (c - (E x).length)) x hx
  rw [List.length_append] at hc
  obtain ⟨p, q, hq, hr⟩ := h2 x hx (A ++ E x) y (c - (E x).length) hy (by omega)
  rw [List.length_append] at hq hr
  refine ⟨p, q, by omega, ?_⟩
  rw [e1]
  unfold bindR
  rw [h1]
  dsimp only
  rw [List.append_assoc] at hr
  exact hr
theorem BackOk.bind {Q : α → Prop} {Q2 : α → β → Prop} (h : BackOk F E Q) (h2 : ∀ x, Q x → BackOk (G x) (E2 x) (Q2 x)) (hg : ∀ x, ErrOk (G x)) : BackOk (bindR F G) (fun xy => E xy.1 ++ E2 xy.1 xy.2) (fun xy => Q xy.1 ∧ Q2 xy.1 xy.2) := by
 intro S p hb hp hn
 have hn' : (G (F S (p, none)).1 S (F S (p, none)).2).2.2 = none := hn
 have h1 : (F S (p, none)).2.2 = none := by
  apply Classical.byContradiction
  intro hne
  rw [hg _ S _ hne] at hn'
  exact hne hn'
 obtain ⟨a1, a2, a3⟩ := h S p hb hp h1
 have hst : (F S (p, none)).2 = (p + (E (F S (p, none)).1).length, none) := Prod.ext a1 h1
 have hle := take_le a2 rfl hp
 rw [hst] at hn'
 obtain ⟨b1, b2, b3⟩ := h2 _ a3 S _ hb hle hn'
 show (G (F S (p, none)).1 S (F S (p, none)).2).2.1 = p + (E (F S (p, none)).1 ++ E2 (F S (p, none)).1 (G (F S (p, none)).1 S (F S (p, none)).2).1).length ∧ (S.drop p).take (E (F S (p, none)).1 ++ E2 (F S (p, none)).1 (G (F S (p, none)).1 S (F S (p, none)).2).1).length = E (F S (p, none)).1 ++ E2 (F S (p, none)).1 (G (F S (p, none)).1 S (F S (p, none)).2).1 ∧ Q (F S (p, none)).1 ∧ Q2 (F S (p, none)).1 (G (F S (p, none)).1 S (F S (p, none)).2).1
 rw [hst]
 generalize (F S (p, none)).1 = x at *
 generalize (G x S (p + (E x).length, none)).1 = y at *
 refine ⟨by rw [b1, List.length_append]; omega, ?_, a3, b3⟩
 rw [List.length_append, List.take_add, a2, List.drop_drop, b2]
end
/-- the values told in another way -/
theorem EncOk.map {α β : Type} {F : Rdr α} {F' : Rdr β} {E : α → List Int} {E' : β → List Int} {P : α → Prop} {P' : β → Prop} (f : α → β) (g : β → α) (hF : ∀ S st, F' S st = (f (F S st).1, (F S st).2)) (hP : ∀ y, P' y → P (g y) ∧ f (g y) = y ∧ E (g y) = E' y) (h : EncOk F E P) : EncOk F' E' P' := by
 intro A B y hy
 obtain ⟨h1, h2, h3⟩ := hP y hy
 have := h A B (g y) h1
 rw [h3] at this
 rw [hF, this, h2]
theorem CutOk.map {α β : Type} {F : Rdr α} {F' : Rdr β} {E : α → List Int} {E' : β → List Int} {P : α → Prop} {P' : β → Prop} (f : α → β) (g : β → α) (hF : ∀ S st, F' S st = (f (F S st).1, (F S st).2)) (hP : ∀ y, P' y → P (g y) ∧ f (g y) = y ∧ E (g y) = E' y) (h : CutOk F E P) : CutOk F' E' P' := by
 intro A y c hy hc
 obtain ⟨h1, h2, h3⟩ := hP y hy
 have := h A (g y) c h1 (by rw [h3]; exact hc)
 rw [h3] at this
 obtain ⟨p, q, a, b⟩ := this
 exact ⟨p, q, a, by rw [hF]; exact b⟩
theorem BackOk.map {α β : Type} {F : Rdr α} {F' : Rdr β} {E : α → List Int} {E' : β → List Int} {Q : α → Prop} {Q' : β → Prop} (f : α → β) (hF : ∀ S st, F' S st = (f (F S st).1, (F S st).2)) (hQ : ∀ x, Q x → Q' (f x) ∧ E' (f x) = E x) (h : BackOk F E Q) : BackOk F' E' Q' := by
 intro S p hb hp hn
 rw [hF] at hn ⊢
 obtain ⟨a1, a2, a3⟩ := h S p hb hp hn
 obtain ⟨b1, b2⟩ := hQ _ a3
 dsimp only at *
 rw [b2]
 exact ⟨a1, a2, b1⟩
theorem ErrOk.map {α β : Type} {F : Rdr α} {F' : Rdr β} (f : α → β) (hF : ∀ S st, F' S st = (f (F S st).1, (F S st).2)) (h : ErrOk F) : ErrOk F' := by
 intro S st hs; rw [hF]; exact h S st hs
/-! ### numbers -/
def NumP (n : Int) : Prop := 0 ≤ n ∧ n ≤ MX
def IntP (n : Int) : Prop := -562949953421312 ≤ n ∧ n ≤ 562949953421312
theorem numR_err : ErrOk numF := by
 intro S st hs
 obtain ⟨p, er⟩ := st
 cases er with
 | none => exact absurd rfl hs
 | some pc => rfl
theorem num_enc : EncOk numF encN NumP := fun A B n h => numF_enc A B h.1 h.2
theorem numF_cut (A : List Int) (n : Int) (c : Nat) (h : NumP n) (hc : c < (encN n).length) : numF (A ++ (encN n).take c) (A.length, none) = (0, (A.length, some (A.length, 10))) := by
 rw [encN_in h.1 h.2] at hc ⊢
 have h1 : ((n.toNat : Nat) : Int) ≤ MX := by have := h.1; have := h.2; omega
 have h2 := tkL_cut n.toNat A [] 8 c 0 (vb_len8 h1) hc
 have h3 : tk (A ++ (vb n.toNat).take c) A.length = (0, A.length, 10) := by simpa [tk] using h2
 simp [numF, h3]
theorem num_cut : CutOk numF encN NumP := fun A n c h hc => ⟨A.length, A.length, by omega, by rw [numF_cut A n c h hc]⟩
theorem num_back : BackOk numF encN NumP := by
 intro S p hb hp hn
 by_cases hc : (tk S p).2.2 = 0
 ·have e : numF S (p, none) = ((tk S p).1, ((tk S p).2.1, none)) := by simp only [numF, hc, if_true]
  rw [e]
  rcases tk_any S p hb with h | h
  ·obtain ⟨_, h0, h1, _, _⟩ := h
   obtain ⟨a1, a2⟩ := tk_one S p hb hc
   dsimp only
   rw [encN_in h0 h1]
   exact ⟨a1, a2, h0, h1⟩
  ·rcases h.2.2 with h | h <;> rw [hc] at h <;> exact absurd h (by decide)
 ·have e : numF S (p, none) = (0, (p, some (p, (tk S p).2.2))) := by simp only [numF, if_neg hc]
  rw [e] at hn
  cases hn
theorem encI_enc {n : Int} (h : IntP n) : ∃ m, NumP m ∧ encI n = encN m ∧ sgn m = n := by
 obtain ⟨h0, h1⟩ := h
 unfold encI
 rw [if_neg (by simp only [MX]; omega)]
 by_cases hn : n < 0
 ·rw [if_pos hn]
  exact ⟨_, ⟨by omega, by simp only [MX]; omega⟩, rfl, sgn_neg hn⟩
 ·rw [if_neg hn]
  exact ⟨_, ⟨by omega, by simp only [MX]; omega⟩, rfl, sgn_pos (by omega)⟩
theorem encI_sgn {m : Int} (h : NumP m) : IntP (sgn m) ∧ encI (sgn m) = encN m := by
 obtain ⟨h0, h1⟩ := h
 simp only [MX] at h1
 unfold sgn
 by_cases hm : m % 2 = 1
 ·rw [if_pos hm]
  refine ⟨⟨by omega, by omega⟩, ?_⟩
  unfold encI
  rw [if_neg (by simp only [MX]; omega), if_pos (by omega)]
  congr 1
  omega
 ·rw [if_neg hm]
  refine ⟨⟨by omega, by omega⟩, ?_⟩
  unfold encI
  rw [if_neg (by simp only [MX]; omega), if_neg (by omega)]
  congr 1
  omega
theorem intR_err : ErrOk intF := fun S st hs => numR_err S st hs
theorem int_enc : EncOk intF encI IntP := fun A B n h => intF_enc A B h.1 h.2
theorem int_cut : CutOk intF encI IntP := by
 intro A n c h hc
 obtain ⟨m, h1, h2, h3⟩ := encI_enc h
 rw [h2] at hc ⊢
 exact num_cut A m c h1 hc
theorem int_back : BackOk intF encI IntP := by
 intro S p hb hp hn
 obtain ⟨a1, a2, a3⟩ := num_back S p hb hp hn
 obtain ⟨b1, b2⟩ := encI_sgn a3
 show (numF S (p, none)).2.1 = p + (encI (sgn (numF S (p, none)).1)).length ∧ (S.drop p).take (encI (sgn (numF S (p, none)).1)).length = encI (sgn (numF S (p, none)).1) ∧ IntP (sgn (numF S (p, none)).1)
 rw [b2]
 exact ⟨a1, a2, b1⟩
end Go.Proofs.YtlekdhejgdfnpaaDoor.P
/- errors.As at the reader's own error, errors.Is at a number's flaw: Go's text of both walked (turned from a worked proof of the kit). -/
namespace Go.Proofs.YtlekdhejgdfnpaaDoor.P
open Go.RowKit Go.Extern.Stop Go.Stop Go.Extern
set_option linter.unusedVariables false
set_option linter.unusedSimpArgs false
theorem wr_valueOf27 (t : Addr) (w : World) : (ReflectliteValue.unpack (.iface 84 (.pointer (some t)))).run Tryd.prog w
 = .ok (.agg #[.pointer (some ⟨1, 84, none⟩), .pointer (some ⟨w.heap.size, 0, none⟩), .int .u64 150]) (w.alloc (.cells #[.pointer (some t)] 84)) := by kernel_rfl
theorem wr_type27 (a : Addr) (w : World) : (ReflectliteValue.methodAny (ReflectliteValue.valueError "reflectlite.Value.Type" 0) (fun t _ _ _ => ReflectliteType.toType t) #[.agg #[.pointer (some ⟨1, 84, none⟩), .pointer (some a), .int .u64 150]]).run Tryd.prog w
 = .ok (.iface 116 (.agg #[.pointer (some ⟨1, 84, none⟩)])) w := by kernel_rfl
theorem wr_methodKind (h : Value) (w : World) : (Go.method 258 116 (.agg #[h]) "Kind").run Tryd.prog w = .ok (85, h) w := by kernel_rfl
theorem wr_kind27 (w : World) : ((ReflectliteType.abiMethod fun t => (fun a : Nat => Value.int IntKind.u8 (a : Int)) <$> Rtype.kind t) #[.pointer (some ⟨1, 84, none⟩)]).run Tryd.prog w = .ok (.int .u8 22) w := by kernel_rfl
theorem wr_kind25 (w : World) : ((ReflectliteType.abiMethod fun t => (fun a : Nat => Value.int IntKind.u8 (a : Int)) <$> Rtype.kind t) #[.pointer (some ⟨1, 82, none⟩)]).run Tryd.prog w = .ok (.int .u8 22) w := by kernel_rfl

theorem rlm (z : Sem Value) (f : TypeId → Addr → Nat → Nat → Sem Value) (v : Value) :
 ReflectliteValue.method z f #[v] = (do match ← ReflectliteValue.parts v with | none => z | some (t, a, fl) => f t a fl (fl % 32)) := rfl
theorem wr_parts27 (a : Addr) (w : World) : (ReflectliteValue.parts (.agg #[.pointer (some ⟨1, 84, none⟩), .pointer (some a), .int .u64 150])).run Tryd.prog w = .ok (some (84, a, 150)) w := by kernel_rfl
theorem wr_isNil27 (a p : Addr) (W : World) (ha : W.cell? a = some (.pointer (some p))) :
 (ReflectliteValue.method (ReflectliteValue.valueError "reflectlite.Value.IsNil" 0) ReflectliteValue.isNil #[.agg #[.pointer (some ⟨1, 84, none⟩), .pointer (some a), .int .u64 150]]).run Tryd.prog W = .ok (.bool false) W := by
 rw [rlm]
 simp only [Sem.run_bind, wr_parts27, Result.andThen]
 simp [ReflectliteValue.isNil, loadVar, isAgg, underlying, Tryd.underlying84, ha, Result.andThen]

theorem wr_methodElem (h : Value) (w : World) : (Go.method 258 116 (.agg #[h]) "Elem").run Tryd.prog w = .ok (98, .agg #[h]) w := by kernel_rfl
theorem wr_methodImplements (h : Value) (w : World) : (Go.method 258 116 (.agg #[h]) "Implements").run Tryd.prog w = .ok (99, .agg #[h]) w := by kernel_rfl
theorem wr_methodAssignableTo (h : Value) (w : World) : (Go.method 258 116 (.agg #[h]) "AssignableTo").run Tryd.prog w = .ok (96, .agg #[h]) w := by kernel_rfl
theorem wr_elem27 (w : World) : (ReflectliteType.method ReflectliteType.elem #[.agg #[.pointer (some ⟨1, 84, none⟩)]]).run Tryd.prog w = .ok (.iface 116 (.agg #[.pointer (some ⟨1, 82, none⟩)])) w := by kernel_rfl
theorem wr_implements25 (w : World) : (ReflectliteType.relation "Implements" ReflectliteType.implements_ #[.agg #[.pointer (some ⟨1, 82, none⟩)], .iface 116 (.agg #[.pointer (some ⟨1, 66, none⟩)])]).run Tryd.prog w = .ok (.bool true) w := by kernel_rfl
theorem wr_typeOf25 (v : Value) (w : World) : (ReflectliteType.typeOf #[.iface 82 v]).run Tryd.prog w = .ok (.iface 116 (.agg #[.pointer (some ⟨1, 82, none⟩)])) w := by kernel_rfl
theorem wr_assignable25 (w : World) : (ReflectliteType.relation "AssignableTo" ReflectliteType.assignableTo #[.agg #[.pointer (some ⟨1, 82, none⟩)], .iface 116 (.agg #[.pointer (some ⟨1, 82, none⟩)])]).run Tryd.prog w = .ok (.bool true) w := by kernel_rfl
theorem wr_valueOf25 (e : Addr) (w : World) : (ReflectliteValue.unpack (.iface 82 (.pointer (some e)))).run Tryd.prog w
 = .ok (.agg #[.pointer (some ⟨1, 82, none⟩), .pointer (some ⟨w.heap.size, 0, none⟩), .int .u64 150]) (w.alloc (.cells #[.pointer (some e)] 82)) := by kernel_rfl

theorem wr_elemOf27 (w : World) : (Rtype.elem? 84).run Tryd.prog w = .ok (some 82) w := by kernel_rfl
theorem wr_mk25 (p : Addr) (w : World) : (ReflectliteValue.mk 82 p ReflectliteValue.flagAddr).run Tryd.prog w = .ok (.agg #[.pointer (some ⟨1, 82, none⟩), .pointer (some p), .int .u64 406]) w := by kernel_rfl
theorem wr_elemV27 (a p : Addr) (W : World) (ha : W.cell? a = some (.pointer (some p))) :
 (ReflectliteValue.method (ReflectliteValue.valueError "reflectlite.Value.Elem" 0) ReflectliteValue.elem #[.agg #[.pointer (some ⟨1, 84, none⟩), .pointer (some a), .int .u64 150]]).run Tryd.prog W
  = .ok (.agg #[.pointer (some ⟨1, 82, none⟩), .pointer (some p), .int .u64 406]) W := by
 rw [rlm]
 simp only [Sem.run_bind, wr_parts27, Result.andThen]
 simp [ReflectliteValue.elem, loadVar, isAgg, underlying, Tryd.underlying84, ha, Result.andThen, wr_elemOf27, wr_mk25]
theorem rls (v x : Value) : ReflectliteValue.set #[v, x] = (do
 let (some (dst, a, fl), some (src, b, _)) := (← ReflectliteValue.parts v, ← ReflectliteValue.parts x)
  | unsupported (.noEntry "extern/(internal/reflectlite.Value).Set.zeroValue")
 if fl / ReflectliteValue.flagAddr % 2 == 0 then unsupported (.noEntry "extern/(internal/reflectlite.Value).Set.unaddressable")
 let val ← loadVar src b
 if ← Rtype.directlyAssignable dst src then storeVar dst a val
 else if ← Rtype.implements dst src then
  if (← Rtype.kind src) == 20 then
   match val with
   | .nilIface => unsupported (.noEntry "extern/reflectlite: a nil value of one interface type handed on as a value of another")
   | _ => storeVar dst a val
  else storeVar dst a (.iface src val)
 else panicString ("reflectlite.Set: value of type " ++ (← Rtype.spelt src) ++ " is not assignable to type " ++ (← Rtype.spelt dst))
 pure (.tuple #[])) := rfl
theorem wr_parts25a (a : Addr) (w : World) : (ReflectliteValue.parts (.agg #[.pointer (some ⟨1, 82, none⟩), .pointer (some a), .int .u64 406])).run Tryd.prog w = .ok (some (82, a, 406)) w := by kernel_rfl
theorem wr_parts25 (a : Addr) (w : World) : (ReflectliteValue.parts (.agg #[.pointer (some ⟨1, 82, none⟩), .pointer (some a), .int .u64 150])).run Tryd.prog w = .ok (some (82, a, 150)) w := by kernel_rfl
theorem wr_direct25 (w : World) : (Rtype.directlyAssignable 82 82).run Tryd.prog w = .ok true w := by kernel_rfl
theorem wr_set25 (ta b e : Addr) (old : Value) (W : World) (hb : W.cell? b = some (.pointer (some e))) (ht : W.cell? ta = some old) (hf : W.frozen? ta = false) :
 (ReflectliteValue.set #[.agg #[.pointer (some ⟨1, 82, none⟩), .pointer (some ta), .int .u64 406], .agg #[.pointer (some ⟨1, 82, none⟩), .pointer (some b), .int .u64 150]]).run Tryd.prog W
  = .ok (.tuple #[]) (W.setCell ta (.pointer (some e))) := by
 rw [rls]
 simp only [Sem.run_bind, wr_parts25a, wr_parts25, Result.andThen]
 simp [ReflectliteValue.flagAddr, loadVar, isAgg, underlying, Tryd.underlying82, hb, Result.andThen, wr_direct25, storeVar, Value.cells, storeCells, Addr.add]
 rw [run_store Tryd.prog W ta _ _ (by rfl)]
 simp [ht, hf]

set_option maxHeartbeats 4000000 in
theorem as_hit (e t : Addr) (old : Value) (w : World) (hg : w.cell? ⟨0, 0, none⟩ = some (.iface 116 (.agg #[.pointer (some ⟨1, 66, none⟩)]))) (ht0 : w.cell? t = some old) (hf0 : w.frozen? t = false) :
 Calls Tryd.prog 47 #[.iface 82 (.pointer (some e)), .iface 84 (.pointer (some t))] w fun ev w' => ev = .returned (.bool true) ∧ w' = ((((w.alloc (.cells #[.pointer (some t)] 84)).alloc (.cells #[.pointer (some ⟨1, 84, none⟩), .pointer (some ⟨w.heap.size, 0, none⟩), .int .u64 150] 101)).alloc (.cells #[.pointer (some ⟨1, 84, none⟩), .pointer (some ⟨w.heap.size, 0, none⟩), .int .u64 150] 101)).alloc (.cells #[.pointer (some e)] 82)).setCell t (.pointer (some e)) := by
 have h6 := @run_callFunc_extern Tryd.prog 60 _ (fun args => ReflectliteValue.unpack (args.getD 0 (.tuple #[]))) Tryd.func60 (by kernel_rfl) (by kernel_rfl) (by kernel_rfl) (by kernel_rfl)
 have h7 := @run_callFunc_extern Tryd.prog 61 _ (ReflectliteValue.methodAny (ReflectliteValue.valueError "reflectlite.Value.Type" 0) (fun t _ _ _ => ReflectliteType.toType t)) Tryd.func61 (by kernel_rfl) (by kernel_rfl) (by kernel_rfl) (by kernel_rfl)
 have h8 := @run_callFunc_extern Tryd.prog 62 _ (ReflectliteValue.method (ReflectliteValue.valueError "reflectlite.Value.IsNil" 0) ReflectliteValue.isNil) Tryd.func62 (by kernel_rfl) (by kernel_rfl) (by kernel_rfl) (by kernel_rfl)
 have h27 := @run_callFunc_extern Tryd.prog 85 _ (ReflectliteType.abiMethod fun t => do pure (.int .u8 (← Rtype.kind t))) Tryd.func85 (by kernel_rfl) (by kernel_rfl) (by kernel_rfl) (by kernel_rfl)
 have h37 := @run_callFunc_extern Tryd.prog 98 _ (ReflectliteType.method ReflectliteType.elem) Tryd.func98 (by kernel_rfl) (by kernel_rfl) (by kernel_rfl) (by kernel_rfl)
 have h38 := @run_callFunc_extern Tryd.prog 99 _ (ReflectliteType.relation "Implements" ReflectliteType.implements_) Tryd.func99 (by kernel_rfl) (by kernel_rfl) (by kernel_rfl) (by kernel_rfl)
 have h10 := @run_callFunc_extern Tryd.prog 64 _ ReflectliteType.typeOf Tryd.func64 (by kernel_rfl) (by kernel_rfl) (by kernel_rfl) (by kernel_rfl)
 have h35 := @run_callFunc_extern Tryd.prog 96 _ (ReflectliteType.relation "AssignableTo" ReflectliteType.assignableTo) Tryd.func96 (by kernel_rfl) (by kernel_rfl) (by kernel_rfl) (by kernel_rfl)
 have h11 := @run_callFunc_extern Tryd.prog 69 _ (ReflectliteValue.method (ReflectliteValue.valueError "reflectlite.Value.Elem" 0) ReflectliteValue.elem) Tryd.func69 (by kernel_rfl) (by kernel_rfl) (by kernel_rfl) (by kernel_rfl)
 have h12 := @run_callFunc_extern Tryd.prog 70 _ ReflectliteValue.set Tryd.func70 (by kernel_rfl) (by kernel_rfl) (by kernel_rfl) (by kernel_rfl)
 have tO := wr_typeOf25
 have mA := wr_methodAssignableTo
 have a25 := wr_assignable25
 have v25 := wr_valueOf25
 have f6 := wr_valueOf27
 have f7 := wr_type27
 have mK := wr_methodKind
 have mE := wr_methodElem
 have mI := wr_methodImplements
 have k27 := wr_kind27
 have k25 := wr_kind25
 have e27 := wr_elem27
 have i25 := wr_implements25
 have n8 := wr_isNil27 ⟨w.heap.size, 0, none⟩ t ((w.alloc (.cells #[.pointer (some t)] 84)).alloc (.cells #[.pointer (some ⟨1, 84, none⟩), .pointer (some ⟨w.heap.size, 0, none⟩), .int .u64 150] 101)) (by simp)
 have hlt : 0 < w.heap.size := by
  rcases Nat.eq_zero_or_pos w.heap.size with h0 | h
  ·simp [World.cell?, h0] at hg
  ·exact h
 have hg2 : ((w.alloc (.cells #[.pointer (some t)] 84)).alloc (.cells #[.pointer (some ⟨1, 84, none⟩), .pointer (some ⟨w.heap.size, 0, none⟩), .int .u64 150] 101)).cell? ⟨0, 0, none⟩ = some (.iface 116 (.agg #[.pointer (some ⟨1, 66, none⟩)])) := by
  rw [World.cell?_alloc_lt _ _ ⟨0, 0, none⟩ (by simp), World.cell?_alloc_lt _ _ ⟨0, 0, none⟩ hlt]; exact hg
 have htl : t.block < w.heap.size := by
  rcases Nat.lt_or_ge t.block w.heap.size with h | h
  ·exact h
  ·simp [World.cell?, Array.getElem?_eq_none h] at ht0
 have el := wr_elemV27 ⟨w.heap.size, 0, none⟩ t (((w.alloc (.cells #[.pointer (some t)] 84)).alloc (.cells #[.pointer (some ⟨1, 84, none⟩), .pointer (some ⟨w.heap.size, 0, none⟩), .int .u64 150] 101)).alloc (.cells #[.pointer (some ⟨1, 84, none⟩), .pointer (some ⟨w.heap.size, 0, none⟩), .int .u64 150] 101)) (by rw [World.cell?_alloc_lt _ _ ⟨w.heap.size, 0, none⟩ (by simp; omega)]; simp)
 have st := wr_set25 t ⟨w.heap.size + 1 + 1 + 1, 0, none⟩ e old ((((w.alloc (.cells #[.pointer (some t)] 84)).alloc (.cells #[.pointer (some ⟨1, 84, none⟩), .pointer (some ⟨w.heap.size, 0, none⟩), .int .u64 150] 101)).alloc (.cells #[.pointer (some ⟨1, 84, none⟩), .pointer (some ⟨w.heap.size, 0, none⟩), .int .u64 150] 101)).alloc (.cells #[.pointer (some e)] 82))
  (by rw [World.cell?_alloc_at _ _ _ _ (by simp)]; rfl)
  (by rw [World.cell?_alloc_lt _ _ t (by simp; omega), World.cell?_alloc_lt _ _ t (by simp; omega), World.cell?_alloc_lt _ _ t (by simp; omega), World.cell?_alloc_lt _ _ t htl]; exact ht0)
  (by rw [World.frozen?_alloc_old _ _ t (by simp; omega), World.frozen?_alloc_old _ _ t (by simp; omega), World.frozen?_alloc_old _ _ t (by simp; omega), World.frozen?_alloc_old _ _ t (Nat.ne_of_lt htl)]; exact hf0)
 go_enter Tryd.func47, Tryd.ntmps47
 go_wp2
 refine wp_loop_rounds 1 ?_
 rw [rounds_succ]
 go_wp2
 go_ret
 exact ⟨rfl, rfl⟩
end Go.Proofs.YtlekdhejgdfnpaaDoor.P
/- errors.Is at the reader's own error. -/
namespace Go.Proofs.YtlekdhejgdfnpaaDoor.P
open Go.RowKit Go.Extern.Stop Go.Stop Go.Extern
set_option linter.unusedVariables false
set_option linter.unusedSimpArgs false

theorem wr_typeOfF (v : Value) (w : World) : (ReflectliteType.typeOf #[.iface 87 v]).run Tryd.prog w = .ok (.iface 116 (.agg #[.pointer (some ⟨1, 87, none⟩)])) w := by kernel_rfl
theorem wr_methodComparable (h : Value) (w : World) : (Go.method 258 116 (.agg #[h]) "Comparable").run Tryd.prog w = .ok (97, .agg #[h]) w := by kernel_rfl
theorem wr_comparableF (w : World) : ((ReflectliteType.method fun t => do Rtype.noPackHeld "Comparable" t; (fun a => Value.bool a.comparable) <$> typeInfo t) #[.agg #[.pointer (some ⟨1, 87, none⟩)]]).run Tryd.prog w = .ok (.bool true) w := by kernel_rfl
theorem wr_eq1 (g : Nat) (c : Int) (W : World) : (binOp .eql 66 (.iface 82 (.pointer (some ⟨g, 0, none⟩))) (.iface 87 (.int .i64 c))).run Tryd.prog W = .ok (.bool false) W := by kernel_rfl
theorem wr_eq2 (a b : Int) (W : World) : (binOp .eql 66 (.iface 87 (.int .i64 a)) (.iface 87 (.int .i64 b))).run Tryd.prog W = .ok (.bool (a == b)) W := by kernel_rfl
theorem wr_ta1 (v : Value) (W : World) : (Instr.typeAssert (.iface 82 v) 66 128 true).run Tryd.prog W = .ok (.tuple #[.nilIface, .bool false]) W := run_typeAssert_lacksB Tryd.underlying128 (by decide +kernel) (by kernel_rfl) _ _ _
theorem wr_ta2 (v : Value) (W : World) : (Instr.typeAssert (.iface 82 v) 66 123 true).run Tryd.prog W = .ok (.tuple #[.iface 82 v, .bool true]) W := by kernel_rfl
theorem wr_ta3 (v : Value) (W : World) : (Instr.typeAssert (.iface 87 v) 66 128 true).run Tryd.prog W = .ok (.tuple #[.nilIface, .bool false]) W := run_typeAssert_lacksB Tryd.underlying128 (by decide +kernel) (by kernel_rfl) _ _ _
theorem wr_ta4 (v : Value) (W : World) : (Instr.typeAssert (.iface 87 v) 66 123 true).run Tryd.prog W = .ok (.tuple #[.nilIface, .bool false]) W := run_typeAssert_lacksB Tryd.underlying123 (by decide +kernel) (by kernel_rfl) _ _ _
theorem wr_ta5 (v : Value) (W : World) : (Instr.typeAssert (.iface 87 v) 66 125 true).run Tryd.prog W = .ok (.tuple #[.nilIface, .bool false]) W := run_typeAssert_lacksB Tryd.underlying125 (by decide +kernel) (by kernel_rfl) _ _ _
theorem wr_methodUnwrap (g : Nat) (W : World) : (Go.method 258 82 (.pointer (some ⟨g, 0, none⟩)) "Unwrap").run Tryd.prog W = .ok (90, .pointer (some ⟨g, 0, none⟩)) W := by kernel_rfl
set_option maxHeartbeats 2000000 in
set_option maxRecDepth 100000 in
theorem is_c {w : World} {g : Nat} {pl : Int} {c c' : Int} (hg : w.heap[g]? = some (.cells #[.int .i64 pl, .iface 87 (.int .i64 c)] 86 (0, 0))) :
 Calls Tryd.prog 48 #[.iface 82 (.pointer (some ⟨g, 0, none⟩)), .iface 87 (.int .i64 c')] w fun e w' => e = .returned (.bool (decide (c = c'))) ∧ ∃ q, w' = w.drewN q := by
 have h10 := @run_callFunc_extern Tryd.prog 64 _ ReflectliteType.typeOf Tryd.func64 (by kernel_rfl) (by kernel_rfl) (by kernel_rfl) (by kernel_rfl)
 have h78 := @run_callFunc_extern Tryd.prog 97 _ (ReflectliteType.method fun t => do Rtype.noPackHeld "Comparable" t; pure (.bool (← typeInfo t).comparable)) Tryd.func97 (by kernel_rfl) (by kernel_rfl) (by kernel_rfl) (by kernel_rfl)
 have tO := wr_typeOfF
 have cF := wr_comparableF
 have mC := wr_methodComparable
 have k0 : w.cell? ⟨g, 0, none⟩ = some (.int .i64 pl) := by simp [World.cell?, hg]
 have k1 : w.cell? ⟨g, 1, none⟩ = some (.iface 87 (.int .i64 c)) := by simp [World.cell?, hg]
 have e1 := wr_eq1
 have e2 := wr_eq2
 have t1 := wr_ta1
 have t2 := wr_ta2
 have t3 := wr_ta3
 have t4 := wr_ta4
 have t5 := wr_ta5
 have mU := wr_methodUnwrap
 clear hg
 by_cases hcc : c = c'
 ·have hcb : (c == c') = true := beq_iff_eq.mpr hcc
  clear hcc
  go_enter Tryd.func48, Tryd.ntmps48
  go_wp2
  refine wp_loop_rounds 2 ?_
  rw [rounds_succ]
  go_wp2
  rw [rounds_succ]
  go_wp2
  go_ret
  exact ⟨by rw [decide_eq_true (beq_iff_eq.mp hcb)]; rfl, by first | exact ⟨0, rfl⟩ | exact ⟨_, rfl⟩⟩
 ·have hcb : (c == c') = false := beq_eq_false_iff_ne.mpr hcc
  clear hcc
  go_enter Tryd.func48, Tryd.ntmps48
  go_wp2
  refine wp_loop_rounds 2 ?_
  rw [rounds_succ]
  go_wp2
  rw [rounds_succ]
  go_wp2
  go_ret
  exact ⟨by rw [decide_eq_false (beq_eq_false_iff_ne.mp hcb)]; rfl, by first | exact ⟨0, rfl⟩ | exact ⟨_, rfl⟩⟩
end Go.Proofs.YtlekdhejgdfnpaaDoor.P
/- The one variable of the library's that is read (by errors.As). -/
namespace Go.Proofs.YtlekdhejgdfnpaaDoor.P
open Go.RowKit Go.Extern.Stop Go.Stop Go.Extern Go.Proofs.YtlekdhejgdfnpaaDoorW.PrintWords Go.Proofs.YtlekdhejgdfnpaaDoorW.PrintLast Go.Proofs.YtlekdhejgdfnpaaDoorW.PrintMore
set_option linter.unusedVariables false
set_option linter.unusedSimpArgs false

/-- the one variable of the library's that errors.As reads -/
def EV (w : World) : Prop := w.cell? ⟨0, 0, none⟩ = some (.iface 116 (.agg #[.pointer (some ⟨1, 66, none⟩)]))
theorem EV.pos {w : World} (h : EV w) : 0 < w.heap.size := World.block_lt_of_cell? w _ h
theorem EV.below {w w1 : World} {b : Nat} (h : EV w) (hb : Below b w w1) (h0 : 0 < b) : EV w1 := (hb.cell (p := ⟨0, 0, none⟩) h0).trans h
end Go.Proofs.YtlekdhejgdfnpaaDoor.P
/- The wire's reader, walked: End. -/
namespace Go.Proofs.YtlekdhejgdfnpaaDoor.P
open Go.RowKit Go.Proofs.YtlekdhejgdfnpaaDoorW.PrintWords Go.Proofs.YtlekdhejgdfnpaaDoorW.PrintLast Go.Proofs.YtlekdhejgdfnpaaDoorW.PrintMore
open Wr
set_option linter.unusedVariables false
set_option linter.unusedSimpArgs false

theorem end_ok {w : World} {B : Nat} {s : ByteArray} {p : Nat} (h : RC w B s p .nilIface) :
 Calls Tryd.prog 18 #[.pointer (some ⟨B, 0, none⟩)] w fun e w' => e = .returned (.tuple #[.int .i64 (if p < s.size then 13 else 0), .int .i64 (p : Int)]) ∧ ∃ q, w' = w.drewN q := by
 obtain ⟨c0, c1, c2, f1, f2⟩ := h.cells
 clear h
 by_cases hlt : p < s.size
 ·have d1 : decide (p < s.size) = true := decide_eq_true hlt
  rw [if_pos hlt]
  clear hlt
  go_enter Tryd.func18, Tryd.ntmps18
  go_wp2
  go_quiet (fail)
  go_wp2
  go_quiet (fail)
  go_wp2
  go_ret2
  exact ⟨rfl, by first | exact ⟨0, rfl⟩ | exact ⟨_, rfl⟩ | exact ⟨_, World.drewN_drewN _ _ _⟩⟩
 ·have d1 : decide (p < s.size) = false := decide_eq_false hlt
  rw [if_neg hlt]
  clear hlt
  go_enter Tryd.func18, Tryd.ntmps18
  go_wp2
  go_quiet (fail)
  go_wp2
  go_quiet (fail)
  go_wp2
  go_ret2
  exact ⟨rfl, by first | exact ⟨0, rfl⟩ | exact ⟨_, rfl⟩ | exact ⟨_, World.drewN_drewN _ _ _⟩⟩
theorem wr_idx0 (W : World) : (Instr.index 88 (.agg #[.int .i64 10, .int .i64 11]) (.int .i64 0)).run Tryd.prog W = .ok (.int .i64 10) W := by kernel_rfl
theorem wr_idx1 (W : World) : (Instr.index 88 (.agg #[.int .i64 10, .int .i64 11]) (.int .i64 1)).run Tryd.prog W = .ok (.int .i64 11) W := by kernel_rfl
theorem as_c {w : World} (hE : EV w) (g : Nat) :
 Calls Tryd.prog 47 #[.iface 82 (.pointer (some ⟨g, 0, none⟩)), .iface 84 (.pointer (some ⟨w.heap.size, 0, none⟩))] (w.alloc (.cells #[.pointer none] 82)) fun e w' => e = .returned (.bool true) ∧ Below w.heap.size w w' ∧ w'.cell? ⟨w.heap.size, 0, none⟩ = some (.pointer (some ⟨g, 0, none⟩)) := by
 have hp := hE.pos
 have hb : Below w.heap.size w (w.alloc (.cells #[.pointer none] 82)) := (Below.refl _ _).alloc (Nat.le_refl _) _
 have hcell : (w.alloc (.cells #[.pointer none] 82)).heap[w.heap.size]? = some (.cells #[.pointer none] 82 (0, 0)) := Array.getElem?_push_size
 refine (as_hit ⟨g, 0, none⟩ ⟨w.heap.size, 0, none⟩ (.pointer none) _ (hE.below hb hp) (by simp) (by simp only [World.frozen?, hcell]; rfl)).mono ?_
 rintro e w' ⟨rfl, rfl⟩
 refine ⟨rfl, ?_, ?_⟩
 ·refine Below.setCell (p := ⟨w.heap.size, 0, none⟩) ?_ (Nat.le_refl _) _
  refine Below.alloc (Below.alloc (Below.alloc (Below.alloc hb ?_ _) ?_ _) ?_ _) ?_ _ <;> simp <;> omega
 ·have hs : ∀ (W : World) (v v0 : Value) (t : TypeId), W.heap[w.heap.size]? = some (.cells #[v0] t (0, 0)) → (W.setCell ⟨w.heap.size, 0, none⟩ v).cell? ⟨w.heap.size, 0, none⟩ = some v := by
   intro W v v0 t h
   simp [World.setCell, World.cell?, Array.getElem?_modify, h]
  refine hs _ _ (.pointer none) 82 ?_
  rw [World.heap_alloc_at_lt _ _ _ (by simp; omega), World.heap_alloc_at_lt _ _ _ (by simp; omega), World.heap_alloc_at_lt _ _ _ (by simp; omega), World.heap_alloc_at_lt _ _ _ (by simp)]
  exact Array.getElem?_push_size
theorem is_at {w W : World} {g : Nat} {pl : Int} {c c' : Int} (hg : w.heap[g]? = some (.cells #[.int .i64 pl, .iface 87 (.int .i64 c)] 86 (0, 0))) (e : W.heap = w.heap) :
 Calls Tryd.prog 48 #[.iface 82 (.pointer (some ⟨g, 0, none⟩)), .iface 87 (.int .i64 c')] W fun e w' => e = .returned (.bool (decide (c = c'))) ∧ ∃ q, w' = W.drewN q := is_c (by rw [e]; exact hg)
set_option maxHeartbeats 4000000 in
set_option maxRecDepth 100000 in
theorem end_err {w : World} {B : Nat} {s : ByteArray} {p g pl : Nat} {c : Int} (hE : EV w) (h : RC w B s p (.iface 82 (.pointer (some ⟨g, 0, none⟩)))) (hg : w.heap[g]? = some (.cells #[.int .i64 (pl : Int), .iface 87 (.int .i64 c)] 86 (0, 0))) (hc : c = 10 ∨ c = 11 ∨ c = 12) :
 Calls Tryd.prog 18 #[.pointer (some ⟨B, 0, none⟩)] w fun e w' => e = .returned (.tuple #[.int .i64 c, .int .i64 (pl : Int)]) ∧ Below w.heap.size w w' := by
 obtain ⟨c0, c1, c2, f1, f2⟩ := h.cells
 have hB := h.lt
 have i0 := wr_idx0
 have i1 := wr_idx1
 have HG := Aside0.mk (And.intro hE hg)
 have hglt : g < w.heap.size := by
  rcases Nat.lt_or_ge g w.heap.size with h | h
  ·exact h
  ·simp [Array.getElem?_eq_none h] at hg
 clear h hg hE
 rcases hc with rfl | rfl | rfl
 all_goals
  go_enter Tryd.func18, Tryd.ntmps18
  go_wp2_with (go_at_call 47; refine (as_c HG.out.1 g).mono ?_; rintro e w1 ⟨rfl, hb, k6⟩; (have hg1 := (hb.block g hglt).trans HG.out.2); (have k7 : w1.cell? ⟨g, 0, none⟩ = some (.int .i64 (pl : Int)) := by simp [World.cell?, hg1]); (have k8 : w1.cell? ⟨B, 2, none⟩ = _ := (hb.cell (p := ⟨B, 2, none⟩) hB).trans c2); (have H1 := Aside0.mk (And.intro hb hg1)); clear hb hg1)
  refine wp_loop_rounds 3 ?_
  rw [rounds_succ]
  go_wp2_with (go_at_call 48; refine (is_at H1.out.2 (by rfl)).mono ?_; rintro e w2 ⟨rfl, q2, rfl⟩)
  rw [rounds_succ]
  go_wp2_with (go_at_call 48; refine (is_at H1.out.2 (by rfl)).mono ?_; rintro e w2 ⟨rfl, q2, rfl⟩)
  rw [rounds_succ]
  go_wp2
  go_ret2
  exact ⟨rfl, by first | exact pw_below_drewN H1.out.1 _ | exact pw_below_drewN (pw_below_drewN H1.out.1 _) _⟩
theorem end_c {w : World} {base B : Nat} {s : ByteArray} {st : St} (hE : EV w) (h : Rd w base B s st) (hok : ∀ pc, st.2 = some pc → pc.2 = 10 ∨ pc.2 = 11 ∨ pc.2 = 12) :
 Calls Tryd.prog 18 #[.pointer (some ⟨B, 0, none⟩)] w fun e w' => e = .returned (.tuple #[.int .i64 (endF (bytesOf s) st).1, .int .i64 (endF (bytesOf s) st).2]) ∧ Below w.heap.size w w' := by
 obtain ⟨p, er⟩ := st
 obtain ⟨h0, ev, h1, h2⟩ := h
 cases er with
 | none =>
  obtain rfl : ev = .nilIface := h2
  refine (end_ok h1).mono ?_
  rintro e w' ⟨rfl, q, rfl⟩
  refine ⟨?_, pw_below_drewN (Below.refl _ _) q⟩
  simp only [endF, bytesOf_length]
  split <;> rfl
 | some pc =>
  obtain ⟨pl, c⟩ := pc
  obtain ⟨g, rfl, -, -, hg⟩ := h2
  exact end_err hE h1 hg (hok (pl, c) rfl)
end Go.Proofs.YtlekdhejgdfnpaaDoor.P
/- The wire's reader, walked: lists. -/
namespace Go.Proofs.YtlekdhejgdfnpaaDoor.P
open Go.RowKit Go.Proofs.YtlekdhejgdfnpaaDoorW.PrintWords Go.Proofs.YtlekdhejgdfnpaaDoorW.PrintLast Go.Proofs.YtlekdhejgdfnpaaDoorW.PrintMore
open Wr
set_option linter.unusedVariables false
set_option linter.unusedSimpArgs false
theorem Rd.fail {w0 w1 : World} {base B : Nat} {s : ByteArray} {p : Nat} (hb : base ≤ B) (hr : RC w1 B s p .nilIface) (hg : w0.grownBy w1 (some B)) (pl : Nat) (c : Int) :
 Rd ((w1.setCell ⟨B, 2, none⟩ (.iface 82 (.pointer (some ⟨w1.heap.size, 0, none⟩)))).alloc (.cells #[.int .i64 (pl : Int), .iface 87 (.int .i64 c)] 86)) base B s (p, some (pl, c)) ∧
 w0.grownBy ((w1.setCell ⟨B, 2, none⟩ (.iface 82 (.pointer (some ⟨w1.heap.size, 0, none⟩)))).alloc (.cells #[.int .i64 (pl : Int), .iface 87 (.int .i64 c)] 86)) (some B) := by
 have hlt := hr.lt
 have hfin := RC.setErr hr hg (.iface 82 (.pointer (some ⟨w1.heap.size, 0, none⟩)))
 have hsz : (w1.setCell ⟨B, 2, none⟩ (.iface 82 (.pointer (some ⟨w1.heap.size, 0, none⟩)))).heap.size = w1.heap.size := by simp [World.setCell]
 refine ⟨⟨hb, _, (World.heap_alloc_at_lt _ _ _ (by rw [hsz]; exact hlt)).trans hfin.1, w1.heap.size, rfl, Nat.le_of_lt (Nat.lt_of_le_of_lt hb hlt), Nat.ne_of_gt hlt, ?_⟩, grown_alloc hfin.2 _⟩
 have hps := @Array.getElem?_push_size _ (w1.setCell ⟨B, 2, none⟩ (.iface 82 (.pointer (some ⟨w1.heap.size, 0, none⟩)))).heap (.cells #[.int .i64 (pl : Int), .iface 87 (.int .i64 c)] 86)
 rw [hsz] at hps
 exact hps
theorem loopF_succ (one : St → Int × St) (d : Nat) (st : St) (out : List Int) : loopF one (d + 1) st out = if (one st).2.2 = none then loopF one d (one st).2 (out ++ [(one st).1]) else ([], (one st).2) := rfl
theorem intF_at {S : List Int} (hb : ∀ b ∈ S, 0 ≤ b ∧ b ≤ 255) (st : St) (hp : st.1 ≤ S.length) : (intF S st).2.1 ≤ S.length ∧ st.1 ≤ (intF S st).2.1 ∧ ((intF S st).2.2 = none → st.1 < (intF S st).2.1) := by
 obtain ⟨a1, a2, a3, a4, a5⟩ := numF_at hb st hp
 exact ⟨a1, a2, a5⟩
/-- what was made since W0 is written: all before it stays but the reader -/
theorem grown_new {w wr w1 : World} {B : Nat} {v : Value} (h : w.grownBy wr (some B)) (hg : wr.grownBy w1 v.ownBlock) (hv : ∀ k, v.ownBlock = some k → w.heap.size ≤ k) : w.grownBy w1 (some B) :=
 ⟨hg.os.trans h.os, hg.tape.trans h.tape, hg.output.trans h.output, Nat.le_trans h.size hg.size, fun k hk hne => (hg.block k (Nat.lt_of_lt_of_le hk h.size) (fun e => by have := hv k e.symm; omega)).trans (h.block k hk hne)⟩
theorem R_base {α : Type} {d : Kd α} {e : Nat} {w : World} {base : Nat} {ok : Nat → Prop} {v : Value} {xs : List α} (h : d.R e w base ok v xs) : ∀ k, v.ownBlock = some k → base ≤ k := by
 intro k hk
 rcases Kd.R_base2 h with h | ⟨k', h1, h2⟩
 ·rw [h] at hk; simp at hk
 ·rw [h1] at hk; obtain rfl := Option.some.inj hk; exact h2
theorem Rd.row {w w1 : World} {base B b0 : Nat} {s : ByteArray} {st : St} {v : Value} {xs : List Int} (h : Rd w base B s st) (hr : (Kd.int .i64).R 3 w b0 (fun k => k ≠ B) v xs) (hg : w.grownBy w1 v.ownBlock) : Rd w1 base B s st := by
 refine h.grown hg (fun e => hr.1 B e.symm rfl) (fun k e hk c hc => ?_)
 obtain ⟨cells, hcells⟩ := Kd.R_typed hr k e
 rw [hcells] at hc
 injection hc with hc
 injection hc with _ hc
 exact absurd hc (by decide)

set_option maxHeartbeats 4000000 in
set_option maxRecDepth 100000 in
theorem list_int {w : World} {base B : Nat} {s : ByteArray} {st : St} (most : Int) (h : Rd w base B s st) (hs : s.size ≤ 1000000000) (hp : st.1 ≤ s.size) (hbase : base ≤ w.heap.size) :
 Calls Tryd.prog 68 #[.pointer (some ⟨B, 0, none⟩), .int .i64 most, .func (Fn.func 46) #[.pointer (some ⟨B, 0, none⟩)] #[]] w fun e w' => ∃ v, e = .returned v ∧ (Kd.int .i64).R 3 w' w.heap.size (fun k => k ≠ B) v (listF (bytesOf s) (intF (bytesOf s)) most st).1 ∧ Rd w' base B s (listF (bytesOf s) (intF (bytesOf s)) most st).2 ∧ w.grownBy w' (some B) := by
 obtain ⟨a1, a2, a3, a4, a5⟩ := numF_at (bytesOf_in s) st (by rw [bytesOf_length]; exact hp)
 rw [bytesOf_length] at a1
 have hh := num_c h hs hp
 obtain ⟨n, st1, hn⟩ : ∃ n st1, numF (bytesOf s) st = (n, st1) := ⟨_, _, rfl⟩
 have hhd : headF (bytesOf s) most st = (n, if st1.2 = none ∧ n > most then (st1.1, some (st.1, 12)) else st1) := by
  unfold headF
  rw [hn]
  split <;> rfl
 unfold listF
 rw [hhd]
 rw [hn] at hh a1 a3 a4
 obtain ⟨p, er⟩ := st
 obtain ⟨p1, er1⟩ := st1
 obtain ⟨h0, ev0, hrc, hre⟩ := id h
 obtain ⟨c0, c1, c2, f1, f2⟩ := hrc.cells
 have hB := hrc.lt
 have a3' : 0 ≤ n := a3
 obtain ⟨N, rfl⟩ : ∃ N : Nat, n = (N : Int) := ⟨n.toNat, by omega⟩
 have a4' : (N : Int) ≤ 1125899906842624 := a4
 have hh' : Calls Tryd.prog 42 #[.pointer (some ⟨B, 0, none⟩)] w fun e w' => e = .returned (.int .i64 (N : Int)) ∧ Rd w' base B s (p1, er1) ∧ w.grownBy w' (some B) := hh
 have HH := Aside0.mk hh'
 have HS := Aside0.mk (And.intro hs (And.intro hbase (And.intro h0 hB)))
 obtain ⟨st2, hst2⟩ : ∃ st2 : St, st2 = (if er1 = none ∧ (N : Int) > most then (p1, some (p, 12)) else (p1, er1)) := ⟨_, rfl⟩
 have HST := Aside0.mk (And.intro hst2 (show p1 ≤ s.size from a1))
 simp only [Int.toNat_natCast]
 rw [← hst2]
 have hways : (er1 = none ∧ decide (most < (N : Int)) = true) ∨ (er1 = none ∧ decide (most < (N : Int)) = false) ∨ (∃ pc, er1 = some pc) := by
  cases er1 with
  | none =>
   by_cases hm : most < (N : Int)
   ·exact .inl ⟨rfl, decide_eq_true hm⟩
   ·exact .inr (.inl ⟨rfl, decide_eq_false hm⟩)
  | some pc => exact .inr (.inr ⟨pc, rfl⟩)
 clear h hs hp hh hh' hn hhd hbase h0 hrc hre a1 a2 a3 a3' a4 a5 hB hst2
 simp only at c1
 rcases hways with ⟨rfl, y1⟩ | ⟨rfl, y1⟩ | ⟨⟨pl0, cc0⟩, rfl⟩
 ·have E2 : Aside0 (st2 = (p1, some (p, 12))) := ⟨by rw [HST.out.1]; exact if_pos ⟨rfl, of_decide_eq_true y1⟩⟩
  go_enter Tryd.func68, Tryd.ntmps68
  go_upto_region 7 with ((go_at_call 42; refine HH.out.mono ?_; rintro e w1 ⟨rfl, hr, hg⟩; (obtain ⟨h10, ev1, hrc1, hre1⟩ := id hr); (obtain rfl : ev1 = .nilIface := hre1); (obtain ⟨d0, d1, d2, g1, g2⟩ := hrc1.cells); (have hlt1 := hrc1.lt); (have H1 := Aside0.mk (And.intro hr (And.intro hg hrc1))); clear hr hg h10 hrc1))
  go_wp2
  go_loopw [9, 38] (fun v9 v38 wr => ∃ (d : Nat) (st : St) (out : List Int), d ≤ N ∧ v38 = .int .i64 (d : Int) ∧ Aside0 ((Kd.int .i64).R 3 wr w.heap.size (fun k => k ≠ B) v9 out ∧ Rd wr base B s st ∧ w.grownBy wr (some B)) ∧ Aside0 (st.1 ≤ s.size ∧ out.length ≤ st.1 ∧ loopF (intF (bytesOf s)) N st2 [] = loopF (intF (bytesOf s)) (N - d) st out)) (fun _ v38 _ => (N - (intOf v38).toNat))
  case atStart => exact ⟨0, st2, [], Nat.zero_le _, rfl, ⟨Kd.R_nil _ _ _ _ _, by rw [E2.out]; exact Rd.fail HS.out.2.2.1 H1.out.2.2 H1.out.2.1 p 12⟩, ⟨by rw [HST.out.1]; split <;> exact HST.out.2, Nat.zero_le _, rfl⟩⟩
  case round =>
   obtain ⟨d, st, out, hd, rfl, HR, HT⟩ := hrel
   by_cases hlt : d < N
   ·have hone := int_c HR.out.2.1 HS.out.1 HT.out.1
    obtain ⟨b1, b2, b3⟩ := intF_at (bytesOf_in s) st (by rw [bytesOf_length]; exact HT.out.1)
    rw [bytesOf_length] at b1
    have hl2 := HT.out.2.2
    rw [show N - d = (N - (d + 1)) + 1 by omega] at hl2
    rw [loopF_succ] at hl2
    obtain ⟨x, st', hx⟩ : ∃ x st', intF (bytesOf s) st = (x, st') := ⟨_, _, rfl⟩
    rw [hx] at hone hl2 b1 b2 b3
    obtain ⟨p', er'⟩ := st'
    have hone' : Calls Tryd.prog 46 #[.pointer (some ⟨B, 0, none⟩)] wr fun e w' => e = .returned (.int .i64 x) ∧ Rd w' base B s (p', er') ∧ wr.grownBy w' (some B) := hone
    have HO := Aside0.mk hone'
    cases er' with
    | none =>
     have hl3 : loopF (intF (bytesOf s)) N st2 [] = loopF (intF (bytesOf s)) (N - (d + 1)) (p', none) (out ++ [x]) := by rw [hl2]; rfl
     have HL := Aside0.mk (And.intro (show p' ≤ s.size from b1) (And.intro (show st.1 < p' from b3 rfl) hl3))
     clear hone hone' hl2 hl3 b1 b2 b3 hx
     go_wp2_with (first
      | (go_at_call 46; refine HO.out.mono ?_; rintro e w3 ⟨rfl, hr, hg⟩; (obtain ⟨h30, ev3, hrc3, hre3⟩ := id hr); (obtain rfl : ev3 = .nilIface := hre3); (obtain ⟨k0, k1, k2, k3, k4⟩ := hrc3.cells); (have hr3 := Kd.R_grown HR.out.1 hg (fun k hk e => hk (Option.some.inj e))); (have H3 := Aside0.mk (And.intro hr3 (And.intro hr (grown_trans HR.out.2.2 hg)))); clear hr hg h30 hrc3 hr3)
      | ((with_reducible refine gate_dst (N := 50) rfl ?_); refine Kd.R_append (Kd.int .i64) w.heap.size rfl (.tmp 47) (.tmp 49) 22 3 (.int .i64 0) 8 rfl Tryd.underlying22 info3 rfl (by decide) (by omega) _ out x [.int .i64 x] (fun k => k ≠ B) (fun _ => False) rfl rfl ?aP (fun _ hk => hk.elim) ?aF ?aO (Below.refl _ _) ?aS ?aL ?_; (case aP => exact rfl); (case aF => exact (fun k hk => by have := H3.out.2.1.lt; omega)); (case aO => exact H3.out.1); (case aS => exact H3.out.2.2.size); (case aL => have := HL.out; have := HT.out; have := HS.out; omega); intro v4 w4 ho hb hg hat; (have H4 := Aside0.mk (And.intro ho (And.intro (H3.out.2.1.row H3.out.1 hg) (grown_new H3.out.2.2 hg (R_base H3.out.1))))); clear ho hb hg hat))
     go_roundw
     case rel => exact ⟨d + 1, _, _, by omega, by go_num, H4, ⟨HL.out.1, by have := HL.out.2.1; have := HT.out.2.1; simp; omega, HL.out.2.2⟩⟩
     case measure => simp [intOf]; omega
    | some pc =>
     obtain ⟨pl, c⟩ := pc
     have hl3 : loopF (intF (bytesOf s)) N st2 [] = ([], (p', some (pl, c))) := by rw [hl2]; rfl
     have HL := Aside0.mk hl3
     clear hone hone' hl2 hl3 b1 b2 b3 hx
     go_wp2_with (go_at_call 46; refine HO.out.mono ?_; rintro e w3 ⟨rfl, hr, hg⟩; (obtain ⟨h30, ev3, hrc3, hre3⟩ := id hr); (obtain ⟨g3, rfl, -⟩ := hre3); (obtain ⟨k0, k1, k2, k3, k4⟩ := hrc3.cells); (have H3 := Aside0.mk (And.intro hr (grown_trans HR.out.2.2 hg))); clear hr hg h30 hrc3)
     go_ret
     rw [HL.out]
     exact ⟨_, rfl, Kd.R_nil _ _ _ _ _, H3.out⟩
   ·obtain rfl : d = N := by omega
    have hl3 : loopF (intF (bytesOf s)) d st2 [] = (out, st) := by have := HT.out.2.2; rw [Nat.sub_self] at this; exact this
    have HL := Aside0.mk hl3
    clear hl3
    go_wp2
    go_ret
    rw [HL.out]
    exact ⟨_, rfl, HR.out⟩
 ·have E2 : Aside0 (st2 = (p1, none)) := ⟨by rw [HST.out.1]; exact if_neg (fun h => of_decide_eq_false y1 h.2)⟩
  go_enter Tryd.func68, Tryd.ntmps68
  go_upto_region 7 with ((go_at_call 42; refine HH.out.mono ?_; rintro e w1 ⟨rfl, hr, hg⟩; (obtain ⟨h10, ev1, hrc1, hre1⟩ := id hr); (obtain rfl : ev1 = .nilIface := hre1); (obtain ⟨d0, d1, d2, g1, g2⟩ := hrc1.cells); (have hlt1 := hrc1.lt); (have H1 := Aside0.mk (And.intro hr (And.intro hg hrc1))); clear hr hg h10 hrc1))
  go_wp2
  go_loopw [9, 38] (fun v9 v38 wr => ∃ (d : Nat) (st : St) (out : List Int), d ≤ N ∧ v38 = .int .i64 (d : Int) ∧ Aside0 ((Kd.int .i64).R 3 wr w.heap.size (fun k => k ≠ B) v9 out ∧ Rd wr base B s st ∧ w.grownBy wr (some B)) ∧ Aside0 (st.1 ≤ s.size ∧ out.length ≤ st.1 ∧ loopF (intF (bytesOf s)) N st2 [] = loopF (intF (bytesOf s)) (N - d) st out)) (fun _ v38 _ => (N - (intOf v38).toNat))
  case atStart => exact ⟨0, st2, [], Nat.zero_le _, rfl, ⟨Kd.R_nil _ _ _ _ _, by rw [E2.out]; exact ⟨H1.out.1, H1.out.2.1⟩⟩, ⟨by rw [HST.out.1]; split <;> exact HST.out.2, Nat.zero_le _, rfl⟩⟩
  case round =>
   obtain ⟨d, st, out, hd, rfl, HR, HT⟩ := hrel
   by_cases hlt : d < N
   ·have hone := int_c HR.out.2.1 HS.out.1 HT.out.1
    obtain ⟨b1, b2, b3⟩ := intF_at (bytesOf_in s) st (by rw [bytesOf_length]; exact HT.out.1)
    rw [bytesOf_length] at b1
    have hl2 := HT.out.2.2
    rw [show N - d = (N - (d + 1)) + 1 by omega] at hl2
    rw [loopF_succ] at hl2
    obtain ⟨x, st', hx⟩ : ∃ x st', intF (bytesOf s) st = (x, st') := ⟨_, _, rfl⟩
    rw [hx] at hone hl2 b1 b2 b3
    obtain ⟨p', er'⟩ := st'
    have hone' : Calls Tryd.prog 46 #[.pointer (some ⟨B, 0, none⟩)] wr fun e w' => e = .returned (.int .i64 x) ∧ Rd w' base B s (p', er') ∧ wr.grownBy w' (some B) := hone
    have HO := Aside0.mk hone'
    cases er' with
    | none =>
     have hl3 : loopF (intF (bytesOf s)) N st2 [] = loopF (intF (bytesOf s)) (N - (d + 1)) (p', none) (out ++ [x]) := by rw [hl2]; rfl
     have HL := Aside0.mk (And.intro (show p' ≤ s.size from b1) (And.intro (show st.1 < p' from b3 rfl) hl3))
     clear hone hone' hl2 hl3 b1 b2 b3 hx
     go_wp2_with (first
      | (go_at_call 46; refine HO.out.mono ?_; rintro e w3 ⟨rfl, hr, hg⟩; (obtain ⟨h30, ev3, hrc3, hre3⟩ := id hr); (obtain rfl : ev3 = .nilIface := hre3); (obtain ⟨k0, k1, k2, k3, k4⟩ := hrc3.cells); (have hr3 := Kd.R_grown HR.out.1 hg (fun k hk e => hk (Option.some.inj e))); (have H3 := Aside0.mk (And.intro hr3 (And.intro hr (grown_trans HR.out.2.2 hg)))); clear hr hg h30 hrc3 hr3)
      | ((with_reducible refine gate_dst (N := 50) rfl ?_); refine Kd.R_append (Kd.int .i64) w.heap.size rfl (.tmp 47) (.tmp 49) 22 3 (.int .i64 0) 8 rfl Tryd.underlying22 info3 rfl (by decide) (by omega) _ out x [.int .i64 x] (fun k => k ≠ B) (fun _ => False) rfl rfl ?aP (fun _ hk => hk.elim) ?aF ?aO (Below.refl _ _) ?aS ?aL ?_; (case aP => exact rfl); (case aF => exact (fun k hk => by have := H3.out.2.1.lt; omega)); (case aO => exact H3.out.1); (case aS => exact H3.out.2.2.size); (case aL => have := HL.out; have := HT.out; have := HS.out; omega); intro v4 w4 ho hb hg hat; (have H4 := Aside0.mk (And.intro ho (And.intro (H3.out.2.1.row H3.out.1 hg) (grown_new H3.out.2.2 hg (R_base H3.out.1))))); clear ho hb hg hat))
     go_roundw
     case rel => exact ⟨d + 1, _, _, by omega, by go_num, H4, ⟨HL.out.1, by have := HL.out.2.1; have := HT.out.2.1; simp; omega, HL.out.2.2⟩⟩
     case measure => simp [intOf]; omega
    | some pc =>
     obtain ⟨pl, c⟩ := pc
     have hl3 : loopF (intF (bytesOf s)) N st2 [] = ([], (p', some (pl, c))) := by rw [hl2]; rfl
     have HL := Aside0.mk hl3
     clear hone hone' hl2 hl3 b1 b2 b3 hx
     go_wp2_with (go_at_call 46; refine HO.out.mono ?_; rintro e w3 ⟨rfl, hr, hg⟩; (obtain ⟨h30, ev3, hrc3, hre3⟩ := id hr); (obtain ⟨g3, rfl, -⟩ := hre3); (obtain ⟨k0, k1, k2, k3, k4⟩ := hrc3.cells); (have H3 := Aside0.mk (And.intro hr (grown_trans HR.out.2.2 hg))); clear hr hg h30 hrc3)
     go_ret
     rw [HL.out]
     exact ⟨_, rfl, Kd.R_nil _ _ _ _ _, H3.out⟩
   ·obtain rfl : d = N := by omega
    have hl3 : loopF (intF (bytesOf s)) d st2 [] = (out, st) := by have := HT.out.2.2; rw [Nat.sub_self] at this; exact this
    have HL := Aside0.mk hl3
    clear hl3
    go_wp2
    go_ret
    rw [HL.out]
    exact ⟨_, rfl, HR.out⟩
 ·have E2 : Aside0 (st2 = (p1, some (pl0, cc0))) := ⟨by rw [HST.out.1]; exact if_neg (fun h => by simp at h)⟩
  go_enter Tryd.func68, Tryd.ntmps68
  go_upto_region 7 with ((go_at_call 42; refine HH.out.mono ?_; rintro e w1 ⟨rfl, hr, hg⟩; (obtain ⟨h10, ev1, hrc1, hre1⟩ := id hr); (obtain ⟨g0, rfl, -⟩ := hre1); (obtain ⟨d0, d1, d2, g1, g2⟩ := hrc1.cells); (have hlt1 := hrc1.lt); (have H1 := Aside0.mk (And.intro hr (And.intro hg hrc1))); clear hr hg h10 hrc1))
  go_wp2
  go_loopw [9, 38] (fun v9 v38 wr => ∃ (d : Nat) (st : St) (out : List Int), d ≤ N ∧ v38 = .int .i64 (d : Int) ∧ Aside0 ((Kd.int .i64).R 3 wr w.heap.size (fun k => k ≠ B) v9 out ∧ Rd wr base B s st ∧ w.grownBy wr (some B)) ∧ Aside0 (st.1 ≤ s.size ∧ out.length ≤ st.1 ∧ loopF (intF (bytesOf s)) N st2 [] = loopF (intF (bytesOf s)) (N - d) st out)) (fun _ v38 _ => (N - (intOf v38).toNat))
  case atStart => exact ⟨0, st2, [], Nat.zero_le _, rfl, ⟨Kd.R_nil _ _ _ _ _, by rw [E2.out]; exact ⟨H1.out.1, H1.out.2.1⟩⟩, ⟨by rw [HST.out.1]; split <;> exact HST.out.2, Nat.zero_le _, rfl⟩⟩
  case round =>
   obtain ⟨d, st, out, hd, rfl, HR, HT⟩ := hrel
   by_cases hlt : d < N
   ·have hone := int_c HR.out.2.1 HS.out.1 HT.out.1
    obtain ⟨b1, b2, b3⟩ := intF_at (bytesOf_in s) st (by rw [bytesOf_length]; exact HT.out.1)
    rw [bytesOf_length] at b1
    have hl2 := HT.out.2.2
    rw [show N - d = (N - (d + 1)) + 1 by omega] at hl2
    rw [loopF_succ] at hl2
    obtain ⟨x, st', hx⟩ : ∃ x st', intF (bytesOf s) st = (x, st') := ⟨_, _, rfl⟩
    rw [hx] at hone hl2 b1 b2 b3
    obtain ⟨p', er'⟩ := st'
    have hone' : Calls Tryd.prog 46 #[.pointer (some ⟨B, 0, none⟩)] wr fun e w' => e = .returned (.int .i64 x) ∧ Rd w' base B s (p', er') ∧ wr.grownBy w' (some B) := hone
    have HO := Aside0.mk hone'
    cases er' with
    | none =>
     have hl3 : loopF (intF (bytesOf s)) N st2 [] = loopF (intF (bytesOf s)) (N - (d + 1)) (p', none) (out ++ [x]) := by rw [hl2]; rfl
     have HL := Aside0.mk (And.intro (show p' ≤ s.size from b1) (And.intro (show st.1 < p' from b3 rfl) hl3))
     clear hone hone' hl2 hl3 b1 b2 b3 hx
     go_wp2_with (first
      | (go_at_call 46; refine HO.out.mono ?_; rintro e w3 ⟨rfl, hr, hg⟩; (obtain ⟨h30, ev3, hrc3, hre3⟩ := id hr); (obtain rfl : ev3 = .nilIface := hre3); (obtain ⟨k0, k1, k2, k3, k4⟩ := hrc3.cells); (have hr3 := Kd.R_grown HR.out.1 hg (fun k hk e => hk (Option.some.inj e))); (have H3 := Aside0.mk (And.intro hr3 (And.intro hr (grown_trans HR.out.2.2 hg)))); clear hr hg h30 hrc3 hr3)
      | ((with_reducible refine gate_dst (N := 50) rfl ?_); refine Kd.R_append (Kd.int .i64) w.heap.size rfl (.tmp 47) (.tmp 49) 22 3 (.int .i64 0) 8 rfl Tryd.underlying22 info3 rfl (by decide) (by omega) _ out x [.int .i64 x] (fun k => k ≠ B) (fun _ => False) rfl rfl ?aP (fun _ hk => hk.elim) ?aF ?aO (Below.refl _ _) ?aS ?aL ?_; (case aP => exact rfl); (case aF => exact (fun k hk => by have := H3.out.2.1.lt; omega)); (case aO => exact H3.out.1); (case aS => exact H3.out.2.2.size); (case aL => have := HL.out; have := HT.out; have := HS.out; omega); intro v4 w4 ho hb hg hat; (have H4 := Aside0.mk (And.intro ho (And.intro (H3.out.2.1.row H3.out.1 hg) (grown_new H3.out.2.2 hg (R_base H3.out.1))))); clear ho hb hg hat))
     go_roundw
     case rel => exact ⟨d + 1, _, _, by omega, by go_num, H4, ⟨HL.out.1, by have := HL.out.2.1; have := HT.out.2.1; simp; omega, HL.out.2.2⟩⟩
     case measure => simp [intOf]; omega
    | some pc =>
     obtain ⟨pl, c⟩ := pc
     have hl3 : loopF (intF (bytesOf s)) N st2 [] = ([], (p', some (pl, c))) := by rw [hl2]; rfl
     have HL := Aside0.mk hl3
     clear hone hone' hl2 hl3 b1 b2 b3 hx
     go_wp2_with (go_at_call 46; refine HO.out.mono ?_; rintro e w3 ⟨rfl, hr, hg⟩; (obtain ⟨h30, ev3, hrc3, hre3⟩ := id hr); (obtain ⟨g3, rfl, -⟩ := hre3); (obtain ⟨k0, k1, k2, k3, k4⟩ := hrc3.cells); (have H3 := Aside0.mk (And.intro hr (grown_trans HR.out.2.2 hg))); clear hr hg h30 hrc3)
     go_ret
     rw [HL.out]
     exact ⟨_, rfl, Kd.R_nil _ _ _ _ _, H3.out⟩
   ·obtain rfl : d = N := by omega
    have hl3 : loopF (intF (bytesOf s)) d st2 [] = (out, st) := by have := HT.out.2.2; rw [Nat.sub_self] at this; exact this
    have HL := Aside0.mk hl3
    clear hl3
    go_wp2
    go_ret
    rw [HL.out]
    exact ⟨_, rfl, HR.out⟩
theorem ints_c {w : World} {base B : Nat} {s : ByteArray} {st : St} (most : Int) (h : Rd w base B s st) (hs : s.size ≤ 1000000000) (hp : st.1 ≤ s.size) (hbase : base ≤ w.heap.size) :
 Calls Tryd.prog 59 #[.pointer (some ⟨B, 0, none⟩), .int .i64 most] w fun e w' => ∃ v, e = .returned v ∧ (Kd.int .i64).R 3 w' w.heap.size (fun k => k ≠ B) v (listF (bytesOf s) (intF (bytesOf s)) most st).1 ∧ Rd w' base B s (listF (bytesOf s) (intF (bytesOf s)) most st).2 ∧ w.grownBy w' (some B) := by
 have H := Aside0.mk (list_int most h hs hp hbase)
 clear h hs hp hbase
 go_enter Tryd.func59, Tryd.ntmps59
 go_wp2_with (go_at_call 68; refine H.out.mono ?_; rintro e w1 ⟨v, rfl, h1⟩; (have H1 := Aside0.mk h1); clear h1)
 go_ret
 exact ⟨_, rfl, H1.out⟩
end Go.Proofs.YtlekdhejgdfnpaaDoor.P
/- answer's reader, walked: fine. -/
namespace Go.Proofs.YtlekdhejgdfnpaaDoor.P
open Go.RowKit Go.Proofs.YtlekdhejgdfnpaaDoorW.PrintWords Go.Proofs.YtlekdhejgdfnpaaDoorW.PrintLast Go.Proofs.YtlekdhejgdfnpaaDoorW.PrintMore
open Wr
set_option linter.unusedVariables false
set_option linter.unusedSimpArgs false

/-- the answer's reader: the wire's, and a place below 0, or where a count is that is above its bound -/
def RA (w : World) (G B : Nat) (many : Int) : Prop := w.heap[G]? = some (.cells #[.pointer (some ⟨B, 0, none⟩), .int .i64 many] 48 (0, 0))
def fineV (S : List Int) (st : St) (many : Int) : Bool := decide (many < 0) && (((endF S st).1 == 0) || ((endF S st).1 == 13))
set_option maxHeartbeats 2000000 in
set_option maxRecDepth 100000 in
theorem fine_c {w : World} {base B G : Nat} {s : ByteArray} {st : St} {many : Int} (hE : EV w) (h : Rd w base B s st) (hok : ∀ pc, st.2 = some pc → pc.2 = 10 ∨ pc.2 = 11 ∨ pc.2 = 12) (hg : RA w G B many) :
 Calls Tryd.prog 45 #[.pointer (some ⟨G, 0, none⟩)] w fun e w' => e = .returned (.bool (fineV (bytesOf s) st many)) ∧ Below w.heap.size w w' := by
 have HEND := Aside0.mk (end_c hE h hok)
 have z0 : w.cell? ⟨G, 0, none⟩ = some (.pointer (some ⟨B, 0, none⟩)) := (blk_cell hg 0).trans rfl
 have HG := Aside0.mk hg
 unfold fineV
 generalize (endF (bytesOf s) st).1 = c at *
 generalize (endF (bytesOf s) st).2 = p at *
 clear hE h hok hg
 rcases Bool.eq_false_or_eq_true (decide (many < 0)) with hm | hm <;> rcases Bool.eq_false_or_eq_true (c == 0) with h0 | h0 <;> rcases Bool.eq_false_or_eq_true (c == 13) with h1 | h1
 all_goals
  rw [hm, h0, h1]
  go_enter Tryd.func45, Tryd.ntmps45
  go_wp2_with (go_at_call 18; refine HEND.out.mono ?_; rintro e w1 ⟨rfl, hb⟩; (have z1 := ((hb.cell (World.block_lt_of_cell? w _ z0)).trans z0)); (have z2 := (blk_cell ((hb.block G (blk_lt HG.out)).trans HG.out) 1).trans rfl); (have HB := Aside0.mk hb); clear hb)
  go_ret
  exact ⟨rfl, HB.out⟩
end Go.Proofs.YtlekdhejgdfnpaaDoor.P
/- answer's reader, walked: list, count; the reader in one state. -/
namespace Go.Proofs.YtlekdhejgdfnpaaDoor.P
open Go.RowKit Go.Proofs.YtlekdhejgdfnpaaDoorW.PrintWords Go.Proofs.YtlekdhejgdfnpaaDoorW.PrintLast Go.Proofs.YtlekdhejgdfnpaaDoorW.PrintMore
open Wr
set_option linter.unusedVariables false
set_option linter.unusedSimpArgs false

def countF (S : List Int) (most : Int) (st : St) : Int × St :=
 if (numF S st).2.2 = none ∧ (numF S st).1 > most then (0, ((numF S st).2.1, some (st.1, 12))) else numF S st
/-- the state in one: the wire's, or that a count is above its bound -/
def ARs (many : Int) (sw st : St) : Prop := (many = -1 ∧ st = sw) ∨ ∃ m : Nat, many = (m : Int) ∧ sw.2 = none ∧ st = (sw.1, some (m, 12))
def AR (w : World) (base G B : Nat) (s : ByteArray) (st : St) : Prop :=
 base ≤ G ∧ ∃ (many : Int) (sw : St), RA w G B many ∧ Rd w base B s sw ∧ Ok s sw ∧ ARs many sw st
theorem Rd.kept {w w1 : World} {base B : Nat} {s : ByteArray} {st : St} {K : Nat → Prop} (h : Rd w base B s st) (hk : Kept w w1 K)
 (ht : ∀ k c t, K k → w.heap[k]? = some (.cells c t (0, 0)) → t ≠ 79 ∧ t ≠ 86) : Rd w1 base B s st := by
 obtain ⟨hb, ev, hrc, hre⟩ := h
 refine ⟨hb, ev, (hk.2 B hrc.lt (fun hK => (ht B _ _ hK hrc).1 rfl)).trans hrc, hre.keep (fun g _ hlt v hv hc => hk.2 g hlt (fun hK => ?_))⟩
 obtain ⟨c, rfl⟩ := hc
 exact (ht g _ _ hK hv).2 rfl
theorem AR.kept {w w1 : World} {base G B : Nat} {s : ByteArray} {st : St} {K : Nat → Prop} (h : AR w base G B s st) (hk : Kept w w1 K)
 (ht : ∀ k c t, K k → w.heap[k]? = some (.cells c t (0, 0)) → t ≠ 48 ∧ t ≠ 79 ∧ t ≠ 86) : AR w1 base G B s st := by
 obtain ⟨h0, many, sw, hra, hrd, ho, hs⟩ := h
 exact ⟨h0, many, sw, (hk.2 G (blk_lt hra) (fun hK => (ht G _ _ hK hra).1 rfl)).trans hra, hrd.kept hk (fun k c t hK hc => (ht k c t hK hc).2), ho, hs⟩
theorem AR.below {w w1 : World} {base G B : Nat} {s : ByteArray} {st : St} (h : AR w base G B s st) (hb : Below w.heap.size w w1) : AR w1 base G B s st :=
 h.kept (Kept.of_below hb (fun _ => False)) (fun _ _ _ hk => hk.elim)
theorem AR.ok {w : World} {base G B : Nat} {s : ByteArray} {st : St} (h : AR w base G B s st) : Ok s st := by
 obtain ⟨h0, many, sw, hra, hrd, ho, hs⟩ := h
 rcases hs with ⟨-, rfl⟩ | ⟨m, -, -, rfl⟩
 ·exact ho
 ·exact ⟨ho.1, fun pc h => by obtain rfl := Option.some.inj h; exact .inr (.inr rfl)⟩
theorem AR.blocks {w : World} {base G B : Nat} {s : ByteArray} {st : St} (h : AR w base G B s st) : base ≤ G ∧ base ≤ B ∧ (∃ c, w.heap[G]? = some (.cells c 48 (0, 0))) ∧ (∃ c, w.heap[B]? = some (.cells c 79 (0, 0))) := by
 obtain ⟨h0, many, sw, hra, ⟨hb, ev, hrc, hre⟩, ho, hs⟩ := h
 exact ⟨h0, hb, ⟨_, hra⟩, ⟨_, hrc⟩⟩
theorem AR.none {w : World} {base G B : Nat} {s : ByteArray} {st : St} (h : AR w base G B s st) (hn : st.2 = none) : base ≤ G ∧ RA w G B (-1) ∧ Rd w base B s st := by
 obtain ⟨h0, many, sw, hra, hrd, ho, hs⟩ := h
 rcases hs with ⟨rfl, rfl⟩ | ⟨m, -, -, rfl⟩
 ·exact ⟨h0, hra, hrd⟩
 ·cases hn
theorem fineV_eq {s : ByteArray} {sw st : St} {many : Int} (ho : Ok s sw) (h : ARs many sw st) : fineV (bytesOf s) sw many = st.2.isNone := by
 unfold fineV
 rcases h with ⟨rfl, rfl⟩ | ⟨m, rfl, -, rfl⟩
 ·obtain ⟨p, er⟩ := st
  cases er with
  | none =>
   simp only [endF]
   split <;> rfl
  | some pc =>
   obtain ⟨pl, c⟩ := pc
   have this : c = 10 ∨ c = 11 ∨ c = 12 := ho.2 _ rfl
   have e0 : (c == 0) = false := beq_eq_false_iff_ne.mpr (by intro h; rw [h] at this; rcases this with h | h | h <;> exact absurd h (by decide))
   have e1 : (c == 13) = false := beq_eq_false_iff_ne.mpr (by intro h; rw [h] at this; rcases this with h | h | h <;> exact absurd h (by decide))
   simp only [endF, e0, e1]
   rfl
 ·have : decide ((m : Int) < 0) = false := decide_eq_false (by omega)
  rw [this]; rfl
theorem fine_a {w : World} {base G B : Nat} {s : ByteArray} {st : St} (hE : EV w) (h : AR w base G B s st) :
 Calls Tryd.prog 45 #[.pointer (some ⟨G, 0, none⟩)] w fun e w' => e = .returned (.bool st.2.isNone) ∧ Below w.heap.size w w' := by
 obtain ⟨h0, many, sw, hra, hrd, ho, hs⟩ := h
 rw [← fineV_eq ho hs]
 exact fine_c hE hrd ho.2 hra
theorem listF_err {S : List Int} {one : St → Int × St} {most : Int} {st : St} (h : st.2 ≠ none) : listF S one most st = ([], st) := by
 obtain ⟨p, er⟩ := st
 cases er with
 | none => exact absurd rfl h
 | some pc => rfl
theorem ints_ok {s : ByteArray} {st : St} (most : Int) (ho : Ok s st) : Ok s (listF (bytesOf s) (intF (bytesOf s)) most st).2 := by
 rw [listF_int]; exact listF_ok most ho
set_option maxHeartbeats 2000000 in
set_option maxRecDepth 100000 in
theorem list_a {w : World} {base G B : Nat} {s : ByteArray} {st : St} (hE : EV w) (h : AR w base G B s st) (hs : s.size ≤ 1000000000) (hbase : base ≤ w.heap.size) :
 Calls Tryd.prog 43 #[.pointer (some ⟨G, 0, none⟩)] w fun e w' => ∃ v, e = .returned v ∧ (Kd.int .i64).R 3 w' w.heap.size (fun k => k < w'.heap.size) v (listF (bytesOf s) (intF (bytesOf s)) 64 st).1 ∧
  AR w' base G B s (listF (bytesOf s) (intF (bytesOf s)) 64 st).2 ∧ Below base w w' ∧ Kept w w' (fun k => k = G ∨ k = B) := by
 have HF := fine_a hE h
 by_cases hn : st.2 = none
 ·obtain ⟨h0, hra, hrd⟩ := h.none hn
  rw [hn] at HF
  have HF := Aside0.mk HF
  have ho := h.ok
  have z0 : w.cell? ⟨G, 0, none⟩ = some (.pointer (some ⟨B, 0, none⟩)) := (blk_cell hra 0).trans rfl
  have hGlt := World.block_lt_of_cell? w _ z0
  have HH := Aside0.mk (And.intro hra (And.intro hrd (And.intro hs (And.intro hbase (And.intro h0 ho)))))
  have HL := Aside0.mk (ints_ok 64 ho)
  obtain ⟨r, st', hr⟩ : ∃ r st', listF (bytesOf s) (intF (bytesOf s)) 64 st = (r, st') := ⟨_, _, rfl⟩
  have HI : Aside0 (∀ w1 : World, Below w.heap.size w w1 → Calls Tryd.prog 59 #[.pointer (some ⟨B, 0, none⟩), .int .i64 64] w1 fun e w' => ∃ v, e = .returned v ∧ (Kd.int .i64).R 3 w' w1.heap.size (fun k => k ≠ B) v r ∧ Rd w' base B s st' ∧ w1.grownBy w' (some B)) :=
   ⟨fun w1 hb => by
    have := ints_c (w := w1) 64 (HH.out.2.1.below hb) hs ho.1 (Nat.le_trans hbase hb.size)
    rw [hr] at this; exact this⟩
  rw [hr] at HL ⊢
  clear h hn h0 hra hrd ho hs hbase hE hr
  go_enter Tryd.func43, Tryd.ntmps43
  go_wp2_with (first
   | (go_at_call 59; refine (HI.out _ HB.out).mono ?_; rintro e w2 ⟨v, rfl, h2⟩; (have H2 := Aside0.mk h2); clear h2)
   | (go_at_call 45; refine HF.out.mono ?_; rintro e w1 ⟨rfl, hb⟩; (have z1 := (hb.cell hGlt).trans z0); (have HB := Aside0.mk hb); clear hb))
  go_ret
  obtain ⟨hr2, hrd2, hg2⟩ := H2.out
  have hb1 := HB.out
  refine ⟨_, rfl, Kd.R_mono (Kd.R_bound (Kd.R_lower hr2 hb1.size)) (fun k hk => hk.2.2.1), ⟨HH.out.2.2.2.2.1, -1, st', ?_, hrd2, HL.out, .inl ⟨rfl, rfl⟩⟩, ?_, ?_⟩
  ·have hra1 := blk_below HH.out.1 hb1
   exact blk_grown hra1 hg2 (fun e => by
    obtain rfl := Option.some.inj e
    obtain ⟨_, ev, hrc, _⟩ := HH.out.2.1
    exact absurd (blk_ne HH.out.1 hrc (by decide)) (fun h => h rfl))
  ·exact (hb1.mono HH.out.2.2.2.1).trans ((Below.refl _ _).grown hg2 (Nat.le_trans HH.out.2.2.2.1 hb1.size) (fun k e => by obtain rfl := Option.some.inj e; exact HH.out.2.1.1))
  ·exact Kept.of_grown hg2 (Kept.of_below hb1 _) (fun k e => .inl (.inr (Option.some.inj e).symm))
 ·have e0 : st.2.isNone = false := by cases hx : st.2 with | none => exact absurd hx hn | some _ => rfl
  rw [e0] at HF
  rw [listF_err hn]
  have HF := Aside0.mk HF
  have HH := Aside0.mk (And.intro h hbase)
  clear h hn hs hbase hE e0
  go_enter Tryd.func43, Tryd.ntmps43
  go_wp2_with (go_at_call 45; refine HF.out.mono ?_; rintro e w1 ⟨rfl, hb⟩; (have HB := Aside0.mk hb); clear hb)
  go_ret
  exact ⟨_, rfl, Kd.R_nil _ _ _ _ _, HH.out.1.below HB.out, HB.out.mono HH.out.2, Kept.of_below HB.out _⟩
theorem numF_err {S : List Int} {st : St} (h : st.2 ≠ none) : numF S st = (0, st) := by
 obtain ⟨p, er⟩ := st
 cases er with
 | none => exact absurd rfl h
 | some pc => rfl
theorem isNone_no {st : St} (h : st.2 ≠ none) : st.2.isNone = false := by cases hx : st.2 with | none => exact absurd hx h | some _ => rfl
set_option maxHeartbeats 4000000 in
set_option maxRecDepth 100000 in
theorem count_a {w : World} {base G B : Nat} {s : ByteArray} {st : St} (most : Int) (hb0 : 0 < base) (hE : EV w) (h : AR w base G B s st) (hs : s.size ≤ 1000000000) (hbase : base ≤ w.heap.size) :
 Calls Tryd.prog 44 #[.pointer (some ⟨G, 0, none⟩), .int .i64 most] w fun e w' => e = .returned (.int .i64 (countF (bytesOf s) most st).1) ∧
  AR w' base G B s (countF (bytesOf s) most st).2 ∧ Below base w w' ∧ Kept w w' (fun k => k = G ∨ k = B) := by
 have HF := fine_a hE h
 by_cases hn : st.2 = none
 ·obtain ⟨h0, hra, hrd⟩ := h.none hn
  rw [hn] at HF
  have HF := Aside0.mk HF
  have ho := h.ok
  have z0 : w.cell? ⟨G, 0, none⟩ = some (.pointer (some ⟨B, 0, none⟩)) := (blk_cell hra 0).trans rfl
  have hGlt := World.block_lt_of_cell? w _ z0
  have HH := Aside0.mk (And.intro hra (And.intro hrd (And.intro hs (And.intro hbase (And.intro h0 ho)))))
  have HP := Aside0.mk (And.intro hE hE.pos)
  have HL := Aside0.mk (refnum_ok ho)
  obtain ⟨p, er⟩ := st
  obtain rfl : er = none := hn
  have hGB : G ≠ B := by
   obtain ⟨_, ev, hrc, _⟩ := hrd
   exact blk_ne hra hrc (by decide)
  have HGB := Aside0.mk hGB
  obtain ⟨n, st', hr⟩ : ∃ n st', numF (bytesOf s) (p, none) = (n, st') := ⟨_, _, rfl⟩
  obtain ⟨c, hc⟩ : ∃ c, endF (bytesOf s) (p, none) = (c, (p : Int)) := by
   simp only [endF]
   split
   ·exact ⟨_, rfl⟩
   ·exact ⟨_, rfl⟩
  have HEND : Aside0 (∀ w1 : World, Below w.heap.size w w1 → Calls Tryd.prog 18 #[.pointer (some ⟨B, 0, none⟩)] w1 fun e w' => e = .returned (.tuple #[.int .i64 c, .int .i64 (p : Int)]) ∧ Below w1.heap.size w1 w') :=
   ⟨fun w1 hb => by
    have := end_c (HP.out.1.below hb HP.out.2) (HH.out.2.1.below hb) ho.2
    rw [hc] at this; exact this⟩
  have HNUM : Aside0 (∀ w1 : World, Below w.heap.size w w1 → Calls Tryd.prog 42 #[.pointer (some ⟨B, 0, none⟩)] w1 fun e w' => e = .returned (.int .i64 n) ∧ (AR w' base G B s st' ∧ RA w' G B (-1) ∧ Rd w' base B s st') ∧ w1.grownBy w' (some B)) :=
   ⟨fun w1 hb => by
    have := num_c (w := w1) (HH.out.2.1.below hb) hs ho.1
    rw [hr] at this
    refine this.mono ?_
    rintro e w' ⟨rfl, h1, h2⟩
    have hra' : RA w' G B (-1) := blk_grown (blk_below HH.out.1 hb) h2 (fun e => HGB.out (Option.some.inj e))
    exact ⟨rfl, ⟨⟨HH.out.2.2.2.2.1, -1, st', hra', h1, by have := HL.out; rw [hr] at this; exact this, .inl ⟨rfl, rfl⟩⟩, hra', h1⟩, h2⟩⟩
  have HF2 : Aside0 (∀ w2 : World, AR w2 base G B s st' → Below base w w2 → Calls Tryd.prog 45 #[.pointer (some ⟨G, 0, none⟩)] w2 fun e w' => e = .returned (.bool st'.2.isNone) ∧ Below w2.heap.size w2 w') := ⟨fun w2 ha hb => fine_a (HP.out.1.below hb hb0) ha⟩
  have HL2 : Aside0 (Ok s st') := ⟨by have := HL.out; rw [hr] at this; exact this⟩
  have hcf : countF (bytesOf s) most (p, none) = if st'.2 = none ∧ n > most then (0, (st'.1, some (p, 12))) else (n, st') := by
   unfold countF; rw [hr]
  rw [hcf]
  by_cases h1 : st'.2 = none
  ·rw [h1] at HF2
   have H1 := Aside0.mk h1
   by_cases h2 : n > most
   ·rw [if_pos ⟨h1, h2⟩]
    have y1 : decide (most < n) = true := decide_eq_true h2
    clear h1 h2
    clear h h0 hra hrd ho hs hbase hE hr hc hcf hGB
    go_enter Tryd.func44, Tryd.ntmps44
    go_wp2_with (first
     | (go_at_call 45; (have z_ := H3.out); clear z_; refine (HF2.out _ H3.out.1 HB3.out).mono ?_; rintro e w4 ⟨rfl, hb⟩; (have hra4 := blk_below H3.out.2.1 hb); (have z4 : w4.cell? ⟨G, 0, none⟩ = some (.pointer (some ⟨B, 0, none⟩)) := (blk_cell hra4 0).trans rfl); (have y4 : w4.cell? ⟨G, 1, none⟩ = some (.int .i64 (-1)) := (blk_cell hra4 1).trans rfl); (have x4 : w4.frozen? ⟨G, 1, none⟩ = false := blk_frozen hra4 1); (have H4 := Aside0.mk (And.intro (H3.out.1.below hb) (And.intro hra4 (And.intro (H3.out.2.2.below hb) (And.intro (HB3.out.trans (hb.mono (Nat.le_trans HH.out.2.2.2.1 HB3.out.size))) (HK3.out.below hb)))))); clear hra4 hb)
     | (go_at_call 42; (have z_ := HB2.out); clear z_; refine (HNUM.out _ HB2.out).mono ?_; rintro e w3 ⟨rfl, h3, hg⟩; (have z3 : w3.cell? ⟨G, 0, none⟩ = some (.pointer (some ⟨B, 0, none⟩)) := (blk_cell h3.2.1 0).trans rfl); (have H3 := Aside0.mk h3); (have HB3 := Aside0.mk ((HB2.out.mono HH.out.2.2.2.1).trans ((Below.refl _ _).grown hg (Nat.le_trans HH.out.2.2.2.1 HB2.out.size) (fun k e => by obtain rfl := Option.some.inj e; exact HH.out.2.1.1)))); (have HK3 : Aside0 (Kept w w3 (fun k => k = G ∨ k = B)) := ⟨Kept.of_grown hg (Kept.of_below HB2.out _) (fun k e => .inl (.inr (Option.some.inj e).symm))⟩); clear h3 hg)
     | (go_at_call 18; (have z_ := HB1.out); clear z_; refine (HEND.out _ HB1.out).mono ?_; rintro e w2 ⟨rfl, hb⟩; (have z2 : w2.cell? ⟨G, 0, none⟩ = some (.pointer (some ⟨B, 0, none⟩)) := (hb.cell (World.block_lt_of_cell? w1 _ z1)).trans z1); (have HB2 := Aside0.mk (HB1.out.trans (hb.mono HB1.out.size))); clear hb)
     | (go_at_call 45; refine HF.out.mono ?_; rintro e w1 ⟨rfl, hb⟩; (have z1 := (hb.cell hGlt).trans z0); (have HB1 := Aside0.mk hb); clear hb))
    go_ret
    obtain ⟨-, hra4, hrd4, hb4, hk4⟩ := H4.out
    have hkk : Kept w4 (w4.setCell ⟨G, 1, none⟩ (.int .i64 (p : Int))) (fun k => k = G) := Kept.setCell (S := fun k => k = G) (p := ⟨G, 1, none⟩) (Kept.refl _ _) (.inl rfl) _
    refine ⟨rfl, ⟨HH.out.2.2.2.2.1, (p : Int), st', (blk_set hra4 1 _).trans rfl, hrd4.kept hkk (fun k c t hk hc => ?_), HL2.out, .inr ⟨p, rfl, H1.out, rfl⟩⟩, hb4.setCell (p := ⟨G, 1, none⟩) HH.out.2.2.2.2.1 _, hk4.setCell (p := ⟨G, 1, none⟩) (.inl (.inl rfl)) _⟩
    subst hk
    have hra4' : w4.heap[k]? = some (.cells #[.pointer (some ⟨B, 0, none⟩), .int .i64 (-1)] 48 (0, 0)) := hra4
    rw [hra4'] at hc
    injection hc with hc
    injection hc with _ hc
    subst hc
    exact ⟨by decide, by decide⟩
   ·rw [if_neg (fun h => h2 h.2)]
    have y1 : decide (most < n) = false := decide_eq_false h2
    clear h1 h2
    clear h h0 hra hrd ho hs hbase hE hr hc hcf hGB
    go_enter Tryd.func44, Tryd.ntmps44
    go_wp2_with (first
     | (go_at_call 45; (have z_ := H3.out); clear z_; refine (HF2.out _ H3.out.1 HB3.out).mono ?_; rintro e w4 ⟨rfl, hb⟩; (have hra4 := blk_below H3.out.2.1 hb); (have z4 : w4.cell? ⟨G, 0, none⟩ = some (.pointer (some ⟨B, 0, none⟩)) := (blk_cell hra4 0).trans rfl); (have y4 : w4.cell? ⟨G, 1, none⟩ = some (.int .i64 (-1)) := (blk_cell hra4 1).trans rfl); (have x4 : w4.frozen? ⟨G, 1, none⟩ = false := blk_frozen hra4 1); (have H4 := Aside0.mk (And.intro (H3.out.1.below hb) (And.intro hra4 (And.intro (H3.out.2.2.below hb) (And.intro (HB3.out.trans (hb.mono (Nat.le_trans HH.out.2.2.2.1 HB3.out.size))) (HK3.out.below hb)))))); clear hra4 hb)
     | (go_at_call 42; (have z_ := HB2.out); clear z_; refine (HNUM.out _ HB2.out).mono ?_; rintro e w3 ⟨rfl, h3, hg⟩; (have z3 : w3.cell? ⟨G, 0, none⟩ = some (.pointer (some ⟨B, 0, none⟩)) := (blk_cell h3.2.1 0).trans rfl); (have H3 := Aside0.mk h3); (have HB3 := Aside0.mk ((HB2.out.mono HH.out.2.2.2.1).trans ((Below.refl _ _).grown hg (Nat.le_trans HH.out.2.2.2.1 HB2.out.size) (fun k e => by obtain rfl := Option.some.inj e; exact HH.out.2.1.1)))); (have HK3 : Aside0 (Kept w w3 (fun k => k = G ∨ k = B)) := ⟨Kept.of_grown hg (Kept.of_below HB2.out _) (fun k e => .inl (.inr (Option.some.inj e).symm))⟩); clear h3 hg)
     | (go_at_call 18; (have z_ := HB1.out); clear z_; refine (HEND.out _ HB1.out).mono ?_; rintro e w2 ⟨rfl, hb⟩; (have z2 : w2.cell? ⟨G, 0, none⟩ = some (.pointer (some ⟨B, 0, none⟩)) := (hb.cell (World.block_lt_of_cell? w1 _ z1)).trans z1); (have HB2 := Aside0.mk (HB1.out.trans (hb.mono HB1.out.size))); clear hb)
     | (go_at_call 45; refine HF.out.mono ?_; rintro e w1 ⟨rfl, hb⟩; (have z1 := (hb.cell hGlt).trans z0); (have HB1 := Aside0.mk hb); clear hb))
    go_ret
    exact ⟨rfl, H4.out.1, H4.out.2.2.2⟩
  ·rw [if_neg (fun h => h1 h.1)]
   rw [isNone_no h1] at HF2
   clear h1
   clear h h0 hra hrd ho hs hbase hE hr hc hcf hGB
   go_enter Tryd.func44, Tryd.ntmps44
   go_wp2_with (first
    | (go_at_call 45; (have z_ := H3.out); clear z_; refine (HF2.out _ H3.out.1 HB3.out).mono ?_; rintro e w4 ⟨rfl, hb⟩; (have hra4 := blk_below H3.out.2.1 hb); (have z4 : w4.cell? ⟨G, 0, none⟩ = some (.pointer (some ⟨B, 0, none⟩)) := (blk_cell hra4 0).trans rfl); (have y4 : w4.cell? ⟨G, 1, none⟩ = some (.int .i64 (-1)) := (blk_cell hra4 1).trans rfl); (have x4 : w4.frozen? ⟨G, 1, none⟩ = false := blk_frozen hra4 1); (have H4 := Aside0.mk (And.intro (H3.out.1.below hb) (And.intro hra4 (And.intro (H3.out.2.2.below hb) (And.intro (HB3.out.trans (hb.mono (Nat.le_trans HH.out.2.2.2.1 HB3.out.size))) (HK3.out.below hb)))))); clear hra4 hb)
    | (go_at_call 42; (have z_ := HB2.out); clear z_; refine (HNUM.out _ HB2.out).mono ?_; rintro e w3 ⟨rfl, h3, hg⟩; (have z3 : w3.cell? ⟨G, 0, none⟩ = some (.pointer (some ⟨B, 0, none⟩)) := (blk_cell h3.2.1 0).trans rfl); (have H3 := Aside0.mk h3); (have HB3 := Aside0.mk ((HB2.out.mono HH.out.2.2.2.1).trans ((Below.refl _ _).grown hg (Nat.le_trans HH.out.2.2.2.1 HB2.out.size) (fun k e => by obtain rfl := Option.some.inj e; exact HH.out.2.1.1)))); (have HK3 : Aside0 (Kept w w3 (fun k => k = G ∨ k = B)) := ⟨Kept.of_grown hg (Kept.of_below HB2.out _) (fun k e => .inl (.inr (Option.some.inj e).symm))⟩); clear h3 hg)
    | (go_at_call 18; (have z_ := HB1.out); clear z_; refine (HEND.out _ HB1.out).mono ?_; rintro e w2 ⟨rfl, hb⟩; (have z2 : w2.cell? ⟨G, 0, none⟩ = some (.pointer (some ⟨B, 0, none⟩)) := (hb.cell (World.block_lt_of_cell? w1 _ z1)).trans z1); (have HB2 := Aside0.mk (HB1.out.trans (hb.mono HB1.out.size))); clear hb)
    | (go_at_call 45; refine HF.out.mono ?_; rintro e w1 ⟨rfl, hb⟩; (have z1 := (hb.cell hGlt).trans z0); (have HB1 := Aside0.mk hb); clear hb))
   go_ret
   exact ⟨rfl, H4.out.1, H4.out.2.2.2⟩
 ·rw [isNone_no hn] at HF
  have ec : countF (bytesOf s) most st = (0, st) := by
   unfold countF
   rw [numF_err hn, if_neg (fun h => hn h.1)]
  rw [ec]
  have HF := Aside0.mk HF
  have HH := Aside0.mk (And.intro h hbase)
  clear h hn hs hbase hE ec
  go_enter Tryd.func44, Tryd.ntmps44
  go_wp2_with (go_at_call 45; refine HF.out.mono ?_; rintro e w1 ⟨rfl, hb⟩; (have HB := Aside0.mk hb); clear hb)
  go_ret
  exact ⟨rfl, HH.out.1.below HB.out, HB.out.mono HH.out.2, Kept.of_below HB.out _⟩
end Go.Proofs.YtlekdhejgdfnpaaDoor.P
/-
  DERIVED: THE SHELF's CONTRACTS AT THIS DUMP, IN PLAIN WORDS (tools/lay-plain.mjs out of 'YtlekdhejgdfnpaaDoorShelf.lean', which tools/lay-shelf.mjs wrote): THE SAME DECLARATIONS UNDER THE SAME NAMES: 'import', 'namespace', 'open', 'def', 'theorem' AND NOTHING ELSE: no command of the shelf's: FOR A HAND-IN. Each laying: the table of numbers ('.._ren') and one theorem, a field a fact of the dump's own or the kernel's comparison; each contract: ONE APPLICATION.
-/
namespace Go.Proofs
open Go.Shelf
def Tryd.lays169_ren : Go.Shelf.Ren := ⟨fun | 169 => 34 | n => n, fun | 70 => 61 | 9 => 9 | 0 => 0 | 72 => 64 | 37 => 62 | 127 => 96 | 3 => 3 | 5 => 5 | n => n, fun | n => n⟩
theorem Tryd.lays169 : Go.Proofs.Lays.n169 Tryd.prog Tryd.lays169_ren := {
 mixed := by kernel_rfl
 f169 := Tryd.func34.trans (congrArg some (by kernel_rfl))
 t0 := Tryd.underlying0
 a0 := Tryd.isAgg0
 z0 := Tryd.sizeOf0
 v0 := Tryd.zeroValue0
 t3 := Tryd.underlying3
 a3 := Tryd.isAgg3
 z3 := Tryd.sizeOf3
 v3 := Tryd.zeroValue3
 t9 := Tryd.underlying9
 a9 := Tryd.isAgg9
 z9 := Tryd.sizeOf9
 v9 := Tryd.zeroValue9
 t37 := Tryd.underlying62
 a37 := Tryd.isAgg62
 z37 := Tryd.sizeOf62
 v37 := Tryd.zeroValue62
 t70 := Tryd.underlying61
 a70 := Tryd.isAgg61
 z70 := Tryd.sizeOf61
 v70 := Tryd.zeroValue61
 t72 := Tryd.underlying64
 a72 := Tryd.isAgg64
 z72 := Tryd.sizeOf64
 v72 := Tryd.zeroValue64
 t127 := Tryd.underlying96
 a127 := Tryd.isAgg96
 z127 := Tryd.sizeOf96
 v127 := Tryd.zeroValue96 }
theorem Tryd.Builder_Extra_169 : Builder.Extra Tryd.prog Tryd.lays169_ren := {
 sizeBuilder := by kernel_rfl
 liesBuilder := by kernel_rfl
 t5 := Tryd.underlying5
 a5 := Tryd.isAgg5
 z5 := Tryd.sizeOf5
 v5 := Tryd.zeroValue5
 infoByte := by kernel_rfl
 cellsByte := by kernel_rfl
 sizeByte := by kernel_rfl
 neB5 := by decide }
open Go.RowKit in
/-- (*strings.Builder).String: "String returns the accumulated string.": WHATEVER THE BUILDER HOLDS. (LAID: no walk: one application.) -/
theorem Tryd.Builder_String_any (B b : Nat) (l : List UInt8) (w : World) (h : Lib.IsBuilder 64 5 B b (Lib.byteCells l) w) (hBw : B ≤ w.heap.size) :
 Calls Tryd.prog 34 #[.pointer (some ⟨b, 0, none⟩)] w fun e w' => e = .returned (.string ⟨l.toArray⟩) ∧ Below B w w' := Any.Builder_String_any Tryd.lays169 Tryd.Builder_Extra_169 B b l w h hBw
end Go.Proofs
/- wire.all, Nums, Ints: lists written. -/
namespace Go.Proofs.YtlekdhejgdfnpaaDoor.P
open Go.RowKit Go.Proofs.YtlekdhejgdfnpaaDoorW.PrintWords Go.Proofs.YtlekdhejgdfnpaaDoorW.PrintLast Go.Proofs.YtlekdhejgdfnpaaDoorW.PrintMore
open Wr
set_option linter.unusedVariables false
set_option linter.unusedSimpArgs false
theorem C_at {W : World} {A : Option Addr} {l : List Int} (h : Kd.C (Kd.int .i64) W A l.length l) {i : Nat} (hi : i < l.length) : ∃ ad, A = some ad ∧ W.cell? (ad.add i) = some (.int .i64 (rd l (i : Int))) := by
 obtain ⟨ad, e, hx⟩ := Kd.at_int h (i : Int) (by omega) (by omega)
 exact ⟨ad, e, by simpa using hx⟩
theorem strCells_sn (a b : List Int) : Lib.strCells (strOfNums a) ++ Lib.strCells (strOfNums b) = Lib.strCells (strOfNums (a ++ b)) := by simp [Lib.strCells, strOfNums]
theorem _root_.Go.Lib.BuilderAt.below {T e : TypeId} {B b : Nat} {p : Value} {bs : List Value} {w w1 : World} (h : Lib.BuilderAt T e B b p bs w) (hb : Below w.heap.size w w1) : Lib.BuilderAt T e B b p bs w1 := by
 have hlt := h.lt
 obtain ⟨h1, v, h2, h3, h4⟩ := h
 exact ⟨h1, v, (hb.block b hlt).trans h2, own_move h3 (fun k hk => hb.block k (own_lt h3 k hk)), h4⟩
theorem _root_.Go.Lib.IsBuilder.below {T e : TypeId} {B b : Nat} {bs : List Value} {w w1 : World} (h : Lib.IsBuilder T e B b bs w) (hb : Below w.heap.size w w1) : Lib.IsBuilder T e B b bs w1 := by
 rcases h with h | h
 ·exact .inl (h.below hb)
 ·exact .inr (h.below hb)

set_option maxHeartbeats 4000000 in
set_option maxRecDepth 100000 in
theorem all_int {w : World} {A0 : Option Addr} {c0 : Nat} {l0 : List Int} (hr0 : Kd.C (Kd.int .i64) w A0 l0.length l0) (hl : l0.length ≤ 1000000) :
 Calls Tryd.prog 56 #[.slice A0 l0.length c0, .func (Fn.func 33) #[] #[]] w fun e w' => e = .returned (.string (strOfNums (encL encI l0))) ∧ Below w.heap.size w w' := by
 have HR0 := Aside0.mk hr0
 have HL := Aside0.mk hl
 clear hr0 hl
 have hfr := Lib.fresh_isBuilder 64 5 w
 have hb0 : Below w.heap.size w (w.alloc (.cells #[.pointer none, .slice none 0 0] 64)) := (Below.refl _ _).alloc (Nat.le_refl _) _
 have HF := Aside0.mk (And.intro hfr hb0)
 clear hfr hb0
 go_enter Tryd.func56, Tryd.ntmps56
 go_wp2_with (first
  | (go_at_call 30; refine (wnum_c _ _).mono ?_; rintro e w1 ⟨rfl, hb⟩; (have H1 := Aside0.mk (And.intro (HF.out.1.below hb) (below_step HF.out.2 hb))); clear hb)
  | (go_at_call 29; refine (bwrite_c w.heap.size w.heap.size [] _ _ H1.out.1 (by have := encN_len (l0.length : Int); rw [strOfNums_size]; simp; omega) H1.out.2.size).mono ?_; rintro e w2 ⟨rfl, hbd, hb⟩; rw [List.nil_append] at hbd; (have H2 := Aside0.mk (And.intro hbd (H1.out.2.trans hb))); clear hbd hb))
 go_loopw [15] (fun v15 wr => ∃ (i : Nat) (acc : List Int), i ≤ l0.length ∧ v15 = .int .i64 (i : Int) ∧ Aside0 (Lib.BuilderAt 64 5 w.heap.size w.heap.size (.pointer (some ⟨w.heap.size, 0, none⟩)) (Lib.strCells (strOfNums acc)) wr ∧ Below w.heap.size w wr) ∧ Aside0 (acc.length ≤ 8 * (i + 1) ∧ encL encI l0 = encA encI acc (l0.drop i))) (fun v15 _ => (l0.length - (RowKit.intOf v15).toNat))
 case atStart => exact ⟨0, _, Nat.zero_le _, rfl, H2, ⟨by have := encN_len (l0.length : Int); omega, by rw [List.drop_zero]; rfl⟩⟩
 case round =>
  obtain ⟨i, acc, hi, rfl, HR, HT⟩ := hrel
  by_cases hlt : i < l0.length
  ·obtain ⟨ad, rfl, hx⟩ := C_at HR0.out hlt
   replace hx := (HR.out.2.cell (World.block_lt_of_cell? w _ hx)).trans hx
   obtain ⟨x, hxx⟩ : ∃ x, x = rd l0 (i : Int) := ⟨_, rfl⟩
   rw [← hxx] at hx
   have he := HT.out.2
   rw [List.drop_eq_getElem_cons hlt, encA, ← rd_at hlt, ← hxx] at he
   have hi100 : i < 1000000 := by have := HL.out; omega
   have hlen8 := encI_len x
   have H8 := Aside0.mk hlen8
   clear hxx hlen8
   by_cases hz : encI x = []
   ·rw [if_pos hz] at he
    have HE := Aside0.mk he
    have hzz : strOfNums (encI x) = (⟨#[]⟩ : ByteArray) := by rw [hz]; rfl
    clear he hz
    go_wp2_with (go_at_call 33; refine (wint_c _ _).mono ?_; rintro e w3 ⟨rfl, hb⟩; (have H3 := Aside0.mk (below_step HR.out.2 hb)); clear hb)
    go_ret
    rw [HE.out]
    exact ⟨rfl, H3.out⟩
   ·rw [if_neg hz] at he
    have HE := Aside0.mk he
    have hz1 : (strOfNums (encI x)).toList ≠ [] := fun h => hz ((sn_toList _).1 h)
    have hz2 : (strOfNums (encI x)).toList.isEmpty = false := by simpa using hz1
    have hz3 : (!(strOfNums (encI x)).toList.isEmpty) = true := by rw [hz2]; rfl
    clear he hz
    go_wp2_with (first
     | (go_at_call 33; refine (wint_c _ _).mono ?_; rintro e w3 ⟨rfl, hb⟩; (have H3 := Aside0.mk (And.intro (HR.out.1.below hb) (below_step HR.out.2 hb))); clear hb)
     | (go_at_call 29; refine (bwrite_c w.heap.size w.heap.size _ _ _ (.inr H3.out.1) (by have := HT.out.1; have := H8.out; rw [Lib.strCells_length, strOfNums_size, strOfNums_size]; omega) H3.out.2.size).mono ?_; rintro e w4 ⟨rfl, hbd, hb⟩; rw [strCells_sn] at hbd; (have H4 := Aside0.mk (And.intro hbd (H3.out.2.trans hb))); clear hbd hb))
    go_roundw
    case rel => exact ⟨i + 1, _, by omega, by go_num, H4, ⟨by have := HT.out.1; have := H8.out; rw [List.length_append]; omega, HE.out⟩⟩
    case measure => simp [RowKit.intOf]; omega
  ·have he := HT.out.2
   rw [List.drop_eq_nil_of_le (by omega), encA] at he
   have HE := Aside0.mk he
   clear he
   go_wp2_with (go_at_call 34; refine (Tryd.Builder_String_any w.heap.size w.heap.size (strOfNums acc).data.toList _ (.inr HR.out.1) HR.out.2.size).mono ?_; rintro e w5 ⟨rfl, hb⟩; (have H5 := Aside0.mk (HR.out.2.trans hb)); clear hb)
   go_ret
   rw [HE.out]
   exact ⟨rfl, H5.out⟩
theorem wints_c {w : World} {A0 : Option Addr} {c0 : Nat} {l0 : List Int} (hr0 : Kd.C (Kd.int .i64) w A0 l0.length l0) (hl : l0.length ≤ 1000000) :
 Calls Tryd.prog 32 #[.slice A0 l0.length c0] w fun e w' => e = .returned (.string (strOfNums (encL encI l0))) ∧ Below w.heap.size w w' := by
 have H := Aside0.mk (all_int (c0 := c0) hr0 hl)
 clear hr0 hl
 go_enter Tryd.func32, Tryd.ntmps32
 go_wp2_with (go_at_call 56; refine H.out.mono ?_; rintro e w1 ⟨rfl, h1⟩; (have H1 := Aside0.mk h1); clear h1)
 go_ret
 exact ⟨rfl, H1.out⟩
end Go.Proofs.YtlekdhejgdfnpaaDoor.P
/- answer.Encode's own closures, walked: a number, and lists, written into the builder. -/
namespace Go.Proofs.YtlekdhejgdfnpaaDoor.P
open Go.RowKit Go.Lib Go.Proofs.YtlekdhejgdfnpaaDoorW.PrintWords Go.Proofs.YtlekdhejgdfnpaaDoorW.PrintLast Go.Proofs.YtlekdhejgdfnpaaDoorW.PrintMore
open Wr
set_option linter.unusedVariables false
set_option linter.unusedSimpArgs false

/-- rows of other cells than bytes stay as they are, but for one block -/
def Keep8 (b : Nat) (w w1 : World) : Prop := ∀ (g : Nat) (cs : Array Value) (t : TypeId) (fr : Nat × Nat), g ≠ b → t ≠ 5 → w.heap[g]? = some (.cells cs t fr) → w1.heap[g]? = some (.cells cs t fr)
theorem Keep8.refl (b : Nat) (w : World) : Keep8 b w w := fun _ _ _ _ _ _ h => h
theorem Keep8.trans {b : Nat} {w w1 w2 : World} (h : Keep8 b w w1) (h' : Keep8 b w1 w2) : Keep8 b w w2 := fun g cs t fr hg ht hh => h' g cs t fr hg ht (h g cs t fr hg ht hh)
theorem Keep8.below {b : Nat} {w w1 : World} (h : Below w.heap.size w w1) : Keep8 b w w1 := fun g cs t fr hg ht hh => (h.block g (Array.getElem?_eq_some_iff.1 hh).1).trans hh
theorem bcheck2_c (B b : Nat) (bs : List Value) (w : World) (h : Lib.IsBuilder 64 5 B b bs w) :
 Calls Tryd.prog 55 #[.pointer (some ⟨b, 0, none⟩)] w fun e w' => e = .returned (.tuple #[]) ∧ (Lib.BuilderAt 64 5 B b (.pointer (some ⟨b, 0, none⟩)) bs w' ∧ Below B w w') ∧ Keep8 b w w' := by
 rcases h with h | h
 ·refine (bcheck_fresh b w h.cell0 h.shape h.frozen0).mono ?_
  rintro e w' ⟨rfl, rfl⟩
  exact ⟨rfl, ⟨h.used _, (Below.refl B w).setCell (p := ⟨b, 0, none⟩) h.1 _⟩, fun g cs t fr hg ht hh => (Below.heap_setCell w _ _ g hg).trans hh⟩
 ·refine (bcheck_used b w h.cell0).mono ?_
  rintro e w' ⟨rfl, rfl⟩
  exact ⟨rfl, ⟨h, Below.refl B _⟩, Keep8.refl b _⟩
set_option maxHeartbeats 2000000 in
set_option maxRecDepth 100000 in
theorem bwrite2_c (B b : Nat) (bs : List Value) (s : ByteArray) (w : World) (h : Lib.IsBuilder 64 5 B b bs w) (hlen : bs.length + s.size ≤ 140737488355328) (hBw : B ≤ w.heap.size) :
 Calls Tryd.prog 29 #[.pointer (some ⟨b, 0, none⟩), .string s] w fun e w' => e = .returned (.tuple #[.int .i64 s.size, .nilIface]) ∧ (Lib.BuilderAt 64 5 B b (.pointer (some ⟨b, 0, none⟩)) (bs ++ Lib.strCells s) w' ∧ Below B w w') ∧ Keep8 b w w' := by
 obtain ⟨i0, hi, hz0, hz1, hz2⟩ := info_parts infoBy
 go_enter Tryd.func29, Tryd.ntmps29
 go_wp2_with (go_at_call 55; refine (bcheck2_c B b bs _ h).mono ?_)
 rintro e w1 ⟨rfl, ⟨h1, hb1⟩, hk1⟩
 have HK1 := Aside0.mk hk1
 clear hk1
 obtain ⟨hB, v, hbk, hown, hne⟩ := h1
 have c0 : w1.cell? ⟨b, 0, none⟩ = some (.pointer (some ⟨b, 0, none⟩)) := by rw [Lib.cell_of_heap hbk]; rfl
 have c1 : w1.cell? ⟨b, 1, none⟩ = some v := by rw [Lib.cell_of_heap hbk]; rfl
 go_wp2_with (at_builtin; refine Lib.wpList_append_own_string _ rfl _ _ 62 9 rfl B 5 i0 Tryd.underlying62 Tryd.underlying9 hi hz0 hz1 hz2 _ _ _ rfl hown s rfl ?c3 ?c4 ?c5 ?_)
 case c3 => unfold maxLen; omega
 case c4 => omega
 case c5 => have := hb1.size; omega
 intro v' w2 hown' hgrow _
 have hlt : b < w1.heap.size := by
  rcases Nat.lt_or_ge b w1.heap.size with h' | h'
  ·exact h'
  ·simp [Array.getElem?_eq_none h'] at hbk
 have hb2 : w2.heap[b]? = some (.cells #[.pointer (some ⟨b, 0, none⟩), v] 64 (0, 0)) := by
  rw [hgrow.block b hlt (fun e => hne e.symm)]
  exact hbk
 have HK2 : Aside0 (Keep8 b w1 w2) := ⟨fun g cs t fr hg ht hh => (hgrow.block g (Array.getElem?_eq_some_iff.1 hh).1 (fun e => Lib.ownBlock_ne hown hh ht e.symm)).trans hh⟩
 have d0 : w2.cell? ⟨b, 0, none⟩ = some (.pointer (some ⟨b, 0, none⟩)) := by rw [Lib.cell_of_heap hb2]; rfl
 have d1 : w2.cell? ⟨b, 1, none⟩ = some v := by rw [Lib.cell_of_heap hb2]; rfl
 have f1 : w2.frozen? ⟨b, 1, none⟩ = false := Lib.frozen_of_heap hb2 1
 obtain ⟨ao, n', cap, rfl⟩ : ∃ ao n' cap, v' = .slice ao n' cap := by
  rcases hown'.2 with ⟨hv, _⟩ | ⟨g, cap, cur, hv, _⟩
  ·exact ⟨_, _, _, hv⟩
  ·exact ⟨_, _, _, hv⟩
 go_wp2
 go_ret2
 refine ⟨rfl, ⟨?_, ?_⟩, ?_⟩
 ·exact Lib.BuilderAt.put (T := 64) (e := 5) hB hb2 (bs' := bs ++ Lib.strCells s) (by simpa [Lib.strCells_length] using hown') (by decide)
 ·exact (hb1.grown hgrow (by have := hb1.size; omega) (fun k hk => (hown.lt k hk).1)).setCell (p := ⟨b, 1, none⟩) hB _
 ·exact (HK1.out.trans HK2.out).trans (fun g cs t fr hg ht hh => (Below.heap_setCell w2 _ _ g hg).trans hh)

/-! ### a number -/
set_option maxHeartbeats 2000000 in
set_option maxRecDepth 100000 in
theorem enum_c (n : Int) (B b : Nat) (bs : List Int) (w : World) (h : Lib.IsBuilder 64 5 B b (Lib.strCells (strOfNums bs)) w) (hlen : bs.length ≤ 1000000000) (hBw : B ≤ w.heap.size) :
 Calls Tryd.prog 28 #[.int .i64 n, .pointer (some ⟨b, 0, none⟩)] w fun e w' => e = .returned (.tuple #[]) ∧ (Lib.IsBuilder 64 5 B b (Lib.strCells (strOfNums (bs ++ encN n))) w' ∧ Below B w w') ∧ Keep8 b w w' := by
 have HH := Aside0.mk (And.intro h (And.intro hlen hBw))
 clear h hlen hBw
 go_enter Tryd.func28, Tryd.ntmps28
 go_wp2_with (first
  | (go_at_call 30; refine (wnum_c _ _).mono ?_; rintro e w1 ⟨rfl, hb⟩; (have H1 := Aside0.mk (And.intro (HH.out.1.below hb) hb)); clear hb)
  | (go_at_call 29; refine (bwrite2_c B b _ _ _ H1.out.1 (by have := encN_len n; have := HH.out.2.1; rw [Lib.strCells_length, strOfNums_size, strOfNums_size]; omega) (Nat.le_trans HH.out.2.2 H1.out.2.size)).mono ?_; rintro e w2 ⟨rfl, ⟨hbd, hb⟩, hk⟩; rw [strCells_sn] at hbd; (have H2 := Aside0.mk (And.intro (And.intro hbd ((H1.out.2.mono HH.out.2.2).trans hb)) ((Keep8.below H1.out.2).trans hk))); clear hbd hb hk))
 go_end0
 exact ⟨rfl, ⟨.inr H2.out.1.1, H2.out.1.2⟩, H2.out.2⟩
end Go.Proofs.YtlekdhejgdfnpaaDoor.P
/- answer.Encode's own closures, walked: lists, written into the builder. -/
namespace Go.Proofs.YtlekdhejgdfnpaaDoor.P
open Go.RowKit Go.Lib Go.Proofs.YtlekdhejgdfnpaaDoorW.PrintWords Go.Proofs.YtlekdhejgdfnpaaDoorW.PrintLast Go.Proofs.YtlekdhejgdfnpaaDoorW.PrintMore
open Wr
set_option linter.unusedVariables false
set_option linter.unusedSimpArgs false

def listsB (ls : List (List Int)) : List Int := ls.flatMap (encL encI)
theorem encA_len (one : Int → List Int) (h8 : ∀ x, (one x).length ≤ 8) : ∀ (l acc : List Int), (encA one acc l).length ≤ acc.length + 8 * l.length := by
 intro l
 induction l with
 | nil => intro acc; simp [encA]
 | cons x r ih =>
  intro acc
  unfold encA
  split
  ·simp
  ·have := ih (acc ++ one x)
   have := h8 x
   rw [List.length_append] at *
   simp only [List.length_cons]
   omega
theorem encL_len (l : List Int) : (encL encI l).length ≤ 8 * (l.length + 1) := by
 have h1 := encA_len encI encI_len l (encN (l.length : Int))
 have h2 := encN_len (l.length : Int)
 unfold encL
 omega
theorem listsB_len : ∀ (ls : List (List Int)), (∀ x ∈ ls, x.length ≤ 64) → (listsB ls).length ≤ 520 * ls.length := by
 intro ls
 induction ls with
 | nil => intro _; simp [listsB]
 | cons x r ih =>
  intro h
  have h1 := encL_len x
  have h2 := h x (List.mem_cons_self ..)
  have h3 := ih (fun y hy => h y (List.mem_cons_of_mem _ hy))
  have e : listsB (x :: r) = encL encI x ++ listsB r := by simp [listsB]
  rw [e, List.length_append, List.length_cons]
  omega
theorem listsB_snoc (ls : List (List Int)) (x : List Int) : listsB (ls ++ [x]) = listsB ls ++ encL encI x := by simp [listsB]
/-- a row of rows, read at one place -/
theorem rows_at {w : World} {A : Option Addr} {n : Nat} {xs : List (List Int)} (h : Kd.C (Kd.slice 3 (Kd.int .i64)) w A n xs) {i : Nat} (hi : i < xs.length) :
 ∃ ad A' c', A = some ad ∧ w.cell? (ad.add i) = some (.slice A' (rd_L1 xs (i : Int)).length c') ∧ (rd_L1 xs (i : Int)).length ≤ c' ∧ Kd.C (Kd.int .i64) w A' (rd_L1 xs (i : Int)).length (rd_L1 xs (i : Int)) := by
 obtain ⟨ad, A', c', hA, hx, hl, hC⟩ := at_L1 h (i : Int) (by omega) (by have := h.1; omega)
 exact ⟨ad, A', c', hA, by simpa using hx, hl, hC⟩
set_option maxHeartbeats 4000000 in
set_option maxRecDepth 100000 in
theorem elists_c (l : List (List Int)) (A : Option Addr) (c : Nat) (B b : Nat) (bs : List Int) (w : World) (hC : ∀ w1, Below B w w1 → Keep8 b w w1 → Kd.C (Kd.slice 3 (Kd.int .i64)) w1 A l.length l) (h64 : ∀ x ∈ l, x.length ≤ 64) (hn : l.length ≤ 1000)
 (h : Lib.IsBuilder 64 5 B b (Lib.strCells (strOfNums bs)) w) (hlen : bs.length ≤ 1000000000) (hBw : B ≤ w.heap.size) :
 Calls Tryd.prog 31 #[.slice A l.length c, .pointer (some ⟨b, 0, none⟩)] w fun e w' => e = .returned (.tuple #[]) ∧ (Lib.IsBuilder 64 5 B b (Lib.strCells (strOfNums (bs ++ listsB l))) w' ∧ Below B w w') ∧ Keep8 b w w' := by
 have HC := Aside0.mk hC
 have H64 := Aside0.mk h64
 have HN := Aside0.mk (And.intro hn (And.intro hlen hBw))
 have H0 := Aside0.mk h
 clear hC h64 hn h hlen hBw
 go_enter Tryd.func31, Tryd.ntmps31
 go_wp2
 go_loopw [7] (fun v7 wr => ∃ (i : Nat), i ≤ l.length ∧ v7 = .int .i64 (i : Int) ∧ Aside0 ((Lib.IsBuilder 64 5 B b (Lib.strCells (strOfNums (bs ++ listsB (l.take i)))) wr ∧ Below B w wr) ∧ Keep8 b w wr)) (fun v7 _ => (l.length - (RowKit.intOf v7).toNat))
 case atStart => exact ⟨0, Nat.zero_le _, rfl, ⟨⟨by simpa [listsB] using H0.out, Below.refl _ _⟩, Keep8.refl _ _⟩⟩
 case round =>
  obtain ⟨i, hi, rfl, HR⟩ := hrel
  by_cases hlt : i < l.length
  ·obtain ⟨ad, A', c', rfl, hx, hlc, hrow⟩ := rows_at (HC.out _ HR.out.1.2 HR.out.2) hlt
   obtain ⟨x, hxx⟩ : ∃ x, x = rd_L1 l (i : Int) := ⟨_, rfl⟩
   rw [← hxx] at hx hlc hrow
   have hmem : x ∈ l := by
    rw [hxx]
    have : rd_L1 l (i : Int) = l[i] := by simp [rd_L1, List.getD_eq_getElem?_getD, List.getElem?_eq_getElem hlt]
    rw [this]; exact List.getElem_mem _
   have hsn : l.take (i + 1) = l.take i ++ [x] := by
    rw [hxx, List.take_succ_eq_append_getElem hlt]
    congr 2
    simp [rd_L1, List.getD_eq_getElem?_getD, List.getElem?_eq_getElem hlt]
   have HX := Aside0.mk (And.intro (H64.out x hmem) (And.intro hrow hlc))
   have HS := Aside0.mk hsn
   have HB := Aside0.mk (listsB_len (l.take i) (fun y hy => H64.out y (List.mem_of_mem_take hy)))
   have hi1 : i < 1000 := by have := HN.out.1; omega
   clear hmem hsn hrow hlc hxx
   go_wp2_with (first
    | (go_at_call 32; refine (wints_c (c0 := c') (HX.out.2.1) (by have := HX.out.1; omega)).mono ?_; rintro e w1 ⟨rfl, hb⟩; (have H1 := Aside0.mk (And.intro (HR.out.1.1.below hb) hb)); clear hb)
    | (go_at_call 29; refine (bwrite2_c B b _ _ _ H1.out.1 (by have := encL_len x; have := HX.out.1; have := HN.out; have := HB.out; rw [List.length_take] at this; rw [Lib.strCells_length, strOfNums_size, strOfNums_size, List.length_append]; omega) (Nat.le_trans (Nat.le_trans HN.out.2.2 HR.out.1.2.size) H1.out.2.size)).mono ?_; rintro e w2 ⟨rfl, ⟨hbd, hb⟩, hk⟩; rw [strCells_sn, List.append_assoc, ← listsB_snoc, ← HS.out] at hbd; (have H2 := Aside0.mk (And.intro (And.intro hbd ((HR.out.1.2.trans (H1.out.2.mono (Nat.le_trans HN.out.2.2 HR.out.1.2.size))).trans hb)) ((HR.out.2.trans (Keep8.below H1.out.2)).trans hk))); clear hbd hb hk))
   go_roundw
   case rel => exact ⟨i + 1, by omega, by go_num, ⟨⟨.inr H2.out.1.1, H2.out.1.2⟩, H2.out.2⟩⟩
   case measure => simp [RowKit.intOf]; omega
  ·have e : l.take i = l := List.take_of_length_le (by omega)
   have HR2 := HR.out
   rw [e] at HR2
   have HR2 := Aside0.mk HR2
   clear e HR
   go_wp2
   go_end0
   exact ⟨rfl, HR2.out⟩
end Go.Proofs.YtlekdhejgdfnpaaDoor.P
/- What came in, opened kind by kind: an argument's reading tells a list (of lists ..) that its cells hold. -/
namespace Go.Proofs.YtlekdhejgdfnpaaDoor.P
open Go.RowKit Go.Proofs.YtlekdhejgdfnpaaDoorW.PrintWords Go.Proofs.YtlekdhejgdfnpaaDoorW.PrintLast Go.Proofs.YtlekdhejgdfnpaaDoorW.PrintMore
set_option linter.unusedVariables false
set_option linter.unusedSimpArgs false

structure Opens (P : Program) (t : TypeId) {α : Type} (d : Kd α) (q : α → Prop) : Prop where
 sz : P.cellsOf t = d.sz
 op : ∀ {H : Type} {enc : TypeId × Value → H} {w : World} {base fuel : Nat} {held : Bool} {cs : List Value} {x : DataW H × List MemPlace}, DataW.trod enc P w base (fun _ => true) held fuel t cs = some x → ∃ a : α, d.K w a cs ∧ q a
section
variable {P : Program} {α : Type} {d : Kd α} {q : α → Prop}
theorem opens_int {t : TypeId} {k : IntKind} (ht : P.underlying t = some (.int k)) (hs : P.cellsOf t = 1) : Opens P t (Kd.int k) (fun n => (Lit.int k n).wf = true) :=
 ⟨hs, fun h => by
  obtain ⟨n, rfl, _, hw⟩ := DataW.trod_int ht h
  exact ⟨n, rfl, hw⟩⟩
theorem Opens.mono {t : TypeId} {q' : α → Prop} (h : Opens P t d q) (hq : ∀ a, q a → q' a) : Opens P t d q' :=
 ⟨h.sz, fun ht => by obtain ⟨a, hk, ha⟩ := h.op ht; exact ⟨a, hk, hq a ha⟩⟩
theorem opens_slice {t e : TypeId} (e' : Nat) (ht : P.underlying t = some (.slice e)) (hs : P.cellsOf t = 1) (h : Opens P e d q) : Opens P t (Kd.slice e' d) (fun l => l.length ≤ maxLen ∧ ∀ x ∈ l, q x) :=
 ⟨hs, fun {H enc w base fuel held cs x} htr => by
  rcases Deep.open_slice ht htr with ⟨rfl, _⟩ | ⟨a, len, cap, m, n, D, Pl, rfl, hb, hl, hm, hmm, _, hx⟩
  ·exact ⟨[], ⟨none, 0, rfl, Nat.le_refl _, Kd.C_nil d w⟩, Nat.zero_le _, fun x hx => by cases hx⟩
  ·simp only [if_true] at hmm
   have each : ∀ i, i < len → ∃ y : α, (∃ cs', w.cells? base (a.add (i * P.cellsOf e)) (P.cellsOf e) = some cs' ∧ d.K w y cs') ∧ q y := by
    intro i hi
    obtain ⟨cs', h1, h2⟩ := hx i (by omega)
    obtain ⟨y, hy, hqy⟩ := h.op h2
    exact ⟨y, ⟨cs', h1, hy⟩, hqy⟩
   by_cases h0 : len = 0
   ·subst h0
    refine ⟨[], ⟨some a, cap, rfl, Nat.zero_le _, rfl, by simp, fun h => absurd h (Nat.lt_irrefl 0)⟩, Nat.zero_le _, fun x hx => by cases hx⟩
   ·obtain ⟨y0, _, _⟩ := each 0 (by omega)
    have : Inhabited α := ⟨y0⟩
    obtain ⟨f, hf⟩ := Deep.choose_lt each
    have hlen : ((List.range len).map f).length = len := by simp
    refine ⟨(List.range len).map f, ⟨some a, cap, by rw [hlen], by rw [hlen]; exact hl, ⟨rfl, by rw [hlen]; unfold maxLen at hm; omega, fun _ => ⟨a, rfl, fun j p hj => ?_⟩⟩⟩, by rw [hlen]; omega, fun x hx => ?_⟩
    ·have hjl := (List.getElem?_eq_some_iff.1 hj).1
     rw [hlen] at hjl
     rw [List.getElem?_map, List.getElem?_range hjl] at hj
     have hj' : f j = p := by simpa using hj
     subst hj'
     obtain ⟨⟨cs', h1, h2⟩, _⟩ := hf j hjl
     obtain ⟨_, hcl, hcell⟩ := World.cells?_some h1
     refine ⟨cs', by rw [hcl, h.sz], h2, fun i u hu => ?_⟩
     have hil := (List.getElem?_eq_some_iff.1 hu).1
     have := hcell i (by omega)
     rw [Deep.add_add, hu, h.sz] at this
     exact this
    ·obtain ⟨i, hi, rfl⟩ := List.mem_map.1 hx
     exact (hf i (List.mem_range.1 hi)).2⟩
/-- an argument that is a slice -/
theorem Opens.arg {t : TypeId} {e' : Nat} (h : Opens P t (Kd.slice e' d) (fun l => l.length ≤ maxLen ∧ ∀ x ∈ l, q x)) {H : Type} {enc : TypeId × Value → H} {w : World} {base : Nat} {held : Bool} {v : Value} {dd : DataW H} {ps : List MemPlace} {a : Option Addr} {len cap : Nat} (hv : v = .slice a len cap)
 (ht : DataW.Trod enc P w base (fun _ => true) held t v dd ps) : ∃ l : List α, len = l.length ∧ l.length ≤ cap ∧ d.C w a l.length l ∧ l.length ≤ maxLen ∧ ∀ x ∈ l, q x := by
 obtain ⟨fuel, hf⟩ := ht
 obtain ⟨l, ⟨A, c, hcs, hl, hC⟩, hq1, hq2⟩ := h.op hf
 subst hv
 simp only [Value.cells] at hcs
 have hcs' : Value.slice a len cap = Value.slice A l.length c := by simpa using hcs
 injection hcs' with e1 e2 e3
 subst e1 e2 e3
 exact ⟨l, rfl, hl, hC, hq1, hq2⟩
end
/-- what came in is only read: it may be shared -/
theorem V_of_C {α : Type} {d : Kd α} (hd : Kd.Heap d) {e base c : Nat} {w : World} {A : Option Addr} {xs : List α} (h : d.C w A xs.length xs) (hc : xs.length ≤ c) : Kd.V d e w base (fun _ => True) (.slice A xs.length c) xs :=
 Kd.V_mk hc (fun W' hW => hd.C (fun k hk => hW k trivial hk) h)
end Go.Proofs.YtlekdhejgdfnpaaDoor.P
/- answer.Encode, walked: the parts. -/
namespace Go.Proofs.YtlekdhejgdfnpaaDoor.P
open Go.RowKit Go.Lib Go.Proofs.YtlekdhejgdfnpaaDoorW.PrintWords Go.Proofs.YtlekdhejgdfnpaaDoorW.PrintLast Go.Proofs.YtlekdhejgdfnpaaDoorW.PrintMore
open Wr
set_option linter.unusedVariables false
set_option linter.unusedSimpArgs false

/-- a row of rows that stands in a block of its own -/
theorem C_lit {w : World} {g : Nat} {ls : List (List Int)} {vs : Array Value} {t : TypeId} (hh : w.heap[g]? = some (.cells vs t (0, 0))) (hb : ls.length ≤ 1000)
 (hv : ∀ (j : Nat) (x : List Int), ls[j]? = some x → ∃ (A : Option Addr) (c : Nat), vs[j]? = some (.slice A x.length c) ∧ x.length ≤ c ∧ Kd.C (Kd.int .i64) w A x.length x) :
 Kd.C (Kd.slice 3 (Kd.int .i64)) w (some ⟨g, 0, none⟩) ls.length ls := by
 refine ⟨rfl, by omega, fun _ => ⟨_, rfl, fun j p hj => ?_⟩⟩
 obtain ⟨A, c, h1, h2, h3⟩ := hv j p hj
 refine ⟨[.slice A p.length c], rfl, ⟨A, c, rfl, h2, h3⟩, fun i u hu => ?_⟩
 have hi : i = 0 := by
  have := (List.getElem?_eq_some_iff.1 hu).1
  simpa using this
 subst hi
 have hu' : Value.slice A p.length c = u := by simpa using hu
 subst hu'
 show w.cell? ((⟨g, 0, none⟩ : Addr).add (j * 1 + 0)) = _
 have e : ((⟨g, 0, none⟩ : Addr).add (j * 1 + 0)) = ⟨g, j, none⟩ := by simp [Addr.add]; omega
 rw [e, blk_cell hh j]
 exact h1
theorem C_two {w : World} {g : Nat} {x y : List Int} {A A' : Option Addr} {c c' : Nat} {t : TypeId} (hh : w.heap[g]? = some (.cells #[.slice A x.length c, .slice A' y.length c'] t (0, 0))) (hx : Kd.C (Kd.int .i64) w A x.length x) (hcx : x.length ≤ c) (hy : Kd.C (Kd.int .i64) w A' y.length y) (hcy : y.length ≤ c') :
 Kd.C (Kd.slice 3 (Kd.int .i64)) w (some ⟨g, 0, none⟩) [x, y].length [x, y] := by
 refine C_lit hh (by simp) (fun j z hz => ?_)
 match j, hz with
 | 0, hz => obtain rfl : x = z := by simpa using hz
            exact ⟨A, c, rfl, hcx, hx⟩
 | 1, hz => obtain rfl : y = z := by simpa using hz
            exact ⟨A', c', rfl, hcy, hy⟩
 | j + 2, hz => simp at hz
theorem C_three {w : World} {g : Nat} {x y z : List Int} {A A' A2 : Option Addr} {c c' c2 : Nat} {t : TypeId} (hh : w.heap[g]? = some (.cells #[.slice A x.length c, .slice A' y.length c', .slice A2 z.length c2] t (0, 0))) (hx : Kd.C (Kd.int .i64) w A x.length x) (hcx : x.length ≤ c) (hy : Kd.C (Kd.int .i64) w A' y.length y) (hcy : y.length ≤ c') (hz : Kd.C (Kd.int .i64) w A2 z.length z) (hcz : z.length ≤ c2) :
 Kd.C (Kd.slice 3 (Kd.int .i64)) w (some ⟨g, 0, none⟩) [x, y, z].length [x, y, z] := by
 refine C_lit hh (by simp) (fun j q hq => ?_)
 match j, hq with
 | 0, hq => obtain rfl : x = q := by simpa using hq
            exact ⟨A, c, rfl, hcx, hx⟩
 | 1, hq => obtain rfl : y = q := by simpa using hq
            exact ⟨A', c', rfl, hcy, hy⟩
 | 2, hq => obtain rfl : z = q := by simpa using hq
            exact ⟨A2, c2, rfl, hcz, hz⟩
 | j + 3, hq => simp at hq
theorem C_one {w : World} {g : Nat} {x : List Int} {A : Option Addr} {c : Nat} {t : TypeId} (hh : w.heap[g]? = some (.cells #[.slice A x.length c] t (0, 0))) (hx : Kd.C (Kd.int .i64) w A x.length x) (hcx : x.length ≤ c) :
 Kd.C (Kd.slice 3 (Kd.int .i64)) w (some ⟨g, 0, none⟩) [x].length [x] := by
 refine C_lit hh (by simp) (fun j z hz => ?_)
 match j, hz with
 | 0, hz => obtain rfl : x = z := by simpa using hz
            exact ⟨A, c, rfl, hcx, hx⟩
 | j + 1, hz => simp at hz

/-! ### what answer.Check asks, in closed words -/
abbrev Spl := S41
abbrev Cut := S43
def okAns (a0 : Int) (S U : List Int) (Se : List (List Int)) (Sp : List Spl) (Cu : List Cut) : Bool :=
 decide (0 ≤ a0) && decide (a0 < 6) && decide (Se.length ≤ 200) && decide (Sp.length ≤ 65) && decide (Cu.length ≤ 200) &&
  !(([S, U] ++ Se ++ Sp.flatMap (fun y => [y.f0, y.f1, y.f2]) ++ Cu.flatMap (fun c => [c.f0, [c.f1]])).any badA)
/-- an answer's bytes -/
def encAns (a0 : Int) (no : Bool) (S U : List Int) (Se : List (List Int)) (Sp : List Spl) (Cu : List Cut) : List Int :=
 encN a0 ++ encN (if no = true then 1 else 0) ++ listsB [S, U] ++ encN (Se.length : Int) ++ listsB Se ++ encN (Sp.length : Int) ++ Sp.flatMap (fun y => listsB [y.f0, y.f1, y.f2]) ++ encN (Cu.length : Int) ++ Cu.flatMap (fun c => listsB [c.f0] ++ encI c.f1)
theorem few_len {l : List Int} (h : badA l = false) : l.length ≤ 64 := by
 unfold badA fewB at h
 simp only [Bool.not_eq_false', Bool.and_eq_true, decide_eq_true_eq] at h
 omega
end Go.Proofs.YtlekdhejgdfnpaaDoor.P
/- answer's reader, walked: what stands while an answer is read. -/
namespace Go.Proofs.YtlekdhejgdfnpaaDoor.P
open Go.RowKit Go.Proofs.YtlekdhejgdfnpaaDoorW.PrintWords Go.Proofs.YtlekdhejgdfnpaaDoorW.PrintLast Go.Proofs.YtlekdhejgdfnpaaDoorW.PrintMore
open Wr
set_option linter.unusedVariables false
set_option linter.unusedSimpArgs false

/-! ### closed words -/
def manyF {α : Type} (one : St → α × St) : Nat → St → List α → List α × St
 | 0, st, out => (out, st)
 | d + 1, st, out => manyF one d (one st).2 (out ++ [(one st).1])
def lstF (S : List Int) (st : St) : List Int × St := listF S (intF S) 64 st
def splF (S : List Int) (st : St) : Spl × St := (⟨(lstF S st).1, (lstF S (lstF S st).2).1, (lstF S (lstF S (lstF S st).2).2).1⟩, (lstF S (lstF S (lstF S st).2).2).2)
def cutF (S : List Int) (st : St) : Cut × St := (⟨(lstF S st).1, (intF S (lstF S st).2).1⟩, (intF S (lstF S st).2).2)
/-- what is read, and how it ends -/
structure AnsV where
 kd : Int
 no : Int
 S : List Int
 U : List Int
 Se : List (List Int)
 Sp : List Spl
 Cu : List Cut
def ansF (S : List Int) (st : St) : AnsV × St :=
 let k := numF S st
 let n := numF S k.2
 let a := lstF S n.2
 let b := lstF S a.2
 let c := countF S 200 b.2
 let d := manyF (lstF S) c.1.toNat c.2 []
 let e := countF S 65 d.2
 let f := manyF (splF S) e.1.toNat e.2 []
 let g := countF S 200 f.2
 let h := manyF (cutF S) g.1.toNat g.2 []
 (⟨k.1, n.1, a.1, b.1, d.1, f.1, h.1⟩, h.2)

/-! ### rows stay where blocks of another type are written -/
theorem R_K {α : Type} {d : Kd α} {e base : Nat} {ok : Nat → Prop} {W W1 : World} {K : Nat → Prop} {v : Value} {xs : List α} (h : d.R e W base ok v xs) (hk : Kept W W1 K)
 (ht : ∀ k c t, K k → W.heap[k]? = some (.cells c t (0, 0)) → ∀ q ∈ e :: d.E, q ≠ t) : d.R e W1 base ok v xs :=
 Kd.R_mono (Kd.R_kept (Kd.R_bound h) hk (fun k hk' hK => by obtain ⟨_, _, _, q, hq, c, hc⟩ := hk'; exact ht k c q hK hc q hq rfl)) (fun _ h => h.1)
theorem S_K {α : Type} {d : Kd α} {e base : Nat} {ok : Nat → Prop} {W W1 : World} {K : Nat → Prop} {v : Value} {xs : List α} (h : Kd.S d e W base ok v xs) (hk : Kept W W1 K)
 (ht : ∀ k c t, K k → W.heap[k]? = some (.cells c t (0, 0)) → ∀ q ∈ e :: d.E, q ≠ t) : Kd.S d e W1 base ok v xs :=
 Kd.S_mono (Kd.S_kept (Kd.S_bound h) hk (fun k hk' hK => by obtain ⟨_, _, _, q, hq, c, hc⟩ := hk'; exact ht k c q hK hc q hq rfl)) (fun _ h => h.1)

theorem int_E {q : Nat} (hq : q ∈ 3 :: (Kd.int .i64).E) : q = 3 := by
 rcases List.mem_cons.1 hq with h | h
 ·exact h
 ·cases h
/-! ### what stands -/
structure DC (w0 W : World) (base G B R0 n1 n2 : Nat) (s : ByteArray) (st : St) (vS vU : Value) (S U : List Int) : Prop where
 ar : AR W base G B s st
 bel : Below base w0 W
 kept : Kept w0 W (fun k => k = G ∨ k = B)
 bs : base ≤ w0.heap.size
 wR : w0.heap.size ≤ R0
 res : W.heap[R0]? = some (.cells #[.int .i64 0, .bool false, .slice none 0 0, .slice none 0 0, .slice none 0 0, .slice none 0 0, .slice none 0 0] 27 (0, 0))
 rS : (Kd.int .i64).R 3 W w0.heap.size (fun k => k < n1) vS S
 rU : (Kd.int .i64).R 3 W n1 (fun k => k < n2) vU U
 ln0 : w0.heap.size ≤ n1
 ln1 : n1 ≤ n2
 ln2 : n2 ≤ W.heap.size
abbrev Box (W : World) (X : Nat) (kd : Int) (no : Bool) (vS vU vSe vSp vCu : Value) : Prop := W.heap[X]? = some (.cells #[.int .i64 kd, .bool no, vS, vU, vSe, vSp, vCu] 27 (0, 0))
section
variable {w0 W W1 : World} {base G B R0 n1 n2 : Nat} {s : ByteArray} {st st1 : St} {vS vU : Value} {S U : List Int} {K : Nat → Prop}
theorem DC.keep (h : DC w0 W base G B R0 n1 n2 s st vS vU S U) (hk : Kept W W1 K) (hb : Below base W W1) (hK : ∀ k, K k → w0.heap.size ≤ k) (hR : ¬ K R0)
 (ht : ∀ k c t, K k → W.heap[k]? = some (.cells c t (0, 0)) → t ≠ 3 ∧ t ≠ 48 ∧ t ≠ 79 ∧ t ≠ 86) : DC w0 W1 base G B R0 n1 n2 s st vS vU S U where
 ar := h.ar.kept hk (fun k c t a b => (ht k c t a b).2)
 bel := h.bel.trans hb
 kept := h.kept.then_ hk (fun k hk => .inr (hK k hk))
 bs := h.bs
 wR := h.wR
 res := (hk.2 R0 (blk_lt h.res) hR).trans h.res
 rS := R_K h.rS hk (fun k c t a b q hq e => by obtain rfl := int_E hq; exact (ht k c t a b).1 e.symm)
 rU := R_K h.rU hk (fun k c t a b q hq e => by obtain rfl := int_E hq; exact (ht k c t a b).1 e.symm)
 ln0 := h.ln0
 ln1 := h.ln1
 ln2 := Nat.le_trans h.ln2 hk.1
theorem ar_types (h : AR W base G B s st) : ∀ k c t, (k = G ∨ k = B) → W.heap[k]? = some (.cells c t (0, 0)) → t = 48 ∨ t = 79 := by
 obtain ⟨-, -, ⟨c1, h1⟩, ⟨c2, h2⟩⟩ := h.blocks
 rintro k c t (rfl | rfl) hc
 ·rw [h1] at hc; injection hc with hc; injection hc with _ hc; exact .inl hc.symm
 ·rw [h2] at hc; injection hc with hc; injection hc with _ hc; exact .inr hc.symm
theorem DC.call (h : DC w0 W base G B R0 n1 n2 s st vS vU S U) (har : AR W1 base G B s st1) (hb : Below base W W1) (hk : Kept W W1 (fun k => k = G ∨ k = B)) : DC w0 W1 base G B R0 n1 n2 s st1 vS vU S U where
 ar := har
 bel := h.bel.trans hb
 kept := h.kept.then_ hk (fun k hk => .inl hk)
 bs := h.bs
 wR := h.wR
 res := (hk.2 R0 (blk_lt h.res) (fun hK => by rcases ar_types h.ar R0 _ _ hK h.res with e | e <;> exact absurd e (by decide))).trans h.res
 rS := R_K h.rS hk (fun k c t a b q hq e => by obtain rfl := int_E hq
                                               subst e; rcases ar_types h.ar k c _ a b with e | e <;> exact absurd e (by decide))
 rU := R_K h.rU hk (fun k c t a b q hq e => by obtain rfl := int_E hq
                                               subst e; rcases ar_types h.ar k c _ a b with e | e <;> exact absurd e (by decide))
 ln0 := h.ln0
 ln1 := h.ln1
 ln2 := Nat.le_trans h.ln2 hk.1
theorem DC.below (h : DC w0 W base G B R0 n1 n2 s st vS vU S U) (hb : Below W.heap.size W W1) : DC w0 W1 base G B R0 n1 n2 s st vS vU S U :=
 h.keep (K := fun _ => False) (Kept.of_below hb _) (hb.mono (Nat.le_trans h.bs h.kept.1)) (fun _ hk => hk.elim) (fun hk => hk) (fun _ _ _ hk => hk.elim)
/-- a row of another type is written, that is the call's own -/
theorem DC.grow (h : DC w0 W base G B R0 n1 n2 s st vS vU S U) {v : Value} {e : Nat} (hg : W.grownBy W1 v.ownBlock) (hv : ∀ k, v.ownBlock = some k → w0.heap.size ≤ k ∧ ∃ c, W.heap[k]? = some (.cells c e (0, 0)))
 (he : e = 22 ∨ e = 41 ∨ e = 43) : DC w0 W1 base G B R0 n1 n2 s st vS vU S U := by
 have hk : Kept W W1 (fun k => v.ownBlock = some k) := Kept.of_grown hg (Kept.refl _ _) (fun k e => .inl e)
 have ht : ∀ k c t, v.ownBlock = some k → W.heap[k]? = some (.cells c t (0, 0)) → t = e := fun k c t hk hc => by
  obtain ⟨_, c', hc'⟩ := hv k hk
  rw [hc'] at hc; injection hc with hc; injection hc with _ hc; exact hc.symm
 refine h.keep hk ((Below.refl _ _).grown hg (Nat.le_trans h.bs h.kept.1) (fun k e => Nat.le_trans h.bs (hv k e).1)) (fun k e => (hv k e).1) (fun hK => ?_) (fun k c t a b => ?_)
 ·have := ht R0 _ _ hK h.res
  rcases he with he | he | he <;> rw [he] at this <;> exact absurd this (by decide)
 ·have := ht k c t a b
  subst this
  rcases he with he | he | he <;> rw [he] <;> decide
theorem blk_t {k : Nat} {c c' : Array Value} {t t' : TypeId} (h : W.heap[k]? = some (.cells c t (0, 0))) (h' : W.heap[k]? = some (.cells c' t' (0, 0))) : t = t' := by
 rw [h] at h'; injection h' with h'; injection h' with _ h'
theorem DC.put {X : Nat} {c : Array Value} {t : TypeId} (h : DC w0 W base G B R0 n1 n2 s st vS vU S U) (hX : w0.heap.size ≤ X) (hR : R0 ≠ X) (hbx : W.heap[X]? = some (.cells c t (0, 0))) (ht : t = 27 ∨ t = 43) (j : Nat) (u : Value) : DC w0 (W.setCell ⟨X, j, none⟩ u) base G B R0 n1 n2 s st vS vU S U := by
 have hk : Kept W (W.setCell ⟨X, j, none⟩ u) (fun k => k = X) := Kept.setCell (S := fun k => k = X) (p := ⟨X, j, none⟩) (Kept.refl _ _) (.inl rfl) _
 refine h.keep hk ((Below.refl _ _).setCell (p := ⟨X, j, none⟩) (Nat.le_trans h.bs hX) _) (fun k e => by rw [e]; exact hX) hR (fun k c' t' a b => ?_)
 subst a
 obtain rfl := blk_t hbx b
 rcases ht with rfl | rfl <;> decide
theorem put_K {X : Nat} {c : Array Value} {t : TypeId} {j : Nat} {u : Value} (hbx : W.heap[X]? = some (.cells c t (0, 0))) : Kept W (W.setCell ⟨X, j, none⟩ u) (fun k => k = X) ∧ (∀ k c' t', k = X → W.heap[k]? = some (.cells c' t' (0, 0)) → t' = t) :=
 ⟨Kept.setCell (S := fun k => k = X) (p := ⟨X, j, none⟩) (Kept.refl _ _) (.inl rfl) _, fun k c' t' a b => by subst a; exact blk_t b hbx⟩
theorem S_put {α : Type} {d : Kd α} {e b : Nat} {ok : Nat → Prop} {v : Value} {xs : List α} {X : Nat} {c : Array Value} {t : TypeId} (h : Kd.S d e W b ok v xs) (hbx : W.heap[X]? = some (.cells c t (0, 0))) (ht : ∀ q ∈ e :: d.E, q ≠ t) (j : Nat) (u : Value) : Kd.S d e (W.setCell ⟨X, j, none⟩ u) b ok v xs :=
 S_K h (put_K hbx).1 (fun k c' t' a b q hq => by rw [(put_K (j := j) (u := u) hbx).2 k c' t' a b]; exact ht q hq)
theorem S_call {α : Type} {d : Kd α} {e b : Nat} {ok : Nat → Prop} {v : Value} {xs : List α} (h : Kd.S d e W b ok v xs) (har : AR W base G B s st) (hk : Kept W W1 (fun k => k = G ∨ k = B)) (ht : ∀ q ∈ e :: d.E, q ≠ 48 ∧ q ≠ 79) : Kd.S d e W1 b ok v xs :=
 S_K h hk (fun k c t a b q hq e => by rcases ar_types har k c t a b with e' | e' <;> rw [e'] at e; (exact (ht q hq).1 e); (exact (ht q hq).2 e))
theorem R_call {α : Type} {d : Kd α} {e b : Nat} {ok : Nat → Prop} {v : Value} {xs : List α} (h : d.R e W b ok v xs) (har : AR W base G B s st) (hk : Kept W W1 (fun k => k = G ∨ k = B)) (ht : ∀ q ∈ e :: d.E, q ≠ 48 ∧ q ≠ 79) : d.R e W1 b ok v xs :=
 R_K h hk (fun k c t a b q hq e => by rcases ar_types har k c t a b with e' | e' <;> rw [e'] at e; (exact (ht q hq).1 e); (exact (ht q hq).2 e))
theorem box_call {X : Nat} {c : Array Value} {t : TypeId} (hbx : W.heap[X]? = some (.cells c t (0, 0))) (har : AR W base G B s st) (hk : Kept W W1 (fun k => k = G ∨ k = B)) (ht : t ≠ 48 ∧ t ≠ 79) : W1.heap[X]? = some (.cells c t (0, 0)) :=
 blk_kept hbx hk (fun e => by rcases ar_types har X c t e hbx with e | e; (exact ht.1 e); (exact ht.2 e))
end
/-! ### numbers, taken by the wire's reader itself -/
def AR1 (w : World) (base G B : Nat) (s : ByteArray) (st : St) : Prop := base ≤ G ∧ RA w G B (-1) ∧ Rd w base B s st ∧ Ok s st
theorem AR1.ar {w : World} {base G B : Nat} {s : ByteArray} {st : St} (h : AR1 w base G B s st) : AR w base G B s st := ⟨h.1, -1, st, h.2.1, h.2.2.1, h.2.2.2, .inl ⟨rfl, rfl⟩⟩
theorem AR1.below {w w1 : World} {base G B : Nat} {s : ByteArray} {st : St} (h : AR1 w base G B s st) (hb : Below w.heap.size w w1) : AR1 w1 base G B s st := ⟨h.1, blk_below h.2.1 hb, h.2.2.1.below hb, h.2.2.2⟩
theorem one_grown {w w' : World} {base G B : Nat} {s : ByteArray} {st st' : St} (h : AR1 w base G B s st) (hbase : base ≤ w.heap.size) (hr : Rd w' base B s st') (ho : Ok s st') (hg : w.grownBy w' (some B)) : AR1 w' base G B s st' ∧ Below base w w' ∧ Kept w w' (fun k => k = G ∨ k = B) := by
 obtain ⟨h0, hra, ⟨hb, ev, hrc, hre⟩, _⟩ := h
 refine ⟨⟨h0, blk_grown hra hg (fun e => ?_), hr, ho⟩, (Below.refl _ _).grown hg hbase (fun k e => by obtain rfl := Option.some.inj e; exact hb), Kept.of_grown hg (Kept.refl _ _) (fun k e => .inl (.inr (Option.some.inj e).symm))⟩
 obtain rfl := Option.some.inj e
 exact absurd (blk_ne hra hrc (by decide)) (fun h => h rfl)
theorem num_a {w : World} {base G B : Nat} {s : ByteArray} {st : St} (h : AR1 w base G B s st) (hs : s.size ≤ 1000000000) (hbase : base ≤ w.heap.size) :
 Calls Tryd.prog 42 #[.pointer (some ⟨B, 0, none⟩)] w fun e w' => e = .returned (.int .i64 (numF (bytesOf s) st).1) ∧ AR1 w' base G B s (numF (bytesOf s) st).2 ∧ Below base w w' ∧ Kept w w' (fun k => k = G ∨ k = B) := by
 refine (num_c h.2.2.1 hs h.2.2.2.1).mono ?_
 rintro e w' ⟨rfl, h1, h2⟩
 exact ⟨rfl, one_grown h hbase h1 (refnum_ok h.2.2.2) h2⟩
theorem int_a {w : World} {base G B : Nat} {s : ByteArray} {st : St} (h : AR w base G B s st) (hn : st.2 = none) (hs : s.size ≤ 1000000000) (hbase : base ≤ w.heap.size) :
 Calls Tryd.prog 46 #[.pointer (some ⟨B, 0, none⟩)] w fun e w' => e = .returned (.int .i64 (intF (bytesOf s) st).1) ∧ AR w' base G B s (intF (bytesOf s) st).2 ∧ Below base w w' ∧ Kept w w' (fun k => k = G ∨ k = B) := by
 have h1 : AR1 w base G B s st := ⟨(h.none hn).1, (h.none hn).2.1, (h.none hn).2.2, h.ok⟩
 refine (int_c h1.2.2.1 hs h.ok.1).mono ?_
 rintro e w' ⟨rfl, h2, h3⟩
 have := one_grown h1 hbase h2 (refnum_ok h.ok) h3
 exact ⟨rfl, this.1.ar, this.2⟩
end Go.Proofs.YtlekdhejgdfnpaaDoor.P
/- Lists, counts, and an answer: what is written is read, what is cut is cut, what is read is written. -/
namespace Go.Proofs.YtlekdhejgdfnpaaDoor.P
open Go.RowKit Go.Proofs.YtlekdhejgdfnpaaDoorW.PrintWords Go.Proofs.YtlekdhejgdfnpaaDoorW.PrintLast Go.Proofs.YtlekdhejgdfnpaaDoorW.PrintMore
open Wr
set_option linter.unusedVariables false
set_option linter.unusedSimpArgs false

section
variable {α β : Type} {F : Rdr α} {F' : Rdr β} {E : α → List Int} {E' : β → List Int} {P Q : α → Prop} {P' Q' : β → Prop}
theorem EncOk.map2 (f : α → β) (hF : ∀ S st, F' S st = (f (F S st).1, (F S st).2)) (hP : ∀ y, P' y → ∃ x, P x ∧ f x = y ∧ E x = E' y) (h : EncOk F E P) : EncOk F' E' P' := by
 intro A B y hy
 obtain ⟨x, h1, h2, h3⟩ := hP y hy
 have := h A B x h1
 rw [h3] at this
 rw [hF, this, h2]
theorem CutOk.map2 (f : α → β) (hF : ∀ S st, F' S st = (f (F S st).1, (F S st).2)) (hP : ∀ y, P' y → ∃ x, P x ∧ f x = y ∧ E x = E' y) (h : CutOk F E P) : CutOk F' E' P' := by
 intro A y c hy hc
 obtain ⟨x, h1, h2, h3⟩ := hP y hy
 have := h A x c h1 (by rw [h3]; exact hc)
 rw [h3] at this
 obtain ⟨p, q, a, b⟩ := this
 exact ⟨p, q, a, by rw [hF]; exact b⟩
end
/-- alike but for what is told where something is wrong -/
def SimR {α : Type} (F G : Rdr α) : Prop := ∀ S st, (F S st).2 = (G S st).2 ∧ ((G S st).2.2 = none → (F S st).1 = (G S st).1)
section
variable {α : Type} {F G : Rdr α} {E : α → List Int} {P : α → Prop}
theorem EncOk.sim (hs : SimR F G) (h : EncOk G E P) : EncOk F E P := by
 intro A B x hx
 have h1 := h A B x hx
 obtain ⟨a, b⟩ := hs (A ++ (E x ++ B)) (A.length, none)
 rw [h1] at a b
 exact Prod.ext (b rfl) a
theorem CutOk.sim (hs : SimR F G) (h : CutOk G E P) : CutOk F E P := by
 intro A x c hx hc
 obtain ⟨p, q, h1, h2⟩ := h A x c hx hc
 exact ⟨p, q, h1, by rw [(hs _ _).1]; exact h2⟩
theorem BackOk.sim (hs : SimR F G) (h : BackOk G E P) : BackOk F E P := by
 intro S p hb hp hn
 obtain ⟨a, b⟩ := hs S (p, none)
 rw [a] at hn
 rw [a, b hn]
 exact h S p hb hp hn
theorem ErrOk.sim (hs : SimR F G) (h : ErrOk G) : ErrOk F := by
 intro S st hn
 rw [(hs S st).1]; exact h S st hn
end
/-! ### as many -/
def manyR {α : Type} (F : Rdr α) (d : Nat) : Rdr (List α) := fun S st => manyF (F S) d st []
theorem manyF_acc {α : Type} (one : St → α × St) : ∀ (d : Nat) (st : St) (out : List α), manyF one d st out = (out ++ (manyF one d st []).1, (manyF one d st []).2) := by
 intro d
 induction d with
 | zero => intro st out; simp [manyF]
 | succ d ih =>
  intro st out
  show manyF one d _ _ = (out ++ (manyF one d _ _).1, (manyF one d _ _).2)
  rw [ih _ (out ++ _), ih _ ([] ++ _)]
  simp
theorem manyR_succ {α : Type} (F : Rdr α) (d : Nat) (S : List Int) (st : St) : manyR F (d + 1) S st = ((bindR F (fun _ => manyR F d) S st).1.1 :: (bindR F (fun _ => manyR F d) S st).1.2, (bindR F (fun _ => manyR F d) S st).2) := by
 show manyF (F S) d _ _ = _
 rw [manyF_acc]
 rfl
section
variable {α : Type} {F : Rdr α} {E : α → List Int} {P : α → Prop}
def AllP (P : α → Prop) (d : Nat) (l : List α) : Prop := l.length = d ∧ ∀ x ∈ l, P x
theorem many_err (h : ErrOk F) : ∀ d, ErrOk (manyR F d) := by
 intro d
 induction d with
 | zero => intro S st hs; rfl
 | succ d ih => exact ErrOk.map (fun q => q.1 :: q.2) (manyR_succ F d) (h.bind (fun _ => ih))
theorem many_split (E : α → List Int) (P : α → Prop) (d : Nat) : ∀ y, AllP P (d + 1) y → ∃ x : α × List α, (P x.1 ∧ AllP P d x.2) ∧ x.1 :: x.2 = y ∧ E x.1 ++ x.2.flatMap E = y.flatMap E := by
 rintro y ⟨h1, h2⟩
 cases y with
 | nil => simp at h1
 | cons a r => exact ⟨(a, r), ⟨h2 a (List.mem_cons_self ..), by simpa using h1, fun x hx => h2 x (List.mem_cons_of_mem _ hx)⟩, rfl, rfl⟩
theorem many_enc (h : EncOk F E P) : ∀ d, EncOk (manyR F d) (fun l => l.flatMap E) (AllP P d) := by
 intro d
 induction d with
 | zero =>
  rintro A B l ⟨h1, -⟩
  obtain rfl := List.length_eq_zero_iff.1 h1
  rfl
 | succ d ih => exact EncOk.map2 (fun q => q.1 :: q.2) (manyR_succ F d) (many_split E P d) (EncOk.bind h (fun _ _ => ih))
theorem many_cut (h : CutOk F E P) (he : EncOk F E P) (hr : ErrOk F) : ∀ d, CutOk (manyR F d) (fun l => l.flatMap E) (AllP P d) := by
 intro d
 induction d with
 | zero =>
  rintro A l c ⟨h1, -⟩ hc
  obtain rfl := List.length_eq_zero_iff.1 h1
  simp at hc
 | succ d ih => exact CutOk.map2 (fun q => q.1 :: q.2) (manyR_succ F d) (many_split E P d) (CutOk.bind h he (fun _ _ => ih) (fun _ => many_err hr d))
theorem many_back (h : BackOk F E P) (hr : ErrOk F) : ∀ d, BackOk (manyR F d) (fun l => l.flatMap E) (AllP P d) := by
 intro d
 induction d with
 | zero => intro S p hb hp hn; exact ⟨rfl, by simp [manyR, manyF], rfl, fun x hx => by simp [manyR, manyF] at hx⟩
 | succ d ih =>
  refine BackOk.map (E' := fun l => l.flatMap E) (Q' := AllP P (d + 1)) (fun q : α × List α => q.1 :: q.2) (manyR_succ F d) (fun (x : α × List α) (hx : P x.1 ∧ AllP P d x.2) => ⟨⟨by rw [List.length_cons, hx.2.1], fun y hy => ?_⟩, rfl⟩) (BackOk.bind h (fun _ _ => ih) (fun _ => many_err hr d))
  rcases List.mem_cons.1 hy with rfl | hy
  ·exact hx.1
  ·exact hx.2.2 y hy
end
theorem loop_sim (d : Nat) : SimR (fun S st => loopF (intF S) d st []) (manyR intF d) := by
 intro S st
 have key : ∀ (d : Nat) (st : St) (out : List Int), (loopF (intF S) d st out).2 = (manyF (intF S) d st out).2 ∧ ((manyF (intF S) d st out).2.2 = none → (loopF (intF S) d st out).1 = (manyF (intF S) d st out).1) := by
  intro d
  induction d with
  | zero => intro st out; exact ⟨rfl, fun _ => rfl⟩
  | succ d ih =>
   intro st out
   rw [loopF_succ]
   show _ = (manyF (intF S) d _ _).2 ∧ _
   by_cases h : (intF S st).2.2 = none
   ·rw [if_pos h]; exact ih _ _
   ·rw [if_neg h]
    have : (manyF (intF S) d (intF S st).2 (out ++ [(intF S st).1])).2 = (intF S st).2 := by
     rw [manyF_acc]; exact many_err intR_err d S _ h
    refine ⟨this.symm, fun hn => ?_⟩
    exact absurd (by rw [← this]; exact hn) h
 exact key d st []
/-! ### a count -/
def BndP (most : Int) (n : Int) : Prop := 0 ≤ n ∧ n ≤ most
def headR (most : Int) : Rdr Int := fun S st => headF S most st
def countR (most : Int) : Rdr Int := fun S st => countF S most st
theorem head_err (most : Int) : ErrOk (headR most) := by
 intro S st hs
 show (headF S most st).2 = st
 unfold headF
 rw [if_neg (fun h => hs (by rw [← numR_err S st hs]; exact h.1))]
 exact numR_err S st hs
theorem head_enc {most : Int} (hm : most ≤ MX) : EncOk (headR most) encN (BndP most) := by
 intro A B n h
 have h1 := num_enc A B n ⟨h.1, Int.le_trans h.2 hm⟩
 show headF _ most _ = _
 unfold headF
 rw [h1, if_neg (fun h' => by have := h'.2; have := h.2; omega)]
theorem head_cut {most : Int} (hm : most ≤ MX) : CutOk (headR most) encN (BndP most) := by
 intro A n c h hc
 have h1 := numF_cut A n c ⟨h.1, Int.le_trans h.2 hm⟩ hc
 refine ⟨A.length, A.length, by omega, ?_⟩
 show (headF _ most _).2 = _
 unfold headF
 rw [h1, if_neg (fun h' => by cases h'.1)]
theorem head_back (most : Int) : BackOk (headR most) encN (BndP most) := by
 intro S p hb hp hn
 have e : headR most S (p, none) = numF S (p, none) := by
  show headF S most (p, none) = _
  have hn' : (headF S most (p, none)).2.2 = none := hn
  unfold headF at hn' ⊢
  by_cases h : (numF S (p, none)).2.2 = none ∧ (numF S (p, none)).1 > most
  ·rw [if_pos h] at hn'; cases hn'
  ·rw [if_neg h]
 have hle : (headR most S (p, none)).2.2 = none → (numF S (p, none)).1 ≤ most := fun hn => by
  apply Classical.byContradiction
  intro hgt
  have hn2 := hn
  rw [e] at hn2
  have hn' : (headF S most (p, none)).2.2 = none := hn
  unfold headF at hn'
  rw [if_pos ⟨hn2, by omega⟩] at hn'
  cases hn'
 have h1 := hle hn
 rw [e] at hn ⊢
 obtain ⟨a1, a2, a3⟩ := num_back S p hb hp hn
 exact ⟨a1, a2, a3.1, h1⟩
theorem count_sim (most : Int) : SimR (countR most) (headR most) := by
 intro S st
 show (countF S most st).2 = (headF S most st).2 ∧ ((headF S most st).2.2 = none → (countF S most st).1 = (headF S most st).1)
 unfold countF headF
 by_cases h : (numF S st).2.2 = none ∧ (numF S st).1 > most
 ·rw [if_pos h, if_pos h]; exact ⟨rfl, fun h => by cases h⟩
 ·rw [if_neg h, if_neg h]; exact ⟨rfl, fun _ => rfl⟩
/-! ### a list -/
def LE (l : List Int) : List Int := encN (l.length : Int) ++ l.flatMap encI
def LP (l : List Int) : Prop := l.length ≤ 64 ∧ ∀ x ∈ l, IntP x
def lstB : Rdr (Int × List Int) := bindR (headR 64) (fun n => manyR intF n.toNat)
theorem lst_sim : SimR lstF (fun S st => ((lstB S st).1.2, (lstB S st).2)) := fun S st => loop_sim (headF S 64 st).1.toNat S (headF S 64 st).2
theorem lst_split : ∀ y, LP y → ∃ x : Int × List Int, (BndP 64 x.1 ∧ AllP IntP x.1.toNat x.2) ∧ x.2 = y ∧ encN x.1 ++ x.2.flatMap encI = LE y :=
 fun y hy => ⟨((y.length : Int), y), ⟨⟨by dsimp only; omega, by have := hy.1; dsimp only; omega⟩, by simp, hy.2⟩, rfl, rfl⟩
theorem lst_err : ErrOk lstF := ErrOk.sim lst_sim (ErrOk.map Prod.snd (fun _ _ => rfl) (ErrOk.bind (head_err 64) (fun n => many_err intR_err _)))
theorem lst_enc : EncOk lstF LE LP := EncOk.sim lst_sim (EncOk.map2 Prod.snd (fun _ _ => rfl) lst_split (EncOk.bind (head_enc (by decide)) (fun n _ => many_enc int_enc n.toNat)))
theorem lst_cut : CutOk lstF LE LP := CutOk.sim lst_sim (CutOk.map2 Prod.snd (fun _ _ => rfl) lst_split (CutOk.bind (head_cut (by decide)) (head_enc (by decide)) (fun n _ => many_cut int_cut int_enc intR_err n.toNat) (fun n => many_err intR_err _)))
theorem lst_back : BackOk lstF LE LP := by
 refine BackOk.sim lst_sim (BackOk.map (E' := LE) (Q' := LP) Prod.snd (fun _ _ => rfl) ?_ (BackOk.bind (head_back 64) (fun n _ => many_back int_back intR_err n.toNat) (fun n => many_err intR_err _)))
 rintro ⟨n, l⟩ ⟨⟨h0, h1⟩, h2, h3⟩
 dsimp only at *
 refine ⟨⟨by omega, h3⟩, ?_⟩
 show encN (l.length : Int) ++ _ = _
 rw [h2, show ((n.toNat : Nat) : Int) = n by omega]
/-! ### a split, a cut -/
def SE (y : Spl) : List Int := LE y.f0 ++ (LE y.f1 ++ LE y.f2)
def SP (y : Spl) : Prop := LP y.f0 ∧ LP y.f1 ∧ LP y.f2
def CE (c : Cut) : List Int := LE c.f0 ++ encI c.f1
def CP (c : Cut) : Prop := LP c.f0 ∧ IntP c.f1
def splB : Rdr (List Int × (List Int × List Int)) := bindR lstF (fun _ => bindR lstF (fun _ => lstF))
def cutB : Rdr (List Int × Int) := bindR lstF (fun _ => intF)
def toSpl (q : List Int × (List Int × List Int)) : Spl := ⟨q.1, q.2.1, q.2.2⟩
def toCut (q : List Int × Int) : Cut := ⟨q.1, q.2⟩
theorem spl_map (S : List Int) (st : St) : splF S st = (toSpl (splB S st).1, (splB S st).2) := by
 unfold splF splB bindR toSpl
 with_reducible rfl
theorem cut_map (S : List Int) (st : St) : cutF S st = (toCut (cutB S st).1, (cutB S st).2) := by
 unfold cutF cutB bindR toCut
 with_reducible rfl
theorem splB_err : ErrOk splB := ErrOk.bind lst_err (fun _ => ErrOk.bind lst_err (fun _ => lst_err))
theorem cutB_err : ErrOk cutB := ErrOk.bind lst_err (fun _ => intR_err)
theorem spl_err : ErrOk splF := ErrOk.map toSpl spl_map splB_err
theorem cut_err : ErrOk cutF := ErrOk.map toCut cut_map cutB_err
def splE (x : List Int × (List Int × List Int)) : List Int := LE x.1 ++ (LE x.2.1 ++ LE x.2.2)
def splP (x : List Int × (List Int × List Int)) : Prop := LP x.1 ∧ (LP x.2.1 ∧ LP x.2.2)
def cutE (x : List Int × Int) : List Int := LE x.1 ++ encI x.2
def cutP (x : List Int × Int) : Prop := LP x.1 ∧ IntP x.2
theorem splB_enc : EncOk splB splE splP := EncOk.bind lst_enc (fun _ _ => EncOk.bind lst_enc (fun _ _ => lst_enc))
theorem cutB_enc : EncOk cutB cutE cutP := EncOk.bind lst_enc (fun _ _ => int_enc)
theorem splB_cut : CutOk splB splE splP := CutOk.bind lst_cut lst_enc (fun _ _ => CutOk.bind lst_cut lst_enc (fun _ _ => lst_cut) (fun _ => lst_err)) (fun _ => ErrOk.bind lst_err (fun _ => lst_err))
theorem cutB_cut : CutOk cutB cutE cutP := CutOk.bind lst_cut lst_enc (fun _ _ => int_cut) (fun _ => intR_err)
theorem splB_back : BackOk splB splE splP := BackOk.bind lst_back (fun _ _ => BackOk.bind lst_back (fun _ _ => lst_back) (fun _ => lst_err)) (fun _ => ErrOk.bind lst_err (fun _ => lst_err))
theorem cutB_back : BackOk cutB cutE cutP := BackOk.bind lst_back (fun _ _ => int_back) (fun _ => intR_err)
theorem spl_split : ∀ y, SP y → ∃ x, splP x ∧ toSpl x = y ∧ splE x = SE y := fun y hy => ⟨(y.f0, (y.f1, y.f2)), hy, rfl, rfl⟩
theorem cut_split : ∀ y, CP y → ∃ x, cutP x ∧ toCut x = y ∧ cutE x = CE y := fun y hy => ⟨(y.f0, y.f1), hy, rfl, rfl⟩
theorem spl_enc : EncOk splF SE SP := EncOk.map2 toSpl spl_map spl_split splB_enc
theorem cut_enc : EncOk cutF CE CP := EncOk.map2 toCut cut_map cut_split cutB_enc
theorem spl_cut : CutOk splF SE SP := CutOk.map2 toSpl spl_map spl_split splB_cut
theorem cut_cut : CutOk cutF CE CP := CutOk.map2 toCut cut_map cut_split cutB_cut
theorem spl_back : BackOk splF SE SP := BackOk.map toSpl spl_map (fun x hx => ⟨hx, rfl⟩) splB_back
theorem cut_back : BackOk cutF CE CP := BackOk.map toCut cut_map (fun x hx => ⟨hx, rfl⟩) cutB_back
end Go.Proofs.YtlekdhejgdfnpaaDoor.P
/- answer's reader, walked: what the walk of answer stands on. -/
namespace Go.Proofs.YtlekdhejgdfnpaaDoor.P
open Go.RowKit Go.Proofs.YtlekdhejgdfnpaaDoorW.PrintWords Go.Proofs.YtlekdhejgdfnpaaDoorW.PrintLast Go.Proofs.YtlekdhejgdfnpaaDoorW.PrintMore
open Wr
set_option linter.unusedVariables false
set_option linter.unusedSimpArgs false

section
variable {w0 W W1 : World} {base G B R0 n1 n2 : Nat} {s : ByteArray} {st st1 : St} {vS vU : Value} {S U : List Int} {K : Nat → Prop}
theorem AR1.kept (h : AR1 W base G B s st) (hk : Kept W W1 K)
 (ht : ∀ k c t, K k → W.heap[k]? = some (.cells c t (0, 0)) → t ≠ 48 ∧ t ≠ 79 ∧ t ≠ 86) : AR1 W1 base G B s st :=
 ⟨h.1, (hk.2 G (blk_lt h.2.1) (fun hK => (ht G _ _ hK h.2.1).1 rfl)).trans h.2.1, h.2.2.1.kept hk (fun k c t hK hc => (ht k c t hK hc).2), h.2.2.2⟩
theorem AR1.keepX {X : Nat} {c : Array Value} {t : TypeId} (h : AR1 W base G B s st) (hbx : W.heap[X]? = some (.cells c t (0, 0))) (ht : t = 27 ∨ t = 43) (hk : Kept W W1 (fun k => k = X)) : AR1 W1 base G B s st :=
 h.kept hk (fun k c' t' a b => by subst a; obtain rfl := blk_t hbx b; rcases ht with rfl | rfl <;> decide)
theorem DC.keepX {X : Nat} {c : Array Value} {t : TypeId} (h : DC w0 W base G B R0 n1 n2 s st vS vU S U) (hX : w0.heap.size ≤ X) (hR : R0 ≠ X) (hbx : W.heap[X]? = some (.cells c t (0, 0))) (ht : t = 27 ∨ t = 43)
 (hk : Kept W W1 (fun k => k = X)) (hb : Below base W W1) : DC w0 W1 base G B R0 n1 n2 s st vS vU S U :=
 h.keep hk hb (fun k e => by rw [e]; exact hX) hR (fun k c' t' a b => by subst a; obtain rfl := blk_t hbx b; rcases ht with rfl | rfl <;> decide)
/- seven cells are written -/
set_option maxHeartbeats 1000000 in
theorem set7 {X : Nat} {c0 c1 c2 c3 c4 c5 c6 u0 u1 u2 u3 u4 u5 u6 : Value} {t : TypeId} (hbx : W.heap[X]? = some (.cells #[c0, c1, c2, c3, c4, c5, c6] t (0, 0))) (hX : base ≤ X) :
 let W1 := (((((((W.setCell ⟨X, 0, none⟩ u0).setCell ⟨X, 1, none⟩ u1).setCell ⟨X, 2, none⟩ u2).setCell ⟨X, 3, none⟩ u3).setCell ⟨X, 4, none⟩ u4).setCell ⟨X, 5, none⟩ u5).setCell ⟨X, 6, none⟩ u6)
 W1.heap[X]? = some (.cells #[u0, u1, u2, u3, u4, u5, u6] t (0, 0)) ∧ Kept W W1 (fun k => k = X) ∧ Below base W W1 := by
 refine ⟨?_, ?_, ?_⟩
 ·have a0 := (blk_set hbx 0 u0).trans (show _ = some (Obj.cells #[u0, c1, c2, c3, c4, c5, c6] t (0, 0)) from rfl)
  have a1 := (blk_set a0 1 u1).trans (show _ = some (Obj.cells #[u0, u1, c2, c3, c4, c5, c6] t (0, 0)) from rfl)
  have a2 := (blk_set a1 2 u2).trans (show _ = some (Obj.cells #[u0, u1, u2, c3, c4, c5, c6] t (0, 0)) from rfl)
  have a3 := (blk_set a2 3 u3).trans (show _ = some (Obj.cells #[u0, u1, u2, u3, c4, c5, c6] t (0, 0)) from rfl)
  have a4 := (blk_set a3 4 u4).trans (show _ = some (Obj.cells #[u0, u1, u2, u3, u4, c5, c6] t (0, 0)) from rfl)
  have a5 := (blk_set a4 5 u5).trans (show _ = some (Obj.cells #[u0, u1, u2, u3, u4, u5, c6] t (0, 0)) from rfl)
  have a6 := (blk_set a5 6 u6).trans (show _ = some (Obj.cells #[u0, u1, u2, u3, u4, u5, u6] t (0, 0)) from rfl)
  exact a6
 ·have h := fun (W2 : World) (j : Nat) (u : Value) (h : Kept W W2 (fun k => k = X)) => Kept.setCell (S := fun k => k = X) (p := ⟨X, j, none⟩) h (.inl rfl) u
  exact h _ _ _ (h _ _ _ (h _ _ _ (h _ _ _ (h _ _ _ (h _ _ _ (h _ _ _ (Kept.refl _ _)))))))
 ·have h := fun (W2 : World) (j : Nat) (u : Value) (h : Below base W W2) => h.setCell (p := ⟨X, j, none⟩) hX u
  exact h _ _ _ (h _ _ _ (h _ _ _ (h _ _ _ (h _ _ _ (h _ _ _ (h _ _ _ (Below.refl _ _)))))))
theorem set1 {X j : Nat} {u : Value} {c : Array Value} {t : TypeId} (hbx : W.heap[X]? = some (.cells c t (0, 0))) (hX : base ≤ X) :
 (W.setCell ⟨X, j, none⟩ u).heap[X]? = some (.cells (c.setIfInBounds j u) t (0, 0)) ∧ Kept W (W.setCell ⟨X, j, none⟩ u) (fun k => k = X) ∧ Below base W (W.setCell ⟨X, j, none⟩ u) :=
 ⟨blk_set hbx j u, Kept.setCell (S := fun k => k = X) (p := ⟨X, j, none⟩) (Kept.refl _ _) (.inl rfl) u, (Below.refl _ _).setCell (p := ⟨X, j, none⟩) hX u⟩
theorem DC.set3 {X : Nat} {kd : Int} {b0 : Bool} {u0 v0 v4 v5 v6 : Value} (h : DC w0 W base G B R0 n1 n2 s st vS vU S U) (hX : w0.heap.size ≤ X) (hR : R0 ≠ X) (hbx : Box W X kd b0 u0 v0 v4 v5 v6) (b : Bool) (u v : Value) :
 DC w0 (((W.setCell ⟨X, 1, none⟩ (.bool b)).setCell ⟨X, 2, none⟩ u).setCell ⟨X, 3, none⟩ v) base G B R0 n1 n2 s st vS vU S U ∧ Box (((W.setCell ⟨X, 1, none⟩ (.bool b)).setCell ⟨X, 2, none⟩ u).setCell ⟨X, 3, none⟩ v) X kd b u v v4 v5 v6 := by
 have a1 := (blk_set hbx 1 (.bool b)).trans (show _ = some (Obj.cells #[.int .i64 kd, .bool b, u0, v0, v4, v5, v6] 27 (0, 0)) from rfl)
 have a2 := (blk_set a1 2 u).trans (show _ = some (Obj.cells #[.int .i64 kd, .bool b, u, v0, v4, v5, v6] 27 (0, 0)) from rfl)
 have h1 := (blk_set a2 3 v).trans (show _ = some (Obj.cells #[.int .i64 kd, .bool b, u, v, v4, v5, v6] 27 (0, 0)) from rfl)
 have hk := fun (W2 : World) (j : Nat) (u : Value) (h : Kept W W2 (fun k => k = X)) => Kept.setCell (S := fun k => k = X) (p := ⟨X, j, none⟩) h (.inl rfl) u
 have hb := fun (W2 : World) (j : Nat) (u : Value) (hq : Below base W W2) => hq.setCell (p := ⟨X, j, none⟩) (Nat.le_trans h.bs hX) u
 exact ⟨h.keepX hX hR hbx (.inl rfl) (hk _ _ _ (hk _ _ _ (hk _ _ _ (Kept.refl _ _)))) (hb _ _ _ (hb _ _ _ (hb _ _ _ (Below.refl _ _)))), h1⟩
end
theorem box_grow {α : Type} {d : Kd α} {e b X : Nat} {ok : Nat → Prop} {v : Value} {xs : List α} {W W1 : World} {c : Array Value} {t : TypeId} (hbx : W.heap[X]? = some (.cells c t (0, 0))) (hS : Kd.S d e W b ok v xs) (hg : W.grownBy W1 v.ownBlock) (ht : e ≠ t) : W1.heap[X]? = some (.cells c t (0, 0)) :=
 blk_grown hbx hg (Kd.S_ne hS hbx ht)
theorem S_grow {α β : Type} {d : Kd α} {d' : Kd β} {e e' b b' : Nat} {ok ok' : Nat → Prop} {v u : Value} {xs : List α} {ys : List β} {W W1 : World} (hu : Kd.S d' e' W b' ok' u ys) (hS : Kd.S d e W b ok v xs) (hg : W.grownBy W1 v.ownBlock) (ht : ∀ q, q ∈ e' :: d'.E → q ≠ e) : Kd.S d' e' W1 b' ok' u ys :=
 Kd.S_over' hu (Kd.S_typed hS) ht hg
theorem DC.growS {α : Type} {d : Kd α} {e b : Nat} {ok : Nat → Prop} {v : Value} {xs : List α} {w0 W W1 : World} {base G B R0 n1 n2 : Nat} {s : ByteArray} {st : St} {vS vU : Value} {S U : List Int} (h : DC w0 W base G B R0 n1 n2 s st vS vU S U) (hS : Kd.S d e W b ok v xs) (hg : W.grownBy W1 v.ownBlock) (hb : w0.heap.size ≤ b)
 (he : e = 22 ∨ e = 41 ∨ e = 43) : DC w0 W1 base G B R0 n1 n2 s st vS vU S U :=
 h.grow hg (fun k ek => ⟨Nat.le_trans hb (Kd.S_base hS k ek), Kd.S_typed hS k ek⟩) he
/-! ### the rows of an answer that is read -/
def RowsA (W : World) (n0 : Nat) (vS vU vSe vSp vCu : Value) (x : AnsV) : Prop := ∃ n1 n2, n0 ≤ n1 ∧ n1 ≤ n2 ∧ n2 ≤ W.heap.size ∧ (Kd.int .i64).R 3 W n0 (fun k => k < n1) vS x.S ∧ (Kd.int .i64).R 3 W n1 (fun k => k < n2) vU x.U ∧
 Kd.S (Kd.slice 3 (Kd.int .i64)) 22 W n2 (fun _ => True) vSe x.Se ∧ Kd.S k41 41 W n2 (fun _ => True) vSp x.Sp ∧ Kd.S k43 43 W n2 (fun _ => True) vCu x.Cu
theorem set2 {W : World} {base X : Nat} {c0 c1 u0 u1 : Value} {t : TypeId} (hbx : W.heap[X]? = some (.cells #[c0, c1] t (0, 0))) (hX : base ≤ X) :
 ((W.setCell ⟨X, 0, none⟩ u0).setCell ⟨X, 1, none⟩ u1).heap[X]? = some (.cells #[u0, u1] t (0, 0)) ∧ Kept W ((W.setCell ⟨X, 0, none⟩ u0).setCell ⟨X, 1, none⟩ u1) (fun k => k = X) ∧ Below base W ((W.setCell ⟨X, 0, none⟩ u0).setCell ⟨X, 1, none⟩ u1) := by
 refine ⟨?_, ?_, ?_⟩
 ·have a0 := (blk_set hbx 0 u0).trans (show _ = some (Obj.cells #[u0, c1] t (0, 0)) from rfl)
  exact (blk_set a0 1 u1).trans (show _ = some (Obj.cells #[u0, u1] t (0, 0)) from rfl)
 ·have h := fun (W2 : World) (j : Nat) (u : Value) (h : Kept W W2 (fun k => k = X)) => Kept.setCell (S := fun k => k = X) (p := ⟨X, j, none⟩) h (.inl rfl) u
  exact h _ _ _ (h _ _ _ (Kept.refl _ _))
 ·have h := fun (W2 : World) (j : Nat) (u : Value) (h : Below base W W2) => h.setCell (p := ⟨X, j, none⟩) hX u
  exact h _ _ _ (h _ _ _ (Below.refl _ _))
theorem R_keepX {W W1 : World} {b X : Nat} {ok : Nat → Prop} {v : Value} {xs : List Int} {c : Array Value} {t : TypeId} (h : (Kd.int .i64).R 3 W b ok v xs) (hbx : W.heap[X]? = some (.cells c t (0, 0))) (ht : t ≠ 3) (hk : Kept W W1 (fun k => k = X)) : (Kd.int .i64).R 3 W1 b ok v xs :=
 R_K h hk (fun k c' t' a hc q hq e => by subst a; rw [int_E hq, ← blk_t hbx hc] at e; exact ht e.symm)
/-- what stands while a cut is read -/
structure CT (w wr W : World) (base G B R0 n1 n2 : Nat) (s : ByteArray) (st : St) (vS vU : Value) (S U : List Int) (vp : Value) (p : List Int) : Prop where
 dc : DC w W base G B R0 n1 n2 s st vS vU S U
 kept : Kept wr W (fun k => k = G ∨ k = B)
 row : (Kd.int .i64).R 3 W wr.heap.size (fun _ => True) vp p
section
variable {w wr W W1 : World} {base G B R0 n1 n2 : Nat} {s : ByteArray} {st st1 : St} {vS vU vp : Value} {S U p : List Int}
theorem CT.below (h : CT w wr W base G B R0 n1 n2 s st vS vU S U vp p) (hb : Below W.heap.size W W1) : CT w wr W1 base G B R0 n1 n2 s st vS vU S U vp p :=
 ⟨h.dc.below hb, h.kept.below hb, Kd.R_below h.row hb⟩
theorem CT.call (h : CT w wr W base G B R0 n1 n2 s st vS vU S U vp p) (har : AR W1 base G B s st1) (hb : Below base W W1) (hk : Kept W W1 (fun k => k = G ∨ k = B)) : CT w wr W1 base G B R0 n1 n2 s st1 vS vU S U vp p :=
 ⟨h.dc.call har hb hk, h.kept.then_ hk (fun k e => .inl e), R_call h.row h.dc.ar hk (by intro q hq; rw [int_E hq]; decide)⟩
theorem CT.keepY {Y : Nat} {c : Array Value} (h : CT w wr W base G B R0 n1 n2 s st vS vU S U vp p) (hY : w.heap.size ≤ Y) (hY2 : wr.heap.size ≤ Y) (hR : R0 ≠ Y) (hbx : W.heap[Y]? = some (.cells c 43 (0, 0))) (hk : Kept W W1 (fun k => k = Y)) (hb : Below base W W1) : CT w wr W1 base G B R0 n1 n2 s st vS vU S U vp p :=
 ⟨h.dc.keepX hY hR hbx (.inr rfl) hk hb, h.kept.then_ hk (fun k e => .inr (by rw [e]; exact hY2)), R_keepX h.row hbx (by decide) hk⟩
end
theorem rowsA_of {w0 W W1 : World} {base G B R0 n1 n2 : Nat} {s : ByteArray} {st : St} {vS vU vSe vSp vCu : Value} {S U : List Int} {Se : List (List Int)} {Sp : List Spl} {Cu : List Cut} {kd no : Int} (h : DC w0 W base G B R0 n1 n2 s st vS vU S U)
 (h4 : Kd.S (Kd.slice 3 (Kd.int .i64)) 22 W n2 (fun _ => True) vSe Se) (h5 : Kd.S k41 41 W n2 (fun _ => True) vSp Sp) (h6 : Kd.S k43 43 W n2 (fun _ => True) vCu Cu) (hk : Kept W W1 (fun k => k = R0)) : RowsA W1 w0.heap.size vS vU vSe vSp vCu ⟨kd, no, S, U, Se, Sp, Cu⟩ := by
 have ht : ∀ (L : List Nat), (∀ q ∈ L, q ≠ 27) → ∀ k c t, k = R0 → W.heap[k]? = some (.cells c t (0, 0)) → ∀ q ∈ L, q ≠ t := fun L hL k c t e hc q hq => by
  subst e
  rw [← blk_t h.res hc]
  exact hL q hq
 exact ⟨n1, n2, h.ln0, h.ln1, Nat.le_trans h.ln2 hk.1, R_K h.rS hk (ht _ (fun q hq => by rw [int_E hq]; decide)), R_K h.rU hk (ht _ (fun q hq => by rw [int_E hq]; decide)), S_K h4 hk (ht _ (by decide)), S_K h5 hk (ht _ (by decide)), S_K h6 hk (ht _ (by decide))⟩
theorem DC.fin {w0 W W1 : World} {base G B R0 n1 n2 : Nat} {s : ByteArray} {st : St} {vS vU : Value} {S U : List Int} (h : DC w0 W base G B R0 n1 n2 s st vS vU S U) (hk : Kept W W1 (fun k => k = R0)) (hb : Below base W W1) : AR W1 base G B s st ∧ Below base w0 W1 ∧ Kept w0 W1 (fun k => k = G ∨ k = B) :=
 ⟨h.ar.kept hk (fun k c t e hc => by subst e; rw [← blk_t h.res hc]; decide), h.bel.trans hb, h.kept.then_ hk (fun k e => .inr (by rw [e]; exact h.wR))⟩
theorem info_Spl : (Tryd.prog.info? 41).map (fun i => (i.zero, i.size, i.bytes)) = some (some (.agg #[.slice none 0 0, .slice none 0 0, .slice none 0 0]), 3, 72) := by kernel_rfl
theorem info_Cut : (Tryd.prog.info? 43).map (fun i => (i.zero, i.size, i.bytes)) = some (some (.agg #[.slice none 0 0, .int .i64 0]), 2, 32) := by kernel_rfl
theorem splF_eq {S : List Int} {a b c d : St} {p1 p2 p3 : List Int} (h1 : lstF S a = (p1, b)) (h2 : lstF S b = (p2, c)) (h3 : lstF S c = (p3, d)) : splF S a = (⟨p1, p2, p3⟩, d) := by
 unfold splF
 rw [h1]; dsimp only
 rw [h2]; dsimp only
 rw [h3]
theorem cutF_ok {S : List Int} {a b c : St} {p : List Int} {y : Int} (h1 : lstF S a = (p, b)) (h2 : intF S b = (y, c)) : cutF S a = (⟨p, y⟩, c) := by
 unfold cutF
 rw [h1]; dsimp only
 rw [h2]
theorem cutF_no {S : List Int} {a b : St} {p : List Int} (h1 : lstF S a = (p, b)) (h2 : b.2 ≠ none) : cutF S a = (⟨p, 0⟩, b) := cutF_ok h1 (by unfold intF; rw [numF_err h2]; rfl)
theorem manyF_succ {α : Type} (one : St → α × St) (d : Nat) (st : St) (out : List α) : manyF one (d + 1) st out = manyF one d (one st).2 (out ++ [(one st).1]) := rfl
theorem countF_ok {s : ByteArray} {st : St} (most : Int) (ho : Ok s st) : Ok s (countF (bytesOf s) most st).2 := by
 unfold countF
 have := refnum_ok ho
 split
 ·exact ⟨this.1, fun pc h => by obtain rfl := Option.some.inj h; exact .inr (.inr rfl)⟩
 ·exact this
theorem countF_le {s : ByteArray} {st : St} (most : Int) (hm : 0 ≤ most) (ho : Ok s st) : 0 ≤ (countF (bytesOf s) most st).1 ∧ (countF (bytesOf s) most st).1 ≤ most := by
 unfold countF
 obtain ⟨-, -, h0, -, -⟩ := numF_at (bytesOf_in s) st (by rw [bytesOf_length]; exact ho.1)
 by_cases hn : (numF (bytesOf s) st).2.2 = none
 ·by_cases h1 : (numF (bytesOf s) st).1 > most
  ·rw [if_pos ⟨hn, h1⟩]; exact ⟨Int.le_refl _, hm⟩
  ·rw [if_neg (fun h => h1 h.2)]; exact ⟨h0, by omega⟩
 ·rw [if_neg (fun h => hn h.1)]
  have : (numF (bytesOf s) st).1 = 0 := by
   obtain ⟨p, er⟩ := st
   cases er with
   | some pc => rfl
   | none =>
    by_cases hc : (tk (bytesOf s) p).2.2 = 0
    ·simp [numF, hc] at hn
    ·simp [numF, hc]
  rw [this]; exact ⟨Int.le_refl _, hm⟩
end Go.Proofs.YtlekdhejgdfnpaaDoor.P
/- answer's reader, walked: answer. (Written by wip/tool/ansn.py.) -/
namespace Go.Proofs.YtlekdhejgdfnpaaDoor.P
open Go.RowKit Go.Proofs.YtlekdhejgdfnpaaDoorW.PrintWords Go.Proofs.YtlekdhejgdfnpaaDoorW.PrintLast Go.Proofs.YtlekdhejgdfnpaaDoorW.PrintMore
open Wr
set_option linter.unusedVariables false
set_option linter.unusedSimpArgs false

set_option maxHeartbeats 16000000 in
set_option maxRecDepth 100000 in
theorem answer_c {w : World} {base G B : Nat} {s : ByteArray} {st : St} (hb0 : 0 < base) (hE : EV w) (h : AR1 w base G B s st) (hs : s.size ≤ 1000000000) (hbase : base ≤ w.heap.size) :
 Calls Tryd.prog 17 #[.pointer (some ⟨G, 0, none⟩)] w fun e w' => ∃ vS vU vSe vSp vCu, e = .returned (.tuple #[.agg #[.int .i64 (ansF (bytesOf s) st).1.kd, .bool ((ansF (bytesOf s) st).1.no == 1), vS, vU, vSe, vSp, vCu], .int .i64 (ansF (bytesOf s) st).1.no]) ∧
  RowsA w' w.heap.size vS vU vSe vSp vCu (ansF (bytesOf s) st).1 ∧ AR w' base G B s (ansF (bytesOf s) st).2 ∧ Below base w w' ∧ Kept w w' (fun k => k = G ∨ k = B) := by
 have HP := Aside0.mk (And.intro hE hb0)
 have HS := Aside0.mk (And.intro hs hbase)
 have HN : Aside0 (∀ (W : World) (st : St), AR1 W base G B s st → Below base w W → Calls Tryd.prog 42 #[.pointer (some ⟨B, 0, none⟩)] W fun e w' => e = .returned (.int .i64 (numF (bytesOf s) st).1) ∧ AR1 w' base G B s (numF (bytesOf s) st).2 ∧ Below base W w' ∧ Kept W w' (fun k => k = G ∨ k = B)) :=
  ⟨fun W st h hb => num_a h hs (Nat.le_trans hbase hb.size)⟩
 have HLs : Aside0 (∀ (W : World) (st : St), AR W base G B s st → Below base w W → Calls Tryd.prog 43 #[.pointer (some ⟨G, 0, none⟩)] W fun e w' => ∃ v, e = .returned v ∧ (Kd.int .i64).R 3 w' W.heap.size (fun k => k < w'.heap.size) v (lstF (bytesOf s) st).1 ∧ AR w' base G B s (lstF (bytesOf s) st).2 ∧ Below base W w' ∧ Kept W w' (fun k => k = G ∨ k = B)) :=
  ⟨fun W st h hb => list_a (hE.below hb hb0) h hs (Nat.le_trans hbase hb.size)⟩
 have HC : Aside0 (∀ (most : Int) (W : World) (st : St), AR W base G B s st → Below base w W → Calls Tryd.prog 44 #[.pointer (some ⟨G, 0, none⟩), .int .i64 most] W fun e w' => e = .returned (.int .i64 (countF (bytesOf s) most st).1) ∧ AR w' base G B s (countF (bytesOf s) most st).2 ∧ Below base W w' ∧ Kept W w' (fun k => k = G ∨ k = B)) :=
  ⟨fun most W st h hb => count_a most hb0 (hE.below hb hb0) h hs (Nat.le_trans hbase hb.size)⟩
 have HIs : Aside0 (∀ (W : World) (st : St), AR W base G B s st → st.2 = none → Below base w W → Calls Tryd.prog 46 #[.pointer (some ⟨B, 0, none⟩)] W fun e w' => e = .returned (.int .i64 (intF (bytesOf s) st).1) ∧ AR w' base G B s (intF (bytesOf s) st).2 ∧ Below base W w' ∧ Kept W w' (fun k => k = G ∨ k = B)) :=
  ⟨fun W st h hn hb => int_a h hn hs (Nat.le_trans hbase hb.size)⟩
 have HFs : Aside0 (∀ (W : World) (st : St), AR W base G B s st → Below base w W → Calls Tryd.prog 45 #[.pointer (some ⟨G, 0, none⟩)] W fun e w' => e = .returned (.bool st.2.isNone) ∧ Below W.heap.size W w') :=
  ⟨fun W st h hb => fine_a (hE.below hb hb0) h⟩
 have HCN : Aside0 (∀ (most : Int), 0 ≤ most → ∀ (st : St), Ok s st → ∃ N : Nat, (countF (bytesOf s) most st).1 = (N : Int) ∧ (N : Int) ≤ most) :=
  ⟨fun most hm st ho => by obtain ⟨h1, h2⟩ := countF_le most hm ho; exact ⟨(countF (bytesOf s) most st).1.toNat, by omega, by omega⟩⟩
 have H0 := Aside0.mk h
 have g0 : w.cell? ⟨G, 0, none⟩ = some (.pointer (some ⟨B, 0, none⟩)) := (blk_cell h.2.1 0).trans rfl
 obtain ⟨S, hS⟩ : ∃ S, S = bytesOf s := ⟨_, rfl⟩
 unfold ansF
 rw [← hS] at HN HLs HC HIs HCN ⊢
 dsimp only
 obtain ⟨kd, hkd⟩ : ∃ kd, kd = (numF S st).1 := ⟨_, rfl⟩
 obtain ⟨no, hno⟩ : ∃ no, no = (numF S (numF S st).2).1 := ⟨_, rfl⟩
 obtain ⟨bno, hbno⟩ : ∃ b, b = (no == 1) := ⟨_, rfl⟩
 rw [← hkd, ← hno, ← hbno]
 have HE1 : Aside0 ((numF S st).1 = kd) := ⟨hkd.symm⟩
 have HE2 : Aside0 ((numF S (numF S st).2).1 = no) := ⟨hno.symm⟩
 have hbno' : (no == 1) = bno := hbno.symm
 clear hE hb0 h hs hbase hkd hno hbno hS
 go_enter Tryd.func17, Tryd.ntmps17
 go_wp2_with (first
  | (go_at_call 44; (have z_ := H7.out); clear z_; refine (HC.out 200 _ _ ((H7.out.1.set3 HX.out.1 HX.out.2.1 H7.out.2 bno (.slice A6 (lstF S (numF S (numF S st).2).2).1.length c6) (.slice A7 (lstF S (lstF S (numF S (numF S st).2).2).2).1.length c7)).1).ar ((H7.out.1.set3 HX.out.1 HX.out.2.1 H7.out.2 bno (.slice A6 (lstF S (numF S (numF S st).2).2).1.length c6) (.slice A7 (lstF S (lstF S (numF S (numF S st).2).2).2).1.length c7)).1).bel).mono ?_; rintro e w9 ⟨hret, har, hb, hk⟩; (obtain ⟨N9, hN9, hM9⟩ := HCN.out 200 (by decide) _ ((H7.out.1.set3 HX.out.1 HX.out.2.1 H7.out.2 bno (.slice A6 (lstF S (numF S (numF S st).2).2).1.length c6) (.slice A7 (lstF S (lstF S (numF S (numF S st).2).2).2).1.length c7)).1).ar.ok); (have hE_ := hN9); (rw [hN9] at hret); (subst hret); (have H9 := Aside0.mk (And.intro ((H7.out.1.set3 HX.out.1 HX.out.2.1 H7.out.2 bno (.slice A6 (lstF S (numF S (numF S st).2).2).1.length c6) (.slice A7 (lstF S (lstF S (numF S (numF S st).2).2).2).1.length c7)).1.call har hb hk) (box_call (H7.out.1.set3 HX.out.1 HX.out.2.1 H7.out.2 bno (.slice A6 (lstF S (numF S (numF S st).2).2).1.length c6) (.slice A7 (lstF S (lstF S (numF S (numF S st).2).2).2).1.length c7)).2 (H7.out.1.set3 HX.out.1 HX.out.2.1 H7.out.2 bno (.slice A6 (lstF S (numF S (numF S st).2).2).1.length c6) (.slice A7 (lstF S (lstF S (numF S (numF S st).2).2).2).1.length c7)).1.ar hk (by decide)))); (have HN9 := Aside0.mk hE_); clear hE_; clear y1 yf1 y2 yf2 y3 yf3; clear har hb hk)
  | (go_at_call 43; (have z_ := H6.out); clear z_; refine (HLs.out _ _ H6.out.1.ar H6.out.1.bel).mono ?_; rintro e w7 ⟨v7, rfl, hr, har, hb, hk⟩; (have hS7 := R_call H6.out.2.2 H6.out.1.ar hk (by intro q hq; obtain rfl := int_E hq; decide)); (have hbx := box_call H6.out.2.1 H6.out.1.ar hk (by decide)); (have hd := H6.out.1.call har hb hk); (have H7 : Aside0 (DC w w7 base G B R0 w6.heap.size w7.heap.size s _ _ v7 _ _ ∧ Box w7 X kd false (.slice none 0 0) (.slice none 0 0) (.slice none 0 0) (.slice none 0 0) (.slice none 0 0)) := ⟨⟨{ hd with rS := hS7, rU := hr, ln0 := Nat.le_trans H6.out.1.kept.1 (Nat.le_refl _), ln1 := hk.1, ln2 := Nat.le_refl _ }, hbx⟩⟩); clear y1 yf1 y2 yf2 y3 yf3; (have hB7 := H7.out.2); (have y1 : w7.cell? ⟨X, 1, none⟩ = _ := (blk_cell hB7 1).trans rfl); (have yf1 : w7.frozen? ⟨X, 1, none⟩ = false := blk_frozen hB7 1); (have y2 : w7.cell? ⟨X, 2, none⟩ = _ := (blk_cell hB7 2).trans rfl); (have yf2 : w7.frozen? ⟨X, 2, none⟩ = false := blk_frozen hB7 2); (have y3 : w7.cell? ⟨X, 3, none⟩ = _ := (blk_cell hB7 3).trans rfl); (have yf3 : w7.frozen? ⟨X, 3, none⟩ = false := blk_frozen hB7 3);  (obtain ⟨A7, c7, rfl⟩ := Kd.R_slice hr); clear hr har hb hk hS7 hbx hd hB7)
  | (go_at_call 43; (have z_ := H5.out); clear z_; refine (HLs.out _ _ H5.out.2.1.ar H5.out.2.1.bel).mono ?_; rintro e w6 ⟨v6, rfl, hr, har, hb, hk⟩; (have hbx := box_call H5.out.2.2 H5.out.2.1.ar hk (by decide)); (have H6 := Aside0.mk (And.intro (H5.out.2.1.call har hb hk) (And.intro hbx (Kd.R_lower hr H5.out.2.1.kept.1)))); (obtain ⟨A6, c6, rfl⟩ := Kd.R_slice hr); clear y1 yf1 y2 yf2 y3 yf3; (have y1 : w6.cell? ⟨X, 1, none⟩ = _ := (blk_cell hbx 1).trans rfl); (have yf1 : w6.frozen? ⟨X, 1, none⟩ = false := blk_frozen hbx 1); (have y2 : w6.cell? ⟨X, 2, none⟩ = _ := (blk_cell hbx 2).trans rfl); (have yf2 : w6.frozen? ⟨X, 2, none⟩ = false := blk_frozen hbx 2); (have y3 : w6.cell? ⟨X, 3, none⟩ = _ := (blk_cell hbx 3).trans rfl); (have yf3 : w6.frozen? ⟨X, 3, none⟩ = false := blk_frozen hbx 3);  clear hr har hb hk hbx)
  | (go_at_call 42; (have z_ := H4.out); clear z_; refine (HN.out _ _ H4.out.1 H4.out.2.1.bel).mono ?_; rintro e w5 ⟨hret, h5, hb, hk⟩; (have hbx := box_call H4.out.2.2 H4.out.1.ar hk (by decide)); (have H5 := Aside0.mk (And.intro h5 (And.intro (H4.out.2.1.call h5.ar hb hk) hbx))); (rw [HE2.out] at hret); (subst hret); (have g5 : w5.cell? ⟨G, 0, none⟩ = some (.pointer (some ⟨B, 0, none⟩)) := (blk_cell h5.2.1 0).trans rfl); (have y1 : w5.cell? ⟨X, 1, none⟩ = _ := (blk_cell hbx 1).trans rfl); (have yf1 : w5.frozen? ⟨X, 1, none⟩ = false := blk_frozen hbx 1); (have y2 : w5.cell? ⟨X, 2, none⟩ = _ := (blk_cell hbx 2).trans rfl); (have yf2 : w5.frozen? ⟨X, 2, none⟩ = false := blk_frozen hbx 2); (have y3 : w5.cell? ⟨X, 3, none⟩ = _ := (blk_cell hbx 3).trans rfl); (have yf3 : w5.frozen? ⟨X, 3, none⟩ = false := blk_frozen hbx 3);  clear h5 hb hk hbx g4)
  | ((with_reducible refine gate_store (t := 27) (p := 4) rfl ?_); refine store_event (t := 27) (p := 4) (v := ?vo_) (w1 := (((((((w3.setCell ⟨X, 0, none⟩ (.int .i64 kd)).setCell ⟨X, 1, none⟩ (.bool false)).setCell ⟨X, 2, none⟩ (.slice none 0 0)).setCell ⟨X, 3, none⟩ (.slice none 0 0)).setCell ⟨X, 4, none⟩ (.slice none 0 0)).setCell ⟨X, 5, none⟩ (.slice none 0 0)).setCell ⟨X, 6, none⟩ (.slice none 0 0))) ?hg ?ho ?hn ?hr ?_; (case ho => rfl); (case hg => rfl); (case hn => rfl); (case hr => first | (go_simp; done) | (go_simp; rfl)); intro w4 hw; (have h7 := set7 (base := base) (u0 := .int .i64 kd) (u1 := .bool false) (u2 := .slice none 0 0) (u3 := .slice none 0 0) (u4 := .slice none 0 0) (u5 := .slice none 0 0) (u6 := .slice none 0 0) H3.out.2.2.1 (Nat.le_trans H3.out.2.1.bs HX.out.1)); (dsimp only at h7); (rw [← hw] at h7); (have H4 := Aside0.mk (And.intro (H3.out.1.keepX H3.out.2.2.1 (.inl rfl) h7.2.1) (And.intro (H3.out.2.1.keepX HX.out.1 HX.out.2.1 H3.out.2.2.1 (.inl rfl) h7.2.1 h7.2.2) h7.1))); (have g4 : w4.cell? ⟨G, 0, none⟩ = some (.pointer (some ⟨B, 0, none⟩)) := (blk_cell H4.out.1.2.1 0).trans rfl); clear hw h7; clear x0 xf0 x1 xf1 x2 xf2 x3 xf3 x4 xf4 x5 xf5 x6 xf6; clear g3)
  | ((with_reducible refine gate_dst (N := 4) rfl ?_); (try (refine gate_guard (by rfl) ?_; dsimp only)); refine box_event ?hg (N := 4) ?hd (cs := #[.int .i64 0, .bool false, .slice none 0 0, .slice none 0 0, .slice none 0 0, .slice none 0 0, .slice none 0 0]) (t := 27) ?hr ?_; (case hd => rfl); (case hg => rfl); (case hr => first | (go_simp; done) | (go_simp; rfl)); intro X hgX w3 hboxX hbX; (have HX : Aside0 (w.heap.size ≤ X ∧ R0 ≠ X ∧ True) := ⟨by rw [hgX]; exact H2.out.2.kept.1, by rw [hgX]; exact Nat.ne_of_lt (blk_lt H2.out.2.res), trivial⟩); (have H3 := Aside0.mk (And.intro (H2.out.1.below hbX) (And.intro (H2.out.2.below hbX) (And.intro hboxX True.intro)))); (have g3 : w3.cell? ⟨G, 0, none⟩ = some (.pointer (some ⟨B, 0, none⟩)) := (blk_cell H3.out.1.2.1 0).trans rfl); (have x0 : w3.cell? ⟨X, 0, none⟩ = _ := (blk_cell hboxX 0).trans rfl); (have xf0 : w3.frozen? ⟨X, 0, none⟩ = false := blk_frozen hboxX 0); (have x1 : w3.cell? ⟨X, 1, none⟩ = _ := (blk_cell hboxX 1).trans rfl); (have xf1 : w3.frozen? ⟨X, 1, none⟩ = false := blk_frozen hboxX 1); (have x2 : w3.cell? ⟨X, 2, none⟩ = _ := (blk_cell hboxX 2).trans rfl); (have xf2 : w3.frozen? ⟨X, 2, none⟩ = false := blk_frozen hboxX 2); (have x3 : w3.cell? ⟨X, 3, none⟩ = _ := (blk_cell hboxX 3).trans rfl); (have xf3 : w3.frozen? ⟨X, 3, none⟩ = false := blk_frozen hboxX 3); (have x4 : w3.cell? ⟨X, 4, none⟩ = _ := (blk_cell hboxX 4).trans rfl); (have xf4 : w3.frozen? ⟨X, 4, none⟩ = false := blk_frozen hboxX 4); (have x5 : w3.cell? ⟨X, 5, none⟩ = _ := (blk_cell hboxX 5).trans rfl); (have xf5 : w3.frozen? ⟨X, 5, none⟩ = false := blk_frozen hboxX 5); (have x6 : w3.cell? ⟨X, 6, none⟩ = _ := (blk_cell hboxX 6).trans rfl); (have xf6 : w3.frozen? ⟨X, 6, none⟩ = false := blk_frozen hboxX 6);  clear hgX hboxX hbX g2)
  | (go_at_call 42; (have z_ := HA.out); clear z_; refine (HN.out _ _ HA.out.1 (HA.out.2.1.mono HS.out.2)).mono ?_; rintro e w2 ⟨hret, h2, hb, hk⟩; (have H2 : Aside0 (AR1 w2 base G B s _ ∧ DC w w2 base G B R0 w.heap.size w.heap.size s _ (.slice none 0 0) (.slice none 0 0) [] []) := ⟨h2, { ar := h2.ar, bel := (HA.out.2.1.mono HS.out.2).trans hb, kept := (Kept.of_below HA.out.2.1 _).then_ hk (fun k hk => .inl hk), bs := HS.out.2, wR := Nat.le_of_eq HA.out.2.2.2.symm, res := box_call HA.out.2.2.1 HA.out.1.ar hk (by decide), rS := Kd.R_nil _ _ _ _ _, rU := Kd.R_nil _ _ _ _ _, ln0 := Nat.le_refl _, ln1 := Nat.le_refl _, ln2 := Nat.le_trans HA.out.2.1.size hk.1 }⟩); (rw [HE1.out] at hret); (subst hret); (have g2 : w2.cell? ⟨G, 0, none⟩ = some (.pointer (some ⟨B, 0, none⟩)) := (blk_cell h2.2.1 0).trans rfl); clear h2 hb hk gA)
  | ((with_reducible refine gate_dst (N := 2) rfl ?_); (try (refine gate_guard (by rfl) ?_; dsimp only)); refine box_event ?hg (N := 2) ?hd (cs := #[.int .i64 0, .bool false, .slice none 0 0, .slice none 0 0, .slice none 0 0, .slice none 0 0, .slice none 0 0]) (t := 27) ?hr ?_; (case hd => rfl); (case hg => rfl); (case hr => first | (go_simp; done) | (go_simp; rfl)); intro R0 hgR wA hboxR hbR; (have HA := Aside0.mk (And.intro (H0.out.below hbR) (And.intro hbR (And.intro hboxR hgR)))); (have gA : wA.cell? ⟨G, 0, none⟩ = some (.pointer (some ⟨B, 0, none⟩)) := (blk_cell HA.out.1.2.1 0).trans rfl); clear hgR hboxR hbR))
 obtain ⟨n1, hn1⟩ : ∃ n, n = w6.heap.size := ⟨_, rfl⟩
 obtain ⟨n2, hn2⟩ : ∃ n, n = w7.heap.size := ⟨_, rfl⟩
 rw [← hn1, ← hn2] at H9
 clear hn1 hn2 H0 HA H2 H3 H4 H5 H6 H7 hN9 g0 g5
 go_loopw [29] (fun v29 wr => ∃ (d : Nat) (sx : St) (out : List (List Int)) (v : Value), d ≤ N9 ∧ v29 = .int .i64 (d : Int) ∧ Aside0 (DC w wr base G B R0 n1 n2 s sx (.slice A6 ((lstF S (numF S (numF S st).2).2).1).length c6) (.slice A7 ((lstF S (lstF S (numF S (numF S st).2).2).2).1).length c7) (lstF S (numF S (numF S st).2).2).1 (lstF S (lstF S (numF S (numF S st).2).2).2).1) ∧ Aside0 (Box wr X kd bno (.slice A6 ((lstF S (numF S (numF S st).2).2).1).length c6) (.slice A7 ((lstF S (lstF S (numF S (numF S st).2).2).2).1).length c7) v (.slice none 0 0) (.slice none 0 0)) ∧
  Aside0 (Kd.S (Kd.slice 3 (Kd.int .i64)) 22 wr n2 (fun _ => True) v out ∧ out.length = d ∧ manyF (lstF S) N9 (countF S 200 (lstF S (lstF S (numF S (numF S st).2).2).2).2).2 [] = manyF (lstF S) (N9 - d) sx out)) (fun v29 _ => (N9 - (intOf v29).toNat))
 case atStart => exact ⟨0, _, [], _, Nat.zero_le _, rfl, ⟨H9.out.1⟩, ⟨H9.out.2⟩, ⟨Kd.S_nil _ _ _ _ _, rfl, rfl⟩⟩
 case round =>
  clear H9
  obtain ⟨d, st6, Se, v, hd, rfl, HR, HB, HS1⟩ := hrel
  obtain ⟨A4, c4, rfl⟩ := Kd.S_slice HS1.out.1
  by_cases hlt : d < N9
  ·have hd200 : d < 200 := by omega
   have HD : Aside0 (DC w wr.drew base G B R0 n1 n2 s st6 _ _ (lstF S (numF S (numF S st).2).2).1 (lstF S (lstF S (numF S (numF S st).2).2).2).1) := ⟨HR.out.below (Below.refl _ _).drew⟩
   have x4 : wr.cell? ⟨X, 4, none⟩ = some (.slice A4 Se.length c4) := (blk_cell HB.out 4).trans rfl
   have xf4 : wr.frozen? ⟨X, 4, none⟩ = false := blk_frozen HB.out 4
   obtain ⟨p, st', hp⟩ : ∃ p st', lstF S st6 = (p, st') := ⟨_, _, rfl⟩
   have HLp := HLs.out wr.drew st6 HD.out.ar HD.out.bel
   rw [hp] at HLp
   have HLp := Aside0.mk HLp
   have HM : Aside0 (manyF (lstF S) N9 (countF S 200 (lstF S (lstF S (numF S (numF S st).2).2).2).2).2 [] = manyF (lstF S) (N9 - (d + 1)) st' (Se ++ [p])) := ⟨by rw [HS1.out.2.2, show N9 - d = (N9 - (d + 1)) + 1 by omega, manyF_succ, hp]⟩
   have HSd : Aside0 (Kd.S (Kd.slice 3 (Kd.int .i64)) 22 wr.drew n2 (fun k => k < wr.drew.heap.size) (.slice A4 Se.length c4) Se) := ⟨Kd.S_mono (Kd.S_bound (Kd.S_drew HS1.out.1)) (fun k hk => hk.2.2.1)⟩
   have HN2 : Aside0 (n2 ≤ wr.drew.heap.size ∧ w.heap.size ≤ n2) := ⟨HD.out.ln2, Nat.le_trans HD.out.ln0 HD.out.ln1⟩
   have HBd : Aside0 (Box wr.drew X kd bno (.slice A6 ((lstF S (numF S (numF S st).2).2).1).length c6) (.slice A7 ((lstF S (lstF S (numF S (numF S st).2).2).2).1).length c7) (.slice A4 Se.length c4) (.slice none 0 0) (.slice none 0 0)) := ⟨HB.out⟩
   have HLen : Aside0 (Se.length = d) := ⟨HS1.out.2.1⟩
   clear hp HS1
   go_wp2
   go_region_law (first
    | (rw [if_pos (by rfl)]; go_simp; go_at_call 43; refine HLp.out.mono ?_; rintro e w2 ⟨vp, rfl, hr, har, hb, hk⟩; (have hbx := box_call HBd.out HD.out.ar hk (by decide)); (have hd2 := HD.out.call har hb hk); (have hs2 := S_call HSd.out HD.out.ar hk (by decide)); (obtain ⟨Ap, cp, rfl⟩ := Kd.R_slice hr); (have z4 : w2.cell? ⟨X, 4, none⟩ = some (.slice A4 Se.length c4) := (blk_cell hbx 4).trans rfl); (have q4 : (w2.alloc (.cells #[.slice Ap p.length cp] 22)).cell? ⟨X, 4, none⟩ = some (.slice A4 Se.length c4) := (blk_cell (blk_alloc hbx _) 4).trans rfl); (have zf4 : w2.frozen? ⟨X, 4, none⟩ = false := blk_frozen hbx 4); (have HW2 := Aside0.mk (And.intro hd2 (And.intro hbx (And.intro hs2 (And.intro hr hk.1))))); clear hbx hd2 hs2 hr har hb hk)
    | (refine Kd.S_append_step (Kd.slice 3 (Kd.int .i64)) (w0 := w2) (W := w2) n2 (by rfl) (.tmp 32) (.tmp 35) 23 22 (.slice none 0 0) 24 rfl Tryd.underlying23 info22 rfl (by decide) (by decide) (.slice A4 Se.length c4) Se p [.slice Ap p.length cp] (fun _ => True) (fun k => wr.drew.heap.size ≤ k) (by first | rfl | simp [Act.eval, Act.put]) (by first | rfl | simp [Act.eval, Act.put]) ?aP ?aK (fun _ _ => trivial) ?aO (Below.refl _ _) ?aB ?aL ?_; (case aP => exact Kd.M_row (Kd.R_lower (Kd.R_mono (Kd.R_bound HW2.out.2.2.2.1) (fun k hk => hk.2.1)) HN2.out.1)); (case aK => exact (fun k hk => ⟨trivial, fun e => by have := Kd.S_lt HSd.out k e.symm; omega⟩)); (case aO => exact Kd.S_mono HW2.out.2.2.1 (fun k hk => ⟨trivial, Nat.not_le.2 hk⟩)); (case aB => exact Nat.le_trans HN2.out.1 HW2.out.2.2.2.2); (case aL => have := HLen.out; omega); intro v1 w3 ho hb hg hat; (have hb4 := box_grow HW2.out.2.1 HW2.out.2.2.1 hg (by decide)); (have hd4 := HW2.out.1.growS HW2.out.2.2.1 hg HN2.out.2 (.inl rfl)); (obtain ⟨A5, c5, rfl⟩ := Kd.S_slice ho); (rw [show (Se ++ [p]).length = Se.length + 1 from by simp] at ho); (have u4 : w3.cell? ⟨X, 4, none⟩ = some (.slice A4 Se.length c4) := (blk_cell hb4 4).trans rfl); (have uf4 : w3.frozen? ⟨X, 4, none⟩ = false := blk_frozen hb4 4); (have HW3 := Aside0.mk (And.intro hd4 (And.intro hb4 ho))); clear hb hg hat hb4 hd4 ho))
   all_goals go_wp2
   all_goals go_roundw
   case rel | rel | rel => exact ⟨d + 1, st', Se ++ [p], _, by omega, by go_num, ⟨HW3.out.1.put HX.out.1 HX.out.2.1 HW3.out.2.1 (.inl rfl) 4 _⟩, ⟨(set1 (base := 0) HW3.out.2.1 (Nat.zero_le _)).1.trans rfl⟩, ⟨S_put HW3.out.2.2 HW3.out.2.1 (by decide) 4 _, by rw [List.length_append, HLen.out]; rfl, HM.out⟩⟩
   case measure | measure | measure => simp [intOf]; omega
  ·have HM1 : Aside0 (manyF (lstF S) (countF S 200 (lstF S (lstF S (numF S (numF S st).2).2).2).2).1.toNat (countF S 200 (lstF S (lstF S (numF S (numF S st).2).2).2).2).2 [] = (Se, st6)) := ⟨by rw [HN9.out, Int.toNat_natCast]; have h := HS1.out.2.2; rw [show N9 - d = 0 by omega] at h; exact h⟩
   go_wp2_with (go_at_call 44; refine (HC.out 65 _ _ HR.out.ar HR.out.bel).mono ?_; rintro e w10 ⟨hret, har, hb, hk⟩; (obtain ⟨N10, hN10, hM10⟩ := HCN.out 65 (by decide) _ HR.out.ar.ok); (have HN10 := Aside0.mk hN10); (rw [hN10] at hret); (subst hret); (have H10 := Aside0.mk (And.intro (HR.out.call har hb hk) (And.intro (box_call HB.out HR.out.ar hk (by decide)) (S_call HS1.out.1 HR.out.ar hk (by decide))))); clear har hb hk hN10)
   clear HR HB HS1
   go_loopw [41] (fun v41 wr => ∃ (d : Nat) (sx : St) (out : List Spl) (v : Value), d ≤ N10 ∧ v41 = .int .i64 (d : Int) ∧ Aside0 (DC w wr base G B R0 n1 n2 s sx (.slice A6 ((lstF S (numF S (numF S st).2).2).1).length c6) (.slice A7 ((lstF S (lstF S (numF S (numF S st).2).2).2).1).length c7) (lstF S (numF S (numF S st).2).2).1 (lstF S (lstF S (numF S (numF S st).2).2).2).1) ∧ Aside0 (Box wr X kd bno (.slice A6 ((lstF S (numF S (numF S st).2).2).1).length c6) (.slice A7 ((lstF S (lstF S (numF S (numF S st).2).2).2).1).length c7) (.slice A4 Se.length c4) v (.slice none 0 0)) ∧
    Aside0 (Kd.S (Kd.slice 3 (Kd.int .i64)) 22 wr n2 (fun _ => True) (.slice A4 Se.length c4) Se) ∧ Aside0 (Kd.S k41 41 wr n2 (fun _ => True) v out ∧ out.length = d ∧ manyF (splF S) N10 (countF S 65 st6).2 [] = manyF (splF S) (N10 - d) sx out)) (fun v41 _ => (N10 - (intOf v41).toNat))
   case atStart => exact ⟨0, _, [], _, Nat.zero_le _, rfl, ⟨H10.out.1⟩, ⟨H10.out.2.1⟩, ⟨H10.out.2.2⟩, ⟨Kd.S_nil _ _ _ _ _, rfl, rfl⟩⟩
   case round =>
    clear H10
    obtain ⟨d2, st7, Sp, v, hd2, rfl, HR, HB, HSe, HS2⟩ := hrel
    obtain ⟨B5, e5, rfl⟩ := Kd.S_slice HS2.out.1
    by_cases hlt2 : d2 < N10
    ·have hd65 : d2 < 65 := by omega
     have HD : Aside0 (DC w wr.drew base G B R0 n1 n2 s st7 _ _ (lstF S (numF S (numF S st).2).2).1 (lstF S (lstF S (numF S (numF S st).2).2).2).1) := ⟨HR.out.below (Below.refl _ _).drew⟩
     have x5 : wr.cell? ⟨X, 5, none⟩ = some (.slice B5 Sp.length e5) := (blk_cell HB.out 5).trans rfl
     have xf5 : wr.frozen? ⟨X, 5, none⟩ = false := blk_frozen HB.out 5
     obtain ⟨p1, s1, hp1⟩ : ∃ p st', lstF S st7 = (p, st') := ⟨_, _, rfl⟩
     obtain ⟨p2, s2, hp2⟩ : ∃ p st', lstF S s1 = (p, st') := ⟨_, _, rfl⟩
     obtain ⟨p3, s3, hp3⟩ : ∃ p st', lstF S s2 = (p, st') := ⟨_, _, rfl⟩
     have hspl := splF_eq hp1 hp2 hp3
     have HL1 := Aside0.mk (fun (W : World) (h : AR W base G B s st7) (hb : Below base w W) => by have h1 := HLs.out W st7 h hb; rw [hp1] at h1; exact h1)
     have HL2 := Aside0.mk (fun (W : World) (h : AR W base G B s s1) (hb : Below base w W) => by have h1 := HLs.out W s1 h hb; rw [hp2] at h1; exact h1)
     have HL3 := Aside0.mk (fun (W : World) (h : AR W base G B s s2) (hb : Below base w W) => by have h1 := HLs.out W s2 h hb; rw [hp3] at h1; exact h1)
     have HM : Aside0 (manyF (splF S) N10 (countF S 65 st6).2 [] = manyF (splF S) (N10 - (d2 + 1)) s3 (Sp ++ [⟨p1, p2, p3⟩])) := ⟨by rw [HS2.out.2.2, show N10 - d2 = (N10 - (d2 + 1)) + 1 by omega, manyF_succ, hspl]⟩
     have HSd : Aside0 (Kd.S k41 41 wr.drew n2 (fun k => k < wr.drew.heap.size) (.slice B5 Sp.length e5) Sp) := ⟨Kd.S_mono (Kd.S_bound (Kd.S_drew HS2.out.1)) (fun k hk => hk.2.2.1)⟩
     have HSe2 : Aside0 (Kd.S (Kd.slice 3 (Kd.int .i64)) 22 wr.drew n2 (fun _ => True) (.slice A4 Se.length c4) Se) := ⟨Kd.S_drew HSe.out⟩
     have HN2 : Aside0 (n2 ≤ wr.drew.heap.size ∧ w.heap.size ≤ n2) := ⟨HD.out.ln2, Nat.le_trans HD.out.ln0 HD.out.ln1⟩
     have HBd : Aside0 (Box wr.drew X kd bno (.slice A6 ((lstF S (numF S (numF S st).2).2).1).length c6) (.slice A7 ((lstF S (lstF S (numF S (numF S st).2).2).2).1).length c7) (.slice A4 Se.length c4) (.slice B5 Sp.length e5) (.slice none 0 0)) := ⟨HB.out⟩
     have HLen : Aside0 (Sp.length = d2) := ⟨HS2.out.2.1⟩
     clear hp1 hp2 hp3 hspl HS2 HSe
     go_wp2
     go_region_law (first
      | (rw [if_pos (by rfl)]; go_simp; go_at_call 43; (have z_ := HW3.out); clear z_; refine (HL3.out _ HW3.out.1.ar HW3.out.1.bel).mono ?_; rintro e w4 ⟨vp, rfl, hr, har, hb, hk⟩; (have hbx := box_call HW3.out.2.1 HW3.out.1.ar hk (by decide)); (have hd3 := HW3.out.1.call har hb hk); (have hs2 := S_call HW3.out.2.2.1 HW3.out.1.ar hk (by decide)); (have he2 := S_call HW3.out.2.2.2.1 HW3.out.1.ar hk (by decide)); (have hr1 := R_call HW3.out.2.2.2.2.1 HW3.out.1.ar hk (by decide)); (have hr2 := R_call HW3.out.2.2.2.2.2.1 HW3.out.1.ar hk (by decide)); (have hr3 := Kd.R_lower hr HW3.out.2.2.2.2.2.2); (obtain ⟨Ap3, cp3, rfl⟩ := Kd.R_slice hr); (have z45 : w4.cell? ⟨X, 5, none⟩ = some (.slice B5 Sp.length e5) := (blk_cell hbx 5).trans rfl); (have q45 : (w4.alloc (.cells #[.slice Ap1 p1.length cp1, .slice Ap2 p2.length cp2, .slice Ap3 p3.length cp3] 41)).cell? ⟨X, 5, none⟩ = some (.slice B5 Sp.length e5) := (blk_cell (blk_alloc hbx _) 5).trans rfl); (have HW4 := Aside0.mk (And.intro hd3 (And.intro hbx (And.intro hs2 (And.intro he2 (And.intro hr1 (And.intro hr2 (And.intro hr3 (Nat.le_trans HW3.out.2.2.2.2.2.2 hk.1))))))))); clear hbx hd3 hs2 he2 hr hr1 hr2 hr3 har hb hk)
      | (rw [if_pos (by rfl)]; go_simp; go_at_call 43; (have z_ := HW2.out); clear z_; refine (HL2.out _ HW2.out.1.ar HW2.out.1.bel).mono ?_; rintro e w3 ⟨vp, rfl, hr, har, hb, hk⟩; (have hbx := box_call HW2.out.2.1 HW2.out.1.ar hk (by decide)); (have hd3 := HW2.out.1.call har hb hk); (have hs2 := S_call HW2.out.2.2.1 HW2.out.1.ar hk (by decide)); (have he2 := S_call HW2.out.2.2.2.1 HW2.out.1.ar hk (by decide)); (have hr1 := R_call HW2.out.2.2.2.2.1 HW2.out.1.ar hk (by decide)); (have hr2 := Kd.R_lower hr HW2.out.2.2.2.2.2); (obtain ⟨Ap2, cp2, rfl⟩ := Kd.R_slice hr); (have z35 : w3.cell? ⟨X, 5, none⟩ = some (.slice B5 Sp.length e5) := (blk_cell hbx 5).trans rfl); (have HW3 := Aside0.mk (And.intro hd3 (And.intro hbx (And.intro hs2 (And.intro he2 (And.intro hr1 (And.intro hr2 (Nat.le_trans HW2.out.2.2.2.2.2 hk.1)))))))); clear hbx hd3 hs2 he2 hr hr1 hr2 har hb hk)
      | (rw [if_pos (by rfl)]; go_simp; go_at_call 43; refine (HL1.out _ HD.out.ar HD.out.bel).mono ?_; rintro e w2 ⟨vp, rfl, hr, har, hb, hk⟩; (have hbx := box_call HBd.out HD.out.ar hk (by decide)); (have hd3 := HD.out.call har hb hk); (have hs2 := S_call HSd.out HD.out.ar hk (by decide)); (have he2 := S_call HSe2.out HD.out.ar hk (by decide)); (obtain ⟨Ap1, cp1, rfl⟩ := Kd.R_slice hr); (have z25 : w2.cell? ⟨X, 5, none⟩ = some (.slice B5 Sp.length e5) := (blk_cell hbx 5).trans rfl); (have HW2 := Aside0.mk (And.intro hd3 (And.intro hbx (And.intro hs2 (And.intro he2 (And.intro hr hk.1)))))); clear hbx hd3 hs2 he2 hr har hb hk)
      | (refine Kd.S_append_step k41 (w0 := w4) (W := w4) n2 (by rfl) (.tmp 44) (.tmp 52) 24 41 (.agg #[.slice none 0 0, .slice none 0 0, .slice none 0 0]) 72 rfl Tryd.underlying24 info_Spl rfl (by decide) (by decide) (.slice B5 Sp.length e5) Sp ⟨p1, p2, p3⟩ [.slice Ap1 p1.length cp1, .slice Ap2 p2.length cp2, .slice Ap3 p3.length cp3] (fun _ => True) (fun k => wr.drew.heap.size ≤ k) (by first | rfl | simp [Act.eval, Act.put]) (by first | rfl | simp [Act.eval, Act.put]) ?aP ?aK (fun _ _ => trivial) ?aO (Below.refl _ _) ?aB ?aL ?_; (case aP => exact k41_mkM _ _ _ ⟨p1, p2, p3⟩ (Kd.R_lower (Kd.R_mono (Kd.R_bound HW4.out.2.2.2.2.1) (fun k hk => hk.2.1)) HN2.out.1) (Kd.R_lower (Kd.R_mono (Kd.R_bound HW4.out.2.2.2.2.2.1) (fun k hk => hk.2.1)) HN2.out.1) (Kd.R_lower (Kd.R_mono (Kd.R_bound HW4.out.2.2.2.2.2.2.1) (fun k hk => hk.2.1)) HN2.out.1)); (case aK => exact (fun k hk => ⟨trivial, fun e => by have := Kd.S_lt HSd.out k e.symm; omega⟩)); (case aO => exact Kd.S_mono HW4.out.2.2.1 (fun k hk => ⟨trivial, Nat.not_le.2 hk⟩)); (case aB => exact Nat.le_trans HN2.out.1 HW4.out.2.2.2.2.2.2.2); (case aL => have := HLen.out; omega); intro v1 w5 ho hb hg hat; (have hb4 := box_grow HW4.out.2.1 HW4.out.2.2.1 hg (by decide)); (have hd4 := HW4.out.1.growS HW4.out.2.2.1 hg HN2.out.2 (.inr (.inl rfl))); (have he4 := S_grow HW4.out.2.2.2.1 HW4.out.2.2.1 hg (by decide)); (obtain ⟨A5, c5, rfl⟩ := Kd.S_slice ho); (rw [show (Sp ++ [(⟨p1, p2, p3⟩ : Spl)]).length = Sp.length + 1 from by simp] at ho); (have u5 : w5.cell? ⟨X, 5, none⟩ = some (.slice B5 Sp.length e5) := (blk_cell hb4 5).trans rfl); (have uf5 : w5.frozen? ⟨X, 5, none⟩ = false := blk_frozen hb4 5); (have HW5 := Aside0.mk (And.intro hd4 (And.intro hb4 (And.intro he4 ho)))); clear hb hg hat hb4 hd4 he4 ho))
     all_goals go_wp2
     all_goals go_roundw
     case rel | rel | rel | rel | rel => exact ⟨d2 + 1, s3, Sp ++ [⟨p1, p2, p3⟩], _, by omega, by go_num, ⟨HW5.out.1.put HX.out.1 HX.out.2.1 HW5.out.2.1 (.inl rfl) 5 _⟩, ⟨(set1 (base := 0) HW5.out.2.1 (Nat.zero_le _)).1.trans rfl⟩, ⟨S_put HW5.out.2.2.1 HW5.out.2.1 (by decide) 5 _⟩, ⟨S_put HW5.out.2.2.2 HW5.out.2.1 (by decide) 5 _, by rw [List.length_append, HLen.out]; rfl, HM.out⟩⟩
     case measure | measure | measure | measure | measure => simp [intOf]; omega
    ·have HM2 : Aside0 (manyF (splF S) (countF S 65 st6).1.toNat (countF S 65 st6).2 [] = (Sp, st7)) := ⟨by rw [HN10.out, Int.toNat_natCast]; have h := HS2.out.2.2; rw [show N10 - d2 = 0 by omega] at h; exact h⟩
     go_wp2_with (go_at_call 44; refine (HC.out 200 _ _ HR.out.ar HR.out.bel).mono ?_; rintro e w11 ⟨hret, har, hb, hk⟩; (obtain ⟨N11, hN11, hM11⟩ := HCN.out 200 (by decide) _ HR.out.ar.ok); (have HN11 := Aside0.mk hN11); (rw [hN11] at hret); (subst hret); (have H11 := Aside0.mk (And.intro (HR.out.call har hb hk) (And.intro (box_call HB.out HR.out.ar hk (by decide)) (And.intro (S_call HSe.out HR.out.ar hk (by decide)) (S_call HS2.out.1 HR.out.ar hk (by decide)))))); clear har hb hk hN11)
     clear HR HB HSe HS2
     go_loopw [58] (fun v58 wr => ∃ (d : Nat) (sx : St) (out : List Cut) (v : Value), d ≤ N11 ∧ v58 = .int .i64 (d : Int) ∧ Aside0 (DC w wr base G B R0 n1 n2 s sx (.slice A6 ((lstF S (numF S (numF S st).2).2).1).length c6) (.slice A7 ((lstF S (lstF S (numF S (numF S st).2).2).2).1).length c7) (lstF S (numF S (numF S st).2).2).1 (lstF S (lstF S (numF S (numF S st).2).2).2).1) ∧ Aside0 (Box wr X kd bno (.slice A6 ((lstF S (numF S (numF S st).2).2).1).length c6) (.slice A7 ((lstF S (lstF S (numF S (numF S st).2).2).2).1).length c7) (.slice A4 Se.length c4) (.slice B5 Sp.length e5) v) ∧
      Aside0 (Kd.S (Kd.slice 3 (Kd.int .i64)) 22 wr n2 (fun _ => True) (.slice A4 Se.length c4) Se ∧ Kd.S k41 41 wr n2 (fun _ => True) (.slice B5 Sp.length e5) Sp) ∧ Aside0 (Kd.S k43 43 wr n2 (fun _ => True) v out ∧ out.length = d ∧ manyF (cutF S) N11 (countF S 200 st7).2 [] = manyF (cutF S) (N11 - d) sx out)) (fun v58 _ => (N11 - (intOf v58).toNat))
     case atStart => exact ⟨0, _, [], _, Nat.zero_le _, rfl, ⟨H11.out.1⟩, ⟨H11.out.2.1⟩, ⟨H11.out.2.2⟩, ⟨Kd.S_nil _ _ _ _ _, rfl, rfl⟩⟩
     case round =>
      clear H11
      obtain ⟨d3, st8, Cu, v, hd3, rfl, HR, HB, HSS, HS3⟩ := hrel
      obtain ⟨C6, f6, rfl⟩ := Kd.S_slice HS3.out.1
      by_cases hlt3 : d3 < N11
      ·have hd200 : d3 < 200 := by omega
       obtain ⟨p, s1, hp⟩ : ∃ p st', lstF S st8 = (p, st') := ⟨_, _, rfl⟩
       obtain ⟨y, s2, hy⟩ : ∃ y st', intF S s1 = (y, st') := ⟨_, _, rfl⟩
       have HL1 := HLs.out wr st8 HR.out.ar HR.out.bel
       rw [hp] at HL1
       have HL1 := Aside0.mk HL1
       have HSd : Aside0 (Kd.S k43 43 wr n2 (fun k => k < wr.heap.size) (.slice C6 Cu.length f6) Cu) := ⟨Kd.S_mono (Kd.S_bound HS3.out.1) (fun k hk => hk.2.2.1)⟩
       have HN2 : Aside0 (n2 ≤ wr.heap.size ∧ w.heap.size ≤ n2 ∧ w.heap.size ≤ wr.heap.size) := ⟨HR.out.ln2, Nat.le_trans HR.out.ln0 HR.out.ln1, HR.out.kept.1⟩
       have HLen : Aside0 (Cu.length = d3) := ⟨HS3.out.2.1⟩
       have HP3 := Aside0.mk hp
       by_cases hf : s1.2 = none
       ·have HI := Aside0.mk (fun (W : World) (h : AR W base G B s s1) (hb : Below base w W) => by have h1 := HIs.out W s1 h hf hb; rw [hy] at h1; exact h1)
        have HF := Aside0.mk (fun (W : World) (h : AR W base G B s s1) (hb : Below base w W) => by have h1 := HFs.out W s1 h hb; rw [hf] at h1; exact h1)
        have HM : Aside0 (manyF (cutF S) N11 (countF S 200 st7).2 [] = manyF (cutF S) (N11 - (d3 + 1)) s2 (Cu ++ [⟨p, y⟩])) := ⟨by rw [HS3.out.2.2, show N11 - d3 = (N11 - (d3 + 1)) + 1 by omega, manyF_succ, cutF_ok hp hy]⟩
        have HN := Aside0.mk hf
        clear hp hy HS3 hf
        go_wp2_with (first
         | ((with_reducible refine gate_dst (N := 75) rfl ?_); refine Kd.S_append k43 (w0 := w7) (W := w7) n2 rfl (.tmp 72) (.tmp 74) 25 43 (.agg #[.slice none 0 0, .int .i64 0]) 32 rfl Tryd.underlying25 info_Cut rfl (by decide) (by decide) (.slice C6 Cu.length f6) Cu ⟨p, y⟩ [.slice Ap p.length cp, .int .i64 y] (fun _ => True) (fun k => wr.heap.size ≤ k) rfl rfl ?aP ?aK (fun _ _ => trivial) ?aO (Below.refl _ _) ?aB ?aL ?_; (case aP => exact k43_mkM _ _ _ ⟨p, y⟩ (Kd.R_lower (Kd.R_mono (Kd.R_bound HW7.out.1.row) (fun k hk => hk.2.1)) HN2.out.1)); (case aK => exact (fun k hk => ⟨trivial, fun e => by have := Kd.S_lt HSd.out k e.symm; omega⟩)); (case aO => exact Kd.S_mono (S_call HSd.out HR.out.ar HW7.out.1.kept (by decide)) (fun k hk => ⟨trivial, Nat.not_le.2 hk⟩)); (case aB => exact Nat.le_trans HN2.out.1 HW7.out.1.kept.1); (case aL => have := HLen.out; omega); intro v1 w8 ho hb hg hat; (have hs7 := S_call HSd.out HR.out.ar HW7.out.1.kept (by decide)); (have hb4 := box_grow (box_call HB.out HR.out.ar HW7.out.1.kept (by decide)) hs7 hg (by decide)); (have hd4 := HW7.out.1.dc.growS hs7 hg HN2.out.2.1 (.inr (.inr rfl))); (have he4 := S_grow (S_call HSS.out.1 HR.out.ar HW7.out.1.kept (by decide)) hs7 hg (by decide)); (have he5 := S_grow (S_call HSS.out.2 HR.out.ar HW7.out.1.kept (by decide)) hs7 hg (by decide)); (obtain ⟨A8, c8, rfl⟩ := Kd.S_slice ho); (rw [show (Cu ++ [(⟨p, y⟩ : Cut)]).length = Cu.length + 1 from by simp] at ho); (have u6 : w8.cell? ⟨X, 6, none⟩ = some (.slice C6 Cu.length f6) := (blk_cell hb4 6).trans rfl); (have uf6 : w8.frozen? ⟨X, 6, none⟩ = false := blk_frozen hb4 6); (have HW8 := Aside0.mk (And.intro hd4 (And.intro hb4 (And.intro he4 (And.intro he5 ho))))); clear hs7 hb hg hat hb4 hd4 he4 he5 ho)
         | ((with_reducible refine gate_store (t := 3) (p := 70) rfl ?_); refine store_event (t := 3) (p := 70) (v := ?vo_i) (w1 := (w6.setCell ⟨Y, 1, none⟩ (.int .i64 y))) ?hg ?ho ?hn ?hr ?_; (case ho => rfl); (case hg => rfl); (case hn => rfl); (case hr => first | (go_simp; done) | (go_simp; rfl)); intro w7 hw; (have h2 := set1 (base := base) (j := 1) (u := .int .i64 y) HW6.out.2 (Nat.le_trans HR.out.bs HY.out.1)); (rw [← hw] at h2); (have HW7 : Aside0 ((CT w wr w7 base G B R0 n1 n2 s s2 (.slice A6 ((lstF S (numF S (numF S st).2).2).1).length c6) (.slice A7 ((lstF S (lstF S (numF S (numF S st).2).2).2).1).length c7) (lstF S (numF S (numF S st).2).2).1 (lstF S (lstF S (numF S (numF S st).2).2).2).1 (.slice Ap p.length cp) p) ∧ w7.heap[Y]? = some (.cells #[.slice Ap p.length cp, .int .i64 y] 43 (0, 0))) := ⟨HW6.out.1.keepY HY.out.1 HY.out.2.1 HY.out.2.2 HW6.out.2 h2.2.1 h2.2.2, h2.1.trans rfl⟩); (have r70 : w7.cell? ⟨Y, 0, none⟩ = some (.slice Ap p.length cp) := (blk_cell HW7.out.2 0).trans rfl); (have r71 : w7.cell? ⟨Y, 1, none⟩ = _ := (blk_cell HW7.out.2 1).trans rfl); (have q6w7 : w7.cell? ⟨X, 6, none⟩ = some (.slice C6 Cu.length f6) := (blk_cell (box_call HB.out HR.out.ar HW7.out.1.kept (by decide)) 6).trans rfl); clear hw h2 y61 yf61)
         | (go_at_call 46; (have z_ := HW5.out); clear z_; refine (HI.out _ HW5.out.1.dc.ar HW5.out.1.dc.bel).mono ?_; rintro e w6 ⟨rfl, har, hb, hk⟩; (have HW6 := Aside0.mk (And.intro (HW5.out.1.call har hb hk) (box_call HW5.out.2 HW5.out.1.dc.ar hk (by decide)))); (have y61 : w6.cell? ⟨Y, 1, none⟩ = some (.int .i64 0) := (blk_cell HW6.out.2 1).trans rfl); (have yf61 : w6.frozen? ⟨Y, 1, none⟩ = false := blk_frozen HW6.out.2 1); clear har hb hk g5)
         | (go_at_call 45; refine (HF.out _ HW4.out.1.dc.ar HW4.out.1.dc.bel).mono ?_; rintro e w5 ⟨rfl, hb⟩; (have HW5 := Aside0.mk (And.intro (HW4.out.1.below hb) (blk_below HW4.out.2 hb))); (have g5 : w5.cell? ⟨G, 0, none⟩ = some (.pointer (some ⟨B, 0, none⟩)) := (blk_cell (HW5.out.1.dc.ar.none HN.out).2.1 0).trans rfl); clear hb)
         | ((with_reducible refine gate_store (t := 43) (p := 6) rfl ?_); refine store_event (t := 43) (p := 6) (v := ?vo_c) (w1 := ((w3.setCell ⟨Y, 0, none⟩ (.slice Ap p.length cp)).setCell ⟨Y, 1, none⟩ (.int .i64 0))) ?hg ?ho ?hn ?hr ?_; (case ho => rfl); (case hg => rfl); (case hn => rfl); (case hr => first | (go_simp; done) | (go_simp; rfl)); intro w4 hw; (have h2 := set2 (base := base) (u0 := .slice Ap p.length cp) (u1 := .int .i64 0) HW3.out.2 (Nat.le_trans HR.out.bs HY.out.1)); (rw [← hw] at h2); (have HW4 : Aside0 ((CT w wr w4 base G B R0 n1 n2 s s1 (.slice A6 ((lstF S (numF S (numF S st).2).2).1).length c6) (.slice A7 ((lstF S (lstF S (numF S (numF S st).2).2).2).1).length c7) (lstF S (numF S (numF S st).2).2).1 (lstF S (lstF S (numF S (numF S st).2).2).2).1 (.slice Ap p.length cp) p) ∧ w4.heap[Y]? = some (.cells #[.slice Ap p.length cp, .int .i64 0] 43 (0, 0))) := ⟨HW3.out.1.keepY HY.out.1 HY.out.2.1 HY.out.2.2 HW3.out.2 h2.2.1 h2.2.2, h2.1⟩); clear hw h2 y30 y31 yf30 yf31)
         | ((with_reducible refine gate_dst (N := 6) rfl ?_); (try (refine gate_guard (by rfl) ?_; dsimp only)); refine box_event ?hg (N := 6) ?hd (cs := #[.slice none 0 0, .int .i64 0]) (t := 43) ?hr ?_; (case hd => rfl); (case hg => rfl); (case hr => first | (go_simp; done) | (go_simp; rfl)); intro Y hgY w3 hboxY hbY; (have HY : Aside0 (w.heap.size ≤ Y ∧ wr.heap.size ≤ Y ∧ R0 ≠ Y) := ⟨by rw [hgY]; exact Nat.le_trans HN2.out.2.2 HW2.out.kept.1, by rw [hgY]; exact HW2.out.kept.1, by rw [hgY]; exact Nat.ne_of_lt (blk_lt HW2.out.dc.res)⟩); (have HW3 := Aside0.mk (And.intro (HW2.out.below hbY) hboxY)); (have y30 : w3.cell? ⟨Y, 0, none⟩ = some (.slice none 0 0) := (blk_cell hboxY 0).trans rfl); (have y31 : w3.cell? ⟨Y, 1, none⟩ = some (.int .i64 0) := (blk_cell hboxY 1).trans rfl); (have yf30 : w3.frozen? ⟨Y, 0, none⟩ = false := blk_frozen hboxY 0); (have yf31 : w3.frozen? ⟨Y, 1, none⟩ = false := blk_frozen hboxY 1); clear hgY hboxY hbY)
         | (go_at_call 43; refine HL1.out.mono ?_; rintro e w2 ⟨vp, rfl, hr, har, hb, hk⟩; (obtain ⟨Ap, cp, rfl⟩ := Kd.R_slice hr); (have HW2 : Aside0 (CT w wr w2 base G B R0 n1 n2 s s1 (.slice A6 ((lstF S (numF S (numF S st).2).2).1).length c6) (.slice A7 ((lstF S (lstF S (numF S (numF S st).2).2).2).1).length c7) (lstF S (numF S (numF S st).2).2).1 (lstF S (lstF S (numF S (numF S st).2).2).2).1 (.slice Ap p.length cp) p) := ⟨⟨HR.out.call har hb hk, hk, Kd.R_mono hr (fun _ _ => trivial)⟩⟩); clear hr har hb hk))
        go_roundw
        case rel => exact ⟨d3 + 1, s2, Cu ++ [⟨p, y⟩], _, by omega, by go_num, ⟨HW8.out.1.put HX.out.1 HX.out.2.1 HW8.out.2.1 (.inl rfl) 6 _⟩, ⟨(set1 (base := 0) HW8.out.2.1 (Nat.zero_le _)).1.trans rfl⟩, ⟨S_put HW8.out.2.2.1 HW8.out.2.1 (by decide) 6 _, S_put HW8.out.2.2.2.1 HW8.out.2.1 (by decide) 6 _⟩, ⟨S_put HW8.out.2.2.2.2 HW8.out.2.1 (by decide) 6 _, by rw [List.length_append, HLen.out]; rfl, HM.out⟩⟩
        case measure => simp [intOf]; omega
       ·have HF := Aside0.mk (fun (W : World) (h : AR W base G B s s1) (hb : Below base w W) => by have h1 := HFs.out W s1 h hb; rw [isNone_no hf] at h1; exact h1)
        have HM : Aside0 (manyF (cutF S) N11 (countF S 200 st7).2 [] = manyF (cutF S) (N11 - (d3 + 1)) s1 (Cu ++ [⟨p, 0⟩])) := ⟨by rw [HS3.out.2.2, show N11 - d3 = (N11 - (d3 + 1)) + 1 by omega, manyF_succ, cutF_no hp hf]⟩
        clear hp hy HS3 hf
        go_wp2_with (first
         | ((with_reducible refine gate_dst (N := 75) rfl ?_); refine Kd.S_append k43 (w0 := w5) (W := w5) n2 rfl (.tmp 72) (.tmp 74) 25 43 (.agg #[.slice none 0 0, .int .i64 0]) 32 rfl Tryd.underlying25 info_Cut rfl (by decide) (by decide) (.slice C6 Cu.length f6) Cu ⟨p, 0⟩ [.slice Ap p.length cp, .int .i64 0] (fun _ => True) (fun k => wr.heap.size ≤ k) rfl rfl ?aP ?aK (fun _ _ => trivial) ?aO (Below.refl _ _) ?aB ?aL ?_; (case aP => exact k43_mkM _ _ _ ⟨p, 0⟩ (Kd.R_lower (Kd.R_mono (Kd.R_bound HW5.out.1.row) (fun k hk => hk.2.1)) HN2.out.1)); (case aK => exact (fun k hk => ⟨trivial, fun e => by have := Kd.S_lt HSd.out k e.symm; omega⟩)); (case aO => exact Kd.S_mono (S_call HSd.out HR.out.ar HW5.out.1.kept (by decide)) (fun k hk => ⟨trivial, Nat.not_le.2 hk⟩)); (case aB => exact Nat.le_trans HN2.out.1 HW5.out.1.kept.1); (case aL => have := HLen.out; omega); intro v1 w8 ho hb hg hat; (have hs7 := S_call HSd.out HR.out.ar HW5.out.1.kept (by decide)); (have hb4 := box_grow (box_call HB.out HR.out.ar HW5.out.1.kept (by decide)) hs7 hg (by decide)); (have hd4 := HW5.out.1.dc.growS hs7 hg HN2.out.2.1 (.inr (.inr rfl))); (have he4 := S_grow (S_call HSS.out.1 HR.out.ar HW5.out.1.kept (by decide)) hs7 hg (by decide)); (have he5 := S_grow (S_call HSS.out.2 HR.out.ar HW5.out.1.kept (by decide)) hs7 hg (by decide)); (obtain ⟨A8, c8, rfl⟩ := Kd.S_slice ho); (rw [show (Cu ++ [(⟨p, 0⟩ : Cut)]).length = Cu.length + 1 from by simp] at ho); (have u6 : w8.cell? ⟨X, 6, none⟩ = some (.slice C6 Cu.length f6) := (blk_cell hb4 6).trans rfl); (have uf6 : w8.frozen? ⟨X, 6, none⟩ = false := blk_frozen hb4 6); (have HW8 := Aside0.mk (And.intro hd4 (And.intro hb4 (And.intro he4 (And.intro he5 ho))))); clear hs7 hb hg hat hb4 hd4 he4 he5 ho)
         | (go_at_call 45; refine (HF.out _ HW4.out.1.dc.ar HW4.out.1.dc.bel).mono ?_; rintro e w5 ⟨rfl, hb⟩; (have HW5 := Aside0.mk (And.intro (HW4.out.1.below hb) (blk_below HW4.out.2 hb))); (have r50 : w5.cell? ⟨Y, 0, none⟩ = some (.slice Ap p.length cp) := (blk_cell HW5.out.2 0).trans rfl); (have r51 : w5.cell? ⟨Y, 1, none⟩ = _ := (blk_cell HW5.out.2 1).trans rfl); (have q6w5 : w5.cell? ⟨X, 6, none⟩ = some (.slice C6 Cu.length f6) := (blk_cell (box_call HB.out HR.out.ar HW5.out.1.kept (by decide)) 6).trans rfl);  clear hb)
         | ((with_reducible refine gate_store (t := 43) (p := 6) rfl ?_); refine store_event (t := 43) (p := 6) (v := ?vo_c) (w1 := ((w3.setCell ⟨Y, 0, none⟩ (.slice Ap p.length cp)).setCell ⟨Y, 1, none⟩ (.int .i64 0))) ?hg ?ho ?hn ?hr ?_; (case ho => rfl); (case hg => rfl); (case hn => rfl); (case hr => first | (go_simp; done) | (go_simp; rfl)); intro w4 hw; (have h2 := set2 (base := base) (u0 := .slice Ap p.length cp) (u1 := .int .i64 0) HW3.out.2 (Nat.le_trans HR.out.bs HY.out.1)); (rw [← hw] at h2); (have HW4 : Aside0 ((CT w wr w4 base G B R0 n1 n2 s s1 (.slice A6 ((lstF S (numF S (numF S st).2).2).1).length c6) (.slice A7 ((lstF S (lstF S (numF S (numF S st).2).2).2).1).length c7) (lstF S (numF S (numF S st).2).2).1 (lstF S (lstF S (numF S (numF S st).2).2).2).1 (.slice Ap p.length cp) p) ∧ w4.heap[Y]? = some (.cells #[.slice Ap p.length cp, .int .i64 0] 43 (0, 0))) := ⟨HW3.out.1.keepY HY.out.1 HY.out.2.1 HY.out.2.2 HW3.out.2 h2.2.1 h2.2.2, h2.1⟩); clear hw h2 y30 y31 yf30 yf31)
         | ((with_reducible refine gate_dst (N := 6) rfl ?_); (try (refine gate_guard (by rfl) ?_; dsimp only)); refine box_event ?hg (N := 6) ?hd (cs := #[.slice none 0 0, .int .i64 0]) (t := 43) ?hr ?_; (case hd => rfl); (case hg => rfl); (case hr => first | (go_simp; done) | (go_simp; rfl)); intro Y hgY w3 hboxY hbY; (have HY : Aside0 (w.heap.size ≤ Y ∧ wr.heap.size ≤ Y ∧ R0 ≠ Y) := ⟨by rw [hgY]; exact Nat.le_trans HN2.out.2.2 HW2.out.kept.1, by rw [hgY]; exact HW2.out.kept.1, by rw [hgY]; exact Nat.ne_of_lt (blk_lt HW2.out.dc.res)⟩); (have HW3 := Aside0.mk (And.intro (HW2.out.below hbY) hboxY)); (have y30 : w3.cell? ⟨Y, 0, none⟩ = some (.slice none 0 0) := (blk_cell hboxY 0).trans rfl); (have y31 : w3.cell? ⟨Y, 1, none⟩ = some (.int .i64 0) := (blk_cell hboxY 1).trans rfl); (have yf30 : w3.frozen? ⟨Y, 0, none⟩ = false := blk_frozen hboxY 0); (have yf31 : w3.frozen? ⟨Y, 1, none⟩ = false := blk_frozen hboxY 1); clear hgY hboxY hbY)
         | (go_at_call 43; refine HL1.out.mono ?_; rintro e w2 ⟨vp, rfl, hr, har, hb, hk⟩; (obtain ⟨Ap, cp, rfl⟩ := Kd.R_slice hr); (have HW2 : Aside0 (CT w wr w2 base G B R0 n1 n2 s s1 (.slice A6 ((lstF S (numF S (numF S st).2).2).1).length c6) (.slice A7 ((lstF S (lstF S (numF S (numF S st).2).2).2).1).length c7) (lstF S (numF S (numF S st).2).2).1 (lstF S (lstF S (numF S (numF S st).2).2).2).1 (.slice Ap p.length cp) p) := ⟨⟨HR.out.call har hb hk, hk, Kd.R_mono hr (fun _ _ => trivial)⟩⟩); clear hr har hb hk))
        go_roundw
        case rel => exact ⟨d3 + 1, s1, Cu ++ [⟨p, 0⟩], _, by omega, by go_num, ⟨HW8.out.1.put HX.out.1 HX.out.2.1 HW8.out.2.1 (.inl rfl) 6 _⟩, ⟨(set1 (base := 0) HW8.out.2.1 (Nat.zero_le _)).1.trans rfl⟩, ⟨S_put HW8.out.2.2.1 HW8.out.2.1 (by decide) 6 _, S_put HW8.out.2.2.2.1 HW8.out.2.1 (by decide) 6 _⟩, ⟨S_put HW8.out.2.2.2.2 HW8.out.2.1 (by decide) 6 _, by rw [List.length_append, HLen.out]; rfl, HM.out⟩⟩
        case measure => simp [intOf]; omega
      ·have HM3 : Aside0 (manyF (cutF S) (countF S 200 st7).1.toNat (countF S 200 st7).2 [] = (Cu, st8)) := ⟨by rw [HN11.out, Int.toNat_natCast]; have h := HS3.out.2.2; rw [show N11 - d3 = 0 by omega] at h; exact h⟩
       have hbx := HB.out
       have hres := HR.out.res
       have x0 : wr.cell? ⟨X, 0, none⟩ = _ := (blk_cell hbx 0).trans rfl
       have x1 : wr.cell? ⟨X, 1, none⟩ = _ := (blk_cell hbx 1).trans rfl
       have x2 : wr.cell? ⟨X, 2, none⟩ = _ := (blk_cell hbx 2).trans rfl
       have x3 : wr.cell? ⟨X, 3, none⟩ = _ := (blk_cell hbx 3).trans rfl
       have x4 : wr.cell? ⟨X, 4, none⟩ = _ := (blk_cell hbx 4).trans rfl
       have x5 : wr.cell? ⟨X, 5, none⟩ = _ := (blk_cell hbx 5).trans rfl
       have x6 : wr.cell? ⟨X, 6, none⟩ = _ := (blk_cell hbx 6).trans rfl
       have r0 : wr.cell? ⟨R0, 0, none⟩ = _ := (blk_cell hres 0).trans rfl
       have r1 : wr.cell? ⟨R0, 1, none⟩ = _ := (blk_cell hres 1).trans rfl
       have r2 : wr.cell? ⟨R0, 2, none⟩ = _ := (blk_cell hres 2).trans rfl
       have r3 : wr.cell? ⟨R0, 3, none⟩ = _ := (blk_cell hres 3).trans rfl
       have r4 : wr.cell? ⟨R0, 4, none⟩ = _ := (blk_cell hres 4).trans rfl
       have r5 : wr.cell? ⟨R0, 5, none⟩ = _ := (blk_cell hres 5).trans rfl
       have r6 : wr.cell? ⟨R0, 6, none⟩ = _ := (blk_cell hres 6).trans rfl
       have rf0 : wr.frozen? ⟨R0, 0, none⟩ = false := blk_frozen hres 0
       have rf1 : wr.frozen? ⟨R0, 1, none⟩ = false := blk_frozen hres 1
       have rf2 : wr.frozen? ⟨R0, 2, none⟩ = false := blk_frozen hres 2
       have rf3 : wr.frozen? ⟨R0, 3, none⟩ = false := blk_frozen hres 3
       have rf4 : wr.frozen? ⟨R0, 4, none⟩ = false := blk_frozen hres 4
       have rf5 : wr.frozen? ⟨R0, 5, none⟩ = false := blk_frozen hres 5
       have rf6 : wr.frozen? ⟨R0, 6, none⟩ = false := blk_frozen hres 6
       clear hbx hres
       go_wp2_with ((with_reducible refine gate_store (t := 27) (p := 2) rfl ?_); refine store_event (t := 27) (p := 2) (v := ?vo_f) (w1 := (((((((wr.setCell ⟨R0, 0, none⟩ (.int .i64 kd)).setCell ⟨R0, 1, none⟩ (.bool bno)).setCell ⟨R0, 2, none⟩ (.slice A6 ((lstF S (numF S (numF S st).2).2).1).length c6)).setCell ⟨R0, 3, none⟩ (.slice A7 ((lstF S (lstF S (numF S (numF S st).2).2).2).1).length c7)).setCell ⟨R0, 4, none⟩ (.slice A4 Se.length c4)).setCell ⟨R0, 5, none⟩ (.slice B5 Sp.length e5)).setCell ⟨R0, 6, none⟩ (.slice C6 Cu.length f6))) ?hg ?ho ?hn ?hr ?_; (case ho => rfl); (case hg => rfl); (case hn => rfl); (case hr => first | (go_simp; done) | (go_simp; rfl)); intro wf hw; (have h7 := set7 (base := base) (u0 := .int .i64 kd) (u1 := .bool bno) (u2 := .slice A6 ((lstF S (numF S (numF S st).2).2).1).length c6) (u3 := .slice A7 ((lstF S (lstF S (numF S (numF S st).2).2).2).1).length c7) (u4 := .slice A4 Se.length c4) (u5 := .slice B5 Sp.length e5) (u6 := .slice C6 Cu.length f6) HR.out.res (Nat.le_trans HR.out.bs HR.out.wR)); (dsimp only at h7); (rw [← hw] at h7); (have HWF := Aside0.mk h7); clear r0 rf0 r1 rf1 r2 rf2 r3 rf3 r4 rf4 r5 rf5 r6 rf6; (have r0 : wf.cell? ⟨R0, 0, none⟩ = _ := (blk_cell h7.1 0).trans rfl); (have r1 : wf.cell? ⟨R0, 1, none⟩ = _ := (blk_cell h7.1 1).trans rfl); (have r2 : wf.cell? ⟨R0, 2, none⟩ = _ := (blk_cell h7.1 2).trans rfl); (have r3 : wf.cell? ⟨R0, 3, none⟩ = _ := (blk_cell h7.1 3).trans rfl); (have r4 : wf.cell? ⟨R0, 4, none⟩ = _ := (blk_cell h7.1 4).trans rfl); (have r5 : wf.cell? ⟨R0, 5, none⟩ = _ := (blk_cell h7.1 5).trans rfl); (have r6 : wf.cell? ⟨R0, 6, none⟩ = _ := (blk_cell h7.1 6).trans rfl); clear hw h7)
       ((try simp only [Exit.inBlock, Exit.then]); refine bodyPost_ret (results_ct rfl _ _ R0 27 #[.int .i64 kd, .bool bno, .slice A6 ((lstF S (numF S (numF S st).2).2).1).length c6, .slice A7 ((lstF S (lstF S (numF S (numF S st).2).2).2).1).length c7, .slice A4 Se.length c4, .slice B5 Sp.length e5, .slice C6 Cu.length f6] (0, 0) _ rfl HWF.out.1 Tryd.underlying27 rfl (by kernel_rfl)) rfl ?_)
       obtain ⟨hq1, hq2, hq3⟩ := HWF.out
       rw [HM1.out]; dsimp only
       rw [HM2.out]; dsimp only
       rw [HM3.out]
       exact ⟨_, _, _, _, _, rfl, rowsA_of HR.out HSS.out.1 HSS.out.2 HS3.out.1 hq2, HR.out.fin hq2 hq3⟩

end Go.Proofs.YtlekdhejgdfnpaaDoor.P
/- answer.Encode, walked. -/
namespace Go.Proofs.YtlekdhejgdfnpaaDoor.P
open Go.RowKit Go.Lib Go.Proofs.YtlekdhejgdfnpaaDoorW.PrintWords Go.Proofs.YtlekdhejgdfnpaaDoorW.PrintLast Go.Proofs.YtlekdhejgdfnpaaDoorW.PrintMore
open Wr
set_option linter.unusedVariables false
set_option linter.unusedSimpArgs false

/-- what stands while Encode writes: the builder, what lay there, the rows that are no bytes -/
def EncAt (B : Nat) (acc : List Int) (wB W : World) : Prop := (Lib.IsBuilder 64 5 B B (Lib.strCells (strOfNums acc)) W ∧ Below B wB W) ∧ Keep8 B wB W
theorem EncAt.lists {B : Nat} {acc : List Int} {wB W : World} (h : EncAt B acc wB W) (hB : B ≤ wB.heap.size) (l : List (List Int)) (A : Option Addr) (c : Nat) (hC : ∀ w1, Below B W w1 → Keep8 B W w1 → Kd.C (Kd.slice 3 (Kd.int .i64)) w1 A l.length l) (h64 : ∀ x ∈ l, x.length ≤ 64) (hn : l.length ≤ 1000) (hlen : acc.length ≤ 1000000000) :
 Calls Tryd.prog 31 #[.slice A l.length c, .pointer (some ⟨B, 0, none⟩)] W fun e w' => e = .returned (.tuple #[]) ∧ EncAt B (acc ++ listsB l) wB w' ∧ Keep8 B W w' := by
 refine (elists_c l A c B B acc W hC h64 hn h.1.1 hlen (Nat.le_trans hB h.1.2.size)).mono ?_
 rintro e w' ⟨rfl, ⟨h1, h2⟩, h3⟩
 exact ⟨rfl, ⟨⟨h1, h.1.2.trans h2⟩, h.2.trans h3⟩, h3⟩
theorem EncAt.num {B : Nat} {acc : List Int} {wB W : World} (h : EncAt B acc wB W) (hB : B ≤ wB.heap.size) (n : Int) (hlen : acc.length ≤ 1000000000) :
 Calls Tryd.prog 28 #[.int .i64 n, .pointer (some ⟨B, 0, none⟩)] W fun e w' => e = .returned (.tuple #[]) ∧ EncAt B (acc ++ encN n) wB w' ∧ Below B W w' := by
 refine (enum_c n B B acc W h.1.1 hlen (Nat.le_trans hB h.1.2.size)).mono ?_
 rintro e w' ⟨rfl, ⟨h1, h2⟩, h3⟩
 exact ⟨rfl, ⟨⟨h1, h.1.2.trans h2⟩, h.2.trans h3⟩, h2⟩
theorem EncAt.write {B : Nat} {acc s : List Int} {wB W : World} (h : EncAt B acc wB W) (hB : B ≤ wB.heap.size) (hs : s.length ≤ 1000) (hlen : acc.length ≤ 1000000000) :
 Calls Tryd.prog 29 #[.pointer (some ⟨B, 0, none⟩), .string (strOfNums s)] W fun e w' => e = .returned (.tuple #[.int .i64 (strOfNums s).size, .nilIface]) ∧ EncAt B (acc ++ s) wB w' ∧ Below B W w' := by
 refine (bwrite2_c B B _ _ W h.1.1 (by rw [Lib.strCells_length, strOfNums_size, strOfNums_size]; omega) (Nat.le_trans hB h.1.2.size)).mono ?_
 rintro e w' ⟨rfl, ⟨h1, h2⟩, h3⟩
 rw [strCells_sn] at h1
 exact ⟨rfl, ⟨⟨.inr h1, h.1.2.trans h2⟩, h.2.trans h3⟩, h2⟩
theorem EncAt.later {B : Nat} {acc : List Int} {wB W W1 : World} (h : EncAt B acc wB W) (hB : B ≤ wB.heap.size) (hb : Below W.heap.size W W1) : EncAt B acc wB W1 :=
 ⟨⟨h.1.1.below hb, h.1.2.trans (hb.mono (Nat.le_trans hB h.1.2.size))⟩, h.2.trans (Keep8.below hb)⟩
theorem EncAt.fresh (w : World) : EncAt w.heap.size [] (w.alloc (.cells #[.pointer none, .slice none 0 0] 64)) (w.alloc (.cells #[.pointer none, .slice none 0 0] 64)) :=
 ⟨⟨Lib.fresh_isBuilder _ _ w, Below.refl _ _⟩, Keep8.refl _ _⟩
theorem alloc_size (w : World) (o : Obj) : (w.alloc o).heap.size = w.heap.size + 1 := Array.size_push ..
/-- a literal of rows, told in a world behind: its own cells stay (they are no bytes), its rows' too -/
theorem lit_later {B : Nat} {W : World} {vs : Array Value} (hB : B < W.heap.size) {w1 : World} (hk : Keep8 B (W.alloc (.cells vs 22 (0, 0))) w1) : w1.heap[W.heap.size]? = some (.cells vs 22 (0, 0)) :=
 hk _ _ _ _ (by omega) (by decide) (blk_new W _)
end Go.Proofs.YtlekdhejgdfnpaaDoor.P
/- answer.Encode, walked: all that may be. (Written by wip/tool/ansf.py.) -/
namespace Go.Proofs.YtlekdhejgdfnpaaDoor.P
open Go.RowKit Go.Lib Go.Proofs.YtlekdhejgdfnpaaDoorW.PrintWords Go.Proofs.YtlekdhejgdfnpaaDoorW.PrintLast Go.Proofs.YtlekdhejgdfnpaaDoorW.PrintMore
open Wr
set_option linter.unusedVariables false
set_option linter.unusedSimpArgs false

theorem EncAt.ex {B : Nat} {acc : List Int} {wB W : World} (h : Aside0 (EncAt B acc wB W)) : ∃ Q, Q = acc ∧ Aside0 (EncAt B Q wB W) := ⟨acc, rfl, h⟩
def spB (y : Spl) : List Int := listsB [y.f0, y.f1, y.f2]
def cuB (c : Cut) : List Int := listsB [c.f0] ++ encI c.f1
theorem flat_len {α : Type} (f : α → List Int) (m : Nat) : ∀ (l : List α), (∀ x ∈ l, (f x).length ≤ m) → (l.flatMap f).length ≤ m * l.length := by
 intro l
 induction l with
 | nil => intro _; simp
 | cons x r ih =>
  intro h
  have h1 := h x (List.mem_cons_self ..)
  have h2 := ih (fun y hy => h y (List.mem_cons_of_mem _ hy))
  rw [List.flatMap_cons, List.length_append, List.length_cons, Nat.mul_add]
  omega
theorem flat_snoc {α : Type} (f : α → List Int) (l : List α) {i : Nat} (h : i < l.length) : (l.take (i + 1)).flatMap f = (l.take i).flatMap f ++ f l[i] := by
 rw [List.take_succ_eq_append_getElem h, List.flatMap_append]; simp
theorem EncAt.lt {B : Nat} {acc : List Int} {wB W : World} (h : EncAt B acc wB W) : B < W.heap.size := by
 rcases h.1.1 with h | h <;> exact h.lt
theorem EncAt.rows0 {B b0 : Nat} {acc : List Int} {w wB W w1 : World} (h : EncAt B acc wB W) (hb : Below B W w1) (hw : Below b0 w wB ∧ b0 ≤ B) : Below b0 w w1 := hw.1.trans ((h.1.2.trans hb).mono hw.2)
theorem EncAt.rows {B b0 : Nat} {acc : List Int} {w wB W w1 : World} {o : Obj} (h : EncAt B acc wB W) (hb : Below B (W.alloc o) w1) (hw : Below b0 w wB ∧ b0 ≤ B) : Below b0 w w1 :=
 hw.1.trans ((h.1.2.trans (((Below.refl B W).alloc (Nat.le_of_lt h.lt) o).trans hb)).mono hw.2)
set_option maxHeartbeats 16000000 in
set_option maxRecDepth 100000 in
theorem encode_ok (k : Nat) (a0 : Int) (no : Bool) (A2 : Option Addr) (c2 : Nat) (S : List Int) (A3 : Option Addr) (c3 : Nat) (U : List Int) (A4 : Option Addr) (c4 : Nat) (Se : List (List Int)) (A5 : Option Addr) (c5 : Nat) (Sp : List Spl) (A6 : Option Addr) (c6 : Nat) (Cu : List Cut) (w : World)
 (hr2 : Kd.C (Kd.int .i64) w A2 S.length S) (hc2 : S.length ≤ c2) (hr3 : Kd.C (Kd.int .i64) w A3 U.length U) (hc3 : U.length ≤ c3) (hr4 : Kd.C (Kd.slice 3 (Kd.int .i64)) w A4 Se.length Se) (hc4 : Se.length ≤ c4) (hr5 : Kd.C k41 w A5 Sp.length Sp) (hc5 : Sp.length ≤ c5) (hr6 : Kd.C k43 w A6 Cu.length Cu) (hc6 : Cu.length ≤ c6)
 (hck : answer_Check.f k a0 no S U Se Sp Cu = some 0) (h64SU : ∀ x ∈ [S, U], x.length ≤ 64) (h64e : ∀ x ∈ Se, x.length ≤ 64) (hle : Se.length ≤ 200) (h64p : ∀ y ∈ Sp, ∀ x ∈ [y.f0, y.f1, y.f2], x.length ≤ 64) (hlp : Sp.length ≤ 65) (h64c : ∀ c ∈ Cu, c.f0.length ≤ 64) (hlc : Cu.length ≤ 200) :
 Calls Tryd.prog 13 #[.agg #[.int .i64 a0, .bool no, .slice A2 S.length c2, .slice A3 U.length c3, .slice A4 Se.length c4, .slice A5 Sp.length c5, .slice A6 Cu.length c6]] w fun e w' => e = .returned (.string (strOfNums (encAns a0 no S U Se Sp Cu))) ∧ Below w.heap.size w w' := by
 obtain ⟨W1, hW1⟩ : ∃ W1, W1 = w.alloc (Obj.cells #[.int .i64 a0, .bool no, .slice A2 S.length c2, .slice A3 U.length c3, .slice A4 Se.length c4, .slice A5 Sp.length c5, .slice A6 Cu.length c6] 27) := ⟨_, rfl⟩
 have hB1 : Below w.heap.size w W1 := by subst hW1; exact (Below.refl _ _).alloc (Nat.le_refl _) _
 have hbx : W1.heap[w.heap.size]? = some (.cells #[.int .i64 a0, .bool no, .slice A2 S.length c2, .slice A3 U.length c3, .slice A4 Se.length c4, .slice A5 Sp.length c5, .slice A6 Cu.length c6] 27 (0, 0)) := by subst hW1; exact blk_new w _
 have hsz : W1.heap.size = w.heap.size + 1 := by subst hW1; exact alloc_size _ _
 have HCK := Aside0.mk (fun (W : World) (hW : Below w.heap.size w W) => answer_Check.calls k a0 no (fun _ => True) A2 c2 S (fun _ => True) A3 c3 U (fun _ => True) A4 c4 Se (fun _ => True) A5 c5 Sp (fun _ => True) A6 c6 Cu 0 W (V_of_C (Kd.heap_int _) (Kd.C_below hr2 hW) hc2) (V_of_C (Kd.heap_int _) (Kd.C_below hr3 hW) hc3) (V_of_C (Kd.heap_slice _ (Kd.heap_int _)) (Kd.C_below hr4 hW) hc4) (V_of_C (Kd.heap_iso _ (Kd.heap_pair (Kd.heap_slice _ (Kd.heap_int _)) (Kd.heap_pair (Kd.heap_slice _ (Kd.heap_int _)) (Kd.heap_slice _ (Kd.heap_int _))))) (Kd.C_below hr5 hW) hc5) (V_of_C (Kd.heap_iso _ (Kd.heap_pair (Kd.heap_slice _ (Kd.heap_int _)) (Kd.heap_int _))) (Kd.C_below hr6 hW) hc6) hck)
 have HR2 := Aside0.mk hr2
 have HC2 := Aside0.mk hc2
 have HR3 := Aside0.mk hr3
 have HC3 := Aside0.mk hc3
 have HR4 := Aside0.mk hr4
 have HR5 := Aside0.mk hr5
 have HR6 := Aside0.mk hr6
 have H64SU := Aside0.mk h64SU
 have H64E := Aside0.mk h64e
 have H64P := Aside0.mk h64p
 have H64C := Aside0.mk h64c
 have HLE := Aside0.mk hle
 have HLP := Aside0.mk hlp
 have HLC := Aside0.mk hlc
 have HBX := Aside0.mk (And.intro hB1 (And.intro hbx hsz))
 have HW1 := Aside0.mk hW1
 obtain ⟨NO, hNO⟩ : ∃ NO : Int, NO = if no = true then 1 else 0 := ⟨_, rfl⟩
 have lN := fun n => encN_len n
 have lS := listsB_len [S, U] h64SU
 have lE := listsB_len Se h64e
 have lP : (encN (Sp.length : Int)).length ≤ 8 := encN_len _
 have HL0 := Aside0.mk (show (([] : List Int)).length ≤ 1000000 from by have e1 := encN_len a0; have e2 := encN_len NO; have e3 := encN_len (Se.length : Int); simp only [List.length_append, List.length_nil, List.length_cons] at *; omega)
 have HL1 := Aside0.mk (show ([] ++ encN a0).length ≤ 1000000 from by have e1 := encN_len a0; have e2 := encN_len NO; have e3 := encN_len (Se.length : Int); simp only [List.length_append, List.length_nil, List.length_cons] at *; omega)
 have HL2 := Aside0.mk (show (([] ++ encN a0) ++ encN NO).length ≤ 1000000 from by have e1 := encN_len a0; have e2 := encN_len NO; have e3 := encN_len (Se.length : Int); simp only [List.length_append, List.length_nil, List.length_cons] at *; omega)
 have HL3 := Aside0.mk (show ((([] ++ encN a0) ++ encN NO) ++ listsB [S, U]).length ≤ 1000000 from by have e1 := encN_len a0; have e2 := encN_len NO; have e3 := encN_len (Se.length : Int); simp only [List.length_append, List.length_nil, List.length_cons] at *; omega)
 have HL4 := Aside0.mk (show (((([] ++ encN a0) ++ encN NO) ++ listsB [S, U]) ++ encN (Se.length : Int)).length ≤ 1000000 from by have e1 := encN_len a0; have e2 := encN_len NO; have e3 := encN_len (Se.length : Int); simp only [List.length_append, List.length_nil, List.length_cons] at *; omega)
 have HL5 := Aside0.mk (show ((((([] ++ encN a0) ++ encN NO) ++ listsB [S, U]) ++ encN (Se.length : Int)) ++ listsB Se).length ≤ 1000000 from by have e1 := encN_len a0; have e2 := encN_len NO; have e3 := encN_len (Se.length : Int); simp only [List.length_append, List.length_nil, List.length_cons] at *; omega)
 have HL6 := Aside0.mk (show (((((([] ++ encN a0) ++ encN NO) ++ listsB [S, U]) ++ encN (Se.length : Int)) ++ listsB Se) ++ encN (Sp.length : Int)).length ≤ 1000000 from by have e1 := encN_len a0; have e2 := encN_len NO; have e3 := encN_len (Se.length : Int); simp only [List.length_append, List.length_nil, List.length_cons] at *; omega)
 clear hr2 hc2 hr3 hc3 hr4 hc4 hr5 hc5 hr6 hc6 hck h64SU h64e hle h64p hlp h64c hlc hB1 hbx hsz hW1 lN lS lE lP
 go_enter Tryd.func13, Tryd.ntmps13
 go_upto_region 3 with (go_at_call 11; rw [← HW1.out]; refine (HCK.out _ HBX.out.1).mono ?_; rintro e w2 ⟨rfl, hb⟩; (have HB2 := Aside0.mk hb); clear hb)
 go_upto_region 4 with (fail)
 have hwB := EncAt.fresh w2
 have hbB : Below W1.heap.size W1 (w2.alloc (.cells #[.pointer none, .slice none 0 0] 64)) := HB2.out.trans ((Below.refl _ _).alloc HB2.out.size _)
 have hsB := HB2.out.size
 have hszB := alloc_size w2 (.cells #[.pointer none, .slice none 0 0] 64)
 generalize w2.alloc (.cells #[.pointer none, .slice none 0 0] 64) = wB at *
 generalize w2.heap.size = B at *
 have hX : w.heap.size < B := by have := HBX.out.2.2; omega
 have HWB : Aside0 (Below w.heap.size w wB ∧ w.heap.size ≤ B) := ⟨HBX.out.1.trans (hbB.mono HBX.out.1.size), Nat.le_of_lt hX⟩
 have HBw : Aside0 (B ≤ wB.heap.size) := ⟨by omega⟩
 have hbx2 : wB.heap[w.heap.size]? = some (.cells #[.int .i64 a0, .bool no, .slice A2 S.length c2, .slice A3 U.length c3, .slice A4 Se.length c4, .slice A5 Sp.length c5, .slice A6 Cu.length c6] 27 (0, 0)) := (hbB.block _ (by have := HBX.out.2.2; omega)).trans HBX.out.2.1
 have HX : Aside0 (∀ W, Below B wB W → W.cell? ⟨w.heap.size, 0, none⟩ = some (.int .i64 a0) ∧ W.cell? ⟨w.heap.size, 1, none⟩ = some (.bool no) ∧ W.cell? ⟨w.heap.size, 2, none⟩ = some (.slice A2 S.length c2) ∧ W.cell? ⟨w.heap.size, 3, none⟩ = some (.slice A3 U.length c3) ∧ W.cell? ⟨w.heap.size, 4, none⟩ = some (.slice A4 Se.length c4) ∧ W.cell? ⟨w.heap.size, 5, none⟩ = some (.slice A5 Sp.length c5) ∧ W.cell? ⟨w.heap.size, 6, none⟩ = some (.slice A6 Cu.length c6)) := ⟨fun W hW => by
  have h := (hW.block w.heap.size hX).trans hbx2
  exact ⟨(blk_cell h 0).trans rfl, (blk_cell h 1).trans rfl, (blk_cell h 2).trans rfl, (blk_cell h 3).trans rfl, (blk_cell h 4).trans rfl, (blk_cell h 5).trans rfl, (blk_cell h 6).trans rfl⟩⟩
 have H0 := Aside0.mk hwB
 obtain ⟨z0, z1, z2, z3, z4, z5, z6⟩ := HX.out wB (Below.refl _ _)
 clear hwB hbB hsB hszB hX hbx2 HBX HB2 HCK
 cases no
 all_goals
  first | obtain rfl : NO = 0 := hNO | obtain rfl : NO = 1 := hNO
  go_wp2_with (first
   | (go_at_call 28; (have z_ := H5.out); clear z_; refine (H5.out.num HBw.out _ (Nat.le_trans HL5.out (by decide))).mono ?_; rintro e w16 ⟨rfl, hE, _⟩; (have H6 := Aside0.mk hE); (clear z0 z1 z2 z3 z4 z5 z6); (obtain ⟨z0, z1, z2, z3, z4, z5, z6⟩ := HX.out _ hE.1.2); clear hE)
   | (go_at_call 31; (have z_ := H4.out); clear z_; refine (H4.out.lists HBw.out Se A4 c4 (fun w1 hb hk => Kd.C_below HR4.out (H4.out.rows0 hb HWB.out)) H64E.out (Nat.le_trans HLE.out (by decide)) (Nat.le_trans HL4.out (by decide))).mono ?_; rintro e w15 ⟨rfl, hE, _⟩; (have H5 := Aside0.mk hE); (clear z0 z1 z2 z3 z4 z5 z6); (obtain ⟨z0, z1, z2, z3, z4, z5, z6⟩ := HX.out _ hE.1.2); clear hE)
   | (go_at_call 28; (have z_ := H3.out); clear z_; refine (H3.out.num HBw.out _ (Nat.le_trans HL3.out (by decide))).mono ?_; rintro e w14 ⟨rfl, hE, _⟩; (have H4 := Aside0.mk hE); (clear z0 z1 z2 z3 z4 z5 z6); (obtain ⟨z0, z1, z2, z3, z4, z5, z6⟩ := HX.out _ hE.1.2); clear hE)
   | (go_at_call 31; (have z_ := H2.out); clear z_; refine ((H2.out.later HBw.out (below_alloc (Below.refl _ _) _)).lists HBw.out [S, U] _ _ (fun w1 hb hk => C_two (lit_later H2.out.lt hk) (Kd.C_below HR2.out (H2.out.rows hb HWB.out)) HC2.out (Kd.C_below HR3.out (H2.out.rows hb HWB.out)) HC3.out) H64SU.out (by simp) (Nat.le_trans HL2.out (by decide))).mono ?_; rintro e w13 ⟨rfl, hE, _⟩; (have H3 := Aside0.mk hE); (clear z0 z1 z2 z3 z4 z5 z6); (obtain ⟨z0, z1, z2, z3, z4, z5, z6⟩ := HX.out _ hE.1.2); clear hE)
   | (go_at_call 28; (have z_ := H1.out); clear z_; refine (H1.out.num HBw.out _ (Nat.le_trans HL1.out (by decide))).mono ?_; rintro e w12 ⟨rfl, hE, _⟩; (have H2 := Aside0.mk hE); (clear z0 z1 z2 z3 z4 z5 z6); (obtain ⟨z0, z1, z2, z3, z4, z5, z6⟩ := HX.out _ hE.1.2); clear hE)
   | (go_at_call 28; (have z_ := H0.out); clear z_; refine (H0.out.num HBw.out _ (Nat.le_trans HL0.out (by decide))).mono ?_; rintro e w11 ⟨rfl, hE, _⟩; (have H1 := Aside0.mk hE); (clear z0 z1 z2 z3 z4 z5 z6); (obtain ⟨z0, z1, z2, z3, z4, z5, z6⟩ := HX.out _ hE.1.2); clear hE))
  obtain ⟨Q6, hQ6, HQ⟩ := EncAt.ex H6
  have HLQ : Aside0 (Q6.length ≤ 1000000) := ⟨by rw [hQ6]; exact HL6.out⟩
  have HQ6 := Aside0.mk hQ6
  clear hQ6 H0 H1 H2 H3 H4 H5 H6 HL0 HL1 HL2 HL3 HL4 HL5 HL6
  go_loopw [49] (fun v49 wr => ∃ (i : Nat), i ≤ Sp.length ∧ v49 = .int .i64 (i : Int) ∧ Aside0 (EncAt B (Q6 ++ (Sp.take i).flatMap spB) wB wr)) (fun v49 _ => (Sp.length - (RowKit.intOf v49).toNat))
  case atStart => exact ⟨0, Nat.zero_le _, rfl, ⟨by simpa using HQ.out⟩⟩
  case round =>
   obtain ⟨i, hi, rfl, HR⟩ := hrel
   obtain ⟨z0, z1, z2, z3, z4, z5, z6⟩ := HX.out _ HR.out.1.2
   by_cases hlt : i < Sp.length
   ·obtain ⟨ad, B0, d0, B1, d1, B2, d2, rfl, hx0, hx1, hx2, l0, g0, l1, g1, l2, g2⟩ := at_T41 HR5.out (i : Int) (by omega) (by omega)
    have hWr := HR.out.rows0 (Below.refl _ _) HWB.out
    replace hx0 := (hWr.cell (World.block_lt_of_cell? w _ hx0)).trans hx0
    replace hx1 := (hWr.cell (World.block_lt_of_cell? w _ hx1)).trans hx1
    replace hx2 := (hWr.cell (World.block_lt_of_cell? w _ hx2)).trans hx2
    clear hWr
    have hi65 : i < 65 := by have := HLP.out; omega
    have hel : rd_T41 Sp (i : Int) = Sp[i] := by simp [rd_T41, List.getD_eq_getElem?_getD, List.getElem?_eq_getElem hlt]
    rw [hel] at hx0 hx1 hx2 l0 g0 l1 g1 l2 g2
    rw [show ((i : Int)).toNat = i from rfl] at hx0 hx1 hx2
    have H64Y := Aside0.mk (H64P.out Sp[i] (List.getElem_mem hlt))
    have HSN := Aside0.mk (flat_snoc spB Sp hlt)
    have HG := Aside0.mk (And.intro (And.intro l0 g0) (And.intro (And.intro l1 g1) (And.intro l2 g2)))
    have HLA := Aside0.mk (flat_len spB 1560 (Sp.take i) (fun y hy => listsB_len _ (H64P.out y (List.mem_of_mem_take hy))))
    have HSY : Aside0 (spB Sp[i] = listsB [Sp[i].f0, Sp[i].f1, Sp[i].f2]) := ⟨rfl⟩
    clear hel l0 g0 l1 g1 l2 g2
    generalize Sp[i] = y at *
    go_wp2_with (first
     | ((with_reducible refine gate_dst (N := 7) rfl ?_); (try (refine gate_guard (by rfl) ?_; dsimp only)); refine box_event ?hg (N := 7) ?hd (cs := #[.slice none 0 0, .slice none 0 0, .slice none 0 0]) (t := 41) ?hr ?_; (case hd => rfl); (case hg => rfl); (case hr => first | (go_simp; done) | (go_simp; rfl)); intro gb hg w31 hbox hb; (have HBX2 := Aside0.mk (And.intro hg (And.intro hbox hb))); (have hy0 := (blk_cell hbox 0).trans rfl); (have hy1 := (blk_cell hbox 1).trans rfl); (have hy2 := (blk_cell hbox 2).trans rfl); (have hf0 := blk_frozen hbox 0); (have hf1 := blk_frozen hbox 1); (have hf2 := blk_frozen hbox 2); clear hg hbox hb)
     | ((with_reducible refine gate_store (t := 41) (p := 7) rfl ?_); refine store_event (t := 41) (p := 7) (v := ?vo_) (w1 := (((w31.setCell ⟨gb, 0, none⟩ (.slice B0 y.f0.length d0)).setCell ⟨gb, 1, none⟩ (.slice B1 y.f1.length d1)).setCell ⟨gb, 2, none⟩ (.slice B2 y.f2.length d2))) ?hg ?ho ?hn ?hr ?_; (case ho => rfl); (case hg => rfl); (case hn => rfl); (case hr => first | (go_simp; done) | (go_simp; rfl)); intro w32 hw; (have hb32 : Below wr.heap.size wr w32 := by rw [hw]; exact ((HBX2.out.2.2.setCell (p := ⟨gb, 0, none⟩) (Nat.le_of_eq HBX2.out.1.symm) _).setCell (p := ⟨gb, 1, none⟩) (Nat.le_of_eq HBX2.out.1.symm) _).setCell (p := ⟨gb, 2, none⟩) (Nat.le_of_eq HBX2.out.1.symm) _); (have hq32 : w32.heap[gb]? = some (.cells #[.slice B0 y.f0.length d0, .slice B1 y.f1.length d1, .slice B2 y.f2.length d2] 41 (0, 0)) := by rw [hw]; exact blk_set (blk_set (blk_set HBX2.out.2.1 0 _) 1 _) 2 _); (have HE := Aside0.mk (HR.out.later HBw.out hb32)); clear hy0 hy1 hy2 hf0 hf1 hf2 hw; (have hy0 := (blk_cell hq32 0).trans rfl); (have hy1 := (blk_cell hq32 1).trans rfl); (have hy2 := (blk_cell hq32 2).trans rfl); clear z0 z1 z2 z3 z4 z5 z6; (obtain ⟨z0, z1, z2, z3, z4, z5, z6⟩ := HX.out _ HE.out.1.2); clear hq32 hb32)
     | (go_at_call 31; refine ((HE.out.later HBw.out (below_alloc (Below.refl _ _) _)).lists HBw.out [y.f0, y.f1, y.f2] _ _ (fun w1 hb hk => C_three (lit_later HE.out.lt hk) (Kd.C_below HG.out.1.2 (HE.out.rows hb HWB.out)) HG.out.1.1 (Kd.C_below HG.out.2.1.2 (HE.out.rows hb HWB.out)) HG.out.2.1.1 (Kd.C_below HG.out.2.2.2 (HE.out.rows hb HWB.out)) HG.out.2.2.1) H64Y.out (by simp) (by have e1 := HLQ.out; have e2 := HLA.out; have e3 := HLP.out; rw [List.length_take] at e2; rw [List.length_append]; omega)).mono ?_; rintro e w33 ⟨rfl, hE, _⟩; (have HE3 := Aside0.mk hE); clear hE))
    go_roundw
    case rel => exact ⟨i + 1, by omega, by go_num, ⟨by rw [HSN.out, HSY.out, ← List.append_assoc]; exact HE3.out⟩⟩
    case measure => simp [RowKit.intOf]; omega
   ·have e : Sp.take i = Sp := List.take_of_length_le (by omega)
    have HR7 := HR.out
    rw [e] at HR7
    have HR7 := Aside0.mk HR7
    have HL7 : Aside0 ((Q6 ++ Sp.flatMap spB).length ≤ 2000000) := ⟨by rw [List.length_append]; have e1 := flat_len spB 1560 Sp (fun y hy => listsB_len _ (H64P.out y hy)); have e2 := HLQ.out; have e3 := HLP.out; omega⟩
    clear e HR
    go_wp2_with (go_at_call 28; refine (HR7.out.num HBw.out _ (Nat.le_trans HL7.out (by decide))).mono ?_; rintro e w40 ⟨rfl, hE, _⟩; (have H8 := Aside0.mk hE); clear z0 z1 z2 z3 z4 z5 z6; (obtain ⟨z0, z1, z2, z3, z4, z5, z6⟩ := HX.out _ hE.1.2); clear hE)
    obtain ⟨Q8, hQ8, HQ'⟩ := EncAt.ex H8
    have HLQ8 : Aside0 (Q8.length ≤ 3000000) := ⟨by rw [hQ8, List.length_append]; have e1 := HL7.out; have e2 := encN_len (Cu.length : Int); omega⟩
    have HQ8 := Aside0.mk hQ8
    clear hQ8 HR7 H8 HL7
    go_loopw [71] (fun v71 wr => ∃ (j : Nat), j ≤ Cu.length ∧ v71 = .int .i64 (j : Int) ∧ Aside0 (EncAt B (Q8 ++ (Cu.take j).flatMap cuB) wB wr)) (fun v71 _ => (Cu.length - (RowKit.intOf v71).toNat))
    case atStart => exact ⟨0, Nat.zero_le _, rfl, ⟨by simpa using HQ'.out⟩⟩
    case round =>
     obtain ⟨j, hj, rfl, HR⟩ := hrel
     obtain ⟨z0, z1, z2, z3, z4, z5, z6⟩ := HX.out _ HR.out.1.2
     have HLA := Aside0.mk (flat_len cuB 528 (Cu.take j) (fun y hy => by have h1 := listsB_len [y.f0] (fun x hx => by rw [List.mem_singleton.1 hx]; exact H64C.out y (List.mem_of_mem_take hy)); have h2 := encI_len y.f1; unfold cuB; rw [List.length_append]; simp only [List.length_cons, List.length_nil] at h1; omega))
     by_cases hlt : j < Cu.length
     ·obtain ⟨ad2, B0, d0, rfl, hx0, hx1, l0, g0⟩ := at_T43 HR6.out (j : Int) (by omega) (by omega)
      have hWr := HR.out.rows0 (Below.refl _ _) HWB.out
      replace hx0 := (hWr.cell (World.block_lt_of_cell? w _ hx0)).trans hx0
      replace hx1 := (hWr.cell (World.block_lt_of_cell? w _ hx1)).trans hx1
      clear hWr
      have hj200 : j < 200 := by have := HLC.out; omega
      have hel : rd_T43 Cu (j : Int) = Cu[j] := by simp [rd_T43, List.getD_eq_getElem?_getD, List.getElem?_eq_getElem hlt]
      rw [hel] at hx0 hx1 l0 g0
      rw [show ((j : Int)).toNat = j from rfl] at hx0 hx1
      have H64Y := Aside0.mk (H64C.out Cu[j] (List.getElem_mem hlt))
      have HSN := Aside0.mk (flat_snoc cuB Cu hlt)
      have HG := Aside0.mk (And.intro l0 g0)
      have HSY : Aside0 (cuB Cu[j] = listsB [Cu[j].f0] ++ encI Cu[j].f1) := ⟨rfl⟩
      clear hel l0 g0
      generalize Cu[j] = y at *
      go_wp2_with (first
       | ((with_reducible refine gate_dst (N := 9) rfl ?_); (try (refine gate_guard (by rfl) ?_; dsimp only)); refine box_event ?hg (N := 9) ?hd (cs := #[.slice none 0 0, .int .i64 0]) (t := 43) ?hr ?_; (case hd => rfl); (case hg => rfl); (case hr => first | (go_simp; done) | (go_simp; rfl)); intro gb hg w51 hbox hb; (have HBX2 := Aside0.mk (And.intro hg (And.intro hbox hb))); (have hy0 := (blk_cell hbox 0).trans rfl); (have hy1 := (blk_cell hbox 1).trans rfl); (have hf0 := blk_frozen hbox 0); (have hf1 := blk_frozen hbox 1); clear hg hbox hb)
       | ((with_reducible refine gate_store (t := 43) (p := 9) rfl ?_); refine store_event (t := 43) (p := 9) (v := ?vo_c) (w1 := ((w51.setCell ⟨gb, 0, none⟩ (.slice B0 y.f0.length d0)).setCell ⟨gb, 1, none⟩ (.int .i64 y.f1))) ?hg ?ho ?hn ?hr ?_; (case ho => rfl); (case hg => rfl); (case hn => rfl); (case hr => first | (go_simp; done) | (go_simp; rfl)); intro w52 hw; (have hb52 : Below wr.heap.size wr w52 := by rw [hw]; exact (HBX2.out.2.2.setCell (p := ⟨gb, 0, none⟩) (Nat.le_of_eq HBX2.out.1.symm) _).setCell (p := ⟨gb, 1, none⟩) (Nat.le_of_eq HBX2.out.1.symm) _); (have HQ52 : Aside0 (w52.heap[gb]? = some (.cells #[.slice B0 y.f0.length d0, .int .i64 y.f1] 43 (0, 0))) := ⟨by rw [hw]; exact blk_set (blk_set HBX2.out.2.1 0 _) 1 _⟩); (have HE := Aside0.mk (HR.out.later HBw.out hb52)); clear hy0 hy1 hf0 hf1 hw; (have hy0 := (blk_cell HQ52.out 0).trans rfl); (have hy1 := (blk_cell HQ52.out 1).trans rfl); clear z0 z1 z2 z3 z4 z5 z6 hb52)
       | (go_at_call 29; refine (H54.out.write HBw.out (by have := encI_len y.f1; omega) (by have e1 := HLQ8.out; have e2 := HLA.out; have e3 := HLC.out; have e4 := listsB_len [y.f0] (fun x hx => by rw [List.mem_singleton.1 hx]; exact H64Y.out); simp only [List.length_cons, List.length_nil] at e4; rw [List.length_take] at e2; rw [List.length_append, List.length_append]; omega)).mono ?_; rintro e w55 ⟨rfl, hE, _⟩; (have HE5 := Aside0.mk hE); clear hE)
       | (go_at_call 33; refine (wint_c _ _).mono ?_; rintro e w54 ⟨rfl, hb⟩; (have H54 := Aside0.mk (HE3.out.later HBw.out hb)); clear hb)
       | (go_at_call 31; refine ((HE.out.later HBw.out (below_alloc (Below.refl _ _) _)).lists HBw.out [y.f0] _ _ (fun w1 hb hk => C_one (lit_later HE.out.lt hk) (Kd.C_below HG.out.2 (HE.out.rows hb HWB.out)) HG.out.1) (fun x hx => by rw [List.mem_singleton.1 hx]; exact H64Y.out) (by simp) (by have e1 := HLQ8.out; have e2 := HLA.out; have e3 := HLC.out; rw [List.length_take] at e2; rw [List.length_append]; omega)).mono ?_; rintro e w53 ⟨rfl, hE, hk⟩; (have HE3 := Aside0.mk hE); (have hne : gb ≠ B := by have e1 := HBX2.out.1; have e2 := HR.out.lt; omega); (have hq53 := hk gb #[.slice B0 y.f0.length d0, .int .i64 y.f1] 43 (0, 0) hne (by decide) (blk_alloc HQ52.out _)); clear hne; clear hy0 hy1; (have hy0 := (blk_cell hq53 0).trans rfl); (have hy1 := (blk_cell hq53 1).trans rfl); clear hE hk hq53))
      go_roundw
      case rel => exact ⟨j + 1, by omega, by go_num, ⟨by rw [HSN.out, HSY.out]; have h := HE5.out; simpa [List.append_assoc] using h⟩⟩
      case measure => simp [RowKit.intOf]; omega
     ·have e : Cu.take j = Cu := List.take_of_length_le (by omega)
      have HR9 := HR.out
      rw [e] at HR9
      have HR9 := Aside0.mk HR9
      clear e HR
      go_wp2_with (go_at_call 34; refine (Tryd.Builder_String_any B B (strOfNums (Q8 ++ Cu.flatMap cuB)).data.toList _ HR9.out.1.1 (Nat.le_trans HBw.out HR9.out.1.2.size)).mono ?_; rintro e w60 ⟨rfl, hb⟩; (have H60 := Aside0.mk (HR9.out.rows0 hb HWB.out)); clear hb)
      go_ret
      have hfin : ∀ n, Q6 = (((((([] ++ encN a0) ++ encN (if n = true then 1 else 0)) ++ listsB [S, U]) ++ encN (Se.length : Int)) ++ listsB Se) ++ encN (Sp.length : Int)) → Q8 ++ Cu.flatMap cuB = encAns a0 n S U Se Sp Cu := fun n hn => by
       rw [HQ8.out, hn]
       unfold encAns
       simp only [List.nil_append, List.append_assoc]
       rfl
      first | rw [← hfin false HQ6.out] | rw [← hfin true HQ6.out]
      exact ⟨rfl, H60.out⟩
end Go.Proofs.YtlekdhejgdfnpaaDoor.P
/- answer.Encode, walked: what may not be. -/
namespace Go.Proofs.YtlekdhejgdfnpaaDoor.P
open Go.RowKit Go.Lib Go.Proofs.YtlekdhejgdfnpaaDoorW.PrintWords Go.Proofs.YtlekdhejgdfnpaaDoorW.PrintLast Go.Proofs.YtlekdhejgdfnpaaDoorW.PrintMore
open Wr
set_option linter.unusedVariables false
set_option linter.unusedSimpArgs false

set_option maxHeartbeats 4000000 in
set_option maxRecDepth 100000 in
theorem encode_no (k : Nat) (c : Int) (hc0 : c ≠ 0) (a0 : Int) (no : Bool) (A2 : Option Addr) (c2 : Nat) (S : List Int) (A3 : Option Addr) (c3 : Nat) (U : List Int) (A4 : Option Addr) (c4 : Nat) (Se : List (List Int)) (A5 : Option Addr) (c5 : Nat) (Sp : List Spl) (A6 : Option Addr) (c6 : Nat) (Cu : List Cut) (w : World)
 (hr2 : Kd.C (Kd.int .i64) w A2 S.length S) (hc2 : S.length ≤ c2) (hr3 : Kd.C (Kd.int .i64) w A3 U.length U) (hc3 : U.length ≤ c3) (hr4 : Kd.C (Kd.slice 3 (Kd.int .i64)) w A4 Se.length Se) (hc4 : Se.length ≤ c4) (hr5 : Kd.C k41 w A5 Sp.length Sp) (hc5 : Sp.length ≤ c5) (hr6 : Kd.C k43 w A6 Cu.length Cu) (hc6 : Cu.length ≤ c6)
 (hck : answer_Check.f k a0 no S U Se Sp Cu = some c) :
 Calls Tryd.prog 13 #[.agg #[.int .i64 a0, .bool no, .slice A2 S.length c2, .slice A3 U.length c3, .slice A4 Se.length c4, .slice A5 Sp.length c5, .slice A6 Cu.length c6]] w fun e w' => e = .returned (.string (strOfNums [])) ∧ Below w.heap.size w w' := by
 obtain ⟨W1, hW1⟩ : ∃ W1, W1 = w.alloc (Obj.cells #[.int .i64 a0, .bool no, .slice A2 S.length c2, .slice A3 U.length c3, .slice A4 Se.length c4, .slice A5 Sp.length c5, .slice A6 Cu.length c6] 27) := ⟨_, rfl⟩
 have hB1 : Below w.heap.size w W1 := by subst hW1; exact (Below.refl _ _).alloc (Nat.le_refl _) _
 have HCK := Aside0.mk (fun (W : World) (hW : Below w.heap.size w W) => answer_Check.calls k a0 no (fun _ => True) A2 c2 S (fun _ => True) A3 c3 U (fun _ => True) A4 c4 Se (fun _ => True) A5 c5 Sp (fun _ => True) A6 c6 Cu c W (V_of_C (Kd.heap_int _) (Kd.C_below hr2 hW) hc2) (V_of_C (Kd.heap_int _) (Kd.C_below hr3 hW) hc3) (V_of_C (Kd.heap_slice _ (Kd.heap_int _)) (Kd.C_below hr4 hW) hc4) (V_of_C (Kd.heap_iso _ (Kd.heap_pair (Kd.heap_slice _ (Kd.heap_int _)) (Kd.heap_pair (Kd.heap_slice _ (Kd.heap_int _)) (Kd.heap_slice _ (Kd.heap_int _))))) (Kd.C_below hr5 hW) hc5) (V_of_C (Kd.heap_iso _ (Kd.heap_pair (Kd.heap_slice _ (Kd.heap_int _)) (Kd.heap_int _))) (Kd.C_below hr6 hW) hc6) hck)
 have HBX := Aside0.mk hB1
 have HW1 := Aside0.mk hW1
 have hcb : (c != 0) = true := bne_iff_ne.mpr hc0
 have hcb2 : (c == 0) = false := beq_eq_false_iff_ne.mpr hc0
 clear hr2 hc2 hr3 hc3 hr4 hc4 hr5 hc5 hr6 hc6 hck hB1 hW1 hc0
 go_enter Tryd.func13, Tryd.ntmps13
 go_wp2_with (go_at_call 11; rw [← HW1.out]; refine (HCK.out _ HBX.out).mono ?_; rintro e w2 ⟨rfl, hb⟩; (have HB2 := Aside0.mk (HBX.out.trans (hb.mono HBX.out.size))); clear hb)
 go_ret
 exact ⟨rfl, HB2.out⟩
end Go.Proofs.YtlekdhejgdfnpaaDoor.P
/- answer.Check's value. -/
namespace Go.Proofs.YtlekdhejgdfnpaaDoor.P
open Go.RowKit Go.Proofs.YtlekdhejgdfnpaaDoorW.PrintWords Go.Proofs.YtlekdhejgdfnpaaDoorW.PrintLast Go.Proofs.YtlekdhejgdfnpaaDoorW.PrintMore
set_option linter.unusedVariables false
set_option linter.unusedSimpArgs false

theorem rd_41 {l : List Spl} {i : Nat} (h : i < l.length) : rd_T41 l (i : Int) = l[i] := by simp [rd_T41, List.getD_eq_getElem?_getD, List.getElem?_eq_getElem h]
theorem rd_43 {l : List Cut} {i : Nat} (h : i < l.length) : rd_T43 l (i : Int) = l[i] := by simp [rd_T43, List.getD_eq_getElem?_getD, List.getElem?_eq_getElem h]
def spL (y : Spl) : List (List Int) := [y.f0, y.f1, y.f2]
def cuL (c : Cut) : List (List Int) := [c.f0, [c.f1]]
theorem flat_len' {α β : Type} (f : α → List β) (m : Nat) : ∀ (l : List α), (∀ x ∈ l, (f x).length ≤ m) → (l.flatMap f).length ≤ m * l.length := by
 intro l
 induction l with
 | nil => intro _; simp
 | cons x r ih =>
  intro h
  have h1 := h x (List.mem_cons_self ..)
  have h2 := ih (fun y hy => h y (List.mem_cons_of_mem _ hy))
  rw [List.flatMap_cons, List.length_append, List.length_cons, Nat.mul_add]
  omega
theorem chk_l1 (a0 : Int) (no : Bool) (S U : List Int) (Se : List (List Int)) (Sp : List Spl) (Cu : List Cut) (hc : Cu.length ≤ 1000000) (L : List (List Int)) (hL : L.length ≤ 10000000) : ∀ (d i : Nat), Cu.length - i = d → i ≤ Cu.length →
 Ev (fun k => answer_Check.l1 k (L ++ (Cu.take i).flatMap cuL) Cu (Cu.length : Int) (i : Int) a0 no S U Se Sp Cu) (if (decide (0 ≤ a0) && decide (a0 < 6) && decide (Se.length ≤ 200) && decide (Sp.length ≤ 65) && decide (Cu.length ≤ 200) && !((L ++ Cu.flatMap cuL).any badA)) = true then 0 else 230) := by
 intro d
 induction d with
 | zero =>
  intro i h1 h2
  have e : Cu.take i = Cu := List.take_of_length_le (by omega)
  rw [e]
  refine Ev.step (fun k => by rw [answer_Check.l1]) ?_
  refine Ev.ifn (by omega) ?_
  by_cases c1 : a0 < 0
  ·refine Ev.ifp c1 (Ev.val ?_)
   rw [decide_eq_false (show ¬ 0 ≤ a0 by omega)]; rfl
  refine Ev.ifn c1 ?_
  rw [decide_eq_true (show 0 ≤ a0 by omega), Bool.true_and]
  by_cases c2 : a0 ≥ 6
  ·refine Ev.ifp c2 (Ev.val ?_)
   rw [decide_eq_false (show ¬ a0 < 6 by omega)]; rfl
  refine Ev.ifn c2 ?_
  rw [decide_eq_true (show a0 < 6 by omega), Bool.true_and]
  by_cases c3 : (Se.length : Int) > 200
  ·refine Ev.ifp c3 (Ev.val ?_)
   rw [decide_eq_false (show ¬ Se.length ≤ 200 by omega)]; rfl
  refine Ev.ifn c3 ?_
  rw [decide_eq_true (show Se.length ≤ 200 by omega), Bool.true_and]
  by_cases c4 : (Sp.length : Int) > 65
  ·refine Ev.ifp c4 (Ev.val ?_)
   rw [decide_eq_false (show ¬ Sp.length ≤ 65 by omega)]; rfl
  refine Ev.ifn c4 ?_
  rw [decide_eq_true (show Sp.length ≤ 65 by omega), Bool.true_and]
  by_cases c5 : (Cu.length : Int) > 200
  ·refine Ev.ifp c5 (Ev.val ?_)
   rw [decide_eq_false (show ¬ Cu.length ≤ 200 by omega)]; rfl
  refine Ev.ifn c5 ?_
  rw [decide_eq_true (show Cu.length ≤ 200 by omega), Bool.true_and]
  refine Ev.bnd ?_
  cases (L ++ Cu.flatMap cuL).any badA with
  | true => exact Ev.ifp rfl (Ev.val rfl)
  | false => exact Ev.ifn (by decide) (Ev.val rfl)
 | succ d ih =>
  intro i h1 h2
  have hi : i < Cu.length := by omega
  have hl : ((Cu.take i).flatMap cuL).length ≤ 2 * i := by
   have := flat_len' cuL 2 (Cu.take i) (fun x _ => Nat.le_refl _)
   rw [List.length_take] at this; omega
  refine Ev.step (fun k => by rw [answer_Check.l1]) ?_
  refine Ev.ifp (by omega) ?_
  refine Ev.ifp (by omega) ?_
  refine Ev.ifp (by omega) ?_
  rw [rd_43 hi]
  refine Ev.bnd ?_
  refine Ev.ifp (by rw [List.length_append]; simp only [List.length_cons, List.length_nil]; omega) ?_
  have hw : wrap64 ((i : Int) + 1) = ((i + 1 : Nat) : Int) := by unfold wrap64; omega
  have e : L ++ (Cu.take i).flatMap cuL ++ [Cu[i].f0, [Cu[i].f1]] = L ++ (Cu.take (i + 1)).flatMap cuL := by
   rw [List.take_succ_eq_append_getElem hi, List.flatMap_append, List.append_assoc]; simp [cuL]
  rw [hw, e]
  exact ih (i + 1) (by omega) (by omega)
theorem chk_l0 (a0 : Int) (no : Bool) (S U : List Int) (Se : List (List Int)) (Sp : List Spl) (Cu : List Cut) (hs : Sp.length ≤ 1000000) (hc : Cu.length ≤ 1000000) (L : List (List Int)) (hL : L.length ≤ 5000000) : ∀ (d i : Nat), Sp.length - i = d → i ≤ Sp.length →
 Ev (fun k => answer_Check.l0 k (L ++ (Sp.take i).flatMap spL) Sp (Sp.length : Int) (i : Int) a0 no S U Se Sp Cu) (if (decide (0 ≤ a0) && decide (a0 < 6) && decide (Se.length ≤ 200) && decide (Sp.length ≤ 65) && decide (Cu.length ≤ 200) && !((L ++ Sp.flatMap spL ++ Cu.flatMap cuL).any badA)) = true then 0 else 230) := by
 intro d
 induction d with
 | zero =>
  intro i h1 h2
  have e : Sp.take i = Sp := List.take_of_length_le (by omega)
  have hl := flat_len' spL 3 Sp (fun x _ => Nat.le_refl _)
  rw [e]
  refine Ev.step (fun k => by rw [answer_Check.l0]) ?_
  refine Ev.ifn (by omega) ?_
  have := chk_l1 a0 no S U Se Sp Cu hc (L ++ Sp.flatMap spL) (by rw [List.length_append]; omega) Cu.length 0 rfl (Nat.zero_le _)
  simpa using this
 | succ d ih =>
  intro i h1 h2
  have hi : i < Sp.length := by omega
  have hl : ((Sp.take i).flatMap spL).length ≤ 3 * i := by
   have := flat_len' spL 3 (Sp.take i) (fun x _ => Nat.le_refl _)
   rw [List.length_take] at this; omega
  refine Ev.step (fun k => by rw [answer_Check.l0]) ?_
  refine Ev.ifp (by omega) ?_
  refine Ev.ifp (by omega) ?_
  refine Ev.ifp (by omega) ?_
  rw [rd_41 hi]
  refine Ev.bnd ?_
  refine Ev.ifp (by rw [List.length_append]; simp only [List.length_cons, List.length_nil]; omega) ?_
  have hw : wrap64 ((i : Int) + 1) = ((i + 1 : Nat) : Int) := by unfold wrap64; omega
  have e : L ++ (Sp.take i).flatMap spL ++ [Sp[i].f0, Sp[i].f1, Sp[i].f2] = L ++ (Sp.take (i + 1)).flatMap spL := by
   rw [List.take_succ_eq_append_getElem hi, List.flatMap_append, List.append_assoc]; simp [spL]
  rw [hw, e]
  exact ih (i + 1) (by omega) (by omega)
theorem check_ev (a0 : Int) (no : Bool) (S U : List Int) (Se : List (List Int)) (Sp : List Spl) (Cu : List Cut) (he : Se.length ≤ 1000000) (hs : Sp.length ≤ 1000000) (hc : Cu.length ≤ 1000000) :
 Ev (fun k => answer_Check.f k a0 no S U Se Sp Cu) (if okAns a0 S U Se Sp Cu = true then 0 else 230) := by
 unfold answer_Check.f
 refine Ev.bnd ?_
 refine Ev.ifp (by simp only [List.length_cons, List.length_nil]; omega) ?_
 have := chk_l0 a0 no S U Se Sp Cu hs hc ([S, U] ++ Se) (by rw [List.length_append]; simp only [List.length_cons, List.length_nil]; omega) Sp.length 0 rfl (Nat.zero_le _)
 unfold okAns
 simpa [spL, cuL] using this
end Go.Proofs.YtlekdhejgdfnpaaDoor.P
/- answer.Encode's contract. -/
namespace Go.Proofs.YtlekdhejgdfnpaaDoor.P
open Go.RowKit Go.Proofs.YtlekdhejgdfnpaaDoorW.PrintWords Go.Proofs.YtlekdhejgdfnpaaDoorW.PrintLast Go.Proofs.YtlekdhejgdfnpaaDoorW.PrintMore
open Wr
set_option linter.unusedVariables false
set_option linter.unusedSimpArgs false

theorem okAns_len {a0 : Int} {S U : List Int} {Se : List (List Int)} {Sp : List Spl} {Cu : List Cut} (h : okAns a0 S U Se Sp Cu = true) :
 (∀ x ∈ [S, U], x.length ≤ 64) ∧ (∀ x ∈ Se, x.length ≤ 64) ∧ Se.length ≤ 200 ∧ (∀ y ∈ Sp, ∀ x ∈ [y.f0, y.f1, y.f2], x.length ≤ 64) ∧ Sp.length ≤ 65 ∧ (∀ c ∈ Cu, c.f0.length ≤ 64) ∧ Cu.length ≤ 200 := by
 unfold okAns at h
 simp only [Bool.and_eq_true, decide_eq_true_eq, Bool.not_eq_true', List.any_eq_false] at h
 obtain ⟨⟨⟨⟨⟨_, _⟩, h1⟩, h2⟩, h3⟩, h4⟩ := h
 have key : ∀ x, x ∈ ([S, U] ++ Se ++ Sp.flatMap (fun y => [y.f0, y.f1, y.f2]) ++ Cu.flatMap (fun c => [c.f0, [c.f1]])) → x.length ≤ 64 := fun x hx => few_len (by have := h4 x hx; simpa using this)
 refine ⟨fun x hx => key x ?_, fun x hx => key x ?_, h1, fun y hy x hx => key x ?_, h2, fun c hc => key _ ?_, h3⟩
 ·exact List.mem_append_left _ (List.mem_append_left _ (List.mem_append_left _ hx))
 ·exact List.mem_append_left _ (List.mem_append_left _ (List.mem_append_right _ hx))
 ·exact List.mem_append_left _ (List.mem_append_right _ (List.mem_flatMap.2 ⟨y, hy, hx⟩))
 ·exact List.mem_append_right _ (List.mem_flatMap.2 ⟨c, hc, List.mem_cons_self ..⟩)
def answer_Encode.f (a0 : Int) (no : Bool) (S U : List Int) (Se : List (List Int)) (Sp : List Spl) (Cu : List Cut) : Option ByteArray :=
 if Se.length ≤ 1000000 ∧ Sp.length ≤ 1000000 ∧ Cu.length ≤ 1000000 then some (strOfNums (if okAns a0 S U Se Sp Cu = true then encAns a0 no S U Se Sp Cu else [])) else none
theorem answer_Encode.calls (a0_0 : Int) (a0_1 : Bool) (A0_2 : Option Addr) (c0_2 : Nat) (l0_2 : List Int) (A0_3 : Option Addr) (c0_3 : Nat) (l0_3 : List Int) (A0_4 : Option Addr) (c0_4 : Nat) (l0_4 : List (List Int)) (A0_5 : Option Addr) (c0_5 : Nat) (l0_5 : List Spl) (A0_6 : Option Addr) (c0_6 : Nat) (l0_6 : List Cut) (r : ByteArray) (w : World)
 (hr0_2 : Kd.C (Kd.int .i64) w A0_2 l0_2.length l0_2) (hc0_2 : l0_2.length ≤ c0_2) (hr0_3 : Kd.C (Kd.int .i64) w A0_3 l0_3.length l0_3) (hc0_3 : l0_3.length ≤ c0_3) (hr0_4 : Kd.C (Kd.slice 3 (Kd.int .i64)) w A0_4 l0_4.length l0_4) (hc0_4 : l0_4.length ≤ c0_4) (hr0_5 : Kd.C k41 w A0_5 l0_5.length l0_5) (hc0_5 : l0_5.length ≤ c0_5) (hr0_6 : Kd.C k43 w A0_6 l0_6.length l0_6) (hc0_6 : l0_6.length ≤ c0_6)
 (h : answer_Encode.f a0_0 a0_1 l0_2 l0_3 l0_4 l0_5 l0_6 = some r) :
 Calls Tryd.prog 13 #[.agg #[.int .i64 a0_0, .bool a0_1, .slice A0_2 l0_2.length c0_2, .slice A0_3 l0_3.length c0_3, .slice A0_4 l0_4.length c0_4, .slice A0_5 l0_5.length c0_5, .slice A0_6 l0_6.length c0_6]] w fun e w' => e = .returned (.string r) ∧ Below w.heap.size w w' := by
 unfold answer_Encode.f at h
 by_cases hl : l0_4.length ≤ 1000000 ∧ l0_5.length ≤ 1000000 ∧ l0_6.length ≤ 1000000
 ·rw [if_pos hl] at h
  obtain rfl := Option.some.inj h
  obtain ⟨k, hk⟩ := (check_ev a0_0 a0_1 l0_2 l0_3 l0_4 l0_5 l0_6 hl.1 hl.2.1 hl.2.2).rounds
  cases ho : okAns a0_0 l0_2 l0_3 l0_4 l0_5 l0_6 with
  | true =>
   rw [ho, if_pos rfl] at hk
   rw [if_pos rfl]
   obtain ⟨h1, h2, h3, h4, h5, h6, h7⟩ := okAns_len ho
   exact encode_ok k a0_0 a0_1 A0_2 c0_2 l0_2 A0_3 c0_3 l0_3 A0_4 c0_4 l0_4 A0_5 c0_5 l0_5 A0_6 c0_6 l0_6 w hr0_2 hc0_2 hr0_3 hc0_3 hr0_4 hc0_4 hr0_5 hc0_5 hr0_6 hc0_6 hk h1 h2 h3 h4 h5 h6 h7
  | false =>
   rw [ho, if_neg (by decide)] at hk
   rw [if_neg (by decide)]
   exact encode_no k 230 (by decide) a0_0 a0_1 A0_2 c0_2 l0_2 A0_3 c0_3 l0_3 A0_4 c0_4 l0_4 A0_5 c0_5 l0_5 A0_6 c0_6 l0_6 w hr0_2 hc0_2 hr0_3 hc0_3 hr0_4 hc0_4 hr0_5 hc0_5 hr0_6 hc0_6 hk
 ·rw [if_neg hl] at h; cases h
end Go.Proofs.YtlekdhejgdfnpaaDoor.P
/- answer.Decode: what it tells, in closed words; what its walk stands on. -/
namespace Go.Proofs.YtlekdhejgdfnpaaDoor.P
open Go.RowKit Go.Proofs.YtlekdhejgdfnpaaDoorW.PrintWords Go.Proofs.YtlekdhejgdfnpaaDoorW.PrintLast Go.Proofs.YtlekdhejgdfnpaaDoorW.PrintMore
open Wr
set_option linter.unusedVariables false
set_option linter.unusedSimpArgs false

def zeroV : AnsV := ⟨0, 0, [], [], [], [], []⟩
def okV (x : AnsV) : Bool := okAns x.kd x.S x.U x.Se x.Sp x.Cu
def decV (S : List Int) : AnsV × Int × Int :=
 match (ansF S (0, none)).2 with
 | (_, some pc) => (zeroV, pc.2, (pc.1 : Int))
 | (p, none) => if p < S.length then (zeroV, 13, (p : Int)) else if (ansF S (0, none)).1.no > 1 ∨ okV (ansF S (0, none)).1 = false then (zeroV, 230, 0) else ((ansF S (0, none)).1, 0, (p : Int))

theorem RowsA.keep {W W1 : World} {n0 : Nat} {vS vU vSe vSp vCu : Value} {x : AnsV} {K : Nat → Prop} (h : RowsA W n0 vS vU vSe vSp vCu x) (hk : Kept W W1 K)
 (ht : ∀ k c t, K k → W.heap[k]? = some (.cells c t (0, 0)) → t = 27 ∨ t = 48 ∨ t = 79) : RowsA W1 n0 vS vU vSe vSp vCu x := by
 obtain ⟨n1, n2, a1, a2, a3, h1, h2, h3, h4, h5⟩ := h
 have hg : ∀ (L : List Nat), (∀ q ∈ L, q ≠ 27 ∧ q ≠ 48 ∧ q ≠ 79) → ∀ k c t, K k → W.heap[k]? = some (.cells c t (0, 0)) → ∀ q ∈ L, q ≠ t := fun L hL k c t e hc q hq => by
  have := hL q hq
  rcases ht k c t e hc with e | e | e <;> rw [e]
  ·exact this.1
  ·exact this.2.1
  ·exact this.2.2
 exact ⟨n1, n2, a1, a2, Nat.le_trans a3 hk.1, R_K h1 hk (hg _ (fun q hq => by rw [int_E hq]; decide)), R_K h2 hk (hg _ (fun q hq => by rw [int_E hq]; decide)), S_K h3 hk (hg _ (by decide)), S_K h4 hk (hg _ (by decide)), S_K h5 hk (hg _ (by decide))⟩
theorem RowsA.below {W W1 : World} {n0 : Nat} {vS vU vSe vSp vCu : Value} {x : AnsV} (h : RowsA W n0 vS vU vSe vSp vCu x) (hb : Below W.heap.size W W1) : RowsA W1 n0 vS vU vSe vSp vCu x :=
 h.keep (K := fun _ => False) (Kept.of_below hb _) (fun _ _ _ hk => hk.elim)
theorem RowsA.keepX {W W1 : World} {n0 X : Nat} {vS vU vSe vSp vCu : Value} {x : AnsV} {c : Array Value} (h : RowsA W n0 vS vU vSe vSp vCu x) (hbx : W.heap[X]? = some (.cells c 27 (0, 0))) (hk : Kept W W1 (fun k => k = X)) : RowsA W1 n0 vS vU vSe vSp vCu x :=
 h.keep hk (fun k c' t e hc => by subst e; exact .inl (blk_t hc hbx))
theorem RowsA.lower {W : World} {n0 m0 : Nat} {vS vU vSe vSp vCu : Value} {x : AnsV} (h : RowsA W n0 vS vU vSe vSp vCu x) (hm : m0 ≤ n0) : RowsA W m0 vS vU vSe vSp vCu x := by
 obtain ⟨n1, n2, a1, a2, a3, h1, h2, h3, h4, h5⟩ := h
 exact ⟨n1, n2, Nat.le_trans hm a1, a2, a3, Kd.R_lower h1 hm, h2, h3, h4, h5⟩
theorem RowsA.nil (W : World) (n0 : Nat) (h : n0 ≤ W.heap.size) : RowsA W n0 (.slice none 0 0) (.slice none 0 0) (.slice none 0 0) (.slice none 0 0) (.slice none 0 0) zeroV :=
 ⟨n0, n0, Nat.le_refl _, Nat.le_refl _, h, Kd.R_nil _ _ _ _ _, Kd.R_nil _ _ _ _ _, Kd.S_nil _ _ _ _ _, Kd.S_nil _ _ _ _ _, Kd.S_nil _ _ _ _ _⟩
theorem RowsA.slices {W : World} {n0 : Nat} {vS vU vSe vSp vCu : Value} {x : AnsV} (h : RowsA W n0 vS vU vSe vSp vCu x) : ∃ A2 c2 A3 c3 A4 c4 A5 c5 A6 c6, vS = .slice A2 x.S.length c2 ∧ vU = .slice A3 x.U.length c3 ∧ vSe = .slice A4 x.Se.length c4 ∧ vSp = .slice A5 x.Sp.length c5 ∧ vCu = .slice A6 x.Cu.length c6 := by
 obtain ⟨n1, n2, a1, a2, a3, h1, h2, h3, h4, h5⟩ := h
 obtain ⟨A2, c2, rfl⟩ := Kd.R_slice h1
 obtain ⟨A3, c3, rfl⟩ := Kd.R_slice h2
 obtain ⟨A4, c4, rfl⟩ := Kd.S_slice h3
 obtain ⟨A5, c5, rfl⟩ := Kd.S_slice h4
 obtain ⟨A6, c6, rfl⟩ := Kd.S_slice h5
 exact ⟨A2, c2, A3, c3, A4, c4, A5, c5, A6, c6, rfl, rfl, rfl, rfl, rfl⟩
/-! ### lengths -/
theorem manyF_len {α : Type} (one : St → α × St) : ∀ (d : Nat) (st : St) (out : List α), (manyF one d st out).1.length = out.length + d := by
 intro d
 induction d with
 | zero => intro st out; rfl
 | succ d ih => intro st out; rw [manyF_succ, ih, List.length_append]; simp; omega
theorem manyF_ok {α : Type} {s : ByteArray} (one : St → α × St) (h1 : ∀ st, Ok s st → Ok s (one st).2) : ∀ (d : Nat) (st : St) (out : List α), Ok s st → Ok s (manyF one d st out).2 := by
 intro d
 induction d with
 | zero => intro st out h; exact h
 | succ d ih => intro st out h; rw [manyF_succ]; exact ih _ _ (h1 st h)
theorem lstF_ok {s : ByteArray} {st : St} (ho : Ok s st) : Ok s (lstF (bytesOf s) st).2 := ints_ok 64 ho
theorem splF_ok {s : ByteArray} {st : St} (ho : Ok s st) : Ok s (splF (bytesOf s) st).2 := lstF_ok (lstF_ok (lstF_ok ho))
theorem cutF_ok2 {s : ByteArray} {st : St} (ho : Ok s st) : Ok s (cutF (bytesOf s) st).2 := refnum_ok (lstF_ok ho)
theorem ansF_len (s : ByteArray) (st : St) (ho : Ok s st) : (ansF (bytesOf s) st).1.Se.length ≤ 200 ∧ (ansF (bytesOf s) st).1.Sp.length ≤ 65 ∧ (ansF (bytesOf s) st).1.Cu.length ≤ 200 ∧ Ok s (ansF (bytesOf s) st).2 := by
 unfold ansF
 dsimp only
 have o1 := lstF_ok (lstF_ok (refnum_ok (refnum_ok ho)))
 generalize (lstF (bytesOf s) (lstF (bytesOf s) (numF (bytesOf s) (numF (bytesOf s) st).2).2).2).2 = a at *
 have k1 := countF_le 200 (by decide) o1
 have o2 := manyF_ok (lstF (bytesOf s)) (fun _ h => lstF_ok h) (countF (bytesOf s) 200 a).1.toNat (countF (bytesOf s) 200 a).2 [] (countF_ok 200 o1)
 have l1 := manyF_len (lstF (bytesOf s)) (countF (bytesOf s) 200 a).1.toNat (countF (bytesOf s) 200 a).2 []
 generalize manyF (lstF (bytesOf s)) (countF (bytesOf s) 200 a).1.toNat (countF (bytesOf s) 200 a).2 [] = b at *
 have k2 := countF_le 65 (by decide) o2
 have o3 := manyF_ok (splF (bytesOf s)) (fun _ h => splF_ok h) (countF (bytesOf s) 65 b.2).1.toNat (countF (bytesOf s) 65 b.2).2 [] (countF_ok 65 o2)
 have l2 := manyF_len (splF (bytesOf s)) (countF (bytesOf s) 65 b.2).1.toNat (countF (bytesOf s) 65 b.2).2 []
 generalize manyF (splF (bytesOf s)) (countF (bytesOf s) 65 b.2).1.toNat (countF (bytesOf s) 65 b.2).2 [] = c at *
 have k3 := countF_le 200 (by decide) o3
 have o4 := manyF_ok (cutF (bytesOf s)) (fun _ h => cutF_ok2 h) (countF (bytesOf s) 200 c.2).1.toNat (countF (bytesOf s) 200 c.2).2 [] (countF_ok 200 o3)
 have l3 := manyF_len (cutF (bytesOf s)) (countF (bytesOf s) 200 c.2).1.toNat (countF (bytesOf s) 200 c.2).2 []
 refine ⟨?_, ?_, ?_, o4⟩
 ·simp only [List.length_nil] at l1; omega
 ·simp only [List.length_nil] at l2; omega
 ·simp only [List.length_nil] at l3; omega
/-! ### Check, of an answer that has been read -/
theorem check_rows {W : World} {n0 : Nat} {A2 A3 A4 A5 A6 : Option Addr} {c2 c3 c4 c5 c6 : Nat} {x : AnsV} (no : Bool) (h : RowsA W n0 (.slice A2 x.S.length c2) (.slice A3 x.U.length c3) (.slice A4 x.Se.length c4) (.slice A5 x.Sp.length c5) (.slice A6 x.Cu.length c6) x)
 (he : x.Se.length ≤ 1000000) (hs : x.Sp.length ≤ 1000000) (hc : x.Cu.length ≤ 1000000) :
 Calls Tryd.prog 11 #[.agg #[.int .i64 x.kd, .bool no, .slice A2 x.S.length c2, .slice A3 x.U.length c3, .slice A4 x.Se.length c4, .slice A5 x.Sp.length c5, .slice A6 x.Cu.length c6]] W fun e w' => e = .returned (.int .i64 (if okV x = true then 0 else 230)) ∧ Below W.heap.size W w' := by
 obtain ⟨n1, n2, a1, a2, a3, h1, h2, h3, h4, h5⟩ := h
 obtain ⟨k, hk⟩ := (check_ev x.kd no x.S x.U x.Se x.Sp x.Cu he hs hc).rounds
 exact answer_Check.calls k x.kd no (fun _ => True) A2 c2 x.S (fun _ => True) A3 c3 x.U (fun _ => True) A4 c4 x.Se (fun _ => True) A5 c5 x.Sp (fun _ => True) A6 c6 x.Cu _ W (Kd.R_V (Kd.R_mono h1 (fun _ _ => trivial))) (Kd.R_V (Kd.R_mono h2 (fun _ _ => trivial))) (Kd.S_V h3) (Kd.S_V h4) (Kd.S_V h5) hk
end Go.Proofs.YtlekdhejgdfnpaaDoor.P
/- answer.Decode, walked. (Written by wip/tool/ansp.py.) -/
namespace Go.Proofs.YtlekdhejgdfnpaaDoor.P
open Go.RowKit Go.Proofs.YtlekdhejgdfnpaaDoorW.PrintWords Go.Proofs.YtlekdhejgdfnpaaDoorW.PrintLast Go.Proofs.YtlekdhejgdfnpaaDoorW.PrintMore
open Wr
set_option linter.unusedVariables false
set_option linter.unusedSimpArgs false

theorem store_step {P : Program} {ops : Array Oper} {o : Oper} {a : Act} {W w1 : World} {K : Act → World → Prop} {Q : Exit → Act → World → Prop} (hw : Region.wanted o (yielded ops a.tmps) = true) (hN : o.dst = none)
 (hrun : (execOp a.eval o).run P W = .ok .skip w1) (h : K a w1) : if Region.wanted o (yielded ops a.tmps) = true then Oper.wp P o a W K Q else K (a.put o.dst undef) W := by
 rw [if_pos hw]
 unfold Oper.wp
 rw [hrun]
 show K (a.put o.dst undef) w1
 rw [hN]
 exact h
theorem decV_err {S : List Int} {x : AnsV} {p : Nat} {pc : Nat × Int} (h : ansF S (0, none) = (x, (p, some pc))) : decV S = (zeroV, pc.2, (pc.1 : Int)) := by unfold decV; rw [h]
theorem decV_ok {S : List Int} {x : AnsV} {p : Nat} (h : ansF S (0, none) = (x, (p, none))) : decV S = if p < S.length then (zeroV, 13, (p : Int)) else if x.no > 1 ∨ okV x = false then (zeroV, 230, 0) else (x, 0, (p : Int)) := by unfold decV; rw [h]
set_option maxHeartbeats 16000000 in
set_option maxRecDepth 100000 in
theorem decode_c {w : World} (s : ByteArray) (hE : EV w) (hs : s.size ≤ 1000000000) :
 Calls Tryd.prog 9 #[.string s] w fun e w' => ∃ vS vU vSe vSp vCu, e = .returned (.tuple #[.agg #[.int .i64 (decV (bytesOf s)).1.kd, .bool ((decV (bytesOf s)).1.no == 1), vS, vU, vSe, vSp, vCu], .int .i64 (decV (bytesOf s)).2.1, .int .i64 (decV (bytesOf s)).2.2]) ∧
  RowsA w' w.heap.size vS vU vSe vSp vCu (decV (bytesOf s)).1 ∧ Below w.heap.size w w' := by
 have HP := Aside0.mk (And.intro hE hE.pos)
 have hlen := ansF_len s (0, none) ⟨Nat.zero_le _, fun pc h => by cases h⟩
 obtain ⟨x, stA, hx⟩ : ∃ x stA, ansF (bytesOf s) (0, none) = (x, stA) := ⟨_, _, rfl⟩
 rw [hx] at hlen
 have HLN : Aside0 (x.Se.length ≤ 1000000 ∧ x.Sp.length ≤ 1000000 ∧ x.Cu.length ≤ 1000000) := ⟨Nat.le_trans hlen.1 (by decide), Nat.le_trans hlen.2.1 (by decide), Nat.le_trans hlen.2.2.1 (by decide)⟩
 have HANS : Aside0 (∀ (W : World) (G B : Nat), AR1 W w.heap.size G B s (0, none) → Below w.heap.size w W → Calls Tryd.prog 17 #[.pointer (some ⟨G, 0, none⟩)] W fun e w' => ∃ vS vU vSe vSp vCu, e = .returned (.tuple #[.agg #[.int .i64 x.kd, .bool (x.no == 1), vS, vU, vSe, vSp, vCu], .int .i64 x.no]) ∧
  RowsA w' W.heap.size vS vU vSe vSp vCu x ∧ AR w' w.heap.size G B s stA ∧ Below w.heap.size W w' ∧ Kept W w' (fun k => k = G ∨ k = B)) :=
  ⟨fun W G B h hb => by
   have h1 := answer_c hE.pos (hE.below hb hE.pos) h hs hb.size
   rw [hx] at h1; exact h1⟩
 have HX0 := Aside0.mk hx
 have HS := Aside0.mk hs
 obtain ⟨bno, hbno⟩ : ∃ b, b = (x.no == 1) := ⟨_, rfl⟩
 rw [← hbno] at HANS
 have HBN := Aside0.mk hbno
 clear hE hs hlen hx hbno
 go_enter Tryd.func9, Tryd.ntmps9
 go_upto_region 3 with (first
  | ((with_reducible refine gate_store (t := 27) (p := 6) rfl ?_); refine store_event (t := 27) (p := 6) (v := ?vo_x) (w1 := (((((((w5.setCell ⟨X, 0, none⟩ (.int .i64 x.kd)).setCell ⟨X, 1, none⟩ (.bool bno)).setCell ⟨X, 2, none⟩ (.slice A2 x.S.length c2)).setCell ⟨X, 3, none⟩ (.slice A3 x.U.length c3)).setCell ⟨X, 4, none⟩ (.slice A4 x.Se.length c4)).setCell ⟨X, 5, none⟩ (.slice A5 x.Sp.length c5)).setCell ⟨X, 6, none⟩ (.slice A6 x.Cu.length c6))) ?hg ?ho ?hn ?hr ?_; (case ho => rfl); (case hg => rfl); (case hn => rfl); (case hr => first | (go_simp; done) | (go_simp; rfl)); intro w6 hw; (have h7 := set7 (base := w.heap.size) (u0 := .int .i64 x.kd) (u1 := .bool bno) (u2 := .slice A2 x.S.length c2) (u3 := .slice A3 x.U.length c3) (u4 := .slice A4 x.Se.length c4) (u5 := .slice A5 x.Sp.length c5) (u6 := .slice A6 x.Cu.length c6) H5.out.2.2.2.1 HX.out.1); (dsimp only at h7); (rw [← hw] at h7); (have H6 := Aside0.mk (And.intro (H5.out.1.kept h7.2.1 (fun k c t e hc => by subst e; rw [← blk_t H5.out.2.2.2.1 hc]; decide)) (And.intro (H5.out.2.1.keepX H5.out.2.2.2.1 h7.2.1) (And.intro (blk_kept H5.out.2.2.1 h7.2.1 HX.out.2) (And.intro h7.1 (And.intro (H5.out.2.2.2.2.trans h7.2.2) True.intro)))))); clear x0 xf0 x1 xf1 x2 xf2 x3 xf3 x4 xf4 x5 xf5 x6 xf6; clear hw h7)
  | ((with_reducible refine gate_dst (N := 6) rfl ?_); (try (refine gate_guard (by rfl) ?_; dsimp only)); refine box_event ?hg (N := 6) ?hd (cs := #[.int .i64 0, .bool false, .slice none 0 0, .slice none 0 0, .slice none 0 0, .slice none 0 0, .slice none 0 0]) (t := 27) ?hr ?_; (case hd => rfl); (case hg => rfl); (case hr => first | (go_simp; done) | (go_simp; rfl)); intro X hgX w5 hboxX hbX; (have HX : Aside0 (w.heap.size ≤ X ∧ R0 ≠ X) := ⟨by rw [hgX]; exact H4.out.2.2.2.size, by rw [hgX]; exact Nat.ne_of_lt (blk_lt H4.out.2.2.1)⟩); (have H5 := Aside0.mk (And.intro (H4.out.1.below hbX) (And.intro (H4.out.2.1.below hbX) (And.intro (blk_below H4.out.2.2.1 hbX) (And.intro hboxX (H4.out.2.2.2.trans (hbX.mono H4.out.2.2.2.size))))))); (have x0 : w5.cell? ⟨X, 0, none⟩ = _ := (blk_cell hboxX 0).trans rfl); (have xf0 : w5.frozen? ⟨X, 0, none⟩ = false := blk_frozen hboxX 0); (have x1 : w5.cell? ⟨X, 1, none⟩ = _ := (blk_cell hboxX 1).trans rfl); (have xf1 : w5.frozen? ⟨X, 1, none⟩ = false := blk_frozen hboxX 1); (have x2 : w5.cell? ⟨X, 2, none⟩ = _ := (blk_cell hboxX 2).trans rfl); (have xf2 : w5.frozen? ⟨X, 2, none⟩ = false := blk_frozen hboxX 2); (have x3 : w5.cell? ⟨X, 3, none⟩ = _ := (blk_cell hboxX 3).trans rfl); (have xf3 : w5.frozen? ⟨X, 3, none⟩ = false := blk_frozen hboxX 3); (have x4 : w5.cell? ⟨X, 4, none⟩ = _ := (blk_cell hboxX 4).trans rfl); (have xf4 : w5.frozen? ⟨X, 4, none⟩ = false := blk_frozen hboxX 4); (have x5 : w5.cell? ⟨X, 5, none⟩ = _ := (blk_cell hboxX 5).trans rfl); (have xf5 : w5.frozen? ⟨X, 5, none⟩ = false := blk_frozen hboxX 5); (have x6 : w5.cell? ⟨X, 6, none⟩ = _ := (blk_cell hboxX 6).trans rfl); (have xf6 : w5.frozen? ⟨X, 6, none⟩ = false := blk_frozen hboxX 6);  clear hgX hboxX hbX)
  | (go_at_call 17; (have z_ := H3.out); clear z_; refine (HANS.out _ _ _ H3.out.1 H3.out.2.2).mono ?_; rintro e w4 ⟨vS, vU, vSe, vSp, vCu, rfl, hrow, har, hb, hk⟩; (have hres := box_call H3.out.2.1 H3.out.1.ar hk (by decide)); (have hrow' := hrow.lower H3.out.2.2.size); (obtain ⟨A2, c2, A3, c3, A4, c4, A5, c5, A6, c6, rfl, rfl, rfl, rfl, rfl⟩ := hrow.slices); (have H4 := Aside0.mk (And.intro har (And.intro hrow' (And.intro hres (H3.out.2.2.trans hb))))); clear har hrow hrow' hres hb hk)
  | ((with_reducible refine gate_dst (N := 13) rfl ?_); (try (refine gate_guard (by rfl) ?_; dsimp only)); refine box_event ?hg (N := 13) ?hd (cs := #[.pointer (some ⟨B, 0, none⟩), .int .i64 (-1)]) (t := 48) ?hr ?_; (case hd => rfl); (case hg => rfl); (case hr => first | (go_simp; done) | (go_simp; rfl)); intro G hgG w3 hboxG hbG; (have H3 : Aside0 (AR1 w3 w.heap.size G B s (0, none) ∧ w3.heap[R0]? = some (.cells #[.int .i64 0, .bool false, .slice none 0 0, .slice none 0 0, .slice none 0 0, .slice none 0 0, .slice none 0 0] 27 (0, 0)) ∧ Below w.heap.size w w3) := ⟨⟨by rw [hgG]; exact H2.out.2.2.size, hboxG, H2.out.1.below hbG, Nat.zero_le _, fun pc h => by cases h⟩, blk_below H2.out.2.1 hbG, H2.out.2.2.trans (hbG.mono H2.out.2.2.size)⟩); clear hgG hboxG hbG)
  | (go_at_call 16; (have z_ := HA.out); clear z_; refine (read_c (base := w.heap.size) HA.out.2.size s).mono ?_; rintro e w2 ⟨hret, hrd, hb⟩; (obtain ⟨B, hB⟩ : ∃ B, B = wA.heap.size := ⟨_, rfl⟩); (rw [← hB] at hret hrd); (subst hret); (have H2 := Aside0.mk (And.intro hrd (And.intro (blk_below HA.out.1 hb) (HA.out.2.trans (hb.mono HA.out.2.size))))); clear hB hrd hb)
  | ((with_reducible refine gate_dst (N := 2) rfl ?_); (try (refine gate_guard (by rfl) ?_; dsimp only)); refine box_event ?hg (N := 2) ?hd (cs := #[.int .i64 0, .bool false, .slice none 0 0, .slice none 0 0, .slice none 0 0, .slice none 0 0, .slice none 0 0]) (t := 27) ?hr ?_; (case hd => rfl); (case hg => rfl); (case hr => first | (go_simp; done) | (go_simp; rfl)); intro R0 hgR wA hboxR hbR; (have HA := Aside0.mk (And.intro hboxR hbR)); (have HRg : Aside0 (w.heap.size ≤ R0) := ⟨by rw [hgR]; exact Nat.le_refl _⟩); clear hgR hboxR hbR))
 clear HANS HA H2 H3 H4 H5
 obtain ⟨h0, many, sw, hra, hrd, ho, hst⟩ := H6.out.1
 have HRA := Aside0.mk hra
 have g60 : w6.cell? ⟨G, 0, none⟩ = some (.pointer (some ⟨B, 0, none⟩)) := (blk_cell hra 0).trans rfl
 have HEND := end_c (HP.out.1.below H6.out.2.2.2.2.1 HP.out.2) hrd ho.2
 have HBB : Aside0 (Below w.heap.size w w6) := ⟨H6.out.2.2.2.2.1⟩
 clear h0 hra hrd
 rcases hst with ⟨rfl, rfl⟩ | ⟨m, rfl, hn, rfl⟩
 ·obtain ⟨p, er⟩ := stA
  cases er with
  | some pc =>
   have HDEC := Aside0.mk (decV_err HX0.out)
   have hc : pc.2 = 10 ∨ pc.2 = 11 ∨ pc.2 = 12 := ho.2 pc rfl
   obtain ⟨pl, c⟩ := pc
   have HEND : Aside0 (Calls Tryd.prog 18 #[.pointer (some ⟨B, 0, none⟩)] w6 fun e w' => e = .returned (.tuple #[.int .i64 c, .int .i64 (pl : Int)]) ∧ Below w6.heap.size w6 w') := ⟨HEND⟩
   have hc0 : (c != 0) = true := bne_iff_ne.mpr (by have hc' : c = 10 ∨ c = 11 ∨ c = 12 := hc; omega)
   clear ho hc
   go_wp2_with (first
    | ((with_reducible refine gate_store (t := 27) (p := 2) rfl ?_); refine store_event (t := 27) (p := 2) (v := ?vo_f1) (w1 := (((((((w7.setCell ⟨R0, 0, none⟩ (.int .i64 0)).setCell ⟨R0, 1, none⟩ (.bool false)).setCell ⟨R0, 2, none⟩ (.slice none 0 0)).setCell ⟨R0, 3, none⟩ (.slice none 0 0)).setCell ⟨R0, 4, none⟩ (.slice none 0 0)).setCell ⟨R0, 5, none⟩ (.slice none 0 0)).setCell ⟨R0, 6, none⟩ (.slice none 0 0))) ?hg ?ho ?hn ?hr ?_; (case ho => rfl); (case hg => rfl); (case hn => rfl); (case hr => first | (go_simp; done) | (go_simp; rfl)); intro wf hw; (have h7 := set7 (base := w.heap.size) (u0 := .int .i64 0) (u1 := .bool false) (u2 := .slice none 0 0) (u3 := .slice none 0 0) (u4 := .slice none 0 0) (u5 := .slice none 0 0) (u6 := .slice none 0 0) H7.out.2.2.1 HRg.out); (dsimp only at h7); (rw [← hw] at h7); (have HF := Aside0.mk h7); clear r0 rf0 r1 rf1 r2 rf2 r3 rf3 r4 rf4 r5 rf5 r6 rf6;  clear hw h7)
    | (go_at_call 18; refine HEND.out.mono ?_; rintro e w7 ⟨rfl, hb⟩; (have H7 := Aside0.mk (And.intro (H6.out.1.below hb) (And.intro (H6.out.2.1.below hb) (And.intro (blk_below H6.out.2.2.1 hb) (And.intro (blk_below H6.out.2.2.2.1 hb) (H6.out.2.2.2.2.1.trans (hb.mono H6.out.2.2.2.2.1.size))))))); (have hr7 := H7.out.2.2.1); (have hx7 := H7.out.2.2.2.1); (have g71 : w7.cell? ⟨G, 1, none⟩ = some (.int .i64 (-1)) := (blk_cell (blk_below HRA.out hb) 1).trans rfl); (have r0 : w7.cell? ⟨R0, 0, none⟩ = _ := (blk_cell hr7 0).trans rfl); (have rf0 : w7.frozen? ⟨R0, 0, none⟩ = false := blk_frozen hr7 0); (have r1 : w7.cell? ⟨R0, 1, none⟩ = _ := (blk_cell hr7 1).trans rfl); (have rf1 : w7.frozen? ⟨R0, 1, none⟩ = false := blk_frozen hr7 1); (have r2 : w7.cell? ⟨R0, 2, none⟩ = _ := (blk_cell hr7 2).trans rfl); (have rf2 : w7.frozen? ⟨R0, 2, none⟩ = false := blk_frozen hr7 2); (have r3 : w7.cell? ⟨R0, 3, none⟩ = _ := (blk_cell hr7 3).trans rfl); (have rf3 : w7.frozen? ⟨R0, 3, none⟩ = false := blk_frozen hr7 3); (have r4 : w7.cell? ⟨R0, 4, none⟩ = _ := (blk_cell hr7 4).trans rfl); (have rf4 : w7.frozen? ⟨R0, 4, none⟩ = false := blk_frozen hr7 4); (have r5 : w7.cell? ⟨R0, 5, none⟩ = _ := (blk_cell hr7 5).trans rfl); (have rf5 : w7.frozen? ⟨R0, 5, none⟩ = false := blk_frozen hr7 5); (have r6 : w7.cell? ⟨R0, 6, none⟩ = _ := (blk_cell hr7 6).trans rfl); (have rf6 : w7.frozen? ⟨R0, 6, none⟩ = false := blk_frozen hr7 6); clear hr7 hx7 hb))
   ((try simp only [Exit.inBlock, Exit.then]); refine bodyPost_ret (results_ctt rfl _ _ R0 27 #[.int .i64 0, .bool false, .slice none 0 0, .slice none 0 0, .slice none 0 0, .slice none 0 0, .slice none 0 0] (0, 0) _ rfl HF.out.1 Tryd.underlying27 rfl (by kernel_rfl)) rfl ?_)
   have HBB := Aside0.mk H7.out.2.2.2.2
   rw [HDEC.out]; exact ⟨_, _, _, _, _, rfl, RowsA.nil _ _ (Nat.le_trans HBB.out.size HF.out.2.1.1), HBB.out.trans HF.out.2.2⟩
  | none =>
   have hd := decV_ok HX0.out
   rw [bytesOf_length] at hd
   by_cases hl : p < s.size
   ·rw [if_pos hl] at hd
    have HDEC := Aside0.mk hd
    clear hd
    have HEND : Aside0 (Calls Tryd.prog 18 #[.pointer (some ⟨B, 0, none⟩)] w6 fun e w' => e = .returned (.tuple #[.int .i64 13, .int .i64 (p : Int)]) ∧ Below w6.heap.size w6 w') := ⟨by
     simp only [endF, bytesOf_length, if_pos hl] at HEND; exact HEND⟩
    clear ho hl
    go_wp2_with (first
     | ((with_reducible refine gate_store (t := 27) (p := 2) rfl ?_); refine store_event (t := 27) (p := 2) (v := ?vo_f2) (w1 := (((((((w7.setCell ⟨R0, 0, none⟩ (.int .i64 0)).setCell ⟨R0, 1, none⟩ (.bool false)).setCell ⟨R0, 2, none⟩ (.slice none 0 0)).setCell ⟨R0, 3, none⟩ (.slice none 0 0)).setCell ⟨R0, 4, none⟩ (.slice none 0 0)).setCell ⟨R0, 5, none⟩ (.slice none 0 0)).setCell ⟨R0, 6, none⟩ (.slice none 0 0))) ?hg ?ho ?hn ?hr ?_; (case ho => rfl); (case hg => rfl); (case hn => rfl); (case hr => first | (go_simp; done) | (go_simp; rfl)); intro wf hw; (have h7 := set7 (base := w.heap.size) (u0 := .int .i64 0) (u1 := .bool false) (u2 := .slice none 0 0) (u3 := .slice none 0 0) (u4 := .slice none 0 0) (u5 := .slice none 0 0) (u6 := .slice none 0 0) H7.out.2.2.1 HRg.out); (dsimp only at h7); (rw [← hw] at h7); (have HF := Aside0.mk h7); clear r0 rf0 r1 rf1 r2 rf2 r3 rf3 r4 rf4 r5 rf5 r6 rf6;  clear hw h7)
     | (go_at_call 18; refine HEND.out.mono ?_; rintro e w7 ⟨rfl, hb⟩; (have H7 := Aside0.mk (And.intro (H6.out.1.below hb) (And.intro (H6.out.2.1.below hb) (And.intro (blk_below H6.out.2.2.1 hb) (And.intro (blk_below H6.out.2.2.2.1 hb) (H6.out.2.2.2.2.1.trans (hb.mono H6.out.2.2.2.2.1.size))))))); (have hr7 := H7.out.2.2.1); (have hx7 := H7.out.2.2.2.1); (have g71 : w7.cell? ⟨G, 1, none⟩ = some (.int .i64 (-1)) := (blk_cell (blk_below HRA.out hb) 1).trans rfl); (have r0 : w7.cell? ⟨R0, 0, none⟩ = _ := (blk_cell hr7 0).trans rfl); (have rf0 : w7.frozen? ⟨R0, 0, none⟩ = false := blk_frozen hr7 0); (have r1 : w7.cell? ⟨R0, 1, none⟩ = _ := (blk_cell hr7 1).trans rfl); (have rf1 : w7.frozen? ⟨R0, 1, none⟩ = false := blk_frozen hr7 1); (have r2 : w7.cell? ⟨R0, 2, none⟩ = _ := (blk_cell hr7 2).trans rfl); (have rf2 : w7.frozen? ⟨R0, 2, none⟩ = false := blk_frozen hr7 2); (have r3 : w7.cell? ⟨R0, 3, none⟩ = _ := (blk_cell hr7 3).trans rfl); (have rf3 : w7.frozen? ⟨R0, 3, none⟩ = false := blk_frozen hr7 3); (have r4 : w7.cell? ⟨R0, 4, none⟩ = _ := (blk_cell hr7 4).trans rfl); (have rf4 : w7.frozen? ⟨R0, 4, none⟩ = false := blk_frozen hr7 4); (have r5 : w7.cell? ⟨R0, 5, none⟩ = _ := (blk_cell hr7 5).trans rfl); (have rf5 : w7.frozen? ⟨R0, 5, none⟩ = false := blk_frozen hr7 5); (have r6 : w7.cell? ⟨R0, 6, none⟩ = _ := (blk_cell hr7 6).trans rfl); (have rf6 : w7.frozen? ⟨R0, 6, none⟩ = false := blk_frozen hr7 6); clear hr7 hx7 hb))
    ((try simp only [Exit.inBlock, Exit.then]); refine bodyPost_ret (results_ctt rfl _ _ R0 27 #[.int .i64 0, .bool false, .slice none 0 0, .slice none 0 0, .slice none 0 0, .slice none 0 0, .slice none 0 0] (0, 0) _ rfl HF.out.1 Tryd.underlying27 rfl (by kernel_rfl)) rfl ?_)
    have HBB := Aside0.mk H7.out.2.2.2.2
    rw [HDEC.out]; exact ⟨_, _, _, _, _, rfl, RowsA.nil _ _ (Nat.le_trans HBB.out.size HF.out.2.1.1), HBB.out.trans HF.out.2.2⟩
   ·rw [if_neg hl] at hd
    have HEND : Aside0 (Calls Tryd.prog 18 #[.pointer (some ⟨B, 0, none⟩)] w6 fun e w' => e = .returned (.tuple #[.int .i64 0, .int .i64 (p : Int)]) ∧ Below w6.heap.size w6 w') := ⟨by
     simp only [endF, bytesOf_length, if_neg hl] at HEND; exact HEND⟩
    clear ho hl
    by_cases hno : x.no > 1
    ·rw [if_pos (.inl hno)] at hd
     have HDEC := Aside0.mk hd
     clear hd
     have y1 : decide (1 < x.no) = true := decide_eq_true hno
     clear hno
     go_wp2_with (first
      | ((with_reducible refine gate_store (t := 27) (p := 2) rfl ?_); refine store_event (t := 27) (p := 2) (v := ?vo_f3) (w1 := (((((((w7.setCell ⟨R0, 0, none⟩ (.int .i64 0)).setCell ⟨R0, 1, none⟩ (.bool false)).setCell ⟨R0, 2, none⟩ (.slice none 0 0)).setCell ⟨R0, 3, none⟩ (.slice none 0 0)).setCell ⟨R0, 4, none⟩ (.slice none 0 0)).setCell ⟨R0, 5, none⟩ (.slice none 0 0)).setCell ⟨R0, 6, none⟩ (.slice none 0 0))) ?hg ?ho ?hn ?hr ?_; (case ho => rfl); (case hg => rfl); (case hn => rfl); (case hr => first | (go_simp; done) | (go_simp; rfl)); intro wf hw; (have h7 := set7 (base := w.heap.size) (u0 := .int .i64 0) (u1 := .bool false) (u2 := .slice none 0 0) (u3 := .slice none 0 0) (u4 := .slice none 0 0) (u5 := .slice none 0 0) (u6 := .slice none 0 0) H7.out.2.2.1 HRg.out); (dsimp only at h7); (rw [← hw] at h7); (have HF := Aside0.mk h7); clear r0 rf0 r1 rf1 r2 rf2 r3 rf3 r4 rf4 r5 rf5 r6 rf6;  clear hw h7)
      | (go_at_call 18; refine HEND.out.mono ?_; rintro e w7 ⟨rfl, hb⟩; (have H7 := Aside0.mk (And.intro (H6.out.1.below hb) (And.intro (H6.out.2.1.below hb) (And.intro (blk_below H6.out.2.2.1 hb) (And.intro (blk_below H6.out.2.2.2.1 hb) (H6.out.2.2.2.2.1.trans (hb.mono H6.out.2.2.2.2.1.size))))))); (have hr7 := H7.out.2.2.1); (have hx7 := H7.out.2.2.2.1); (have g71 : w7.cell? ⟨G, 1, none⟩ = some (.int .i64 (-1)) := (blk_cell (blk_below HRA.out hb) 1).trans rfl); (have r0 : w7.cell? ⟨R0, 0, none⟩ = _ := (blk_cell hr7 0).trans rfl); (have rf0 : w7.frozen? ⟨R0, 0, none⟩ = false := blk_frozen hr7 0); (have r1 : w7.cell? ⟨R0, 1, none⟩ = _ := (blk_cell hr7 1).trans rfl); (have rf1 : w7.frozen? ⟨R0, 1, none⟩ = false := blk_frozen hr7 1); (have r2 : w7.cell? ⟨R0, 2, none⟩ = _ := (blk_cell hr7 2).trans rfl); (have rf2 : w7.frozen? ⟨R0, 2, none⟩ = false := blk_frozen hr7 2); (have r3 : w7.cell? ⟨R0, 3, none⟩ = _ := (blk_cell hr7 3).trans rfl); (have rf3 : w7.frozen? ⟨R0, 3, none⟩ = false := blk_frozen hr7 3); (have r4 : w7.cell? ⟨R0, 4, none⟩ = _ := (blk_cell hr7 4).trans rfl); (have rf4 : w7.frozen? ⟨R0, 4, none⟩ = false := blk_frozen hr7 4); (have r5 : w7.cell? ⟨R0, 5, none⟩ = _ := (blk_cell hr7 5).trans rfl); (have rf5 : w7.frozen? ⟨R0, 5, none⟩ = false := blk_frozen hr7 5); (have r6 : w7.cell? ⟨R0, 6, none⟩ = _ := (blk_cell hr7 6).trans rfl); (have rf6 : w7.frozen? ⟨R0, 6, none⟩ = false := blk_frozen hr7 6); clear hr7 hx7 hb))
     ((try simp only [Exit.inBlock, Exit.then]); refine bodyPost_ret (results_ctt rfl _ _ R0 27 #[.int .i64 0, .bool false, .slice none 0 0, .slice none 0 0, .slice none 0 0, .slice none 0 0, .slice none 0 0] (0, 0) _ rfl HF.out.1 Tryd.underlying27 rfl (by kernel_rfl)) rfl ?_)
     have HBB := Aside0.mk H7.out.2.2.2.2
     rw [HDEC.out]; exact ⟨_, _, _, _, _, rfl, RowsA.nil _ _ (Nat.le_trans HBB.out.size HF.out.2.1.1), HBB.out.trans HF.out.2.2⟩
    ·have y1 : decide (1 < x.no) = false := decide_eq_false hno
     cases hk : okV x with
     | false =>
      rw [if_pos (.inr hk)] at hd
      have HDEC := Aside0.mk hd
      clear hd
      have HOK : Aside0 ((if okV x = true then (0 : Int) else 230) = 230) := ⟨by rw [hk]; rfl⟩
      clear hno hk
      go_wp2_with (first
       | ((with_reducible refine gate_store (t := 27) (p := 2) rfl ?_); refine store_event (t := 27) (p := 2) (v := ?vo_f4) (w1 := (((((((w8.setCell ⟨R0, 0, none⟩ (.int .i64 0)).setCell ⟨R0, 1, none⟩ (.bool false)).setCell ⟨R0, 2, none⟩ (.slice none 0 0)).setCell ⟨R0, 3, none⟩ (.slice none 0 0)).setCell ⟨R0, 4, none⟩ (.slice none 0 0)).setCell ⟨R0, 5, none⟩ (.slice none 0 0)).setCell ⟨R0, 6, none⟩ (.slice none 0 0))) ?hg ?ho ?hn ?hr ?_; (case ho => rfl); (case hg => rfl); (case hn => rfl); (case hr => first | (go_simp; done) | (go_simp; rfl)); intro wf hw; (have h7 := set7 (base := w.heap.size) (u0 := .int .i64 0) (u1 := .bool false) (u2 := .slice none 0 0) (u3 := .slice none 0 0) (u4 := .slice none 0 0) (u5 := .slice none 0 0) (u6 := .slice none 0 0) H8.out.2.1 HRg.out); (dsimp only at h7); (rw [← hw] at h7); (have HF := Aside0.mk h7); clear r0 rf0 r1 rf1 r2 rf2 r3 rf3 r4 rf4 r5 rf5 r6 rf6;  clear hw h7)
       | (go_at_call 11; (have z_ := H7.out); clear z_; refine (check_rows bno H7.out.2.1 HLN.out.1 HLN.out.2.1 HLN.out.2.2).mono ?_; rintro e w8 ⟨hret, hb⟩; (rw [HOK.out] at hret); (subst hret); (have H8 := Aside0.mk (And.intro (H7.out.2.1.below hb) (And.intro (blk_below H7.out.2.2.1 hb) (And.intro (blk_below H7.out.2.2.2.1 hb) (H7.out.2.2.2.2.trans (hb.mono H7.out.2.2.2.2.size)))))); (have hr8 := H8.out.2.1); (have hx8 := H8.out.2.2.1); clear r0 rf0 r1 rf1 r2 rf2 r3 rf3 r4 rf4 r5 rf5 r6 rf6 g71; clear x0 x1 x2 x3 x4 x5 x6; (have r0 : w8.cell? ⟨R0, 0, none⟩ = _ := (blk_cell hr8 0).trans rfl); (have rf0 : w8.frozen? ⟨R0, 0, none⟩ = false := blk_frozen hr8 0); (have r1 : w8.cell? ⟨R0, 1, none⟩ = _ := (blk_cell hr8 1).trans rfl); (have rf1 : w8.frozen? ⟨R0, 1, none⟩ = false := blk_frozen hr8 1); (have r2 : w8.cell? ⟨R0, 2, none⟩ = _ := (blk_cell hr8 2).trans rfl); (have rf2 : w8.frozen? ⟨R0, 2, none⟩ = false := blk_frozen hr8 2); (have r3 : w8.cell? ⟨R0, 3, none⟩ = _ := (blk_cell hr8 3).trans rfl); (have rf3 : w8.frozen? ⟨R0, 3, none⟩ = false := blk_frozen hr8 3); (have r4 : w8.cell? ⟨R0, 4, none⟩ = _ := (blk_cell hr8 4).trans rfl); (have rf4 : w8.frozen? ⟨R0, 4, none⟩ = false := blk_frozen hr8 4); (have r5 : w8.cell? ⟨R0, 5, none⟩ = _ := (blk_cell hr8 5).trans rfl); (have rf5 : w8.frozen? ⟨R0, 5, none⟩ = false := blk_frozen hr8 5); (have r6 : w8.cell? ⟨R0, 6, none⟩ = _ := (blk_cell hr8 6).trans rfl); (have rf6 : w8.frozen? ⟨R0, 6, none⟩ = false := blk_frozen hr8 6); (have x0 : w8.cell? ⟨X, 0, none⟩ = _ := (blk_cell hx8 0).trans rfl); (have x1 : w8.cell? ⟨X, 1, none⟩ = _ := (blk_cell hx8 1).trans rfl); (have x2 : w8.cell? ⟨X, 2, none⟩ = _ := (blk_cell hx8 2).trans rfl); (have x3 : w8.cell? ⟨X, 3, none⟩ = _ := (blk_cell hx8 3).trans rfl); (have x4 : w8.cell? ⟨X, 4, none⟩ = _ := (blk_cell hx8 4).trans rfl); (have x5 : w8.cell? ⟨X, 5, none⟩ = _ := (blk_cell hx8 5).trans rfl); (have x6 : w8.cell? ⟨X, 6, none⟩ = _ := (blk_cell hx8 6).trans rfl);  clear hr8 hx8 hb)
       | (go_at_call 18; refine HEND.out.mono ?_; rintro e w7 ⟨rfl, hb⟩; (have H7 := Aside0.mk (And.intro (H6.out.1.below hb) (And.intro (H6.out.2.1.below hb) (And.intro (blk_below H6.out.2.2.1 hb) (And.intro (blk_below H6.out.2.2.2.1 hb) (H6.out.2.2.2.2.1.trans (hb.mono H6.out.2.2.2.2.1.size))))))); (have hr7 := H7.out.2.2.1); (have hx7 := H7.out.2.2.2.1); (have g71 : w7.cell? ⟨G, 1, none⟩ = some (.int .i64 (-1)) := (blk_cell (blk_below HRA.out hb) 1).trans rfl); (have r0 : w7.cell? ⟨R0, 0, none⟩ = _ := (blk_cell hr7 0).trans rfl); (have rf0 : w7.frozen? ⟨R0, 0, none⟩ = false := blk_frozen hr7 0); (have r1 : w7.cell? ⟨R0, 1, none⟩ = _ := (blk_cell hr7 1).trans rfl); (have rf1 : w7.frozen? ⟨R0, 1, none⟩ = false := blk_frozen hr7 1); (have r2 : w7.cell? ⟨R0, 2, none⟩ = _ := (blk_cell hr7 2).trans rfl); (have rf2 : w7.frozen? ⟨R0, 2, none⟩ = false := blk_frozen hr7 2); (have r3 : w7.cell? ⟨R0, 3, none⟩ = _ := (blk_cell hr7 3).trans rfl); (have rf3 : w7.frozen? ⟨R0, 3, none⟩ = false := blk_frozen hr7 3); (have r4 : w7.cell? ⟨R0, 4, none⟩ = _ := (blk_cell hr7 4).trans rfl); (have rf4 : w7.frozen? ⟨R0, 4, none⟩ = false := blk_frozen hr7 4); (have r5 : w7.cell? ⟨R0, 5, none⟩ = _ := (blk_cell hr7 5).trans rfl); (have rf5 : w7.frozen? ⟨R0, 5, none⟩ = false := blk_frozen hr7 5); (have r6 : w7.cell? ⟨R0, 6, none⟩ = _ := (blk_cell hr7 6).trans rfl); (have rf6 : w7.frozen? ⟨R0, 6, none⟩ = false := blk_frozen hr7 6); (have x0 : w7.cell? ⟨X, 0, none⟩ = _ := (blk_cell hx7 0).trans rfl); (have x1 : w7.cell? ⟨X, 1, none⟩ = _ := (blk_cell hx7 1).trans rfl); (have x2 : w7.cell? ⟨X, 2, none⟩ = _ := (blk_cell hx7 2).trans rfl); (have x3 : w7.cell? ⟨X, 3, none⟩ = _ := (blk_cell hx7 3).trans rfl); (have x4 : w7.cell? ⟨X, 4, none⟩ = _ := (blk_cell hx7 4).trans rfl); (have x5 : w7.cell? ⟨X, 5, none⟩ = _ := (blk_cell hx7 5).trans rfl); (have x6 : w7.cell? ⟨X, 6, none⟩ = _ := (blk_cell hx7 6).trans rfl); clear hr7 hx7 hb))
      ((try simp only [Exit.inBlock, Exit.then]); refine bodyPost_ret (results_ctt rfl _ _ R0 27 #[.int .i64 0, .bool false, .slice none 0 0, .slice none 0 0, .slice none 0 0, .slice none 0 0, .slice none 0 0] (0, 0) _ rfl HF.out.1 Tryd.underlying27 rfl (by kernel_rfl)) rfl ?_)
      have HBB := Aside0.mk H8.out.2.2.2
      rw [HDEC.out]; exact ⟨_, _, _, _, _, rfl, RowsA.nil _ _ (Nat.le_trans HBB.out.size HF.out.2.1.1), HBB.out.trans HF.out.2.2⟩
     | true =>
      rw [if_neg (fun h => by rcases h with h | h; (exact hno h); (rw [hk] at h; cases h))] at hd
      have HDEC := Aside0.mk hd
      clear hd
      have HOK : Aside0 ((if okV x = true then (0 : Int) else 230) = 0) := ⟨by rw [hk]; rfl⟩
      clear hno hk
      go_wp2_with (first
       | ((with_reducible refine gate_store (t := 27) (p := 2) rfl ?_); refine store_event (t := 27) (p := 2) (v := ?vo_f5) (w1 := (((((((w8.setCell ⟨R0, 0, none⟩ (.int .i64 x.kd)).setCell ⟨R0, 1, none⟩ (.bool bno)).setCell ⟨R0, 2, none⟩ (.slice A2 x.S.length c2)).setCell ⟨R0, 3, none⟩ (.slice A3 x.U.length c3)).setCell ⟨R0, 4, none⟩ (.slice A4 x.Se.length c4)).setCell ⟨R0, 5, none⟩ (.slice A5 x.Sp.length c5)).setCell ⟨R0, 6, none⟩ (.slice A6 x.Cu.length c6))) ?hg ?ho ?hn ?hr ?_; (case ho => rfl); (case hg => rfl); (case hn => rfl); (case hr => first | (go_simp; done) | (go_simp; rfl)); intro wf hw; (have h7 := set7 (base := w.heap.size) (u0 := .int .i64 x.kd) (u1 := .bool bno) (u2 := .slice A2 x.S.length c2) (u3 := .slice A3 x.U.length c3) (u4 := .slice A4 x.Se.length c4) (u5 := .slice A5 x.Sp.length c5) (u6 := .slice A6 x.Cu.length c6) H8.out.2.1 HRg.out); (dsimp only at h7); (rw [← hw] at h7); (have HF := Aside0.mk h7); clear r0 rf0 r1 rf1 r2 rf2 r3 rf3 r4 rf4 r5 rf5 r6 rf6;  clear hw h7)
       | (go_at_call 11; (have z_ := H7.out); clear z_; refine (check_rows bno H7.out.2.1 HLN.out.1 HLN.out.2.1 HLN.out.2.2).mono ?_; rintro e w8 ⟨hret, hb⟩; (rw [HOK.out] at hret); (subst hret); (have H8 := Aside0.mk (And.intro (H7.out.2.1.below hb) (And.intro (blk_below H7.out.2.2.1 hb) (And.intro (blk_below H7.out.2.2.2.1 hb) (H7.out.2.2.2.2.trans (hb.mono H7.out.2.2.2.2.size)))))); (have hr8 := H8.out.2.1); (have hx8 := H8.out.2.2.1); clear r0 rf0 r1 rf1 r2 rf2 r3 rf3 r4 rf4 r5 rf5 r6 rf6 g71; clear x0 x1 x2 x3 x4 x5 x6; (have r0 : w8.cell? ⟨R0, 0, none⟩ = _ := (blk_cell hr8 0).trans rfl); (have rf0 : w8.frozen? ⟨R0, 0, none⟩ = false := blk_frozen hr8 0); (have r1 : w8.cell? ⟨R0, 1, none⟩ = _ := (blk_cell hr8 1).trans rfl); (have rf1 : w8.frozen? ⟨R0, 1, none⟩ = false := blk_frozen hr8 1); (have r2 : w8.cell? ⟨R0, 2, none⟩ = _ := (blk_cell hr8 2).trans rfl); (have rf2 : w8.frozen? ⟨R0, 2, none⟩ = false := blk_frozen hr8 2); (have r3 : w8.cell? ⟨R0, 3, none⟩ = _ := (blk_cell hr8 3).trans rfl); (have rf3 : w8.frozen? ⟨R0, 3, none⟩ = false := blk_frozen hr8 3); (have r4 : w8.cell? ⟨R0, 4, none⟩ = _ := (blk_cell hr8 4).trans rfl); (have rf4 : w8.frozen? ⟨R0, 4, none⟩ = false := blk_frozen hr8 4); (have r5 : w8.cell? ⟨R0, 5, none⟩ = _ := (blk_cell hr8 5).trans rfl); (have rf5 : w8.frozen? ⟨R0, 5, none⟩ = false := blk_frozen hr8 5); (have r6 : w8.cell? ⟨R0, 6, none⟩ = _ := (blk_cell hr8 6).trans rfl); (have rf6 : w8.frozen? ⟨R0, 6, none⟩ = false := blk_frozen hr8 6); (have x0 : w8.cell? ⟨X, 0, none⟩ = _ := (blk_cell hx8 0).trans rfl); (have x1 : w8.cell? ⟨X, 1, none⟩ = _ := (blk_cell hx8 1).trans rfl); (have x2 : w8.cell? ⟨X, 2, none⟩ = _ := (blk_cell hx8 2).trans rfl); (have x3 : w8.cell? ⟨X, 3, none⟩ = _ := (blk_cell hx8 3).trans rfl); (have x4 : w8.cell? ⟨X, 4, none⟩ = _ := (blk_cell hx8 4).trans rfl); (have x5 : w8.cell? ⟨X, 5, none⟩ = _ := (blk_cell hx8 5).trans rfl); (have x6 : w8.cell? ⟨X, 6, none⟩ = _ := (blk_cell hx8 6).trans rfl);  clear hr8 hx8 hb)
       | (go_at_call 18; refine HEND.out.mono ?_; rintro e w7 ⟨rfl, hb⟩; (have H7 := Aside0.mk (And.intro (H6.out.1.below hb) (And.intro (H6.out.2.1.below hb) (And.intro (blk_below H6.out.2.2.1 hb) (And.intro (blk_below H6.out.2.2.2.1 hb) (H6.out.2.2.2.2.1.trans (hb.mono H6.out.2.2.2.2.1.size))))))); (have hr7 := H7.out.2.2.1); (have hx7 := H7.out.2.2.2.1); (have g71 : w7.cell? ⟨G, 1, none⟩ = some (.int .i64 (-1)) := (blk_cell (blk_below HRA.out hb) 1).trans rfl); (have r0 : w7.cell? ⟨R0, 0, none⟩ = _ := (blk_cell hr7 0).trans rfl); (have rf0 : w7.frozen? ⟨R0, 0, none⟩ = false := blk_frozen hr7 0); (have r1 : w7.cell? ⟨R0, 1, none⟩ = _ := (blk_cell hr7 1).trans rfl); (have rf1 : w7.frozen? ⟨R0, 1, none⟩ = false := blk_frozen hr7 1); (have r2 : w7.cell? ⟨R0, 2, none⟩ = _ := (blk_cell hr7 2).trans rfl); (have rf2 : w7.frozen? ⟨R0, 2, none⟩ = false := blk_frozen hr7 2); (have r3 : w7.cell? ⟨R0, 3, none⟩ = _ := (blk_cell hr7 3).trans rfl); (have rf3 : w7.frozen? ⟨R0, 3, none⟩ = false := blk_frozen hr7 3); (have r4 : w7.cell? ⟨R0, 4, none⟩ = _ := (blk_cell hr7 4).trans rfl); (have rf4 : w7.frozen? ⟨R0, 4, none⟩ = false := blk_frozen hr7 4); (have r5 : w7.cell? ⟨R0, 5, none⟩ = _ := (blk_cell hr7 5).trans rfl); (have rf5 : w7.frozen? ⟨R0, 5, none⟩ = false := blk_frozen hr7 5); (have r6 : w7.cell? ⟨R0, 6, none⟩ = _ := (blk_cell hr7 6).trans rfl); (have rf6 : w7.frozen? ⟨R0, 6, none⟩ = false := blk_frozen hr7 6); (have x0 : w7.cell? ⟨X, 0, none⟩ = _ := (blk_cell hx7 0).trans rfl); (have x1 : w7.cell? ⟨X, 1, none⟩ = _ := (blk_cell hx7 1).trans rfl); (have x2 : w7.cell? ⟨X, 2, none⟩ = _ := (blk_cell hx7 2).trans rfl); (have x3 : w7.cell? ⟨X, 3, none⟩ = _ := (blk_cell hx7 3).trans rfl); (have x4 : w7.cell? ⟨X, 4, none⟩ = _ := (blk_cell hx7 4).trans rfl); (have x5 : w7.cell? ⟨X, 5, none⟩ = _ := (blk_cell hx7 5).trans rfl); (have x6 : w7.cell? ⟨X, 6, none⟩ = _ := (blk_cell hx7 6).trans rfl); clear hr7 hx7 hb))
      ((try simp only [Exit.inBlock, Exit.then]); refine bodyPost_ret (results_ctt rfl _ _ R0 27 #[.int .i64 x.kd, .bool bno, .slice A2 x.S.length c2, .slice A3 x.U.length c3, .slice A4 x.Se.length c4, .slice A5 x.Sp.length c5, .slice A6 x.Cu.length c6] (0, 0) _ rfl HF.out.1 Tryd.underlying27 rfl (by kernel_rfl)) rfl ?_)
      rw [HDEC.out]; dsimp only; rw [← HBN.out]; exact ⟨_, _, _, _, _, rfl, H8.out.1.keepX H8.out.2.1 HF.out.2.1, H8.out.2.2.2.trans HF.out.2.2⟩
 ·have HDEC := Aside0.mk (decV_err HX0.out)
  obtain ⟨c, q, hcq⟩ : ∃ c q, endF (bytesOf s) sw = (c, q) := ⟨_, _, rfl⟩
  rw [hcq] at HEND
  have HEND := Aside0.mk HEND
  have hm0 : decide (0 ≤ (m : Int)) = true := decide_eq_true (by omega)
  clear ho hn hcq
  go_wp2_with ((go_at_call 18; refine HEND.out.mono ?_; rintro e w7 ⟨rfl, hb⟩; (have H7 := Aside0.mk (And.intro (H6.out.1.below hb) (And.intro (H6.out.2.1.below hb) (And.intro (blk_below H6.out.2.2.1 hb) (And.intro (blk_below H6.out.2.2.2.1 hb) (H6.out.2.2.2.2.1.trans (hb.mono H6.out.2.2.2.2.1.size))))))); (have hr7 := H7.out.2.2.1); (have hx7 := H7.out.2.2.2.1); (have HRA7 := Aside0.mk (blk_below HRA.out hb)); (have g71 : w7.cell? ⟨G, 1, none⟩ = some (.int .i64 (m : Int)) := (blk_cell (blk_below HRA.out hb) 1).trans rfl); (have r0 : w7.cell? ⟨R0, 0, none⟩ = _ := (blk_cell hr7 0).trans rfl); (have rf0 : w7.frozen? ⟨R0, 0, none⟩ = false := blk_frozen hr7 0); (have r1 : w7.cell? ⟨R0, 1, none⟩ = _ := (blk_cell hr7 1).trans rfl); (have rf1 : w7.frozen? ⟨R0, 1, none⟩ = false := blk_frozen hr7 1); (have r2 : w7.cell? ⟨R0, 2, none⟩ = _ := (blk_cell hr7 2).trans rfl); (have rf2 : w7.frozen? ⟨R0, 2, none⟩ = false := blk_frozen hr7 2); (have r3 : w7.cell? ⟨R0, 3, none⟩ = _ := (blk_cell hr7 3).trans rfl); (have rf3 : w7.frozen? ⟨R0, 3, none⟩ = false := blk_frozen hr7 3); (have r4 : w7.cell? ⟨R0, 4, none⟩ = _ := (blk_cell hr7 4).trans rfl); (have rf4 : w7.frozen? ⟨R0, 4, none⟩ = false := blk_frozen hr7 4); (have r5 : w7.cell? ⟨R0, 5, none⟩ = _ := (blk_cell hr7 5).trans rfl); (have rf5 : w7.frozen? ⟨R0, 5, none⟩ = false := blk_frozen hr7 5); (have r6 : w7.cell? ⟨R0, 6, none⟩ = _ := (blk_cell hr7 6).trans rfl); (have rf6 : w7.frozen? ⟨R0, 6, none⟩ = false := blk_frozen hr7 6); clear hr7 hx7 hb))
  have h7 := set7 (W := w7.drew) (base := w.heap.size) (u0 := .int .i64 0) (u1 := .bool false) (u2 := .slice none 0 0) (u3 := .slice none 0 0) (u4 := .slice none 0 0) (u5 := .slice none 0 0) (u6 := .slice none 0 0) H7.out.2.2.1 HRg.out
  dsimp only at h7
  have hra7 : w7.heap[G]? = some (.cells #[.pointer (some ⟨B, 0, none⟩), .int .i64 (m : Int)] 48 (0, 0)) := HRA7.out
  have HGZ : Aside0 ((((((((w7.drew.setCell ⟨R0, 0, none⟩ (.int .i64 0)).setCell ⟨R0, 1, none⟩ (.bool false)).setCell ⟨R0, 2, none⟩ (.slice none 0 0)).setCell ⟨R0, 3, none⟩ (.slice none 0 0)).setCell ⟨R0, 4, none⟩ (.slice none 0 0)).setCell ⟨R0, 5, none⟩ (.slice none 0 0)).setCell ⟨R0, 6, none⟩ (.slice none 0 0)).cell? ⟨G, 1, none⟩ = some (.int .i64 (m : Int))) := ⟨(blk_cell (blk_kept (W := w7.drew) hra7 h7.2.1 (blk_ne hra7 H7.out.2.2.1 (by decide))) 1).trans rfl⟩
  have HF := Aside0.mk h7
  clear h7 hra7
  refine wp_region_held_drew (S := fun w' => Aside0 (w'.cell? ⟨G, 1, none⟩ = some (.int .i64 (m : Int)))) (by kernel_rfl) (⟨g71⟩) (fun hHeld => ?_)
  (refine wpAnyH_take (i := 0) (v := ?_) rfl (by kernel_rfl) (by kernel_rfl) (by kernel_rfl) (fun _ _ _ h => h) (Or.inl ⟨by rfl, ?_⟩) hHeld ?_; rotate_left; focus (intro w_ hSw_; have z_ := hSw_.out; clear hSw_; go_simp; try with_reducible rfl)); (try simp only [Act.put, zA, zB, zC, zD, zE, zF])
  (refine wpAnyH_take (i := 1) (v := ?_) rfl (by kernel_rfl) (by kernel_rfl) (by kernel_rfl) (fun _ _ _ h => h) (Or.inl ⟨by rfl, ?_⟩) hHeld ?_; rotate_left; focus (intro w_ hSw_; have z_ := hSw_.out; clear hSw_; go_simp; try with_reducible rfl)); (try simp only [Act.put, zA, zB, zC, zD, zE, zF])
  (refine wpAnyH_take (i := 2) (v := ?_) rfl (by kernel_rfl) (by kernel_rfl) (by kernel_rfl) (fun _ _ _ h => h) (Or.inl ⟨by rfl, ?_⟩) hHeld ?_; rotate_left; focus (intro w_ hSw_; have z_ := hSw_.out; clear hSw_; go_simp; try with_reducible rfl)); (try simp only [Act.put, zA, zB, zC, zD, zE, zF])
  (refine wpAnyH_take (i := 3) (v := ?_) rfl (by kernel_rfl) (by kernel_rfl) (by kernel_rfl) (fun _ _ _ h => h) (Or.inl ⟨by rfl, ?_⟩) hHeld ?_; rotate_left; focus (intro w_ hSw_; have z_ := hSw_.out; clear hSw_; go_simp; try with_reducible rfl)); (try simp only [Act.put, zA, zB, zC, zD, zE, zF])
  (refine wpAnyH_take (i := 4) (v := ?_) rfl (by kernel_rfl) (by kernel_rfl) (by kernel_rfl) (fun _ _ _ h => h) (Or.inl ⟨by rfl, ?_⟩) hHeld ?_; rotate_left; focus (intro w_ hSw_; have z_ := hSw_.out; clear hSw_; go_simp; try with_reducible rfl)); (try simp only [Act.put, zA, zB, zC, zD, zE, zF])
  refine wpAnyH_ready (rs := [5]) (by kernel_rfl) (by simp) ?_; refine AllReadyH.cons rfl (fun K hK => ?_) AllReadyH.nil
  refine store_step (w1 := (((((((w7.drew.setCell ⟨R0, 0, none⟩ (.int .i64 0)).setCell ⟨R0, 1, none⟩ (.bool false)).setCell ⟨R0, 2, none⟩ (.slice none 0 0)).setCell ⟨R0, 3, none⟩ (.slice none 0 0)).setCell ⟨R0, 4, none⟩ (.slice none 0 0)).setCell ⟨R0, 5, none⟩ (.slice none 0 0)).setCell ⟨R0, 6, none⟩ (.slice none 0 0))) (by rfl) rfl ?hr ?_
  case hr => first | (go_simp; done) | (go_simp; rfl)
  refine hK.out _ _ HGZ (fun hHeld => ?_)
  clear hK K
  (try simp only [Act.put, zA, zB, zC, zD, zE, zF])
  (refine wpAnyH_take (i := 6) (v := ?_) rfl (by kernel_rfl) (by kernel_rfl) (by kernel_rfl) (fun _ _ _ h => h) (Or.inl ⟨by rfl, ?_⟩) hHeld ?_; rotate_left; focus (intro w_ hSw_; have z_ := hSw_.out; clear hSw_; go_simp; try with_reducible rfl)); (try simp only [Act.put, zA, zB, zC, zD, zE, zF])
  (refine wpAnyH_take (i := 7) (v := ?_) rfl (by kernel_rfl) (by kernel_rfl) (by kernel_rfl) (fun _ _ _ h => h) (Or.inl ⟨by rfl, ?_⟩) hHeld ?_; rotate_left; focus (intro w_ hSw_; have z_ := hSw_.out; clear hSw_; go_simp; try with_reducible rfl)); (try simp only [Act.put, zA, zB, zC, zD, zE, zF])
  refine wpAnyH_done (by kernel_rfl) ?_ _
  go_wp2
  ((try simp only [Exit.inBlock, Exit.then]); refine bodyPost_ret (results_ctt rfl _ _ R0 27 #[.int .i64 0, .bool false, .slice none 0 0, .slice none 0 0, .slice none 0 0, .slice none 0 0, .slice none 0 0] (0, 0) _ rfl HF.out.1 Tryd.underlying27 rfl (by kernel_rfl)) rfl ?_)
  exact ⟨_, _, _, _, _, by rw [HDEC.out]; rfl, by rw [HDEC.out]; exact RowsA.nil _ _ (Nat.le_trans H7.out.2.2.2.2.size HF.out.2.1.1), (below_drew1 H7.out.2.2.2.2).trans HF.out.2.2⟩
/-- the rows of a result, as the print tells them -/
theorem RowsA.told {W : World} {n0 : Nat} {vS vU vSe vSp vCu : Value} {x : AnsV} (h : RowsA W n0 vS vU vSe vSp vCu x) :
 (Kd.int .i64).R 3 W n0 (fun k_ => some k_ ≠ (vU : Value).ownBlock) vS x.S ∧ (Kd.int .i64).R 3 W n0 (fun k_ => some k_ ≠ (vS : Value).ownBlock) vU x.U ∧
 Kd.S (Kd.slice 3 (Kd.int .i64)) 22 W n0 (fun k_ => some k_ ≠ (vS : Value).ownBlock ∧ some k_ ≠ (vU : Value).ownBlock) vSe x.Se ∧
 Kd.S k41 41 W n0 (fun k_ => some k_ ≠ (vS : Value).ownBlock ∧ some k_ ≠ (vU : Value).ownBlock) vSp x.Sp ∧
 Kd.S k43 43 W n0 (fun k_ => some k_ ≠ (vS : Value).ownBlock ∧ some k_ ≠ (vU : Value).ownBlock) vCu x.Cu := by
 obtain ⟨n1, n2, a1, a2, a3, h1, h2, h3, h4, h5⟩ := h
 have hS : ∀ k, some k = vS.ownBlock → k < n1 := fun k e => h1.1 k e.symm
 have hU : ∀ k, some k = vU.ownBlock → n1 ≤ k ∧ k < n2 := fun k e => ⟨Kd.R_base h2 k e.symm, h2.1 k e.symm⟩
 have hg : ∀ k, n2 ≤ k → some k ≠ vS.ownBlock ∧ some k ≠ vU.ownBlock := fun k hk => ⟨fun e => by have := hS k e; omega, fun e => by have := hU k e; omega⟩
 exact ⟨Kd.R_mono h1 (fun k hk e => by have := hU k e; omega), Kd.R_lower (Kd.R_mono (Kd.R_bound h2) (fun k hk e => by have := hS k e; have := hk.2.1; omega)) a1,
  Kd.S_lower (Kd.S_mono (Kd.S_bound h3) (fun k hk => hg k hk.2.1)) (Nat.le_trans a1 a2), Kd.S_lower (Kd.S_mono (Kd.S_bound h4) (fun k hk => hg k hk.2.1)) (Nat.le_trans a1 a2), Kd.S_lower (Kd.S_mono (Kd.S_bound h5) (fun k hk => hg k hk.2.1)) (Nat.le_trans a1 a2)⟩
end Go.Proofs.YtlekdhejgdfnpaaDoor.P
