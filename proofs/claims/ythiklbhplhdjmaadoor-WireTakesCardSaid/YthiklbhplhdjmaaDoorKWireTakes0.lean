/- Texts of this claim's own repository, merged by wip/tool/pack.py: Px0, Px1, EvA, WireA, WireB, WireC, WireD, Px2, Px3, WireRa, WireRb, WireLt, WireE, WireF, WireG, WireH, WireI, Shelf, WireJ. -/
import Derived.Test.YthiklbhplhdjmaaDoorProg
import Derived.Below
import Derived.Deep.Draws
import Derived.Deep.AppendLies
import Derived.Maps.AppendAt
import Derived.OwnWalk
import Derived.Laws.BytesArg
import Derived.Laws.MakeOwn
import Derived.Laws.OwnMore
import Derived.Deep.OwnRows
import Derived.Tactics
import Derived.Lib.ConvBytes
import Derived.Laws.Slices
import Derived.WalkKit
import Derived.KernelRfl
import Derived.RowKit3
import Derived.Deep.LoopGhost
import Derived.Deep.QuietTactic
import Derived.BigQuiet
import Derived.WideLaws
import Derived.Deep.DeepCutAuto
import Derived.Deep.CutBlock
import Derived.Deep.RegionHeld3
import Derived.Laws.Rows
import Derived.Lib.AppendStr
import Derived.ArgAppend
import Derived.Laws.IdiomCopy
import Derived.OrdersHeld
import Derived.Laws.BitsLemmas
import Derived.RowKit
import Derived.Outline
import Derived.Test.YthiklbhplhdjmaaDoorWWords
import Derived.Test.YthiklbhplhdjmaaDoorWLast
import Derived.Test.YthiklbhplhdjmaaDoorWTab
import Derived.Test.YthiklbhplhdjmaaDoorWFour
import Derived.Test.YthiklbhplhdjmaaDoorWQPut
import Derived.Test.YthiklbhplhdjmaaDoorWApart
import Derived.Test.YthiklbhplhdjmaaDoorWArr
import Derived.Test.YthiklbhplhdjmaaDoorWZeros
import Derived.Test.YthiklbhplhdjmaaDoorWFoot
import Derived.Test.YthiklbhplhdjmaaDoorWKept
import Derived.Test.YthiklbhplhdjmaaDoorWShare
import Derived.Test.YthiklbhplhdjmaaDoorWN
import Derived.Test.YthiklbhplhdjmaaDoorWFootNe
import Derived.Test.YthiklbhplhdjmaaDoorWAt
import Derived.Test.YthiklbhplhdjmaaDoorWEqStruct
import Derived.Test.YthiklbhplhdjmaaDoorWRepsOne
import Derived.Test.YthiklbhplhdjmaaDoorWInv
import Derived.Test.YthiklbhplhdjmaaDoorWInvWords
import Derived.Test.YthiklbhplhdjmaaDoorWGuard
import Derived.Test.YthiklbhplhdjmaaDoorWNEv
import Derived.Test.YthiklbhplhdjmaaDoorWMore
import Derived.Lib.Builder
import Derived.Lib.Strings
import Derived.Lib.Walk
import Derived.Lib.Hide
import Derived.Laws.Externs
import Derived.Shelf.RegionOpenPlain
import Derived.BigRegion
import Derived.IntWalk
import Derived.LaidEql
import Derived.Stop.Asserts
import Derived.RowKitTokens
import Derived.Lib.Bytes
import Derived.Shelf.Strings.Builder1
import Derived.Shelf.Strings.BuilderF
set_option linter.unusedVariables false
set_option linter.unusedSimpArgs false
-- written by wip/tool/ownprint.py of this claim's own repository, out of the translation's print
namespace Go.Proofs.YthiklbhplhdjmaaDoor.P
open Go.RowKit Go.Proofs.YthiklbhplhdjmaaDoorW.PrintWords Go.Proofs.YthiklbhplhdjmaaDoorW.PrintLast Go.Proofs.YthiklbhplhdjmaaDoorW.PrintMore
attribute [local go_sem] max2_int min2_int max_two min_two max_three min_three max_four min_four   -- for this text's walks alone
set_option linter.unusedVariables false
set_option linter.unusedSimpArgs false



def errW : Option Int → Value
  | none => .nilIface
  | some c => .iface 0 (.int .i64 c)
theorem errW_none : errW none = .nilIface := rfl
theorem errW_some (c : Int) : errW (some c) = .iface 0 (.int .i64 c) := rfl

theorem info3 : (Tryd.prog.info? 3).map (fun i => (i.zero, i.size, i.bytes)) = some (some (.int .i64 0), 1, 8) := by kernel_rfl
theorem info5 : (Tryd.prog.info? 5).map (fun i => (i.zero, i.size, i.bytes)) = some (some (.int .u8 0), 1, 1) := by kernel_rfl
-- the values' own types

end Go.Proofs.YthiklbhplhdjmaaDoor.P
-- written by wip/tool/ownprint.py of this claim's own repository, out of the translation's print
namespace Go.Proofs.YthiklbhplhdjmaaDoor.P
open Go.RowKit Go.Proofs.YthiklbhplhdjmaaDoorW.PrintWords Go.Proofs.YthiklbhplhdjmaaDoorW.PrintLast Go.Proofs.YthiklbhplhdjmaaDoorW.PrintMore
attribute [local go_sem] max2_int min2_int max_two min_two max_three min_three max_four min_four   -- for this text's walks alone
set_option linter.unusedVariables false
set_option linter.unusedSimpArgs false

/-! ### greenwoodref01_Same: function 11 -/
def greenwoodref01_Same.l0 : Nat → List Int → List Int → Int → Option (Bool)
  | 0, _, _, _ => none
  | k + 1, x0, x1, x5 => if x5 < (x0.length : Int) then (if 0 ≤ x5 then (if x5 < (x1.length : Int) then (if (rd x0 x5) = (rd x1 x5) then (greenwoodref01_Same.l0 k x0 x1 (wrap64 (x5 + 1))) else (some false)) else (none)) else (none)) else (some true)
def greenwoodref01_Same.f (k : Nat) (l0 : List Int) (l1 : List Int) : Option (Bool) := if (l0.length : Int) = (l1.length : Int) then (greenwoodref01_Same.l0 k l0 l1 0) else (some false)
set_option maxHeartbeats 8000000 in
set_option maxRecDepth 100000 in
theorem greenwoodref01_Same.calls (k : Nat) (A0 : Option Addr) (c0 : Nat) (l0 : List Int) (A1 : Option Addr) (c1 : Nat) (l1 : List Int) (r : Bool) (w : World) (hr0 : Kd.C (Kd.int .i64) w A0 l0.length l0) (hc0 : l0.length ≤ c0) (hr1 : Kd.C (Kd.int .i64) w A1 l1.length l1) (hc1 : l1.length ≤ c1) (h : greenwoodref01_Same.f k l0 l1 = some r) :
    Calls Tryd.prog 11 #[.slice A0 l0.length c0, .slice A1 l1.length c1] w fun e w' => e = .returned (.bool r) ∧ Drawn0 w w' := by
  have HR0 := Aside0.mk hr0
  have HC0 := Aside0.mk hc0
  clear hr0 hc0
  have HR1 := Aside0.mk hr1
  have HC1 := Aside0.mk hc1
  clear hr1 hc1
  have H : (if (l0.length : Int) = (l1.length : Int) then (greenwoodref01_Same.l0 k l0 l1 0) else (some false)) = some r := h
  clear h
  by_cases c3 : (l0.length : Int) = (l1.length : Int)
  · rw [if_pos c3] at H
    have c3b0 : ((l0.length : Int) == (l1.length : Int)) = true := beq_iff_eq.mpr c3
    have c3b1 : ((l0.length : Int) != (l1.length : Int)) = false := bne_eq_false_iff_eq.mpr c3
    have c3b2 : (l0.length == l1.length) = true := by first | simpa using c3 | (simp at c3 ⊢; omega)
    clear c3
    have H' := Aside0.mk H
    clear H
    go_enter Tryd.func11, Tryd.ntmps11
    go_wp2
    repeat (go_quiet (fail); try go_wp2)
    go_loopg [5] k (fun kq v5 w' => ∃ (x5_1 : Int), v5 = .int .i64 x5_1 ∧ Aside0 (greenwoodref01_Same.l0 kq l0 l1 x5_1 = some r) ∧ Aside0 (kq ≤ k) ∧ Drawn0 w w')
    case atStart => exact ⟨(0), (by first | rfl | (simp; done) | (simp [*]; done)), H', ⟨Nat.le_refl _⟩, by repeat (first | exact Drawn0.refl _ | apply Drawn0.step)⟩
    case round =>
      clear H'
      try clear c1
      try clear p2
      try clear c3
      try clear c3b0
      try clear c3b1
      try clear c3b2
      obtain ⟨x5_1, rfl, HA, HK1, ⟨m1, rfl⟩⟩ := hrel
      cases gk with
      | zero => exact absurd HA.out (by simp [greenwoodref01_Same.l0])
      | succ k1 =>
        have H := HA.out
        clear HA
        simp only [greenwoodref01_Same.l0] at H
        by_cases c4 : x5_1 < (l0.length : Int)
        · rw [if_pos c4] at H
          have c4b0 : decide (x5_1 < (l0.length : Int)) = true := decide_eq_true c4
          clear c4
          by_cases c5 : 0 ≤ x5_1
          · rw [if_pos c5] at H
            have c5b0 : decide (0 ≤ x5_1) = true := decide_eq_true c5
            clear c5
            by_cases c6 : x5_1 < (l1.length : Int)
            · rw [if_pos c6] at H
              have c6b0 : decide (x5_1 < (l1.length : Int)) = true := decide_eq_true c6
              clear c6
              by_cases c7 : (rd l0 x5_1) = (rd l1 x5_1)
              · rw [if_pos c7] at H
                have c7b0 : ((rd l0 x5_1) == (rd l1 x5_1)) = true := beq_iff_eq.mpr c7
                have c7b1 : ((rd l0 x5_1) != (rd l1 x5_1)) = false := bne_eq_false_iff_eq.mpr c7
                clear c7
                have H' := Aside0.mk H
                clear H
                have p101 : 0 ≤ (x5_1 : Int) := of_decide_eq_true (by first | (with_reducible assumption) | assumption)
                have q101 : x5_1 < (l0.length : Int) := of_decide_eq_true (by first | (with_reducible assumption) | assumption)
                obtain ⟨ad101, e101, hx101_0⟩ := Kd.at_int HR0.out x5_1 p101 q101
                cases e101
                replace p101 := eq_true p101
                replace q101 := eq_true q101
                have p102 : 0 ≤ (x5_1 : Int) := of_decide_eq_true (by first | (with_reducible assumption) | assumption)
                have q102 : x5_1 < (l1.length : Int) := of_decide_eq_true (by first | (with_reducible assumption) | assumption)
                obtain ⟨ad102, e102, hx102_0⟩ := Kd.at_int HR1.out x5_1 p102 q102
                cases e102
                replace p102 := eq_true p102
                replace q102 := eq_true q102
                go_wp2
                repeat (go_quiet (fail); try go_wp2)
                go_roundg k1
                case measure => have := HK1.out; omega
                case rel => exact ⟨(wrap64 (x5_1 + 1)), (by first | rfl | (simp; done) | (simp [*]; done)), H', ⟨by have := HK1.out; omega⟩, by repeat (first | exact Drawn0.refl _ | apply Drawn0.step)⟩
              · rw [if_neg c7] at H
                have c7b0 : ((rd l0 x5_1) == (rd l1 x5_1)) = false := beq_eq_false_iff_ne.mpr c7
                have c7b1 : ((rd l0 x5_1) != (rd l1 x5_1)) = true := bne_iff_ne.mpr c7
                obtain rfl := Option.some.inj H
                have p101 : 0 ≤ (x5_1 : Int) := of_decide_eq_true (by first | (with_reducible assumption) | assumption)
                have q101 : x5_1 < (l0.length : Int) := of_decide_eq_true (by first | (with_reducible assumption) | assumption)
                obtain ⟨ad101, e101, hx101_0⟩ := Kd.at_int HR0.out x5_1 p101 q101
                cases e101
                replace p101 := eq_true p101
                replace q101 := eq_true q101
                have p102 : 0 ≤ (x5_1 : Int) := of_decide_eq_true (by first | (with_reducible assumption) | assumption)
                have q102 : x5_1 < (l1.length : Int) := of_decide_eq_true (by first | (with_reducible assumption) | assumption)
                obtain ⟨ad102, e102, hx102_0⟩ := Kd.at_int HR1.out x5_1 p102 q102
                cases e102
                replace p102 := eq_true p102
                replace q102 := eq_true q102
                go_wp2
                repeat (go_quiet (fail); try go_wp2)
                go_ret
                exact ⟨by first | rfl | (simp; done) | (simp [*]; done), by repeat (first | exact Drawn0.refl _ | apply Drawn0.step)⟩
            · rw [if_neg c6] at H
              exact absurd H (by simp)
          · rw [if_neg c5] at H
            exact absurd H (by simp)
        · rw [if_neg c4] at H
          have c4b0 : decide (x5_1 < (l0.length : Int)) = false := decide_eq_false c4
          clear c4
          obtain rfl := Option.some.inj H
          go_wp2
          repeat (go_quiet (fail); try go_wp2)
          go_ret
          exact ⟨by first | rfl | (simp; done) | (simp [*]; done), by repeat (first | exact Drawn0.refl _ | apply Drawn0.step)⟩
  · rw [if_neg c3] at H
    have c3b0 : ((l0.length : Int) == (l1.length : Int)) = false := beq_eq_false_iff_ne.mpr c3
    have c3b1 : ((l0.length : Int) != (l1.length : Int)) = true := bne_iff_ne.mpr c3
    have c3b2 : (l0.length == l1.length) = false := by first | simpa using c3 | (simp at c3 ⊢; omega)
    obtain rfl := Option.some.inj H
    go_enter Tryd.func11, Tryd.ntmps11
    go_wp2
    repeat (go_quiet (fail); try go_wp2)
    go_ret
    exact ⟨by first | rfl | (simp; done) | (simp [*]; done), by repeat (first | exact Drawn0.refl _ | apply Drawn0.step)⟩

/-! ### wire_Num: function 14 -/
mutual
def wire_Num.j0 : Nat → Int → Bool → Option (ByteArray)
  | 0, _, _ => none
  | k + 1, x0, x9 => if x9 = true then (some (⟨#[]⟩ : ByteArray)) else (wire_Num.l0 k x0 ([] : List Int))
def wire_Num.l0 : Nat → Int → List Int → Option (ByteArray)
  | 0, _, _ => none
  | k + 1, x0, x3 => if x0 ≥ 128 then (if x3.length < 140737488355328 then (wire_Num.l0 k (x0 / 128) (x3 ++ [(wrap64 ((Int.tmod x0 128) + 128)) % 256])) else (none)) else (if x3.length < 140737488355328 then (some (strOfNums (x3 ++ [(x0) % 256]))) else (none))
end
def wire_Num.f (k : Nat) (a0 : Int) : Option (ByteArray) := if a0 < 0 then (wire_Num.j0 k a0 true) else (wire_Num.j0 k a0 (decide (a0 > 1125899906842624)))
set_option maxHeartbeats 8000000 in
set_option maxRecDepth 100000 in
theorem wire_Num.calls (k : Nat) (a0 : Int) (r : ByteArray) (w : World) (h : wire_Num.f k a0 = some r) :
    Calls Tryd.prog 14 #[.int .i64 a0] w fun e w' => e = .returned (.string r) ∧ Below w.heap.size w w' := by
  have HB := Aside0.mk (Below.refl w.heap.size w)
  have H : (if a0 < 0 then (wire_Num.j0 k a0 true) else (wire_Num.j0 k a0 (decide (a0 > 1125899906842624)))) = some r := h
  clear h
  have HC2 := Aside0.mk H
  clear H
  go_enter Tryd.func14, Tryd.ntmps14
  go_upto_region 1 with (fail)
  go_cut [9] (fun v9 wc => ∃ (kq : Nat) (x9_1 : Bool), v9 = .bool x9_1 ∧ Aside0 (wire_Num.j0 kq a0 x9_1 = some r) ∧ Aside0 (kq ≤ k) ∧ Aside0 (Below w.heap.size w wc))
  case first =>
    have H := HC2.out
    clear HC2
    by_cases c3 : a0 < 0
    · rw [if_pos c3] at H
      have c3b0 : decide (a0 < 0) = true := decide_eq_true c3
      clear c3
      (first | rw [c3b0] | (simp only [i64_w, i32_w]; rw [c3b0]) | skip)
      have H' := Aside0.mk H
      clear H
      go_wp2
      go_meet
      case rel => exact ⟨_, (true), (by first | rfl | (simp; done) | (simp [*]; done)), H', ⟨by first | omega | exact Nat.le_refl _⟩, ⟨by repeat (first | (with_reducible first | exact HB.out | apply below_alloc | apply pw_below_drewN | apply below_drew1) | exact HB.out)⟩⟩
    · rw [if_neg c3] at H
      have c3b0 : decide (a0 < 0) = false := decide_eq_false c3
      clear c3
      (first | rw [c3b0] | (simp only [i64_w, i32_w]; rw [c3b0]) | skip)
      have H' := Aside0.mk H
      clear H
      go_wp2
      go_meet
      case rel => exact ⟨_, (decide (a0 > 1125899906842624)), (by first | rfl | (simp; done) | (simp [*]; done)), H', ⟨by first | omega | exact Nat.le_refl _⟩, ⟨by repeat (first | (with_reducible first | exact HB.out | apply below_alloc | apply pw_below_drewN | apply below_drew1) | exact HB.out)⟩⟩
  case rest =>
    clear HC2
    try clear c1
    try clear p2
    try clear c3
    try clear c3b0
    obtain ⟨kq, x9_1, rfl, HA, HJ1, HB⟩ := hcut
    cases kq with
    | zero => exact absurd HA.out (by simp [wire_Num.j0])
    | succ kj1 =>
      have H := HA.out
      clear HA
      simp only [wire_Num.j0] at H
      by_cases c4 : x9_1 = true
      · subst c4
        have H1 : (some (⟨#[]⟩ : ByteArray)) = some r := by rw [if_pos rfl] at H; exact H
        clear H
        have H := H1
        clear H1
        obtain rfl := Option.some.inj H
        go_wp2
        go_ret
        exact ⟨by first | rfl | (simp [errW_none, errW_some] <;> rfl) | (simp [*, errW_none, errW_some] <;> rfl), by repeat (first | (with_reducible first | exact HB.out | apply below_alloc | apply pw_below_drewN | apply below_drew1) | exact HB.out)⟩
      · replace c4 := Bool.eq_false_iff.mpr c4
        subst c4
        have H1 : (wire_Num.l0 kj1 a0 ([] : List Int)) = some r := by rw [if_neg (show ¬ (false = true) by decide)] at H; exact H
        clear H
        have H := H1
        clear H1
        have H' := Aside0.mk H
        clear H
        go_wp2
        go_loopg [0, 3] kj1 (fun kq v0 v3 w' => ∃ (x0_2 : Int) (x3_2 : List Int), v0 = .int .i64 x0_2 ∧ Aside0 (wire_Num.l0 kq x0_2 x3_2 = some r) ∧ Aside0 (kq ≤ kj1) ∧ Aside0 (Kd.R (Kd.int .u8) 5 w' w.heap.size (fun _ => True) v3 x3_2) ∧ Aside0 (Below w.heap.size w w'))
        case atStart => exact ⟨(a0), (([] : List Int)), (by first | rfl | (simp; done) | (simp [*]; done)), H', ⟨Nat.le_refl _⟩, ⟨by first | exact Kd.R_nil _ _ _ _ _ | exact Kd.N_nil _ _ _ _ _ | exact Kd.V_nil _ _ _ _ _ | exact Kd.Q_nil _ _ _ _ _ | exact Kd.S_nil _ _ _ _ _⟩, ⟨by repeat (first | (with_reducible first | exact HB.out | apply below_alloc | apply pw_below_drewN | apply below_drew1) | exact HB.out)⟩⟩
        case round =>
          clear H'
          try clear c1
          try clear p2
          try clear c3
          try clear c3b0
          try clear c4
          try clear p2
          obtain ⟨x0_2, x3_2, rfl, HA, HK2, HO_3, HB⟩ := hrel
          cases gk with
          | zero => exact absurd HA.out (by simp [wire_Num.l0])
          | succ k2 =>
            have H := HA.out
            clear HA
            simp only [wire_Num.l0] at H
            by_cases c5 : x0_2 ≥ 128
            · rw [if_pos c5] at H
              have c5b0 : decide (128 ≤ x0_2) = true := decide_eq_true c5
              clear c5
              by_cases c6 : x3_2.length < 140737488355328
              · rw [if_pos c6] at H
                have LMc6 := Aside0.mk c6
                clear c6
                obtain ⟨y103, hy103⟩ : ∃ y_ : List Int, y_ = (x3_2 ++ [(wrap64 ((Int.tmod x0_2 128) + 128)) % 256]) := ⟨_, rfl⟩
                replace H : (wire_Num.l0 k2 (x0_2 / 128) y103) = some r := by first | (rw [hy103]; with_reducible exact H) | (have H2_ := (Option.bind_some _ _).symm.trans H; rw [hy103]; with_reducible exact H2_) | (have H2_ := (Option.bind_some _ _).symm.trans H; with_reducible exact H2_) | with_reducible exact H | (rw [hy103]; exact H) | exact H
                have Ny103 := Aside0.mk hy103
                clear hy103
                have H' := Aside0.mk H
                clear H
                go_wp2_with (first | ((with_reducible refine gate_builtin (b := .append) (xs := #[.tmp 14, .tmp 19]) rfl ?_); at_builtin; refine Kd.R_append (Kd.int .u8) (w0 := w) w.heap.size rfl (.tmp 14) (.tmp 19) 39 5 (.int .u8 0) 1 rfl Tryd.underlying39 info5 rfl (by decide) (by omega) u3 x3_2 ((wrap64 ((Int.tmod x0_2 128) + 128)) % 256) [.int .u8 ((wrap64 ((Int.tmod x0_2 128) + 128)) % 256)] (fun _ => True) (fun _ => False) rfl rfl ?aP (fun _ hk => hk.elim) ?aF ?aO ?aB ?aS ?aL ?_; (case aP => exact rfl); (case aB => exact (by repeat (first | (with_reducible first | exact HB.out | apply below_alloc | apply pw_below_drewN | apply below_drew1) | exact HB.out))); (case aF => exact (fun _ _ => trivial)); (case aO => exact (by (with_reducible repeat (first | apply Kd.R_alloc | apply Kd.R_drewN | apply Kd.R_drew)); exact HO_3.out)); (case aS => exact (below_size (by repeat (first | (with_reducible first | exact HB.out | apply below_alloc | apply pw_below_drewN | apply below_drew1) | exact HB.out)))); (case aL => have := LMc6.out; omega); intro v104 w7 ho hb hg hat; rw [← Ny103.out] at ho; have n0_ := Aside0.mk (hb); have n1_ := Aside0.mk (ho); clear HB; clear HO_3; have HB := n0_; have HO105 := n1_; clear n0_ n1_; clear ho hb hg hat))
                go_roundg k2
                case measure => have := HJ1.out; have := HK2.out; omega
                case rel => exact ⟨(x0_2 / 128), (y103), (by first | rfl | (simp; done) | (simp [*]; done)), H', ⟨by have := HJ1.out; have := HK2.out; omega⟩, ⟨by (with_reducible repeat (first | apply Kd.R_alloc | apply Kd.R_drewN | apply Kd.R_drew)); exact HO105.out⟩, ⟨by repeat (first | (with_reducible first | exact HB.out | apply below_alloc | apply pw_below_drewN | apply below_drew1) | exact HB.out)⟩⟩
              · rw [if_neg c6] at H
                exact absurd H (by simp)
            · rw [if_neg c5] at H
              have c5b0 : decide (128 ≤ x0_2) = false := decide_eq_false c5
              clear c5
              by_cases c8 : x3_2.length < 140737488355328
              · rw [if_pos c8] at H
                have LMc8 := Aside0.mk c8
                clear c8
                obtain ⟨y106, hy106⟩ : ∃ y_ : List Int, y_ = (x3_2 ++ [(x0_2) % 256]) := ⟨_, rfl⟩
                replace H : (some (strOfNums y106)) = some r := by first | (rw [hy106]; with_reducible exact H) | (have H2_ := (Option.bind_some _ _).symm.trans H; rw [hy106]; with_reducible exact H2_) | (have H2_ := (Option.bind_some _ _).symm.trans H; with_reducible exact H2_) | with_reducible exact H | (rw [hy106]; exact H) | exact H
                have Ny106 := Aside0.mk hy106
                clear hy106
                obtain rfl := Option.some.inj H
                go_wp2_with (first | ((with_reducible refine gate_builtin (b := .append) (xs := #[.tmp 21, .tmp 24]) rfl ?_); at_builtin; refine Kd.R_append (Kd.int .u8) (w0 := w) w.heap.size rfl (.tmp 21) (.tmp 24) 39 5 (.int .u8 0) 1 rfl Tryd.underlying39 info5 rfl (by decide) (by omega) u3 x3_2 ((x0_2) % 256) [.int .u8 ((x0_2) % 256)] (fun _ => True) (fun _ => False) rfl rfl ?aP (fun _ hk => hk.elim) ?aF ?aO ?aB ?aS ?aL ?_; (case aP => exact rfl); (case aB => exact (by repeat (first | (with_reducible first | exact HB.out | apply below_alloc | apply pw_below_drewN | apply below_drew1) | exact HB.out))); (case aF => exact (fun _ _ => trivial)); (case aO => exact (by (with_reducible repeat (first | apply Kd.R_alloc | apply Kd.R_drewN | apply Kd.R_drew)); exact HO_3.out)); (case aS => exact (below_size (by repeat (first | (with_reducible first | exact HB.out | apply below_alloc | apply pw_below_drewN | apply below_drew1) | exact HB.out)))); (case aL => have := LMc8.out; omega); intro v107 w9 ho hb hg hat; rw [← Ny106.out] at ho; have n0_ := Aside0.mk (hb); have n1_ := Aside0.mk (ho); clear HB; clear HO_3; have HB := n0_; have HO108 := n1_; clear n0_ n1_; clear ho hb hg hat; have hcv10 := own_string (P := Tryd.prog) Tryd.underlying39 Tryd.underlying5 Tryd.underlying9 (Kd.own_of_R HO108.out)))
                go_ret
                exact ⟨by first | rfl | (simp [errW_none, errW_some] <;> rfl) | (simp [*, errW_none, errW_some] <;> rfl), by repeat (first | (with_reducible first | exact HB.out | apply below_alloc | apply pw_below_drewN | apply below_drew1) | exact HB.out)⟩
              · rw [if_neg c8] at H
                exact absurd H (by simp)

/-! ### wire_Int: function 16 -/
def wire_Int.j0 : Nat → Int → Bool → Option (ByteArray)
  | 0, _, _ => none
  | k + 1, x0, x8 => if x8 = true then (some (⟨#[]⟩ : ByteArray)) else (if x0 < 0 then ((wire_Num.f k (wrap64 ((wrap64 ((-2) * x0)) - 1))).bind fun t109 => (some t109)) else ((wire_Num.f k (wrap64 (2 * x0))).bind fun t110 => (some t110)))
def wire_Int.f (k : Nat) (a0 : Int) : Option (ByteArray) := if a0 < (-1125899906842624) then (wire_Int.j0 k a0 true) else (wire_Int.j0 k a0 (decide (a0 > 1125899906842624)))
set_option maxHeartbeats 8000000 in
set_option maxRecDepth 100000 in
theorem wire_Int.calls (k : Nat) (a0 : Int) (r : ByteArray) (w : World) (h : wire_Int.f k a0 = some r) :
    Calls Tryd.prog 16 #[.int .i64 a0] w fun e w' => e = .returned (.string r) ∧ Below w.heap.size w w' := by
  have HB := Aside0.mk (Below.refl w.heap.size w)
  have H : (if a0 < (-1125899906842624) then (wire_Int.j0 k a0 true) else (wire_Int.j0 k a0 (decide (a0 > 1125899906842624)))) = some r := h
  clear h
  have HC2 := Aside0.mk H
  clear H
  go_enter Tryd.func16, Tryd.ntmps16
  go_upto_region 1 with (fail)
  go_cut [8] (fun v8 wc => ∃ (kq : Nat) (x8_1 : Bool), v8 = .bool x8_1 ∧ Aside0 (wire_Int.j0 kq a0 x8_1 = some r) ∧ Aside0 (kq ≤ k) ∧ Aside0 (Below w.heap.size w wc))
  case first =>
    have H := HC2.out
    clear HC2
    by_cases c3 : a0 < (-1125899906842624)
    · rw [if_pos c3] at H
      have c3b0 : decide (a0 < (-1125899906842624)) = true := decide_eq_true c3
      clear c3
      (first | rw [c3b0] | (simp only [i64_w, i32_w]; rw [c3b0]) | skip)
      have H' := Aside0.mk H
      clear H
      go_wp2
      go_meet
      case rel => exact ⟨_, (true), (by first | rfl | (simp; done) | (simp [*]; done)), H', ⟨by first | omega | exact Nat.le_refl _⟩, ⟨by repeat (first | (with_reducible first | exact HB.out | apply below_alloc | apply pw_below_drewN | apply below_drew1) | exact HB.out)⟩⟩
    · rw [if_neg c3] at H
      have c3b0 : decide (a0 < (-1125899906842624)) = false := decide_eq_false c3
      clear c3
      (first | rw [c3b0] | (simp only [i64_w, i32_w]; rw [c3b0]) | skip)
      have H' := Aside0.mk H
      clear H
      go_wp2
      go_meet
      case rel => exact ⟨_, (decide (a0 > 1125899906842624)), (by first | rfl | (simp; done) | (simp [*]; done)), H', ⟨by first | omega | exact Nat.le_refl _⟩, ⟨by repeat (first | (with_reducible first | exact HB.out | apply below_alloc | apply pw_below_drewN | apply below_drew1) | exact HB.out)⟩⟩
  case rest =>
    clear HC2
    try clear c1
    try clear p2
    try clear c3
    try clear c3b0
    obtain ⟨kq, x8_1, rfl, HA, HJ1, HB⟩ := hcut
    cases kq with
    | zero => exact absurd HA.out (by simp [wire_Int.j0])
    | succ kj1 =>
      have H := HA.out
      clear HA
      simp only [wire_Int.j0] at H
      by_cases c4 : x8_1 = true
      · subst c4
        have H1 : (some (⟨#[]⟩ : ByteArray)) = some r := by rw [if_pos rfl] at H; exact H
        clear H
        have H := H1
        clear H1
        obtain rfl := Option.some.inj H
        go_wp2
        go_ret
        exact ⟨by first | rfl | (simp [errW_none, errW_some] <;> rfl) | (simp [*, errW_none, errW_some] <;> rfl), by repeat (first | (with_reducible first | exact HB.out | apply below_alloc | apply pw_below_drewN | apply below_drew1) | exact HB.out)⟩
      · replace c4 := Bool.eq_false_iff.mpr c4
        subst c4
        have H1 : (if a0 < 0 then ((wire_Num.f kj1 (wrap64 ((wrap64 ((-2) * a0)) - 1))).bind fun t109 => (some t109)) else ((wire_Num.f kj1 (wrap64 (2 * a0))).bind fun t110 => (some t110))) = some r := by rw [if_neg (show ¬ (false = true) by decide)] at H; exact H
        clear H
        have H := H1
        clear H1
        by_cases c5 : a0 < 0
        · rw [if_pos c5] at H
          have c5b0 : decide (a0 < 0) = true := decide_eq_true c5
          clear c5
          replace H := Option.bind_eq_some_iff.mp H
          obtain ⟨t109, A60, H⟩ := H
          replace H : (some t109) = some r := H
          have A6 := Aside0.mk A60
          clear A60
          obtain rfl := Option.some.inj H
          go_wp2_with (first | ((with_reducible refine gate_callee (f := 14) rfl ?_); refine goesL_ (some 14) rfl rfl Tryd.func14 (by kernel_rfl) rfl #[.int .i64 (wrap64 ((wrap64 ((-2) * a0)) - 1))] rfl (by (try simp only [List.map_toArray, List.map_cons, List.map_nil]); first | done | rfl | (simp only [List.length_drop, List.length_take]; rfl)) ?_; (with_reducible refine (wire_Num.calls kj1 (wrap64 ((wrap64 ((-2) * a0)) - 1)) t109 _ A6.out).mono ?_); rintro e w7 ⟨rfl, hb⟩; refine ⟨_, rfl, ?_⟩; have n0_ := Aside0.mk (below_step (by repeat (first | (with_reducible first | exact HB.out | apply below_alloc | apply pw_below_drewN | apply below_drew1) | exact HB.out)) hb); clear HB; have HB := n0_; clear n0_; (try clear hb); (try clear hb2); (try clear hk); (try clear hi)))
          go_ret
          exact ⟨by first | rfl | (simp [errW_none, errW_some] <;> rfl) | (simp [*, errW_none, errW_some] <;> rfl), by repeat (first | (with_reducible first | exact HB.out | apply below_alloc | apply pw_below_drewN | apply below_drew1) | exact HB.out)⟩
        · rw [if_neg c5] at H
          have c5b0 : decide (a0 < 0) = false := decide_eq_false c5
          clear c5
          replace H := Option.bind_eq_some_iff.mp H
          obtain ⟨t110, A80, H⟩ := H
          replace H : (some t110) = some r := H
          have A8 := Aside0.mk A80
          clear A80
          obtain rfl := Option.some.inj H
          go_wp2_with (first | ((with_reducible refine gate_callee (f := 14) rfl ?_); refine goesL_ (some 17) rfl rfl Tryd.func14 (by kernel_rfl) rfl #[.int .i64 (wrap64 (2 * a0))] rfl (by (try simp only [List.map_toArray, List.map_cons, List.map_nil]); first | done | rfl | (simp only [List.length_drop, List.length_take]; rfl)) ?_; (with_reducible refine (wire_Num.calls kj1 (wrap64 (2 * a0)) t110 _ A8.out).mono ?_); rintro e w9 ⟨rfl, hb⟩; refine ⟨_, rfl, ?_⟩; have n0_ := Aside0.mk (below_step (by repeat (first | (with_reducible first | exact HB.out | apply below_alloc | apply pw_below_drewN | apply below_drew1) | exact HB.out)) hb); clear HB; have HB := n0_; clear n0_; (try clear hb); (try clear hb2); (try clear hk); (try clear hi)))
          go_ret
          exact ⟨by first | rfl | (simp [errW_none, errW_some] <;> rfl) | (simp [*, errW_none, errW_some] <;> rfl), by repeat (first | (with_reducible first | exact HB.out | apply below_alloc | apply pw_below_drewN | apply below_drew1) | exact HB.out)⟩

-- NOT PRINTED: function 51 (abi_NoEscape)

-- NOT PRINTED: function 48 (strings_Builder_copyCheck)

-- NOT PRINTED: function 40 (strings_Builder_WriteString)

-- NOT PRINTED: function 41 (strings_Builder_String)

-- NOT PRINTED: function 33 (wire_all)

-- NOT PRINTED: function 18 (wire_Nums)

-- NOT PRINTED: function 20 (wire_Ints)

-- NOT PRINTED: function 22 (wire_Read)

-- NOT PRINTED: function 34 (wire_Reader_take)

-- NOT PRINTED: function 23 (wire_Reader_Num)

-- NOT PRINTED: function 24 (wire_Reader_Int)

-- NOT PRINTED: function 35 (wire_Reader_list)

-- NOT PRINTED: function 25 (wire_Reader_Nums)

-- NOT PRINTED: function 26 (wire_Reader_Ints)

-- NOT PRINTED: function 42 (reflectlite_ValueOf)

-- NOT PRINTED: function 43 (reflectlite_Value_Type)

-- NOT PRINTED: function 44 (reflectlite_Value_IsNil)

-- NOT PRINTED: function 46 (reflectlite_TypeOf)

-- NOT PRINTED: function 49 (reflectlite_Value_Elem)

-- NOT PRINTED: function 50 (reflectlite_Value_Set)

-- NOT PRINTED: function 45 (errors_as)

-- NOT PRINTED: function 36 (errors_As)

-- NOT PRINTED: function 47 (errors_is)

-- NOT PRINTED: function 37 (errors_Is)

-- NOT PRINTED: function 27 (wire_Reader_End)

-- NOT PRINTED: function 10 (greenwoodlaw01_fixed)

-- NOT PRINTED: function 12 (greenwoodlaw01_script)

/-- A state of type 43 at block g of W; what its slices lead to came in by w0. -/
def IsS43 (w0 W : World) (g : Nat) (f0 : ByteArray) (f1 : Int) (f2 : Int) : Prop := W.heap[g]? = some (.cells #[.string f0, .int .i64 f1, .int .i64 f2] 43 (0, 0)) ∧ w0.heap.size ≤ g
theorem IsS43.grown {w0 W : World} {g : Nat} {f0 : ByteArray} {f1 : Int} {f2 : Int} {W1 : World} {row : Option Nat} (h : IsS43 w0 W g f0 f1 f2) (hw : W.grownBy W1 row) (hne : some g ≠ row) : IsS43 w0 W1 g f0 f1 f2 := by
  obtain ⟨hb, hg⟩ := h
  exact ⟨blk_grown hb hw hne, hg⟩
theorem IsS43.below {w0 W : World} {g : Nat} {f0 : ByteArray} {f1 : Int} {f2 : Int} {W1 : World} (h : IsS43 w0 W g f0 f1 f2) (hw : Below W.heap.size W W1) : IsS43 w0 W1 g f0 f1 f2 := h.grown (grown_of_below hw none) (by simp)
theorem IsS43.alloc {w0 W : World} {g : Nat} {f0 : ByteArray} {f1 : Int} {f2 : Int} (h : IsS43 w0 W g f0 f1 f2) (o : Obj) : IsS43 w0 (W.alloc o) g f0 f1 f2 := h.below (below_alloc (Below.refl _ _) o)
theorem IsS43.drewN {w0 W : World} {g : Nat} {f0 : ByteArray} {f1 : Int} {f2 : Int} (h : IsS43 w0 W g f0 f1 f2) (m : Nat) : IsS43 w0 (W.drewN m) g f0 f1 f2 := h
theorem IsS43.drew {w0 W : World} {g : Nat} {f0 : ByteArray} {f1 : Int} {f2 : Int} (h : IsS43 w0 W g f0 f1 f2) : IsS43 w0 W.drew g f0 f1 f2 := h
theorem IsS43.apart {w0 W : World} {g : Nat} {f0 : ByteArray} {f1 : Int} {f2 : Int} {α : Type} {d : Kd α} {e : Nat} {base : Nat} {ok : Nat → Prop} {v : Value} {xs : List α} (h : IsS43 w0 W g f0 f1 f2) (ho : d.R e W base ok v xs) (ht : ∀ q, q ∈ e :: d.E → q ≠ 43) : d.R e W base (fun k => ok k ∧ k ≠ g) v xs := by
  obtain ⟨hb, hg⟩ := h
  exact Kd.R_types ho hb ht
theorem IsS43.own_ne {w0 W : World} {g : Nat} {f0 : ByteArray} {f1 : Int} {f2 : Int} {α : Type} {d : Kd α} {e : Nat} {base : Nat} {ok : Nat → Prop} {v : Value} {xs : List α} (h : IsS43 w0 W g f0 f1 f2) (ho : d.R e W base ok v xs) (ht : e ≠ 43) : some g ≠ v.ownBlock := by
  obtain ⟨hb, hg⟩ := h
  exact Kd.R_ne ho hb ht
theorem IsS43.lt {w0 W : World} {g : Nat} {f0 : ByteArray} {f1 : Int} {f2 : Int} (h : IsS43 w0 W g f0 f1 f2) : g < W.heap.size := by
  obtain ⟨hb, hg⟩ := h
  exact blk_lt hb
theorem IsS43.ge {w0 W : World} {g : Nat} {f0 : ByteArray} {f1 : Int} {f2 : Int} (h : IsS43 w0 W g f0 f1 f2) : w0.heap.size ≤ g := by
  obtain ⟨hb, hg⟩ := h
  exact hg
theorem cellS43_0 {W : World} {g : Nat} {f0 : ByteArray} {f1 : Int} {f2 : Int} (h : W.heap[g]? = some (.cells #[.string f0, .int .i64 f1, .int .i64 f2] 43 (0, 0))) : W.cell? ⟨g, 0, none⟩ = some (.string f0) := (blk_cell h 0).trans rfl
theorem IsS43.set_0 {w0 W : World} {g : Nat} {f0 : ByteArray} {f1 : Int} {f2 : Int} (h : IsS43 w0 W g f0 f1 f2) (x : ByteArray) : IsS43 w0 (W.setCell ⟨g, 0, none⟩ (.string x)) g x f1 f2 := by
  obtain ⟨hb, hg⟩ := h
  exact ⟨by simpa using blk_set hb 0 (.string x), hg⟩
theorem cellS43_1 {W : World} {g : Nat} {f0 : ByteArray} {f1 : Int} {f2 : Int} (h : W.heap[g]? = some (.cells #[.string f0, .int .i64 f1, .int .i64 f2] 43 (0, 0))) : W.cell? ⟨g, 1, none⟩ = some (.int .i64 f1) := (blk_cell h 1).trans rfl
theorem IsS43.set_1 {w0 W : World} {g : Nat} {f0 : ByteArray} {f1 : Int} {f2 : Int} (h : IsS43 w0 W g f0 f1 f2) (x : Int) : IsS43 w0 (W.setCell ⟨g, 1, none⟩ (.int .i64 x)) g f0 x f2 := by
  obtain ⟨hb, hg⟩ := h
  exact ⟨by simpa using blk_set hb 1 (.int .i64 x), hg⟩
theorem cellS43_2 {W : World} {g : Nat} {f0 : ByteArray} {f1 : Int} {f2 : Int} (h : W.heap[g]? = some (.cells #[.string f0, .int .i64 f1, .int .i64 f2] 43 (0, 0))) : W.cell? ⟨g, 2, none⟩ = some (.int .i64 f2) := (blk_cell h 2).trans rfl
theorem IsS43.set_2 {w0 W : World} {g : Nat} {f0 : ByteArray} {f1 : Int} {f2 : Int} (h : IsS43 w0 W g f0 f1 f2) (x : Int) : IsS43 w0 (W.setCell ⟨g, 2, none⟩ (.int .i64 x)) g f0 f1 x := by
  obtain ⟨hb, hg⟩ := h
  exact ⟨by simpa using blk_set hb 2 (.int .i64 x), hg⟩
/-! ### greenwoodref01_Reader_fail: function 38 -/
def greenwoodref01_Reader_fail.f (s0_0 : ByteArray) (s0_1 : Int) (s0_2 : Int) (a1 : Int) : Option (Int × ByteArray × Int × Int) := some (0, s0_0, s0_1, a1)
set_option maxHeartbeats 8000000 in
set_option maxRecDepth 100000 in
theorem greenwoodref01_Reader_fail.calls (g : Nat) (s0_0 : ByteArray) (s0_1 : Int) (s0_2 : Int) (a1 : Int) (r1 : Int) (r2 : ByteArray) (r3 : Int) (r4 : Int) (w0 w : World) (hI : IsS43 w0 w g s0_0 s0_1 s0_2) (hB : Below w0.heap.size w0 w) (h : greenwoodref01_Reader_fail.f s0_0 s0_1 s0_2 a1 = some (r1, r2, r3, r4)) :
    Calls Tryd.prog 38 #[.pointer (some ⟨g, 0, none⟩), .int .i64 a1] w fun e w' => e = .returned (.int .i64 r1) ∧ IsS43 w0 w' g r2 r3 r4 ∧ Below w0.heap.size w0 w' ∧ KeepBut w w' g none := by
  have HI0 := Aside0.mk hI
  have HK := Aside0.mk (KeepBut.refl w g none)
  have HL := Aside0.mk hB.size
  clear hI
  have HW0 := Aside0.mk hB.size
  have HB := Aside0.mk hB
  clear hB
  have H : (some (0, s0_0, s0_1, a1)) = some (r1, r2, r3, r4) := h
  clear h
  simp only [Option.some.injEq, Prod.mk.injEq] at H
  obtain ⟨rfl, rfl, rfl, rfl⟩ := H
  obtain ⟨HGz3, hgz3⟩ := HI0.out
  have hcz3_0 := cellS43_0 HGz3
  have hcz3_1 := cellS43_1 HGz3
  have hcz3_2 := cellS43_2 HGz3
  have hfz3_0 := blk_frozen HGz3 0
  have hfz3_1 := blk_frozen HGz3 1
  have hfz3_2 := blk_frozen HGz3 2
  clear HGz3 hgz3
  go_enter Tryd.func38, Tryd.ntmps38
  go_wp2
  go_ret
  exact ⟨by first | rfl | (simp [errW_none, errW_some] <;> rfl) | (simp [*, errW_none, errW_some] <;> rfl), by repeat (first | (with_reducible first | exact HI0.out | apply IsS43.alloc | apply IsS43.drewN | apply IsS43.drew | apply IsS43.set_0 | apply IsS43.set_1 | apply IsS43.set_2) | exact HI0.out), by repeat (first | (with_reducible first | exact HB.out | apply below_alloc | apply pw_below_drewN | apply below_drew1 | refine below_set ?_ (IsS43.ge HI0.out)) | exact HB.out), by repeat (first | (with_reducible first | exact HK.out | apply KeepBut.set_ | apply keep_drewN | apply keep_drew | apply keep_alloc) | exact HK.out)⟩

end Go.Proofs.YthiklbhplhdjmaaDoor.P
/- Values of printed functions: general words, and Same. (Cut out of ElimV for the other layers.) -/
namespace Go.Proofs.YthiklbhplhdjmaaDoor.P
open Go.RowKit Go.Proofs.YthiklbhplhdjmaaDoorW.PrintWords Go.Proofs.YthiklbhplhdjmaaDoorW.PrintLast Go.Proofs.YthiklbhplhdjmaaDoorW.PrintMore
set_option linter.unusedVariables false
set_option linter.unusedSimpArgs false

theorem Ev.ifp {α : Type} {c : Prop} [Decidable c] {g f : Nat → Option α} {r : α} (h : c) (e : Ev g r) : Ev (fun n => if c then g n else f n) r := by
  simp only [if_pos h]; exact e
theorem Ev.ifn {α : Type} {c : Prop} [Decidable c] {g f : Nat → Option α} {r : α} (h : ¬ c) (e : Ev f r) : Ev (fun n => if c then g n else f n) r := by
  simp only [if_neg h]; exact e
theorem Ev.val {α : Type} {r t : α} (h : r = t) : Ev (fun _ => some r) t := by subst h; exact Ev.now r
theorem Ev.bnd {α β : Type} {a : α} {f : Nat → α → Option β} {r : β} (k : Ev (fun n => f n a) r) : Ev (fun n => (some a).bind (f n)) r := k
theorem rd_at {l : List Int} {i : Nat} (h : i < l.length) : rd l (i : Int) = l[i] := by simp [rd, List.getD_eq_getElem?_getD, List.getElem?_eq_getElem h]
theorem w1 {i : Nat} {n : Nat} (h : i < n) (hn : n ≤ 1000000) : wrap64 ((i : Int) + 1) = ((i + 1 : Nat) : Int) := by unfold wrap64; omega

/-! ### Same -/
theorem same_l0 (a b : List Int) (hl : a.length = b.length) (hn : a.length ≤ 1000000) : ∀ (d i : Nat), a.length - i = d → i ≤ a.length → Ev (fun k => greenwoodref01_Same.l0 k a b (i : Int)) (decide (a.drop i = b.drop i)) := by
  intro d
  induction d with
  | zero =>
    intro i h1 h2
    refine Ev.step (fun k => by rw [greenwoodref01_Same.l0]) ?_
    refine Ev.ifn (by omega) (Ev.val ?_)
    rw [List.drop_of_length_le (by omega), List.drop_of_length_le (by omega)]; rfl
  | succ d ih =>
    intro i h1 h2
    have hi : i < a.length := by omega
    have hj : i < b.length := by omega
    refine Ev.step (fun k => by rw [greenwoodref01_Same.l0]) ?_
    refine Ev.ifp (by omega) (Ev.ifp (by omega) (Ev.ifp (by omega) ?_))
    rw [rd_at hi, rd_at hj, List.drop_eq_getElem_cons hi, List.drop_eq_getElem_cons hj, w1 hi hn]
    by_cases he : a[i] = b[i]
    · refine Ev.ifp he ?_
      have e : decide (a[i] :: a.drop (i + 1) = b[i] :: b.drop (i + 1)) = decide (a.drop (i + 1) = b.drop (i + 1)) := by
        apply decide_eq_decide.mpr; rw [List.cons.injEq]; exact ⟨fun h => h.2, fun h => ⟨he, h⟩⟩
      rw [e]
      exact ih (i + 1) (by omega) (by omega)
    · refine Ev.ifn he (Ev.val ?_)
      exact (decide_eq_false (fun h => he (List.cons.inj h).1)).symm
theorem same_ev (a b : List Int) (hn : a.length ≤ 1000000) : Ev (fun k => greenwoodref01_Same.f k a b) (decide (a = b)) := by
  unfold greenwoodref01_Same.f
  by_cases hl : a.length = b.length
  · refine Ev.ifp (by omega) ?_
    have := same_l0 a b hl hn a.length 0 (by omega) (by omega)
    simpa using this
  · refine Ev.ifn (by omega) (Ev.val ?_)
    have : a ≠ b := fun h => hl (by rw [h])
    simp [this]
end Go.Proofs.YthiklbhplhdjmaaDoor.P
/- Numbers as bytes, alone: what is written of a number, what is taken of bytes. -/
namespace Go.Proofs.YthiklbhplhdjmaaDoor.P
open Go.Proofs.YthiklbhplhdjmaaDoorW.PrintWords
set_option linter.unusedVariables false
set_option linter.unusedSimpArgs false
namespace Wr

abbrev MX : Int := 1125899906842624
/-- a number's bytes -/
def vb (n : Nat) : List Int := if h : n < 128 then [(n : Int)] else ((n % 128 + 128 : Nat) : Int) :: vb (n / 128)
termination_by n
decreasing_by omega
theorem vb_lo {n : Nat} (h : n < 128) : vb n = [(n : Int)] := by rw [vb, dif_pos h]
theorem vb_hi {n : Nat} (h : ¬ n < 128) : vb n = ((n % 128 + 128 : Nat) : Int) :: vb (n / 128) := by rw [vb, dif_neg h]
theorem vb_ne (n : Nat) : vb n ≠ [] := by
  by_cases h : n < 128
  · rw [vb_lo h]; simp
  · rw [vb_hi h]; simp
theorem vb_len : ∀ (k n : Nat), n < 128 ^ (k + 1) → (vb n).length ≤ k + 1 := by
  intro k
  induction k with
  | zero => intro n h; rw [vb_lo (by simpa using h)]; simp
  | succ k ih =>
    intro n h
    by_cases hn : n < 128
    · rw [vb_lo hn]; simp
    · rw [vb_hi hn, List.length_cons]
      have := ih (n / 128) (by rw [Nat.div_lt_iff_lt_mul (by decide)]; rw [Nat.pow_succ] at h; exact h)
      omega
theorem vb_len8 {n : Nat} (h : (n : Int) ≤ MX) : (vb n).length ≤ 8 := vb_len 7 n (by simp only [MX] at h; omega)
theorem vb_len_pos (n : Nat) : 1 ≤ (vb n).length := List.length_pos_iff.mpr (vb_ne n)
/-- what is written -/
def encN (n : Int) : List Int := if n < 0 ∨ n > MX then [] else vb n.toNat
def encI (n : Int) : List Int := if n < -MX ∨ n > MX then [] else if n < 0 then encN (-2 * n - 1) else encN (2 * n)
theorem encN_nat {n : Nat} (h : (n : Int) ≤ MX) : encN (n : Int) = vb n := by
  unfold encN
  rw [if_neg (by omega), Int.toNat_natCast]
theorem encN_in {n : Int} (h0 : 0 ≤ n) (h : n ≤ MX) : encN n = vb n.toNat := by
  unfold encN
  rw [if_neg (by omega)]
theorem encN_nil {n : Int} : encN n = [] ↔ n < 0 ∨ n > MX := by
  unfold encN
  by_cases h : n < 0 ∨ n > MX
  · rw [if_pos h]; simp [h]
  · rw [if_neg h]; simp [h, vb_ne]
/-- of a list: how many, and each, unless one has no bytes -/
def encA (one : Int → List Int) : List Int → List Int → List Int
  | out, [] => out
  | out, x :: t => if one x = [] then [] else encA one (out ++ one x) t
def encL (one : Int → List Int) (l : List Int) : List Int := encA one (encN (l.length : Int)) l
/-- what is taken -/
def tkL (S : List Int) (p : Nat) : Nat → Nat → Int → Int × Nat × Int
  | 0, _, _ => (0, p, 11)
  | d + 1, i, m =>
    if S.length ≤ p + i then (0, p, 10)
    else if 128 ≤ rd S ((p + i : Nat) : Int) then tkL S p d (i + 1) (m + (rd S ((p + i : Nat) : Int) - 128) * 128 ^ i)
    else if (rd S ((p + i : Nat) : Int) = 0 ∧ 0 < i) ∨ m + rd S ((p + i : Nat) : Int) * 128 ^ i > MX then (0, p, 11)
    else (m + rd S ((p + i : Nat) : Int) * 128 ^ i, p + i + 1, 0)
def tk (S : List Int) (p : Nat) : Int × Nat × Int := tkL S p 8 0 0
theorem rdn {S : List Int} {i : Nat} (h : i < S.length) : rd S (i : Int) = S[i] := by simp [rd, List.getD_eq_getElem?_getD, List.getElem?_eq_getElem h]
theorem mul_nn {a b : Int} (ha : 0 ≤ a) (hb : 0 ≤ b) : 0 ≤ a * b := Int.mul_nonneg ha hb
theorem pow_nn (i : Nat) : (0 : Int) < 128 ^ i := Int.pow_pos (by decide)
/-- whatever is taken: how it ends -/
theorem tkL_any (S : List Int) (p : Nat) (hb : ∀ b ∈ S, 0 ≤ b ∧ b ≤ 255) : ∀ (d i : Nat) (m : Int), 0 ≤ m →
    ((tkL S p d i m).2.2 = 0 ∧ 0 ≤ (tkL S p d i m).1 ∧ (tkL S p d i m).1 ≤ MX ∧ p + i < (tkL S p d i m).2.1 ∧ (tkL S p d i m).2.1 ≤ S.length) ∨ ((tkL S p d i m).1 = 0 ∧ (tkL S p d i m).2.1 = p ∧ ((tkL S p d i m).2.2 = 10 ∨ (tkL S p d i m).2.2 = 11)) := by
  intro d
  induction d with
  | zero => intro i m hm; exact .inr ⟨rfl, rfl, .inr rfl⟩
  | succ d ih =>
    intro i m hm
    unfold tkL
    by_cases h1 : S.length ≤ p + i
    · rw [if_pos h1]; exact .inr ⟨rfl, rfl, .inl rfl⟩
    rw [if_neg h1]
    have hc : 0 ≤ rd S ((p + i : Nat) : Int) := by
      have hlt : p + i < S.length := by omega
      have : rd S ((p + i : Nat) : Int) = S[p + i] := rdn hlt
      rw [this]
      exact (hb _ (List.getElem_mem hlt)).1
    have hp := pow_nn i
    by_cases h2 : 128 ≤ rd S ((p + i : Nat) : Int)
    · rw [if_pos h2]
      have := ih (i + 1) (m + (rd S ((p + i : Nat) : Int) - 128) * 128 ^ i) (by have := mul_nn (a := rd S ((p + i : Nat) : Int) - 128) (b := 128 ^ i) (by omega) (by omega); omega)
      rcases this with ⟨a, b, c, e, f⟩ | h
      · exact .inl ⟨a, b, c, by omega, f⟩
      · exact .inr h
    rw [if_neg h2]
    by_cases h3 : (rd S ((p + i : Nat) : Int) = 0 ∧ 0 < i) ∨ m + rd S ((p + i : Nat) : Int) * 128 ^ i > MX
    · rw [if_pos h3]; exact .inr ⟨rfl, rfl, .inr rfl⟩
    · rw [if_neg h3]
      have := mul_nn (a := rd S ((p + i : Nat) : Int)) (b := 128 ^ i) hc (by omega)
      exact .inl ⟨rfl, by show 0 ≤ m + _; omega, by show m + _ ≤ MX; omega, by show p + i < p + i + 1; omega, by show p + i + 1 ≤ _; omega⟩
theorem tk_any (S : List Int) (p : Nat) (hb : ∀ b ∈ S, 0 ≤ b ∧ b ≤ 255) :
    ((tk S p).2.2 = 0 ∧ 0 ≤ (tk S p).1 ∧ (tk S p).1 ≤ MX ∧ p < (tk S p).2.1 ∧ (tk S p).2.1 ≤ S.length) ∨ ((tk S p).1 = 0 ∧ (tk S p).2.1 = p ∧ ((tk S p).2.2 = 10 ∨ (tk S p).2.2 = 11)) := tkL_any S p hb 8 0 0 (Int.le_refl 0)
/-! ### the reader -/
abbrev St := Nat × Option (Nat × Int)
def numF (S : List Int) (st : St) : Int × St :=
  match st with
  | (p, some e) => (0, (p, some e))
  | (p, none) => if (tk S p).2.2 = 0 then ((tk S p).1, ((tk S p).2.1, none)) else (0, (p, some (p, (tk S p).2.2)))
def sgn (n : Int) : Int := if n % 2 = 1 then -((n + 1) / 2) else n / 2
def intF (S : List Int) (st : St) : Int × St := (sgn (numF S st).1, (numF S st).2)
def loopF (one : St → Int × St) : Nat → St → List Int → List Int × St
  | 0, st, out => (out, st)
  | d + 1, st, out => if (one st).2.2 = none then loopF one d (one st).2 (out ++ [(one st).1]) else ([], (one st).2)
def headF (S : List Int) (most : Int) (st : St) : Int × St :=
  if (numF S st).2.2 = none ∧ (numF S st).1 > most then ((numF S st).1, ((numF S st).2.1, some (st.1, 12))) else numF S st
def listF (S : List Int) (one : St → Int × St) (most : Int) (st : St) : List Int × St := loopF one (headF S most st).1.toNat (headF S most st).2 []
def endF (S : List Int) (st : St) : Int × Int :=
  match st with
  | (p, some (pl, c)) => (c, (pl : Int))
  | (p, none) => if p < S.length then (13, (p : Int)) else (0, (p : Int))
end Wr
end Go.Proofs.YthiklbhplhdjmaaDoor.P
/- strings.Builder as a call of the wire's own makes it: copyCheck, WriteString. -/
namespace Go.Proofs.YthiklbhplhdjmaaDoor.P
open Go.RowKit Go.Lib Go.Proofs.YthiklbhplhdjmaaDoorW.PrintWords Go.Proofs.YthiklbhplhdjmaaDoorW.PrintLast Go.Proofs.YthiklbhplhdjmaaDoorW.PrintMore
set_option linter.unusedVariables false
set_option linter.unusedSimpArgs false

theorem infoBd : (Tryd.prog.info? 65).map (·.size) = some 2 := by kernel_rfl
theorem infoBy : (Tryd.prog.info? 5).map (fun i => (i.zero, i.size, i.bytes)) = some (some (.int .u8 0), 1, 1) := by kernel_rfl
set_option maxHeartbeats 1000000 in
set_option maxRecDepth 100000 in
theorem bcheck_used (b : Nat) (w : World) (h0 : w.cell? ⟨b, 0, none⟩ = some (.pointer (some ⟨b, 0, none⟩))) :
    Calls Tryd.prog 48 #[.pointer (some ⟨b, 0, none⟩)] w fun e w' => e = .returned (.tuple #[]) ∧ w' = w := by
  obtain ⟨j, hj, _⟩ := Option.map_eq_some_iff.1 infoBd
  go_enter Tryd.func48, Tryd.ntmps48
  go_wp2
  rw [Lib.run_neq_ptr_same w _ Tryd.underlying63 hj]
  go_wp2
  go_end0
  exact ⟨rfl, rfl⟩
set_option maxHeartbeats 1000000 in
set_option maxRecDepth 100000 in
theorem bcheck_fresh (b : Nat) (w : World) (h0 : w.cell? ⟨b, 0, none⟩ = some (.pointer none)) (hsh : w.shape? b = some (65, 2)) (hfz : w.frozen? ⟨b, 0, none⟩ = false) :
    Calls Tryd.prog 48 #[.pointer (some ⟨b, 0, none⟩)] w fun e w' => e = .returned (.tuple #[]) ∧ w' = w.setCell ⟨b, 0, none⟩ (.pointer (some ⟨b, 0, none⟩)) := by
  obtain ⟨j, hj, hjs⟩ := Option.map_eq_some_iff.1 infoBd
  go_enter Tryd.func48, Tryd.ntmps48
  go_wp2
  rw [Lib.run_to_unsafe w ⟨b, 0, none⟩ Tryd.underlying63 Tryd.underlying68 hj (by rw [hjs]; decide) hsh (Nat.zero_lt_succ 1)]
  simp only [Result.andThen]
  rw [Oper.upon_value]
  go_wp2
  rw [run_callFunc_extern Tryd.func51 (by kernel_rfl) (by kernel_rfl) (by kernel_rfl) (e := Extern.AbiNoEscape.same) (by kernel_rfl)]
  rw [Lib.run_noEscape]
  simp only [Result.andThen]
  rw [Oper.upon_value]
  go_wp2
  rw [Lib.run_from_unsafe w ⟨b, 0, none⟩ Tryd.underlying68 Tryd.underlying63 hj hsh (by kernel_rfl)]
  simp only [Result.andThen]
  rw [Oper.upon_value]
  go_wp2
  go_end0
  exact ⟨rfl, rfl⟩
theorem bcheck_c (B b : Nat) (bs : List Value) (w : World) (h : Lib.IsBuilder 65 5 B b bs w) :
    Calls Tryd.prog 48 #[.pointer (some ⟨b, 0, none⟩)] w fun e w' => e = .returned (.tuple #[]) ∧ (Lib.BuilderAt 65 5 B b (.pointer (some ⟨b, 0, none⟩)) bs w' ∧ Below B w w') := by
  rcases h with h | h
  · refine (bcheck_fresh b w h.cell0 h.shape h.frozen0).mono ?_
    rintro e w' ⟨rfl, rfl⟩
    exact ⟨rfl, h.used _, (Below.refl B w).setCell (p := ⟨b, 0, none⟩) h.1 _⟩
  · refine (bcheck_used b w h.cell0).mono ?_
    rintro e w' ⟨rfl, rfl⟩
    exact ⟨rfl, h, Below.refl B _⟩
set_option maxHeartbeats 2000000 in
set_option maxRecDepth 100000 in
theorem bwrite_c (B b : Nat) (bs : List Value) (s : ByteArray) (w : World) (h : Lib.IsBuilder 65 5 B b bs w) (hlen : bs.length + s.size ≤ 140737488355328) (hBw : B ≤ w.heap.size) :
    Calls Tryd.prog 40 #[.pointer (some ⟨b, 0, none⟩), .string s] w fun e w' => e = .returned (.tuple #[.int .i64 s.size, .nilIface]) ∧ (Lib.BuilderAt 65 5 B b (.pointer (some ⟨b, 0, none⟩)) (bs ++ Lib.strCells s) w' ∧ Below B w w') := by
  obtain ⟨i0, hi, hz0, hz1, hz2⟩ := info_parts infoBy
  go_enter Tryd.func40, Tryd.ntmps40
  go_wp2_with (go_at_call 48; refine (bcheck_c B b bs _ h).mono ?_)
  rintro e w1 ⟨rfl, h1, hb1⟩
  obtain ⟨hB, v, hbk, hown, hne⟩ := h1
  have c0 : w1.cell? ⟨b, 0, none⟩ = some (.pointer (some ⟨b, 0, none⟩)) := by rw [Lib.cell_of_heap hbk]; rfl
  have c1 : w1.cell? ⟨b, 1, none⟩ = some v := by rw [Lib.cell_of_heap hbk]; rfl
  go_wp2_with (at_builtin; refine Lib.wpList_append_own_string _ rfl _ _ 39 9 rfl B 5 i0 Tryd.underlying39 Tryd.underlying9 hi hz0 hz1 hz2 _ _ _ rfl hown s rfl ?c3 ?c4 ?c5 ?_)
  case c3 => unfold maxLen; omega
  case c4 => omega
  case c5 => have := hb1.size; omega
  intro v' w2 hown' hgrow _
  have hlt : b < w1.heap.size := by
    rcases Nat.lt_or_ge b w1.heap.size with h' | h'
    · exact h'
    · simp [Array.getElem?_eq_none h'] at hbk
  have hb2 : w2.heap[b]? = some (.cells #[.pointer (some ⟨b, 0, none⟩), v] 65 (0, 0)) := by
    rw [hgrow.block b hlt (fun e => hne e.symm)]
    exact hbk
  have d0 : w2.cell? ⟨b, 0, none⟩ = some (.pointer (some ⟨b, 0, none⟩)) := by rw [Lib.cell_of_heap hb2]; rfl
  have d1 : w2.cell? ⟨b, 1, none⟩ = some v := by rw [Lib.cell_of_heap hb2]; rfl
  have f1 : w2.frozen? ⟨b, 1, none⟩ = false := Lib.frozen_of_heap hb2 1
  obtain ⟨ao, n', cap, rfl⟩ : ∃ ao n' cap, v' = .slice ao n' cap := by
    rcases hown'.2 with ⟨hv, _⟩ | ⟨g, cap, cur, hv, _⟩
    · exact ⟨_, _, _, hv⟩
    · exact ⟨_, _, _, hv⟩
  go_wp2
  go_ret2
  refine ⟨rfl, ?_, ?_⟩
  · exact Lib.BuilderAt.put (T := 65) (e := 5) hB hb2 (bs' := bs ++ Lib.strCells s) (by simpa [Lib.strCells_length] using hown') (by decide)
  · exact (hb1.grown hgrow (by have := hb1.size; omega) (fun k hk => (hown.lt k hk).1)).setCell (p := ⟨b, 1, none⟩) hB _
end Go.Proofs.YthiklbhplhdjmaaDoor.P
/- The wire's reader, walked: take, Num, Int, Read. -/
namespace Go.Proofs.YthiklbhplhdjmaaDoor.P
open Go.RowKit Go.Proofs.YthiklbhplhdjmaaDoorW.PrintWords Go.Proofs.YthiklbhplhdjmaaDoorW.PrintLast Go.Proofs.YthiklbhplhdjmaaDoorW.PrintMore
open Wr
set_option linter.unusedVariables false
set_option linter.unusedSimpArgs false

theorem grown_drewN {w wr : World} {row : Option Nat} (h : w.grownBy wr row) (q : Nat) : w.grownBy (wr.drewN q) row := ⟨h.os, h.tape, h.output, h.size, h.block⟩
/-- a reader's three cells -/
def RC (w : World) (B : Nat) (s : ByteArray) (p : Nat) (ev : Value) : Prop := w.heap[B]? = some (.cells #[.string s, .int .i64 (p : Int), ev] 49 (0, 0))
theorem RC.cells {w : World} {B : Nat} {s : ByteArray} {p : Nat} {ev : Value} (h : RC w B s p ev) : w.cell? ⟨B, 0, none⟩ = some (.string s) ∧ w.cell? ⟨B, 1, none⟩ = some (.int .i64 (p : Int)) ∧ w.cell? ⟨B, 2, none⟩ = some ev ∧ w.frozen? ⟨B, 1, none⟩ = false ∧ w.frozen? ⟨B, 2, none⟩ = false := by
  unfold RC at h
  refine ⟨?_, ?_, ?_, ?_, ?_⟩ <;> simp [World.cell?, World.frozen?, h]
theorem RC.lt {w : World} {B : Nat} {s : ByteArray} {p : Nat} {ev : Value} (h : RC w B s p ev) : B < w.heap.size := World.block_lt_of_cell? w _ h.cells.1
theorem RC.setAt {w w0 : World} {B : Nat} {s : ByteArray} {p : Nat} {ev : Value} (h : RC w B s p ev) (hg : w0.grownBy w (some B)) (q : Nat) (x : Int) (hx : x = (q : Int)) : RC (w.setCell ⟨B, 1, none⟩ (.int .i64 x)) B s q ev ∧ w0.grownBy (w.setCell ⟨B, 1, none⟩ (.int .i64 x)) (some B) := by
  subst hx
  unfold RC at h ⊢
  refine ⟨by simp [World.setCell, Array.getElem?_modify, h], hg.os, hg.tape, hg.output, by have := hg.size; simpa [World.setCell] using this, fun k hk hne => ?_⟩
  rw [Below.heap_setCell _ _ _ _ (fun e => hne (by rw [e]))]
  exact hg.block k hk hne
theorem RC.setErr {w w0 : World} {B : Nat} {s : ByteArray} {p : Nat} {ev : Value} (h : RC w B s p ev) (hg : w0.grownBy w (some B)) (ev' : Value) : RC (w.setCell ⟨B, 2, none⟩ ev') B s p ev' ∧ w0.grownBy (w.setCell ⟨B, 2, none⟩ ev') (some B) := by
  unfold RC at h ⊢
  refine ⟨by simp [World.setCell, Array.getElem?_modify, h], hg.os, hg.tape, hg.output, by have := hg.size; simpa [World.setCell] using this, fun k hk hne => ?_⟩
  rw [Below.heap_setCell _ _ _ _ (fun e => hne (by rw [e]))]
  exact hg.block k hk hne
/-- a number's error, as take tells it -/
def tErr (c : Int) : Value := if c = 0 then .nilIface else .iface 58 (.int .i64 c)
theorem or64 (a b : Nat) (ha : a < 9223372036854775808) (hb : b < 9223372036854775808) : bits .or .i64 (a : Int) (b : Int) = ((a ||| b : Nat) : Int) := by
  have hx : a ||| b < 2 ^ 63 := Nat.or_lt_two_pow (by omega) (by omega)
  have h1 : (BitVec.ofInt 64 (a : Int)).toNat = a := by
    rw [BitVec.ofInt_natCast, BitVec.toNat_ofNat]; exact Nat.mod_eq_of_lt (by omega)
  have h2 : (BitVec.ofInt 64 (b : Int)).toNat = b := by
    rw [BitVec.ofInt_natCast, BitVec.toNat_ofNat]; exact Nat.mod_eq_of_lt (by omega)
  show IntKind.i64.wrap ((BitVec.ofInt 64 (a : Int) ||| BitVec.ofInt 64 (b : Int)).toNat : Int) = _
  rw [BitVec.toNat_or, h1, h2]
  exact IntWalk.i64_in _ (by omega)
theorem pow_le_7 {i : Nat} (h : i < 8) : 128 ^ i ≤ 562949953421312 := by
  have : 128 ^ i ≤ 128 ^ 7 := Nat.pow_le_pow_right (by decide) (by omega)
  omega
theorem orstep (m c i : Nat) (hm : m < 128 ^ i) (hi : i < 8) : bits .or .i64 (m : Int) (wrap64 ((c : Int) % 128 * 2 ^ (7 * i))) = ((m + c % 128 * 128 ^ i : Nat) : Int) ∧ m + c % 128 * 128 ^ i < 128 ^ (i + 1) := by
  have hp := pow_le_7 hi
  have hq : c % 128 * 128 ^ i ≤ 127 * 128 ^ i := Nat.mul_le_mul_right _ (by omega)
  have e : (c : Int) % 128 * 2 ^ (7 * i) = ((c % 128 * 128 ^ i : Nat) : Int) := by
    rw [Int.natCast_mul, Int.natCast_pow, Int.pow_mul]
    congr 1
  rw [e, show wrap64 ((c % 128 * 128 ^ i : Nat) : Int) = ((c % 128 * 128 ^ i : Nat) : Int) by unfold wrap64; omega, or64 _ _ (by omega) (by omega)]
  refine ⟨?_, by rw [Nat.pow_succ]; omega⟩
  congr 1
  have h2 : (128 : Nat) ^ i = 2 ^ (7 * i) := by rw [Nat.pow_mul]
  rw [Nat.or_comm, Nat.add_comm, Nat.mul_comm, h2]
  exact (Nat.two_pow_add_eq_or_of_lt (by rw [← h2]; exact hm) _).symm
set_option maxHeartbeats 4000000 in
set_option maxRecDepth 100000 in
theorem take_c {w : World} {B : Nat} {s : ByteArray} {p : Nat} {ev : Value} (h : RC w B s p ev) (hs : s.size ≤ 1000000000) (hp : p ≤ s.size) :
    Calls Tryd.prog 34 #[.pointer (some ⟨B, 0, none⟩)] w fun e w' => e = .returned (.tuple #[.int .i64 (tk (bytesOf s) p).1, tErr (tk (bytesOf s) p).2.2]) ∧ RC w' B s (tk (bytesOf s) p).2.1 ev ∧ w.grownBy w' (some B) := by
  have HH := Aside0.mk (And.intro h (And.intro hs hp))
  clear h hs hp
  go_enter Tryd.func34, Tryd.ntmps34
  go_wp2
  go_loopw [4, 7] (fun v4 v7 wr => ∃ (i : Nat) (m : Nat), i ≤ 8 ∧ v4 = .int .i64 (m : Int) ∧ v7 = .int .i64 (i : Int) ∧ Aside0 (RC wr B s p ev ∧ w.grownBy wr (some B)) ∧ Aside0 (m < 128 ^ i ∧ tk (bytesOf s) p = tkL (bytesOf s) p (8 - i) i (m : Int))) (fun _ v7 _ => (8 - (intOf v7).toNat))
  case atStart => exact ⟨0, 0, by omega, rfl, rfl, ⟨HH.out.1, World.grownBy.refl _ _⟩, ⟨by decide, rfl⟩⟩
  case round =>
    obtain ⟨i, m, hi, rfl, rfl, HR, HT⟩ := hrel
    obtain ⟨c0, c1, c2, f1, f2⟩ := HR.out.1.cells
    have hs := HH.out.2.1
    have hp := HH.out.2.2
    have wpi : IntKind.i64.wrap ((p : Int) + (i : Int)) = (p : Int) + (i : Int) := IntWalk.i64_in _ (by omega)
    have pi0 : 0 ≤ (p : Int) + (i : Int) := by omega
    have pit : ((p : Int) + (i : Int)).toNat = p + i := by omega
    by_cases hlt : i < 8
    · by_cases h1 : s.size ≤ p + i
      · have d1 : decide ((s.size : Int) ≤ (p : Int) + (i : Int)) = true := decide_eq_true (by omega)
        have ht : tk (bytesOf s) p = (0, p, 10) := by
          rw [HT.out.2, show 8 - i = (7 - i) + 1 by omega]
          unfold tkL
          rw [bytesOf_length, if_pos h1]
        have HT2 := Aside0.mk ht
        clear ht
        go_wp2
        go_quiet (fail)
        go_wp2
        go_ret2
        rw [HT2.out]
        exact ⟨rfl, HR.out.1, grown_drewN HR.out.2 _⟩
      · have d1 : decide ((s.size : Int) ≤ (p : Int) + (i : Int)) = false := decide_eq_false (by omega)
        have pil : (p : Int) + (i : Int) < (s.size : Int) := by omega
        have pil2 : p + i < s.size := by omega
        obtain ⟨c, hc⟩ : ∃ c : Nat, s[p + i].toNat = c := ⟨_, rfl⟩
        have hc255 : c ≤ 255 := by have := s[p + i].toNat_lt; omega
        have hrd : rd (bytesOf s) ((p + i : Nat) : Int) = (c : Int) := by
          rw [rd_bytesOf, bt, Int.toNat_natCast, dif_pos pil2, hc]
        have ht := HT.out.2
        rw [show 8 - i = (7 - i) + 1 by omega] at ht
        unfold tkL at ht
        rw [bytesOf_length, if_neg h1, hrd] at ht
        obtain ⟨hor, hlt2⟩ := orstep m c i HT.out.1 hlt
        obtain ⟨m', hm'⟩ : ∃ m', m' = m + c % 128 * 128 ^ i := ⟨_, rfl⟩
        rw [← hm'] at hor hlt2
        have hp7 := pow_le_7 hlt
        have hmv : (m : Int) + ((c % 128 : Nat) : Int) * 128 ^ i = (m' : Int) := by rw [hm', Int.natCast_add, Int.natCast_mul, Int.natCast_pow]; rfl
        have HM := Aside0.mk hlt2
        clear hrd hm' hlt2
        by_cases h2 : 128 ≤ c
        · have d2 : decide (128 ≤ c) = true := decide_eq_true h2
          rw [if_pos (by omega), show (c : Int) - 128 = ((c % 128 : Nat) : Int) by omega, hmv] at ht
          have HT2 := Aside0.mk ht
          clear ht hmv hp7
          go_wp2
          go_quiet (fail)
          go_wp2
          go_quiet (fail)
          go_wp2
          go_roundw
          case rel => exact ⟨i + 1, m', by omega, rfl, by go_num, ⟨HR.out.1, grown_drewN HR.out.2 _⟩, ⟨HM.out, by rw [HT2.out, show 8 - (i + 1) = 7 - i by omega]⟩⟩
          case measure => simp [intOf]; omega
        · have d2 : decide (128 ≤ c) = false := decide_eq_false h2
          rw [if_neg (by omega), show (c : Int) = ((c % 128 : Nat) : Int) by omega, hmv, show ((c % 128 : Nat) : Int) = (c : Int) by omega] at ht
          clear hmv hp7
          by_cases hb : (c = 0 ∧ 0 < i) ∨ (m' : Int) > MX
          · rw [if_pos (by rcases hb with ⟨h, h'⟩ | h; (exact .inl ⟨by omega, h'⟩); (exact .inr h))] at ht
            have HT2 := Aside0.mk ht
            have hways : (((c : Int) == 0) = true ∧ decide (0 < i) = true) ∨ (((c : Int) == 0) = true ∧ decide (0 < i) = false ∧ decide (1125899906842624 < (m' : Int)) = true) ∨ (((c : Int) == 0) = false ∧ decide (1125899906842624 < (m' : Int)) = true) := by
              by_cases e : c = 0
              · have e' : ((c : Int) == 0) = true := beq_iff_eq.mpr (by omega)
                by_cases e2 : 0 < i
                · exact .inl ⟨e', decide_eq_true e2⟩
                · exact .inr (.inl ⟨e', decide_eq_false e2, decide_eq_true (by rcases hb with h | h; (exact absurd h.2 e2); (exact h))⟩)
              · exact .inr (.inr ⟨beq_eq_false_iff_ne.mpr (by omega), decide_eq_true (by rcases hb with h | h; (exact absurd h.1 e); (exact h))⟩)
            clear ht hb
            rcases hways with ⟨y0, y1⟩ | ⟨y0, y1, y2⟩ | ⟨y0, y2⟩
            all_goals
              go_wp2
              go_quiet (fail)
              go_wp2
              go_quiet (fail)
              go_wp2
              go_ret2
              rw [HT2.out]
              exact ⟨rfl, HR.out.1, grown_drewN HR.out.2 _⟩
          · rw [if_neg (by
              intro h
              apply hb
              rcases h with ⟨h, h'⟩ | h
              · exact .inl ⟨by omega, h'⟩
              · exact .inr h)] at ht
            have HT2 := Aside0.mk ht
            have y2 : decide (1125899906842624 < (m' : Int)) = false := decide_eq_false (fun h => hb (.inr h))
            have hways : (((c : Int) == 0) = true ∧ decide (0 < i) = false) ∨ ((c : Int) == 0) = false := by
              by_cases e : c = 0
              · exact .inl ⟨beq_iff_eq.mpr (by omega), decide_eq_false (fun h => hb (.inl ⟨e, h⟩))⟩
              · exact .inr (beq_eq_false_iff_ne.mpr (by omega))
            have wi1 : IntKind.i64.wrap ((i : Int) + 1) = (i : Int) + 1 := IntWalk.i64_in _ (by omega)
            have wpi1 : IntKind.i64.wrap ((p : Int) + ((i : Int) + 1)) = (p : Int) + ((i : Int) + 1) := IntWalk.i64_in _ (by omega)
            clear ht hb
            rcases hways with ⟨y0, y1⟩ | y0
            all_goals
              go_wp2
              go_quiet (fail)
              go_wp2
              go_quiet (fail)
              go_wp2
              go_ret2
              rw [HT2.out]
              refine ⟨rfl, RC.setAt (p := p) ?_ ?_ (p + i + 1) _ (by omega)⟩
              · exact HR.out.1
              · exact grown_drewN HR.out.2 _
    · obtain rfl : i = 8 := by omega
      have ht : tk (bytesOf s) p = (0, p, 11) := HT.out.2
      have HT2 := Aside0.mk ht
      clear ht
      go_wp2
      go_ret2
      rw [HT2.out]
      exact ⟨rfl, HR.out.1, HR.out.2⟩
/-- the reader's error in memory -/
def RdE (w : World) (base B : Nat) (ev : Value) : Option (Nat × Int) → Prop
  | none => ev = .nilIface
  | some (pl, c) => ∃ g, ev = .iface 52 (.pointer (some ⟨g, 0, none⟩)) ∧ base ≤ g ∧ g ≠ B ∧ w.heap[g]? = some (.cells #[.int .i64 (pl : Int), .iface 58 (.int .i64 c)] 54 (0, 0))
/-- a reader at B: its bytes, its place, its error -/
def Rd (w : World) (base B : Nat) (s : ByteArray) (st : St) : Prop := base ≤ B ∧ ∃ ev, RC w B s st.1 ev ∧ RdE w base B ev st.2
theorem Rd.lt {w : World} {base B : Nat} {s : ByteArray} {st : St} (h : Rd w base B s st) : B < w.heap.size := by
  obtain ⟨_, ev, h1, _⟩ := h
  exact h1.lt
theorem RdE.keep {w w1 : World} {base B : Nat} {ev : Value} {er : Option (Nat × Int)} (h : RdE w base B ev er) (hk : ∀ g, g ≠ B → g < w.heap.size → (∀ v, w.heap[g]? = some v → (∃ c, v = .cells c 54 (0, 0)) → w1.heap[g]? = w.heap[g]?)) : RdE w1 base B ev er := by
  cases er with
  | none => exact h
  | some pc =>
    obtain ⟨pl, c⟩ := pc
    obtain ⟨g, e1, e2, e3, e4⟩ := h
    refine ⟨g, e1, e2, e3, ?_⟩
    have hlt : g < w.heap.size := by
      rcases Nat.lt_or_ge g w.heap.size with h | h
      · exact h
      · simp [Array.getElem?_eq_none h] at e4
    rw [hk g e3 hlt _ e4 ⟨_, rfl⟩]
    exact e4
/-- another block has been written, of another type than an error's -/
theorem Rd.grown {w w1 : World} {base B : Nat} {s : ByteArray} {st : St} (h : Rd w base B s st) {row : Option Nat} (hg : w.grownBy w1 row) (hne : some B ≠ row) (ht : ∀ k, row = some k → k < w.heap.size → ∀ c, w.heap[k]? ≠ some (.cells c 54 (0, 0))) : Rd w1 base B s st := by
  have hB := h.lt
  obtain ⟨h0, ev, h1, h2⟩ := h
  refine ⟨h0, ev, (hg.block B hB hne).trans h1, h2.keep (fun g hgB hlt v hv hc => hg.block g hlt (fun e => ?_))⟩
  obtain ⟨c, rfl⟩ := hc
  exact ht g e.symm hlt c hv
theorem Rd.below {w w1 : World} {base B : Nat} {s : ByteArray} {st : St} (h : Rd w base B s st) (hb : Below w.heap.size w w1) : Rd w1 base B s st :=
  h.grown (row := none) ⟨hb.os, hb.tape, hb.output, hb.size, fun k hk _ => hb.block k hk⟩ (by simp) (fun k e => by simp at e)
theorem Rd.drewN {w : World} {base B : Nat} {s : ByteArray} {st : St} (h : Rd w base B s st) (q : Nat) : Rd (w.drewN q) base B s st := h.below (pw_below_drewN (Below.refl _ _) q)
/-- another reader is at work -/
theorem Rd.other {w w1 : World} {base B B2 : Nat} {s s2 : ByteArray} {st st2 : St} (h : Rd w base B s st) (h2 : Rd w base B2 s2 st2) (hne : B ≠ B2) (hg : w.grownBy w1 (some B2)) : Rd w1 base B s st := by
  refine h.grown hg (fun e => hne (Option.some.inj e)) (fun k e hk c hc => ?_)
  obtain rfl := Option.some.inj e
  obtain ⟨_, ev, h3, _⟩ := h2
  rw [RC] at h3
  rw [h3] at hc
  injection hc with hc
  injection hc with _ hc
  exact absurd hc (by decide)
theorem grown_below {w w1 : World} {base B : Nat} {s : ByteArray} {st : St} (h : Rd w base B s st) (hbase : base ≤ w.heap.size) (hg : w.grownBy w1 (some B)) : Below base w w1 :=
  (Below.refl _ _).grown hg hbase (fun k e => by obtain rfl := Option.some.inj e; exact h.1)
theorem grown_trans {w w1 w2 : World} {row : Option Nat} (h1 : w.grownBy w1 row) (h2 : w1.grownBy w2 row) : w.grownBy w2 row :=
  ⟨h2.os.trans h1.os, h2.tape.trans h1.tape, h2.output.trans h1.output, Nat.le_trans h1.size h2.size, fun k hk hne => (h2.block k (Nat.lt_of_lt_of_le hk h1.size) hne).trans (h1.block k hk hne)⟩
theorem grown_of_below {w w1 w2 : World} {row : Option Nat} (h1 : w.grownBy w1 row) (hb : Below w1.heap.size w1 w2) : w.grownBy w2 row :=
  grown_trans h1 ⟨hb.os, hb.tape, hb.output, hb.size, fun k hk _ => hb.block k hk⟩

theorem read_c {w : World} {base : Nat} (hbase : base ≤ w.heap.size) (s : ByteArray) :
    Calls Tryd.prog 22 #[.string s] w fun e w' => e = .returned (.pointer (some ⟨w.heap.size, 0, none⟩)) ∧ Rd w' base w.heap.size s (0, none) ∧ Below w.heap.size w w' := by
  go_enter Tryd.func22, Tryd.ntmps22
  go_wp2
  go_ret
  have hb : Below w.heap.size w (w.alloc (.cells #[.string s, .int .i64 0, .nilIface] 49)) := (Below.refl _ _).alloc (Nat.le_refl _) _
  exact ⟨rfl, ⟨hbase, .nilIface, Array.getElem?_push_size, rfl⟩, hb⟩
end Go.Proofs.YthiklbhplhdjmaaDoor.P
/- The wire's reader, walked: Num, Int. -/
namespace Go.Proofs.YthiklbhplhdjmaaDoor.P
open Go.RowKit Go.Proofs.YthiklbhplhdjmaaDoorW.PrintWords Go.Proofs.YthiklbhplhdjmaaDoorW.PrintLast Go.Proofs.YthiklbhplhdjmaaDoorW.PrintMore
open Wr
set_option linter.unusedVariables false
set_option linter.unusedSimpArgs false

theorem bytesOf_in (s : ByteArray) : ∀ b ∈ bytesOf s, 0 ≤ b ∧ b ≤ 255 := by
  intro b hb
  simp only [bytesOf, List.mem_map] at hb
  obtain ⟨x, _, rfl⟩ := hb
  have := x.toNat_lt
  omega
theorem num_some {w : World} {B : Nat} {s : ByteArray} {p : Nat} {v : Value} (h : RC w B s p (.iface 52 v)) :
    Calls Tryd.prog 23 #[.pointer (some ⟨B, 0, none⟩)] w fun e w' => e = .returned (.int .i64 0) ∧ ∃ q, w' = w.drewN q := by
  obtain ⟨c0, c1, c2, f1, f2⟩ := h.cells
  clear h
  go_enter Tryd.func23, Tryd.ntmps23
  go_wp2
  go_ret
  exact ⟨rfl, by first | exact ⟨0, rfl⟩ | exact ⟨_, rfl⟩⟩
theorem num_nil {w : World} :
    Calls Tryd.prog 23 #[.pointer none] w fun e w' => e = .returned (.int .i64 0) ∧ ∃ q, w' = w.drewN q := by
  go_enter Tryd.func23, Tryd.ntmps23
  go_wp2
  go_ret
  exact ⟨rfl, by first | exact ⟨0, rfl⟩ | exact ⟨_, rfl⟩⟩
set_option maxHeartbeats 2000000 in
set_option maxRecDepth 100000 in
theorem num_ok {w : World} {B : Nat} {s : ByteArray} {p : Nat} (h : RC w B s p .nilIface) (hs : s.size ≤ 1000000000) (hp : p ≤ s.size) (h0 : (tk (bytesOf s) p).2.2 = 0) :
    Calls Tryd.prog 23 #[.pointer (some ⟨B, 0, none⟩)] w fun e w' => e = .returned (.int .i64 (tk (bytesOf s) p).1) ∧ RC w' B s (tk (bytesOf s) p).2.1 .nilIface ∧ w.grownBy w' (some B) := by
  obtain ⟨c0, c1, c2, f1, f2⟩ := h.cells
  have hk := take_c h hs hp
  rw [h0] at hk
  have HK := Aside0.mk hk
  clear h hk h0
  go_enter Tryd.func23, Tryd.ntmps23
  go_wp2_with (go_at_call 34; refine HK.out.mono ?_; rintro e w1 ⟨rfl, hr, hg⟩; (have H1 := Aside0.mk (And.intro hr hg)); clear hr hg; simp only [tErr, if_true])
  go_ret
  exact ⟨rfl, H1.out⟩
theorem World.heap_alloc_at_lt (w : World) (o : Obj) (i : Nat) (h : i < w.heap.size) : (w.alloc o).heap[i]? = w.heap[i]? := by
  show (Array.push _ _)[i]? = _
  rw [Array.getElem?_push, if_neg (by omega)]
theorem grown_alloc {w w1 : World} {row : Option Nat} (h : w.grownBy w1 row) (o : Obj) : w.grownBy (w1.alloc o) row := grown_of_below h ((Below.refl _ _).alloc (Nat.le_refl _) o)
set_option maxHeartbeats 2000000 in
set_option maxRecDepth 100000 in
theorem num_err {w : World} {base B : Nat} {s : ByteArray} {p : Nat} (hb : base ≤ B) (h : RC w B s p .nilIface) (hs : s.size ≤ 1000000000) (hp : p ≤ s.size) (h0 : (tk (bytesOf s) p).2.2 ≠ 0) :
    Calls Tryd.prog 23 #[.pointer (some ⟨B, 0, none⟩)] w fun e w' => e = .returned (.int .i64 0) ∧ Rd w' base B s (p, some (p, (tk (bytesOf s) p).2.2)) ∧ w.grownBy w' (some B) := by
  obtain ⟨c0, c1, c2, f1, f2⟩ := h.cells
  have hB := h.lt
  have hk := take_c h hs hp
  obtain ⟨h1, h2, h3⟩ : (tk (bytesOf s) p).1 = 0 ∧ (tk (bytesOf s) p).2.1 = p ∧ ((tk (bytesOf s) p).2.2 = 10 ∨ (tk (bytesOf s) p).2.2 = 11) := by
    rcases tk_any (bytesOf s) p (bytesOf_in s) with h | h
    · exact absurd h.1 h0
    · exact h
  rw [h1, h2] at hk
  obtain ⟨c, hc⟩ : ∃ c, c = (tk (bytesOf s) p).2.2 := ⟨_, rfl⟩
  rw [← hc] at hk h0 ⊢
  rw [show tErr c = .iface 58 (.int .i64 c) from if_neg h0] at hk
  have HK := Aside0.mk hk
  have HB := Aside0.mk (And.intro hb hB)
  clear h hk h0 h1 h2 h3 hc hb hB
  go_enter Tryd.func23, Tryd.ntmps23
  go_wp2_with (go_at_call 34; refine HK.out.mono ?_; rintro e w1 ⟨rfl, hr, hg⟩; (obtain ⟨d0, d1, d2, g1, g2⟩ := hr.cells); (have hlt := hr.lt); (have H1 := Aside0.mk (And.intro hr hg)); clear hr hg)
  go_ret
  obtain ⟨hr, hg⟩ := H1.out
  have hfin := RC.setErr hr hg (.iface 52 (.pointer (some ⟨w1.heap.size, 0, none⟩)))
  have hsz : (w1.setCell ⟨B, 2, none⟩ (.iface 52 (.pointer (some ⟨w1.heap.size, 0, none⟩)))).heap.size = w1.heap.size := by simp [World.setCell]
  refine ⟨rfl, ⟨HB.out.1, _, (World.heap_alloc_at_lt _ _ _ (by rw [hsz]; exact hlt)).trans hfin.1, w1.heap.size, rfl, Nat.le_of_lt (Nat.lt_of_le_of_lt HB.out.1 hlt), Nat.ne_of_gt hlt, ?_⟩, grown_alloc hfin.2 _⟩
  have hps := @Array.getElem?_push_size _ (w1.setCell ⟨B, 2, none⟩ (.iface 52 (.pointer (some ⟨w1.heap.size, 0, none⟩)))).heap (.cells #[.int .i64 (p : Int), .iface 58 (.int .i64 c)] 54)
  rw [hsz] at hps
  exact hps
theorem ret_int {k : IntKind} {a b : Int} (h : a = b) : Ending.returned (.int k a) = .returned (.int k b) := by rw [h]
theorem num_c {w : World} {base B : Nat} {s : ByteArray} {st : St} (h : Rd w base B s st) (hs : s.size ≤ 1000000000) (hp : st.1 ≤ s.size) :
    Calls Tryd.prog 23 #[.pointer (some ⟨B, 0, none⟩)] w fun e w' => e = .returned (.int .i64 (numF (bytesOf s) st).1) ∧ Rd w' base B s (numF (bytesOf s) st).2 ∧ w.grownBy w' (some B) := by
  obtain ⟨p, er⟩ := st
  obtain ⟨h0, ev, h1, h2⟩ := id h
  cases er with
  | some pc =>
    obtain ⟨pl, c⟩ := pc
    obtain ⟨g, rfl, _⟩ := h2
    refine (num_some h1).mono ?_
    rintro e w' ⟨rfl, q, rfl⟩
    exact ⟨rfl, h.drewN q, grown_drewN (World.grownBy.refl _ _) q⟩
  | none =>
    obtain rfl : ev = .nilIface := h2
    by_cases hc : (tk (bytesOf s) p).2.2 = 0
    · refine (num_ok h1 hs hp hc).mono ?_
      rintro e w' ⟨rfl, hr, hg⟩
      have e : numF (bytesOf s) (p, none) = ((tk (bytesOf s) p).1, ((tk (bytesOf s) p).2.1, none)) := by simp only [numF, hc, if_true]
      rw [e]
      exact ⟨rfl, ⟨h0, _, hr, rfl⟩, hg⟩
    · refine (num_err h0 h1 hs hp hc).mono ?_
      rintro e w' ⟨rfl, hr, hg⟩
      have e : numF (bytesOf s) (p, none) = (0, (p, some (p, (tk (bytesOf s) p).2.2))) := by simp only [numF, if_neg hc]
      rw [e]
      exact ⟨rfl, hr, hg⟩
/-- where a reader's place comes to -/
theorem numF_at {S : List Int} (hb : ∀ b ∈ S, 0 ≤ b ∧ b ≤ 255) (st : St) (hp : st.1 ≤ S.length) : (numF S st).2.1 ≤ S.length ∧ st.1 ≤ (numF S st).2.1 ∧ 0 ≤ (numF S st).1 ∧ (numF S st).1 ≤ MX ∧ ((numF S st).2.2 = none → st.1 < (numF S st).2.1) := by
  obtain ⟨p, er⟩ := st
  cases er with
  | some pc => exact ⟨hp, Nat.le_refl _, Int.le_refl _, by simp [numF], fun h => by simp [numF] at h⟩
  | none =>
    rcases tk_any S p hb with h | h
    · simp only [numF, h.1, if_true]
      exact ⟨h.2.2.2.2, Nat.le_of_lt h.2.2.2.1, h.2.1, h.2.2.1, fun _ => h.2.2.2.1⟩
    · have hc : (tk S p).2.2 ≠ 0 := by rcases h.2.2 with h | h <;> omega
      simp only [numF, if_neg hc]
      exact ⟨hp, Nat.le_refl _, Int.le_refl _, by decide, fun h => by simp at h⟩
set_option maxHeartbeats 2000000 in
set_option maxRecDepth 100000 in
theorem int_c {w : World} {base B : Nat} {s : ByteArray} {st : St} (h : Rd w base B s st) (hs : s.size ≤ 1000000000) (hp : st.1 ≤ s.size) :
    Calls Tryd.prog 24 #[.pointer (some ⟨B, 0, none⟩)] w fun e w' => e = .returned (.int .i64 (intF (bytesOf s) st).1) ∧ Rd w' base B s (intF (bytesOf s) st).2 ∧ w.grownBy w' (some B) := by
  have HN := Aside0.mk (num_c h hs hp)
  obtain ⟨-, -, hn0, hn1, -⟩ := numF_at (bytesOf_in s) st (by rw [bytesOf_length]; exact hp)
  unfold intF
  obtain ⟨n, hn⟩ : ∃ n, n = (numF (bytesOf s) st).1 := ⟨_, rfl⟩
  rw [← hn] at HN hn0 hn1 ⊢
  clear h hs hp hn
  simp only [MX] at hn1
  by_cases hm : n % 2 = 1
  · have e : sgn n = -((n + 1) / 2) := by unfold sgn; rw [if_pos hm]
    have hmb : (n % 2 == 1) = true := beq_iff_eq.mpr hm
    have E := Aside0.mk e
    clear e hm
    go_enter Tryd.func24, Tryd.ntmps24
    go_wp2_with (go_at_call 23; refine HN.out.mono ?_; rintro e w1 ⟨rfl, hr⟩; (have H1 := Aside0.mk hr); clear hr)
    go_ret
    rw [E.out]
    refine ⟨ret_int ?_, H1.out⟩
    rw [Int.tdiv_eq_ediv_of_nonneg (by omega)]
    unfold wrap64
    omega
  · have e : sgn n = n / 2 := by unfold sgn; rw [if_neg hm]
    have hmb : (n % 2 == 1) = false := beq_eq_false_iff_ne.mpr hm
    have E := Aside0.mk e
    clear e hm
    go_enter Tryd.func24, Tryd.ntmps24
    go_wp2_with (go_at_call 23; refine HN.out.mono ?_; rintro e w1 ⟨rfl, hr⟩; (have H1 := Aside0.mk hr); clear hr)
    go_ret
    rw [E.out]
    exact ⟨rfl, H1.out⟩
end Go.Proofs.YthiklbhplhdjmaaDoor.P
-- written by wip/tool/ownprint.py of this claim's own repository, out of the translation's print
namespace Go.Proofs.YthiklbhplhdjmaaDoor.P
open Go.RowKit Go.Proofs.YthiklbhplhdjmaaDoorW.PrintWords Go.Proofs.YthiklbhplhdjmaaDoorW.PrintLast Go.Proofs.YthiklbhplhdjmaaDoorW.PrintMore
attribute [local go_sem] max2_int min2_int max_two min_two max_three min_three max_four min_four   -- for this text's walks alone
set_option linter.unusedVariables false
set_option linter.unusedSimpArgs false

/-! ### greenwoodref01_Reader_Num: function 28 -/
def greenwoodref01_Reader_Num.l0 : Nat → Int → Int → Int → ByteArray → Int → Int → Option (Int × ByteArray × Int × Int)
  | 0, _, _, _, _, _, _ => none
  | k + 1, x3, x4, x5, x1000, x1001, x1002 => if x5 < 8 then (if (wrap64 (x1001 + x5)) = (x1000.size : Int) then ((greenwoodref01_Reader_fail.f x1000 x1001 x1002 10).bind fun bt122 => (some (bt122.1, bt122.2.1, bt122.2.2.1, bt122.2.2.2))) else (if 0 ≤ (wrap64 (x1001 + x5)) then (if (wrap64 (x1001 + x5)) < (x1000.size : Int) then (if (wrap64 (bt x1000 (wrap64 (x1001 + x5)))) < 128 then (if (wrap64 (bt x1000 (wrap64 (x1001 + x5)))) = 0 then (if x5 > 0 then ((greenwoodref01_Reader_fail.f x1000 x1001 x1002 11).bind fun bt126 => (some (bt126.1, bt126.2.1, bt126.2.2.1, bt126.2.2.2))) else (if (wrap64 (x3 + (wrap64 ((wrap64 (bt x1000 (wrap64 (x1001 + x5)))) * x4)))) > 1125899906842624 then ((greenwoodref01_Reader_fail.f x1000 x1001 x1002 11).bind fun bt130 => (some (bt130.1, bt130.2.1, bt130.2.2.1, bt130.2.2.2))) else (some (wrap64 (x3 + (wrap64 ((wrap64 (bt x1000 (wrap64 (x1001 + x5)))) * x4))), x1000, wrap64 ((wrap64 (x1001 + x5)) + 1), x1002)))) else (if (wrap64 (x3 + (wrap64 ((wrap64 (bt x1000 (wrap64 (x1001 + x5)))) * x4)))) > 1125899906842624 then ((greenwoodref01_Reader_fail.f x1000 x1001 x1002 11).bind fun bt134 => (some (bt134.1, bt134.2.1, bt134.2.2.1, bt134.2.2.2))) else (some (wrap64 (x3 + (wrap64 ((wrap64 (bt x1000 (wrap64 (x1001 + x5)))) * x4))), x1000, wrap64 ((wrap64 (x1001 + x5)) + 1), x1002)))) else (greenwoodref01_Reader_Num.l0 k (wrap64 (x3 + (wrap64 ((wrap64 ((wrap64 (bt x1000 (wrap64 (x1001 + x5)))) - 128)) * x4)))) (wrap64 (x4 * 128)) (wrap64 (x5 + 1)) x1000 x1001 x1002)) else (none)) else (none))) else ((greenwoodref01_Reader_fail.f x1000 x1001 x1002 11).bind fun bt118 => (some (bt118.1, bt118.2.1, bt118.2.2.1, bt118.2.2.2)))
def greenwoodref01_Reader_Num.f (k : Nat) (s0_0 : ByteArray) (s0_1 : Int) (s0_2 : Int) : Option (Int × ByteArray × Int × Int) := if s0_2 = 0 then (greenwoodref01_Reader_Num.l0 k 0 1 0 s0_0 s0_1 s0_2) else (some (0, s0_0, s0_1, s0_2))
set_option maxHeartbeats 8000000 in
set_option maxRecDepth 100000 in
theorem greenwoodref01_Reader_Num.calls (k : Nat) (g : Nat) (s0_0 : ByteArray) (s0_1 : Int) (s0_2 : Int) (r1 : Int) (r2 : ByteArray) (r3 : Int) (r4 : Int) (w0 w : World) (hI : IsS43 w0 w g s0_0 s0_1 s0_2) (hB : Below w0.heap.size w0 w) (h : greenwoodref01_Reader_Num.f k s0_0 s0_1 s0_2 = some (r1, r2, r3, r4)) :
    Calls Tryd.prog 28 #[.pointer (some ⟨g, 0, none⟩)] w fun e w' => e = .returned (.int .i64 r1) ∧ IsS43 w0 w' g r2 r3 r4 ∧ Below w0.heap.size w0 w' ∧ KeepBut w w' g none := by
  have HI0 := Aside0.mk hI
  have HK := Aside0.mk (KeepBut.refl w g none)
  have HL := Aside0.mk hB.size
  clear hI
  have HW0 := Aside0.mk hB.size
  have HB := Aside0.mk hB
  clear hB
  have H : (if s0_2 = 0 then (greenwoodref01_Reader_Num.l0 k 0 1 0 s0_0 s0_1 s0_2) else (some (0, s0_0, s0_1, s0_2))) = some (r1, r2, r3, r4) := h
  clear h
  by_cases c2 : s0_2 = 0
  · rw [if_pos c2] at H
    have c2b0 : (s0_2 == 0) = true := beq_iff_eq.mpr c2
    have c2b1 : (s0_2 != 0) = false := bne_eq_false_iff_eq.mpr c2
    clear c2
    have H' := Aside0.mk H
    clear H
    obtain ⟨HGz3, hgz3⟩ := HI0.out
    have hcz3_0 := cellS43_0 HGz3
    have hcz3_1 := cellS43_1 HGz3
    have hcz3_2 := cellS43_2 HGz3
    have hfz3_0 := blk_frozen HGz3 0
    have hfz3_1 := blk_frozen HGz3 1
    have hfz3_2 := blk_frozen HGz3 2
    clear HGz3 hgz3
    go_enter Tryd.func28, Tryd.ntmps28
    go_wp2
    repeat (go_quiet (fail); try go_wp2)
    go_loopg [3, 4, 5] k (fun kq v3 v4 v5 w' => ∃ (x3_1 : Int) (x4_1 : Int) (x5_1 : Int) (x1000_1 : ByteArray) (x1001_1 : Int) (x1002_1 : Int), v3 = .int .i64 x3_1 ∧ v4 = .int .i64 x4_1 ∧ v5 = .int .i64 x5_1 ∧ Aside0 (greenwoodref01_Reader_Num.l0 kq x3_1 x4_1 x5_1 x1000_1 x1001_1 x1002_1 = some (r1, r2, r3, r4)) ∧ Aside0 (kq ≤ k) ∧ Aside0 (IsS43 w0 w' g x1000_1 x1001_1 x1002_1) ∧ Aside0 (KeepBut w w' g none) ∧ Aside0 (Below w0.heap.size w0 w'))
    case atStart => exact ⟨(0), (1), (0), (s0_0), (s0_1), (s0_2), (by first | rfl | (simp; done) | (simp [*]; done)), (by first | rfl | (simp; done) | (simp [*]; done)), (by first | rfl | (simp; done) | (simp [*]; done)), H', ⟨Nat.le_refl _⟩, ⟨by repeat (first | (with_reducible first | exact HI0.out | apply IsS43.alloc | apply IsS43.drewN | apply IsS43.drew | apply IsS43.set_0 | apply IsS43.set_1 | apply IsS43.set_2) | exact HI0.out)⟩, ⟨by repeat (first | (with_reducible first | exact HK.out | apply KeepBut.set_ | apply keep_drewN | apply keep_drew | apply keep_alloc) | exact HK.out)⟩, ⟨by repeat (first | (with_reducible first | exact HB.out | apply below_alloc | apply pw_below_drewN | apply below_drew1 | refine below_set ?_ (IsS43.ge HI0.out)) | exact HB.out)⟩⟩
    case round =>
      clear H'
      try clear c2
      try clear c2b0
      try clear c2b1
      try clear p2
      try clear hcz3_0
      try clear hcz3_1
      try clear hcz3_2
      try clear hfz3_0
      try clear hfz3_1
      try clear hfz3_2
      obtain ⟨x3_1, x4_1, x5_1, x1000_1, x1001_1, x1002_1, rfl, rfl, rfl, HA, HK1, HI0, HK, HB⟩ := hrel
      cases gk with
      | zero => exact absurd HA.out (by simp [greenwoodref01_Reader_Num.l0])
      | succ k1 =>
        have H := HA.out
        clear HA
        simp only [greenwoodref01_Reader_Num.l0] at H
        by_cases c4 : x5_1 < 8
        · rw [if_pos c4] at H
          have c4b0 : decide (x5_1 < 8) = true := decide_eq_true c4
          clear c4
          by_cases c5 : (wrap64 (x1001_1 + x5_1)) = (x1000_1.size : Int)
          · rw [if_pos c5] at H
            have c5b0 : ((wrap64 (x1001_1 + x5_1)) == (x1000_1.size : Int)) = true := beq_iff_eq.mpr c5
            have c5b1 : ((wrap64 (x1001_1 + x5_1)) != (x1000_1.size : Int)) = false := bne_eq_false_iff_eq.mpr c5
            clear c5
            replace H := Option.bind_eq_some_iff.mp H
            obtain ⟨⟨t122, t123, t124, t125⟩, A60, H⟩ := H
            replace H : (some (t122, t123, t124, t125)) = some (r1, r2, r3, r4) := H
            have A6 := Aside0.mk A60
            clear A60
            simp only [Option.some.injEq, Prod.mk.injEq] at H
            obtain ⟨rfl, rfl, rfl, rfl⟩ := H
            obtain ⟨HGz7, hgz7⟩ := HI0.out
            have hcz7_0 := cellS43_0 HGz7
            have hcz7_1 := cellS43_1 HGz7
            have hcz7_2 := cellS43_2 HGz7
            have hfz7_0 := blk_frozen HGz7 0
            have hfz7_1 := blk_frozen HGz7 1
            have hfz7_2 := blk_frozen HGz7 2
            clear HGz7 hgz7
            go_wp2_with (first | (go_at_call 38; (with_reducible refine (greenwoodref01_Reader_fail.calls g x1000_1 x1001_1 x1002_1 10 t122 t123 t124 t125 w0 _ ?side1 ?side2 A6.out).mono ?_); (case side1 => repeat (first | (with_reducible first | exact HI0.out | apply IsS43.alloc | apply IsS43.drewN | apply IsS43.drew | apply IsS43.set_0 | apply IsS43.set_1 | apply IsS43.set_2) | exact HI0.out)); (case side2 => repeat (first | (with_reducible first | exact HB.out | apply below_alloc | apply pw_below_drewN | apply below_drew1 | refine below_set ?_ (IsS43.ge HI0.out)) | exact HB.out)); rintro e w8 ⟨rfl, hi, hb, hk⟩; have n0_ := Aside0.mk (KeepBut.trans (by repeat (first | (with_reducible first | exact HK.out | apply KeepBut.set_ | apply keep_drewN | apply keep_drew | apply keep_alloc) | exact HK.out)) hk (.inl rfl)); have n1_ := Aside0.mk (hb); have n2_ := Aside0.mk (hi); clear HK; clear HB; clear HI0; have HK := n0_; have HB := n1_; have HI0 := n2_; clear n0_ n1_ n2_; (try clear hb); (try clear hb2); (try clear hk); (try clear hi)))
            repeat (go_quiet (first | (go_at_call 38; (with_reducible refine (greenwoodref01_Reader_fail.calls g x1000_1 x1001_1 x1002_1 10 t122 t123 t124 t125 w0 _ ?side1 ?side2 A6.out).mono ?_); (case side1 => repeat (first | (with_reducible first | exact HI0.out | apply IsS43.alloc | apply IsS43.drewN | apply IsS43.drew | apply IsS43.set_0 | apply IsS43.set_1 | apply IsS43.set_2) | exact HI0.out)); (case side2 => repeat (first | (with_reducible first | exact HB.out | apply below_alloc | apply pw_below_drewN | apply below_drew1 | refine below_set ?_ (IsS43.ge HI0.out)) | exact HB.out)); rintro e w8 ⟨rfl, hi, hb, hk⟩; have n0_ := Aside0.mk (KeepBut.trans (by repeat (first | (with_reducible first | exact HK.out | apply KeepBut.set_ | apply keep_drewN | apply keep_drew | apply keep_alloc) | exact HK.out)) hk (.inl rfl)); have n1_ := Aside0.mk (hb); have n2_ := Aside0.mk (hi); clear HK; clear HB; clear HI0; have HK := n0_; have HB := n1_; have HI0 := n2_; clear n0_ n1_ n2_; (try clear hb); (try clear hb2); (try clear hk); (try clear hi))); try go_wp2_with (first | (go_at_call 38; (with_reducible refine (greenwoodref01_Reader_fail.calls g x1000_1 x1001_1 x1002_1 10 t122 t123 t124 t125 w0 _ ?side1 ?side2 A6.out).mono ?_); (case side1 => repeat (first | (with_reducible first | exact HI0.out | apply IsS43.alloc | apply IsS43.drewN | apply IsS43.drew | apply IsS43.set_0 | apply IsS43.set_1 | apply IsS43.set_2) | exact HI0.out)); (case side2 => repeat (first | (with_reducible first | exact HB.out | apply below_alloc | apply pw_below_drewN | apply below_drew1 | refine below_set ?_ (IsS43.ge HI0.out)) | exact HB.out)); rintro e w8 ⟨rfl, hi, hb, hk⟩; have n0_ := Aside0.mk (KeepBut.trans (by repeat (first | (with_reducible first | exact HK.out | apply KeepBut.set_ | apply keep_drewN | apply keep_drew | apply keep_alloc) | exact HK.out)) hk (.inl rfl)); have n1_ := Aside0.mk (hb); have n2_ := Aside0.mk (hi); clear HK; clear HB; clear HI0; have HK := n0_; have HB := n1_; have HI0 := n2_; clear n0_ n1_ n2_; (try clear hb); (try clear hb2); (try clear hk); (try clear hi))))
            go_ret
            exact ⟨by first | rfl | (simp [errW_none, errW_some] <;> rfl) | (simp [*, errW_none, errW_some] <;> rfl), by repeat (first | (with_reducible first | exact HI0.out | apply IsS43.alloc | apply IsS43.drewN | apply IsS43.drew | apply IsS43.set_0 | apply IsS43.set_1 | apply IsS43.set_2) | exact HI0.out), by repeat (first | (with_reducible first | exact HB.out | apply below_alloc | apply pw_below_drewN | apply below_drew1 | refine below_set ?_ (IsS43.ge HI0.out)) | exact HB.out), by repeat (first | (with_reducible first | exact HK.out | apply KeepBut.set_ | apply keep_drewN | apply keep_drew | apply keep_alloc) | exact HK.out)⟩
          · rw [if_neg c5] at H
            have c5b0 : ((wrap64 (x1001_1 + x5_1)) == (x1000_1.size : Int)) = false := beq_eq_false_iff_ne.mpr c5
            have c5b1 : ((wrap64 (x1001_1 + x5_1)) != (x1000_1.size : Int)) = true := bne_iff_ne.mpr c5
            obtain ⟨ji9, hji9⟩ : ∃ j_ : Int, (wrap64 (x1001_1 + x5_1)) = j_ := ⟨_, rfl⟩
            replace H : (if 0 ≤ (ji9) then (if (ji9) < (x1000_1.size : Int) then (if (wrap64 (bt x1000_1 (ji9))) < 128 then (if (wrap64 (bt x1000_1 (ji9))) = 0 then (if x5_1 > 0 then ((greenwoodref01_Reader_fail.f x1000_1 x1001_1 x1002_1 11).bind fun bt126 => (some (bt126.1, bt126.2.1, bt126.2.2.1, bt126.2.2.2))) else (if (wrap64 (x3_1 + (wrap64 ((wrap64 (bt x1000_1 (ji9))) * x4_1)))) > 1125899906842624 then ((greenwoodref01_Reader_fail.f x1000_1 x1001_1 x1002_1 11).bind fun bt130 => (some (bt130.1, bt130.2.1, bt130.2.2.1, bt130.2.2.2))) else (some (wrap64 (x3_1 + (wrap64 ((wrap64 (bt x1000_1 (ji9))) * x4_1))), x1000_1, wrap64 ((ji9) + 1), x1002_1)))) else (if (wrap64 (x3_1 + (wrap64 ((wrap64 (bt x1000_1 (ji9))) * x4_1)))) > 1125899906842624 then ((greenwoodref01_Reader_fail.f x1000_1 x1001_1 x1002_1 11).bind fun bt134 => (some (bt134.1, bt134.2.1, bt134.2.2.1, bt134.2.2.2))) else (some (wrap64 (x3_1 + (wrap64 ((wrap64 (bt x1000_1 (ji9))) * x4_1))), x1000_1, wrap64 ((ji9) + 1), x1002_1)))) else (greenwoodref01_Reader_Num.l0 k1 (wrap64 (x3_1 + (wrap64 ((wrap64 ((wrap64 (bt x1000_1 (ji9))) - 128)) * x4_1)))) (wrap64 (x4_1 * 128)) (wrap64 (x5_1 + 1)) x1000_1 x1001_1 x1002_1)) else (none)) else (none)) = some (r1, r2, r3, r4) := by first | (rw [hji9] at H; exact H) | (simp only [hji9] at H ⊢; exact H)
            (try rw [hji9] at c5b0)
            (try rw [hji9] at c5b1)
            have hji9w : (IntKind.i64.wrap (x1001_1 + x5_1)) = ji9 := (i64_w _).trans hji9
            by_cases c10 : 0 ≤ (ji9)
            · rw [if_pos c10] at H
              have c10b0 : decide (0 ≤ (ji9)) = true := decide_eq_true c10
              clear c10
              by_cases c11 : (ji9) < (x1000_1.size : Int)
              · rw [if_pos c11] at H
                have c11b0 : decide ((ji9) < (x1000_1.size : Int)) = true := decide_eq_true c11
                clear c11
                by_cases c13 : (wrap64 (bt x1000_1 (ji9))) < 128
                · rw [if_pos c13] at H
                  have c13b0 : decide ((wrap64 (bt x1000_1 (ji9))) < 128) = true := decide_eq_true c13
                  clear c13
                  by_cases c14 : (wrap64 (bt x1000_1 (ji9))) = 0
                  · rw [if_pos c14] at H
                    have c14b0 : ((wrap64 (bt x1000_1 (ji9))) == 0) = true := beq_iff_eq.mpr c14
                    have c14b1 : ((wrap64 (bt x1000_1 (ji9))) != 0) = false := bne_eq_false_iff_eq.mpr c14
                    clear c14
                    by_cases c15 : x5_1 > 0
                    · rw [if_pos c15] at H
                      have c15b0 : decide (0 < x5_1) = true := decide_eq_true c15
                      clear c15
                      replace H := Option.bind_eq_some_iff.mp H
                      obtain ⟨⟨t126, t127, t128, t129⟩, A160, H⟩ := H
                      replace H : (some (t126, t127, t128, t129)) = some (r1, r2, r3, r4) := H
                      have A16 := Aside0.mk A160
                      clear A160
                      simp only [Option.some.injEq, Prod.mk.injEq] at H
                      obtain ⟨rfl, rfl, rfl, rfl⟩ := H
                      obtain ⟨HGz17, hgz17⟩ := HI0.out
                      have hcz17_0 := cellS43_0 HGz17
                      have hcz17_1 := cellS43_1 HGz17
                      have hcz17_2 := cellS43_2 HGz17
                      have hfz17_0 := blk_frozen HGz17 0
                      have hfz17_1 := blk_frozen HGz17 1
                      have hfz17_2 := blk_frozen HGz17 2
                      clear HGz17 hgz17
                      have p12 : 0 ≤ ((ji9) : Int) := of_decide_eq_true (by first | (with_reducible assumption) | assumption)
                      have q12 : (ji9) < (x1000_1.size : Int) := of_decide_eq_true (by first | (with_reducible assumption) | assumption)
                      have hx12 := bt_at x1000_1 (ji9)
                      replace p12 := eq_true p12
                      replace q12 := eq_true q12
                      go_wp2_with (first | (go_at_call 38; (with_reducible refine (greenwoodref01_Reader_fail.calls g x1000_1 x1001_1 x1002_1 11 t126 t127 t128 t129 w0 _ ?side1 ?side2 A16.out).mono ?_); (case side1 => repeat (first | (with_reducible first | exact HI0.out | apply IsS43.alloc | apply IsS43.drewN | apply IsS43.drew | apply IsS43.set_0 | apply IsS43.set_1 | apply IsS43.set_2) | exact HI0.out)); (case side2 => repeat (first | (with_reducible first | exact HB.out | apply below_alloc | apply pw_below_drewN | apply below_drew1 | refine below_set ?_ (IsS43.ge HI0.out)) | exact HB.out)); rintro e w18 ⟨rfl, hi, hb, hk⟩; have n0_ := Aside0.mk (KeepBut.trans (by repeat (first | (with_reducible first | exact HK.out | apply KeepBut.set_ | apply keep_drewN | apply keep_drew | apply keep_alloc) | exact HK.out)) hk (.inl rfl)); have n1_ := Aside0.mk (hb); have n2_ := Aside0.mk (hi); clear HK; clear HB; clear HI0; have HK := n0_; have HB := n1_; have HI0 := n2_; clear n0_ n1_ n2_; (try clear hb); (try clear hb2); (try clear hk); (try clear hi)))
                      repeat (go_quiet (first | (go_at_call 38; (with_reducible refine (greenwoodref01_Reader_fail.calls g x1000_1 x1001_1 x1002_1 11 t126 t127 t128 t129 w0 _ ?side1 ?side2 A16.out).mono ?_); (case side1 => repeat (first | (with_reducible first | exact HI0.out | apply IsS43.alloc | apply IsS43.drewN | apply IsS43.drew | apply IsS43.set_0 | apply IsS43.set_1 | apply IsS43.set_2) | exact HI0.out)); (case side2 => repeat (first | (with_reducible first | exact HB.out | apply below_alloc | apply pw_below_drewN | apply below_drew1 | refine below_set ?_ (IsS43.ge HI0.out)) | exact HB.out)); rintro e w18 ⟨rfl, hi, hb, hk⟩; have n0_ := Aside0.mk (KeepBut.trans (by repeat (first | (with_reducible first | exact HK.out | apply KeepBut.set_ | apply keep_drewN | apply keep_drew | apply keep_alloc) | exact HK.out)) hk (.inl rfl)); have n1_ := Aside0.mk (hb); have n2_ := Aside0.mk (hi); clear HK; clear HB; clear HI0; have HK := n0_; have HB := n1_; have HI0 := n2_; clear n0_ n1_ n2_; (try clear hb); (try clear hb2); (try clear hk); (try clear hi))); try go_wp2_with (first | (go_at_call 38; (with_reducible refine (greenwoodref01_Reader_fail.calls g x1000_1 x1001_1 x1002_1 11 t126 t127 t128 t129 w0 _ ?side1 ?side2 A16.out).mono ?_); (case side1 => repeat (first | (with_reducible first | exact HI0.out | apply IsS43.alloc | apply IsS43.drewN | apply IsS43.drew | apply IsS43.set_0 | apply IsS43.set_1 | apply IsS43.set_2) | exact HI0.out)); (case side2 => repeat (first | (with_reducible first | exact HB.out | apply below_alloc | apply pw_below_drewN | apply below_drew1 | refine below_set ?_ (IsS43.ge HI0.out)) | exact HB.out)); rintro e w18 ⟨rfl, hi, hb, hk⟩; have n0_ := Aside0.mk (KeepBut.trans (by repeat (first | (with_reducible first | exact HK.out | apply KeepBut.set_ | apply keep_drewN | apply keep_drew | apply keep_alloc) | exact HK.out)) hk (.inl rfl)); have n1_ := Aside0.mk (hb); have n2_ := Aside0.mk (hi); clear HK; clear HB; clear HI0; have HK := n0_; have HB := n1_; have HI0 := n2_; clear n0_ n1_ n2_; (try clear hb); (try clear hb2); (try clear hk); (try clear hi))))
                      go_ret
                      exact ⟨by first | rfl | (simp [errW_none, errW_some] <;> rfl) | (simp only [← hji9]; first | rfl | (simp [errW_none, errW_some] <;> rfl)) | (simp [*, errW_none, errW_some] <;> rfl), by repeat (first | (with_reducible first | exact HI0.out | apply IsS43.alloc | apply IsS43.drewN | apply IsS43.drew | apply IsS43.set_0 | apply IsS43.set_1 | apply IsS43.set_2) | exact HI0.out), by repeat (first | (with_reducible first | exact HB.out | apply below_alloc | apply pw_below_drewN | apply below_drew1 | refine below_set ?_ (IsS43.ge HI0.out)) | exact HB.out), by repeat (first | (with_reducible first | exact HK.out | apply KeepBut.set_ | apply keep_drewN | apply keep_drew | apply keep_alloc) | exact HK.out)⟩
                    · rw [if_neg c15] at H
                      have c15b0 : decide (0 < x5_1) = false := decide_eq_false c15
                      clear c15
                      by_cases c19 : (wrap64 (x3_1 + (wrap64 ((wrap64 (bt x1000_1 (ji9))) * x4_1)))) > 1125899906842624
                      · rw [if_pos c19] at H
                        have c19b0 : decide (1125899906842624 < (wrap64 (x3_1 + (wrap64 ((wrap64 (bt x1000_1 (ji9))) * x4_1))))) = true := decide_eq_true c19
                        clear c19
                        replace H := Option.bind_eq_some_iff.mp H
                        obtain ⟨⟨t130, t131, t132, t133⟩, A200, H⟩ := H
                        replace H : (some (t130, t131, t132, t133)) = some (r1, r2, r3, r4) := H
                        have A20 := Aside0.mk A200
                        clear A200
                        simp only [Option.some.injEq, Prod.mk.injEq] at H
                        obtain ⟨rfl, rfl, rfl, rfl⟩ := H
                        obtain ⟨HGz21, hgz21⟩ := HI0.out
                        have hcz21_0 := cellS43_0 HGz21
                        have hcz21_1 := cellS43_1 HGz21
                        have hcz21_2 := cellS43_2 HGz21
                        have hfz21_0 := blk_frozen HGz21 0
                        have hfz21_1 := blk_frozen HGz21 1
                        have hfz21_2 := blk_frozen HGz21 2
                        clear HGz21 hgz21
                        have p12 : 0 ≤ ((ji9) : Int) := of_decide_eq_true (by first | (with_reducible assumption) | assumption)
                        have q12 : (ji9) < (x1000_1.size : Int) := of_decide_eq_true (by first | (with_reducible assumption) | assumption)
                        have hx12 := bt_at x1000_1 (ji9)
                        replace p12 := eq_true p12
                        replace q12 := eq_true q12
                        go_wp2_with (first | (go_at_call 38; (with_reducible refine (greenwoodref01_Reader_fail.calls g x1000_1 x1001_1 x1002_1 11 t130 t131 t132 t133 w0 _ ?side1 ?side2 A20.out).mono ?_); (case side1 => repeat (first | (with_reducible first | exact HI0.out | apply IsS43.alloc | apply IsS43.drewN | apply IsS43.drew | apply IsS43.set_0 | apply IsS43.set_1 | apply IsS43.set_2) | exact HI0.out)); (case side2 => repeat (first | (with_reducible first | exact HB.out | apply below_alloc | apply pw_below_drewN | apply below_drew1 | refine below_set ?_ (IsS43.ge HI0.out)) | exact HB.out)); rintro e w22 ⟨rfl, hi, hb, hk⟩; have n0_ := Aside0.mk (KeepBut.trans (by repeat (first | (with_reducible first | exact HK.out | apply KeepBut.set_ | apply keep_drewN | apply keep_drew | apply keep_alloc) | exact HK.out)) hk (.inl rfl)); have n1_ := Aside0.mk (hb); have n2_ := Aside0.mk (hi); clear HK; clear HB; clear HI0; have HK := n0_; have HB := n1_; have HI0 := n2_; clear n0_ n1_ n2_; (try clear hb); (try clear hb2); (try clear hk); (try clear hi)))
                        repeat (go_quiet (first | (go_at_call 38; (with_reducible refine (greenwoodref01_Reader_fail.calls g x1000_1 x1001_1 x1002_1 11 t130 t131 t132 t133 w0 _ ?side1 ?side2 A20.out).mono ?_); (case side1 => repeat (first | (with_reducible first | exact HI0.out | apply IsS43.alloc | apply IsS43.drewN | apply IsS43.drew | apply IsS43.set_0 | apply IsS43.set_1 | apply IsS43.set_2) | exact HI0.out)); (case side2 => repeat (first | (with_reducible first | exact HB.out | apply below_alloc | apply pw_below_drewN | apply below_drew1 | refine below_set ?_ (IsS43.ge HI0.out)) | exact HB.out)); rintro e w22 ⟨rfl, hi, hb, hk⟩; have n0_ := Aside0.mk (KeepBut.trans (by repeat (first | (with_reducible first | exact HK.out | apply KeepBut.set_ | apply keep_drewN | apply keep_drew | apply keep_alloc) | exact HK.out)) hk (.inl rfl)); have n1_ := Aside0.mk (hb); have n2_ := Aside0.mk (hi); clear HK; clear HB; clear HI0; have HK := n0_; have HB := n1_; have HI0 := n2_; clear n0_ n1_ n2_; (try clear hb); (try clear hb2); (try clear hk); (try clear hi))); try go_wp2_with (first | (go_at_call 38; (with_reducible refine (greenwoodref01_Reader_fail.calls g x1000_1 x1001_1 x1002_1 11 t130 t131 t132 t133 w0 _ ?side1 ?side2 A20.out).mono ?_); (case side1 => repeat (first | (with_reducible first | exact HI0.out | apply IsS43.alloc | apply IsS43.drewN | apply IsS43.drew | apply IsS43.set_0 | apply IsS43.set_1 | apply IsS43.set_2) | exact HI0.out)); (case side2 => repeat (first | (with_reducible first | exact HB.out | apply below_alloc | apply pw_below_drewN | apply below_drew1 | refine below_set ?_ (IsS43.ge HI0.out)) | exact HB.out)); rintro e w22 ⟨rfl, hi, hb, hk⟩; have n0_ := Aside0.mk (KeepBut.trans (by repeat (first | (with_reducible first | exact HK.out | apply KeepBut.set_ | apply keep_drewN | apply keep_drew | apply keep_alloc) | exact HK.out)) hk (.inl rfl)); have n1_ := Aside0.mk (hb); have n2_ := Aside0.mk (hi); clear HK; clear HB; clear HI0; have HK := n0_; have HB := n1_; have HI0 := n2_; clear n0_ n1_ n2_; (try clear hb); (try clear hb2); (try clear hk); (try clear hi))))
                        go_ret
                        exact ⟨by first | rfl | (simp [errW_none, errW_some] <;> rfl) | (simp only [← hji9]; first | rfl | (simp [errW_none, errW_some] <;> rfl)) | (simp [*, errW_none, errW_some] <;> rfl), by repeat (first | (with_reducible first | exact HI0.out | apply IsS43.alloc | apply IsS43.drewN | apply IsS43.drew | apply IsS43.set_0 | apply IsS43.set_1 | apply IsS43.set_2) | exact HI0.out), by repeat (first | (with_reducible first | exact HB.out | apply below_alloc | apply pw_below_drewN | apply below_drew1 | refine below_set ?_ (IsS43.ge HI0.out)) | exact HB.out), by repeat (first | (with_reducible first | exact HK.out | apply KeepBut.set_ | apply keep_drewN | apply keep_drew | apply keep_alloc) | exact HK.out)⟩
                      · rw [if_neg c19] at H
                        have c19b0 : decide (1125899906842624 < (wrap64 (x3_1 + (wrap64 ((wrap64 (bt x1000_1 (ji9))) * x4_1))))) = false := decide_eq_false c19
                        clear c19
                        simp only [Option.some.injEq, Prod.mk.injEq] at H
                        obtain ⟨rfl, rfl, rfl, rfl⟩ := H
                        obtain ⟨HGz23, hgz23⟩ := HI0.out
                        have hcz23_0 := cellS43_0 HGz23
                        have hcz23_1 := cellS43_1 HGz23
                        have hcz23_2 := cellS43_2 HGz23
                        have hfz23_0 := blk_frozen HGz23 0
                        have hfz23_1 := blk_frozen HGz23 1
                        have hfz23_2 := blk_frozen HGz23 2
                        clear HGz23 hgz23
                        have p12 : 0 ≤ ((ji9) : Int) := of_decide_eq_true (by first | (with_reducible assumption) | assumption)
                        have q12 : (ji9) < (x1000_1.size : Int) := of_decide_eq_true (by first | (with_reducible assumption) | assumption)
                        have hx12 := bt_at x1000_1 (ji9)
                        replace p12 := eq_true p12
                        replace q12 := eq_true q12
                        go_wp2
                        repeat (go_quiet (fail); try go_wp2)
                        go_ret
                        exact ⟨by first | rfl | (simp [errW_none, errW_some] <;> rfl) | (simp only [← hji9]; first | rfl | (simp [errW_none, errW_some] <;> rfl)) | (simp [*, errW_none, errW_some] <;> rfl), by repeat (first | (with_reducible first | exact HI0.out | apply IsS43.alloc | apply IsS43.drewN | apply IsS43.drew | apply IsS43.set_0 | apply IsS43.set_1 | apply IsS43.set_2) | exact HI0.out), by repeat (first | (with_reducible first | exact HB.out | apply below_alloc | apply pw_below_drewN | apply below_drew1 | refine below_set ?_ (IsS43.ge HI0.out)) | exact HB.out), by repeat (first | (with_reducible first | exact HK.out | apply KeepBut.set_ | apply keep_drewN | apply keep_drew | apply keep_alloc) | exact HK.out)⟩
                  · rw [if_neg c14] at H
                    have c14b0 : ((wrap64 (bt x1000_1 (ji9))) == 0) = false := beq_eq_false_iff_ne.mpr c14
                    have c14b1 : ((wrap64 (bt x1000_1 (ji9))) != 0) = true := bne_iff_ne.mpr c14
                    by_cases c24 : (wrap64 (x3_1 + (wrap64 ((wrap64 (bt x1000_1 (ji9))) * x4_1)))) > 1125899906842624
                    · rw [if_pos c24] at H
                      have c24b0 : decide (1125899906842624 < (wrap64 (x3_1 + (wrap64 ((wrap64 (bt x1000_1 (ji9))) * x4_1))))) = true := decide_eq_true c24
                      clear c24
                      replace H := Option.bind_eq_some_iff.mp H
                      obtain ⟨⟨t134, t135, t136, t137⟩, A250, H⟩ := H
                      replace H : (some (t134, t135, t136, t137)) = some (r1, r2, r3, r4) := H
                      have A25 := Aside0.mk A250
                      clear A250
                      simp only [Option.some.injEq, Prod.mk.injEq] at H
                      obtain ⟨rfl, rfl, rfl, rfl⟩ := H
                      obtain ⟨HGz26, hgz26⟩ := HI0.out
                      have hcz26_0 := cellS43_0 HGz26
                      have hcz26_1 := cellS43_1 HGz26
                      have hcz26_2 := cellS43_2 HGz26
                      have hfz26_0 := blk_frozen HGz26 0
                      have hfz26_1 := blk_frozen HGz26 1
                      have hfz26_2 := blk_frozen HGz26 2
                      clear HGz26 hgz26
                      have p12 : 0 ≤ ((ji9) : Int) := of_decide_eq_true (by first | (with_reducible assumption) | assumption)
                      have q12 : (ji9) < (x1000_1.size : Int) := of_decide_eq_true (by first | (with_reducible assumption) | assumption)
                      have hx12 := bt_at x1000_1 (ji9)
                      replace p12 := eq_true p12
                      replace q12 := eq_true q12
                      go_wp2_with (first | (go_at_call 38; (with_reducible refine (greenwoodref01_Reader_fail.calls g x1000_1 x1001_1 x1002_1 11 t134 t135 t136 t137 w0 _ ?side1 ?side2 A25.out).mono ?_); (case side1 => repeat (first | (with_reducible first | exact HI0.out | apply IsS43.alloc | apply IsS43.drewN | apply IsS43.drew | apply IsS43.set_0 | apply IsS43.set_1 | apply IsS43.set_2) | exact HI0.out)); (case side2 => repeat (first | (with_reducible first | exact HB.out | apply below_alloc | apply pw_below_drewN | apply below_drew1 | refine below_set ?_ (IsS43.ge HI0.out)) | exact HB.out)); rintro e w27 ⟨rfl, hi, hb, hk⟩; have n0_ := Aside0.mk (KeepBut.trans (by repeat (first | (with_reducible first | exact HK.out | apply KeepBut.set_ | apply keep_drewN | apply keep_drew | apply keep_alloc) | exact HK.out)) hk (.inl rfl)); have n1_ := Aside0.mk (hb); have n2_ := Aside0.mk (hi); clear HK; clear HB; clear HI0; have HK := n0_; have HB := n1_; have HI0 := n2_; clear n0_ n1_ n2_; (try clear hb); (try clear hb2); (try clear hk); (try clear hi)))
                      repeat (go_quiet (first | (go_at_call 38; (with_reducible refine (greenwoodref01_Reader_fail.calls g x1000_1 x1001_1 x1002_1 11 t134 t135 t136 t137 w0 _ ?side1 ?side2 A25.out).mono ?_); (case side1 => repeat (first | (with_reducible first | exact HI0.out | apply IsS43.alloc | apply IsS43.drewN | apply IsS43.drew | apply IsS43.set_0 | apply IsS43.set_1 | apply IsS43.set_2) | exact HI0.out)); (case side2 => repeat (first | (with_reducible first | exact HB.out | apply below_alloc | apply pw_below_drewN | apply below_drew1 | refine below_set ?_ (IsS43.ge HI0.out)) | exact HB.out)); rintro e w27 ⟨rfl, hi, hb, hk⟩; have n0_ := Aside0.mk (KeepBut.trans (by repeat (first | (with_reducible first | exact HK.out | apply KeepBut.set_ | apply keep_drewN | apply keep_drew | apply keep_alloc) | exact HK.out)) hk (.inl rfl)); have n1_ := Aside0.mk (hb); have n2_ := Aside0.mk (hi); clear HK; clear HB; clear HI0; have HK := n0_; have HB := n1_; have HI0 := n2_; clear n0_ n1_ n2_; (try clear hb); (try clear hb2); (try clear hk); (try clear hi))); try go_wp2_with (first | (go_at_call 38; (with_reducible refine (greenwoodref01_Reader_fail.calls g x1000_1 x1001_1 x1002_1 11 t134 t135 t136 t137 w0 _ ?side1 ?side2 A25.out).mono ?_); (case side1 => repeat (first | (with_reducible first | exact HI0.out | apply IsS43.alloc | apply IsS43.drewN | apply IsS43.drew | apply IsS43.set_0 | apply IsS43.set_1 | apply IsS43.set_2) | exact HI0.out)); (case side2 => repeat (first | (with_reducible first | exact HB.out | apply below_alloc | apply pw_below_drewN | apply below_drew1 | refine below_set ?_ (IsS43.ge HI0.out)) | exact HB.out)); rintro e w27 ⟨rfl, hi, hb, hk⟩; have n0_ := Aside0.mk (KeepBut.trans (by repeat (first | (with_reducible first | exact HK.out | apply KeepBut.set_ | apply keep_drewN | apply keep_drew | apply keep_alloc) | exact HK.out)) hk (.inl rfl)); have n1_ := Aside0.mk (hb); have n2_ := Aside0.mk (hi); clear HK; clear HB; clear HI0; have HK := n0_; have HB := n1_; have HI0 := n2_; clear n0_ n1_ n2_; (try clear hb); (try clear hb2); (try clear hk); (try clear hi))))
                      go_ret
                      exact ⟨by first | rfl | (simp [errW_none, errW_some] <;> rfl) | (simp only [← hji9]; first | rfl | (simp [errW_none, errW_some] <;> rfl)) | (simp [*, errW_none, errW_some] <;> rfl), by repeat (first | (with_reducible first | exact HI0.out | apply IsS43.alloc | apply IsS43.drewN | apply IsS43.drew | apply IsS43.set_0 | apply IsS43.set_1 | apply IsS43.set_2) | exact HI0.out), by repeat (first | (with_reducible first | exact HB.out | apply below_alloc | apply pw_below_drewN | apply below_drew1 | refine below_set ?_ (IsS43.ge HI0.out)) | exact HB.out), by repeat (first | (with_reducible first | exact HK.out | apply KeepBut.set_ | apply keep_drewN | apply keep_drew | apply keep_alloc) | exact HK.out)⟩
                    · rw [if_neg c24] at H
                      have c24b0 : decide (1125899906842624 < (wrap64 (x3_1 + (wrap64 ((wrap64 (bt x1000_1 (ji9))) * x4_1))))) = false := decide_eq_false c24
                      clear c24
                      simp only [Option.some.injEq, Prod.mk.injEq] at H
                      obtain ⟨rfl, rfl, rfl, rfl⟩ := H
                      obtain ⟨HGz28, hgz28⟩ := HI0.out
                      have hcz28_0 := cellS43_0 HGz28
                      have hcz28_1 := cellS43_1 HGz28
                      have hcz28_2 := cellS43_2 HGz28
                      have hfz28_0 := blk_frozen HGz28 0
                      have hfz28_1 := blk_frozen HGz28 1
                      have hfz28_2 := blk_frozen HGz28 2
                      clear HGz28 hgz28
                      have p12 : 0 ≤ ((ji9) : Int) := of_decide_eq_true (by first | (with_reducible assumption) | assumption)
                      have q12 : (ji9) < (x1000_1.size : Int) := of_decide_eq_true (by first | (with_reducible assumption) | assumption)
                      have hx12 := bt_at x1000_1 (ji9)
                      replace p12 := eq_true p12
                      replace q12 := eq_true q12
                      go_wp2
                      repeat (go_quiet (fail); try go_wp2)
                      go_ret
                      exact ⟨by first | rfl | (simp [errW_none, errW_some] <;> rfl) | (simp only [← hji9]; first | rfl | (simp [errW_none, errW_some] <;> rfl)) | (simp [*, errW_none, errW_some] <;> rfl), by repeat (first | (with_reducible first | exact HI0.out | apply IsS43.alloc | apply IsS43.drewN | apply IsS43.drew | apply IsS43.set_0 | apply IsS43.set_1 | apply IsS43.set_2) | exact HI0.out), by repeat (first | (with_reducible first | exact HB.out | apply below_alloc | apply pw_below_drewN | apply below_drew1 | refine below_set ?_ (IsS43.ge HI0.out)) | exact HB.out), by repeat (first | (with_reducible first | exact HK.out | apply KeepBut.set_ | apply keep_drewN | apply keep_drew | apply keep_alloc) | exact HK.out)⟩
                · rw [if_neg c13] at H
                  have c13b0 : decide ((wrap64 (bt x1000_1 (ji9))) < 128) = false := decide_eq_false c13
                  clear c13
                  have H' := Aside0.mk H
                  clear H
                  obtain ⟨HGz29, hgz29⟩ := HI0.out
                  have hcz29_0 := cellS43_0 HGz29
                  have hcz29_1 := cellS43_1 HGz29
                  have hcz29_2 := cellS43_2 HGz29
                  have hfz29_0 := blk_frozen HGz29 0
                  have hfz29_1 := blk_frozen HGz29 1
                  have hfz29_2 := blk_frozen HGz29 2
                  clear HGz29 hgz29
                  have p12 : 0 ≤ ((ji9) : Int) := of_decide_eq_true (by first | (with_reducible assumption) | assumption)
                  have q12 : (ji9) < (x1000_1.size : Int) := of_decide_eq_true (by first | (with_reducible assumption) | assumption)
                  have hx12 := bt_at x1000_1 (ji9)
                  replace p12 := eq_true p12
                  replace q12 := eq_true q12
                  go_wp2
                  repeat (go_quiet (fail); try go_wp2)
                  go_roundg k1
                  case measure => have := HK1.out; omega
                  case rel => exact ⟨(wrap64 (x3_1 + (wrap64 ((wrap64 ((wrap64 (bt x1000_1 (ji9))) - 128)) * x4_1)))), (wrap64 (x4_1 * 128)), (wrap64 (x5_1 + 1)), (x1000_1), (x1001_1), (x1002_1), (by first | rfl | (simp; done) | (simp only [← hji9] <;> (first | rfl | simp)) | (simp [*]; done)), (by first | rfl | (simp; done) | (simp [*]; done)), (by first | rfl | (simp; done) | (simp [*]; done)), H', ⟨by have := HK1.out; omega⟩, ⟨by repeat (first | (with_reducible first | exact HI0.out | apply IsS43.alloc | apply IsS43.drewN | apply IsS43.drew | apply IsS43.set_0 | apply IsS43.set_1 | apply IsS43.set_2) | exact HI0.out)⟩, ⟨by repeat (first | (with_reducible first | exact HK.out | apply KeepBut.set_ | apply keep_drewN | apply keep_drew | apply keep_alloc) | exact HK.out)⟩, ⟨by repeat (first | (with_reducible first | exact HB.out | apply below_alloc | apply pw_below_drewN | apply below_drew1 | refine below_set ?_ (IsS43.ge HI0.out)) | exact HB.out)⟩⟩
              · rw [if_neg c11] at H
                exact absurd H (by simp)
            · rw [if_neg c10] at H
              exact absurd H (by simp)
        · rw [if_neg c4] at H
          have c4b0 : decide (x5_1 < 8) = false := decide_eq_false c4
          clear c4
          replace H := Option.bind_eq_some_iff.mp H
          obtain ⟨⟨t118, t119, t120, t121⟩, A300, H⟩ := H
          replace H : (some (t118, t119, t120, t121)) = some (r1, r2, r3, r4) := H
          have A30 := Aside0.mk A300
          clear A300
          simp only [Option.some.injEq, Prod.mk.injEq] at H
          obtain ⟨rfl, rfl, rfl, rfl⟩ := H
          go_wp2_with (first | (go_at_call 38; (with_reducible refine (greenwoodref01_Reader_fail.calls g x1000_1 x1001_1 x1002_1 11 t118 t119 t120 t121 w0 _ ?side1 ?side2 A30.out).mono ?_); (case side1 => repeat (first | (with_reducible first | exact HI0.out | apply IsS43.alloc | apply IsS43.drewN | apply IsS43.drew | apply IsS43.set_0 | apply IsS43.set_1 | apply IsS43.set_2) | exact HI0.out)); (case side2 => repeat (first | (with_reducible first | exact HB.out | apply below_alloc | apply pw_below_drewN | apply below_drew1 | refine below_set ?_ (IsS43.ge HI0.out)) | exact HB.out)); rintro e w31 ⟨rfl, hi, hb, hk⟩; have n0_ := Aside0.mk (KeepBut.trans (by repeat (first | (with_reducible first | exact HK.out | apply KeepBut.set_ | apply keep_drewN | apply keep_drew | apply keep_alloc) | exact HK.out)) hk (.inl rfl)); have n1_ := Aside0.mk (hb); have n2_ := Aside0.mk (hi); clear HK; clear HB; clear HI0; have HK := n0_; have HB := n1_; have HI0 := n2_; clear n0_ n1_ n2_; (try clear hb); (try clear hb2); (try clear hk); (try clear hi)))
          repeat (go_quiet (first | (go_at_call 38; (with_reducible refine (greenwoodref01_Reader_fail.calls g x1000_1 x1001_1 x1002_1 11 t118 t119 t120 t121 w0 _ ?side1 ?side2 A30.out).mono ?_); (case side1 => repeat (first | (with_reducible first | exact HI0.out | apply IsS43.alloc | apply IsS43.drewN | apply IsS43.drew | apply IsS43.set_0 | apply IsS43.set_1 | apply IsS43.set_2) | exact HI0.out)); (case side2 => repeat (first | (with_reducible first | exact HB.out | apply below_alloc | apply pw_below_drewN | apply below_drew1 | refine below_set ?_ (IsS43.ge HI0.out)) | exact HB.out)); rintro e w31 ⟨rfl, hi, hb, hk⟩; have n0_ := Aside0.mk (KeepBut.trans (by repeat (first | (with_reducible first | exact HK.out | apply KeepBut.set_ | apply keep_drewN | apply keep_drew | apply keep_alloc) | exact HK.out)) hk (.inl rfl)); have n1_ := Aside0.mk (hb); have n2_ := Aside0.mk (hi); clear HK; clear HB; clear HI0; have HK := n0_; have HB := n1_; have HI0 := n2_; clear n0_ n1_ n2_; (try clear hb); (try clear hb2); (try clear hk); (try clear hi))); try go_wp2_with (first | (go_at_call 38; (with_reducible refine (greenwoodref01_Reader_fail.calls g x1000_1 x1001_1 x1002_1 11 t118 t119 t120 t121 w0 _ ?side1 ?side2 A30.out).mono ?_); (case side1 => repeat (first | (with_reducible first | exact HI0.out | apply IsS43.alloc | apply IsS43.drewN | apply IsS43.drew | apply IsS43.set_0 | apply IsS43.set_1 | apply IsS43.set_2) | exact HI0.out)); (case side2 => repeat (first | (with_reducible first | exact HB.out | apply below_alloc | apply pw_below_drewN | apply below_drew1 | refine below_set ?_ (IsS43.ge HI0.out)) | exact HB.out)); rintro e w31 ⟨rfl, hi, hb, hk⟩; have n0_ := Aside0.mk (KeepBut.trans (by repeat (first | (with_reducible first | exact HK.out | apply KeepBut.set_ | apply keep_drewN | apply keep_drew | apply keep_alloc) | exact HK.out)) hk (.inl rfl)); have n1_ := Aside0.mk (hb); have n2_ := Aside0.mk (hi); clear HK; clear HB; clear HI0; have HK := n0_; have HB := n1_; have HI0 := n2_; clear n0_ n1_ n2_; (try clear hb); (try clear hb2); (try clear hk); (try clear hi))))
          go_ret
          exact ⟨by first | rfl | (simp [errW_none, errW_some] <;> rfl) | (simp [*, errW_none, errW_some] <;> rfl), by repeat (first | (with_reducible first | exact HI0.out | apply IsS43.alloc | apply IsS43.drewN | apply IsS43.drew | apply IsS43.set_0 | apply IsS43.set_1 | apply IsS43.set_2) | exact HI0.out), by repeat (first | (with_reducible first | exact HB.out | apply below_alloc | apply pw_below_drewN | apply below_drew1 | refine below_set ?_ (IsS43.ge HI0.out)) | exact HB.out), by repeat (first | (with_reducible first | exact HK.out | apply KeepBut.set_ | apply keep_drewN | apply keep_drew | apply keep_alloc) | exact HK.out)⟩
  · rw [if_neg c2] at H
    have c2b0 : (s0_2 == 0) = false := beq_eq_false_iff_ne.mpr c2
    have c2b1 : (s0_2 != 0) = true := bne_iff_ne.mpr c2
    simp only [Option.some.injEq, Prod.mk.injEq] at H
    obtain ⟨rfl, rfl, rfl, rfl⟩ := H
    obtain ⟨HGz32, hgz32⟩ := HI0.out
    have hcz32_0 := cellS43_0 HGz32
    have hcz32_1 := cellS43_1 HGz32
    have hcz32_2 := cellS43_2 HGz32
    have hfz32_0 := blk_frozen HGz32 0
    have hfz32_1 := blk_frozen HGz32 1
    have hfz32_2 := blk_frozen HGz32 2
    clear HGz32 hgz32
    go_enter Tryd.func28, Tryd.ntmps28
    go_wp2
    repeat (go_quiet (fail); try go_wp2)
    go_ret
    exact ⟨by first | rfl | (simp [errW_none, errW_some] <;> rfl) | (simp [*, errW_none, errW_some] <;> rfl), by repeat (first | (with_reducible first | exact HI0.out | apply IsS43.alloc | apply IsS43.drewN | apply IsS43.drew | apply IsS43.set_0 | apply IsS43.set_1 | apply IsS43.set_2) | exact HI0.out), by repeat (first | (with_reducible first | exact HB.out | apply below_alloc | apply pw_below_drewN | apply below_drew1 | refine below_set ?_ (IsS43.ge HI0.out)) | exact HB.out), by repeat (first | (with_reducible first | exact HK.out | apply KeepBut.set_ | apply keep_drewN | apply keep_drew | apply keep_alloc) | exact HK.out)⟩

/-! ### greenwoodref01_signed: function 39 -/
def greenwoodref01_signed.f (a0 : Int) : Option (Int) := if (Int.tmod a0 2) = 1 then (some (wrap64 (-(wrap64 (Int.tdiv (wrap64 (a0 + 1)) 2))))) else (some (wrap64 (Int.tdiv a0 2)))
set_option maxHeartbeats 8000000 in
set_option maxRecDepth 100000 in
theorem greenwoodref01_signed.calls (a0 : Int) (r : Int) (w : World) (h : greenwoodref01_signed.f a0 = some r) :
    Calls Tryd.prog 39 #[.int .i64 a0] w fun e w' => e = .returned (.int .i64 r) ∧ Drawn0 w w' := by
  have H : (if (Int.tmod a0 2) = 1 then (some (wrap64 (-(wrap64 (Int.tdiv (wrap64 (a0 + 1)) 2))))) else (some (wrap64 (Int.tdiv a0 2)))) = some r := h
  clear h
  by_cases c2 : (Int.tmod a0 2) = 1
  · rw [if_pos c2] at H
    have c2b0 : ((Int.tmod a0 2) == 1) = true := beq_iff_eq.mpr c2
    have c2b1 : ((Int.tmod a0 2) != 1) = false := bne_eq_false_iff_eq.mpr c2
    clear c2
    obtain rfl := Option.some.inj H
    go_enter Tryd.func39, Tryd.ntmps39
    go_wp2
    go_ret
    exact ⟨by first | rfl | (simp; done) | (simp [*]; done), by repeat (first | exact Drawn0.refl _ | apply Drawn0.step)⟩
  · rw [if_neg c2] at H
    have c2b0 : ((Int.tmod a0 2) == 1) = false := beq_eq_false_iff_ne.mpr c2
    have c2b1 : ((Int.tmod a0 2) != 1) = true := bne_iff_ne.mpr c2
    obtain rfl := Option.some.inj H
    go_enter Tryd.func39, Tryd.ntmps39
    go_wp2
    go_ret
    exact ⟨by first | rfl | (simp; done) | (simp [*]; done), by repeat (first | exact Drawn0.refl _ | apply Drawn0.step)⟩

/-! ### greenwoodref01_Reader_Int: function 29 -/
def greenwoodref01_Reader_Int.f (k : Nat) (s0_0 : ByteArray) (s0_1 : Int) (s0_2 : Int) : Option (Int × ByteArray × Int × Int) := (greenwoodref01_Reader_Num.f k s0_0 s0_1 s0_2).bind fun bt138 => ((greenwoodref01_signed.f bt138.1).bind fun t142 => (some (t142, bt138.2.1, bt138.2.2.1, bt138.2.2.2)))
set_option maxHeartbeats 8000000 in
set_option maxRecDepth 100000 in
theorem greenwoodref01_Reader_Int.calls (k : Nat) (g : Nat) (s0_0 : ByteArray) (s0_1 : Int) (s0_2 : Int) (r1 : Int) (r2 : ByteArray) (r3 : Int) (r4 : Int) (w0 w : World) (hI : IsS43 w0 w g s0_0 s0_1 s0_2) (hB : Below w0.heap.size w0 w) (h : greenwoodref01_Reader_Int.f k s0_0 s0_1 s0_2 = some (r1, r2, r3, r4)) :
    Calls Tryd.prog 29 #[.pointer (some ⟨g, 0, none⟩)] w fun e w' => e = .returned (.int .i64 r1) ∧ IsS43 w0 w' g r2 r3 r4 ∧ Below w0.heap.size w0 w' ∧ KeepBut w w' g none := by
  have HI0 := Aside0.mk hI
  have HK := Aside0.mk (KeepBut.refl w g none)
  have HL := Aside0.mk hB.size
  clear hI
  have HW0 := Aside0.mk hB.size
  have HB := Aside0.mk hB
  clear hB
  have H : ((greenwoodref01_Reader_Num.f k s0_0 s0_1 s0_2).bind fun bt138 => ((greenwoodref01_signed.f bt138.1).bind fun t142 => (some (t142, bt138.2.1, bt138.2.2.1, bt138.2.2.2)))) = some (r1, r2, r3, r4) := h
  clear h
  replace H := Option.bind_eq_some_iff.mp H
  obtain ⟨⟨t138, t139, t140, t141⟩, A20, H⟩ := H
  replace H : ((greenwoodref01_signed.f t138).bind fun t142 => (some (t142, t139, t140, t141))) = some (r1, r2, r3, r4) := H
  have A2 := Aside0.mk A20
  clear A20
  replace H := Option.bind_eq_some_iff.mp H
  obtain ⟨t142, A30, H⟩ := H
  replace H : (some (t142, t139, t140, t141)) = some (r1, r2, r3, r4) := H
  have A3 := Aside0.mk A30
  clear A30
  simp only [Option.some.injEq, Prod.mk.injEq] at H
  obtain ⟨rfl, rfl, rfl, rfl⟩ := H
  go_enter Tryd.func29, Tryd.ntmps29
  go_wp2_with (first | ((with_reducible refine gate_callee (f := 28) rfl ?_); refine goesL_ (some 4) rfl rfl Tryd.func28 (by kernel_rfl) rfl #[.pointer (some ⟨g, 0, none⟩)] rfl (by (try simp only [List.map_toArray, List.map_cons, List.map_nil]); first | done | rfl | (simp only [List.length_drop, List.length_take]; rfl)) ?_; (with_reducible refine (greenwoodref01_Reader_Num.calls k g s0_0 s0_1 s0_2 t138 t139 t140 t141 w0 _ ?side1 ?side2 A2.out).mono ?_); (case side1 => repeat (first | (with_reducible first | exact HI0.out | apply IsS43.alloc | apply IsS43.drewN | apply IsS43.drew | apply IsS43.set_0 | apply IsS43.set_1 | apply IsS43.set_2) | exact HI0.out)); (case side2 => repeat (first | (with_reducible first | exact HB.out | apply below_alloc | apply pw_below_drewN | apply below_drew1 | refine below_set ?_ (IsS43.ge HI0.out)) | exact HB.out)); rintro e w4 ⟨rfl, hi, hb, hk⟩; refine ⟨_, rfl, ?_⟩; have n0_ := Aside0.mk (KeepBut.trans (by repeat (first | (with_reducible first | exact HK.out | apply KeepBut.set_ | apply keep_drewN | apply keep_drew | apply keep_alloc) | exact HK.out)) hk (.inl rfl)); have n1_ := Aside0.mk (hb); have n2_ := Aside0.mk (hi); clear HK; clear HB; clear HI0; have HK := n0_; have HB := n1_; have HI0 := n2_; clear n0_ n1_ n2_; (try clear hb); (try clear hb2); (try clear hk); (try clear hi)) | ((with_reducible refine gate_callee (f := 39) rfl ?_); refine goesL_ (some 5) rfl rfl Tryd.func39 (by kernel_rfl) rfl #[.int .i64 t138] rfl (by (try simp only [List.map_toArray, List.map_cons, List.map_nil]); first | done | rfl | (simp only [List.length_drop, List.length_take]; rfl)) ?_; (with_reducible refine (greenwoodref01_signed.calls t138 t142 _ A3.out).mono ?_); rintro e w' ⟨rfl, ⟨nd, rfl⟩⟩; refine ⟨_, rfl, ?_⟩))
  go_ret
  exact ⟨by first | rfl | (simp [errW_none, errW_some] <;> rfl) | (simp [*, errW_none, errW_some] <;> rfl), by repeat (first | (with_reducible first | exact HI0.out | apply IsS43.alloc | apply IsS43.drewN | apply IsS43.drew | apply IsS43.set_0 | apply IsS43.set_1 | apply IsS43.set_2) | exact HI0.out), by repeat (first | (with_reducible first | exact HB.out | apply below_alloc | apply pw_below_drewN | apply below_drew1 | refine below_set ?_ (IsS43.ge HI0.out)) | exact HB.out), by repeat (first | (with_reducible first | exact HK.out | apply KeepBut.set_ | apply keep_drewN | apply keep_drew | apply keep_alloc) | exact HK.out)⟩

/-! ### greenwoodref01_Reader_Nums: function 30 -/
mutual
def greenwoodref01_Reader_Nums.j0 : Nat → Int → Int → Bool → ByteArray → Int → Int → Option (List Int × ByteArray × Int × Int)
  | 0, _, _, _, _, _, _ => none
  | k + 1, x5, x6, x24, x1000, x1001, x1002 => if x24 = true then (greenwoodref01_Reader_Nums.j1 k x6 x1000 x5 12) else (greenwoodref01_Reader_Nums.j1 k x6 x1000 x1001 x1002)
def greenwoodref01_Reader_Nums.j1 : Nat → Int → ByteArray → Int → Int → Option (List Int × ByteArray × Int × Int)
  | 0, _, _, _, _ => none
  | k + 1, x6, x1000, x1001, x1002 => greenwoodref01_Reader_Nums.l0 k x6 (([] : List Int)) 0 x1000 x1001 x1002
def greenwoodref01_Reader_Nums.l0 : Nat → Int → List Int → Int → ByteArray → Int → Int → Option (List Int × ByteArray × Int × Int)
  | 0, _, _, _, _, _, _ => none
  | k + 1, x6, x7, x8, x1000, x1001, x1002 => if x8 < x6 then (if x1002 = 0 then ((greenwoodref01_Reader_Num.f k x1000 x1001 x1002).bind fun bt150 => (if x7.length < 17592186044416 then (greenwoodref01_Reader_Nums.l0 k x6 (x7 ++ [bt150.1]) (wrap64 (x8 + 1)) bt150.2.1 bt150.2.2.1 bt150.2.2.2) else (none))) else (some (([] : List Int), x1000, x1001, x1002))) else (if x1002 = 0 then (some (x7, x1000, x1001, x1002)) else (some (([] : List Int), x1000, x1001, x1002)))
end
def greenwoodref01_Reader_Nums.f (k : Nat) (s0_0 : ByteArray) (s0_1 : Int) (s0_2 : Int) (a1 : Int) : Option (List Int × ByteArray × Int × Int) := (greenwoodref01_Reader_Num.f k s0_0 s0_1 s0_2).bind fun bt143 => (if bt143.2.2.2 = 0 then (greenwoodref01_Reader_Nums.j0 k s0_1 bt143.1 (decide (bt143.1 > a1)) bt143.2.1 bt143.2.2.1 bt143.2.2.2) else (greenwoodref01_Reader_Nums.j0 k s0_1 bt143.1 false bt143.2.1 bt143.2.2.1 bt143.2.2.2))
set_option maxHeartbeats 8000000 in
set_option maxRecDepth 100000 in
theorem greenwoodref01_Reader_Nums.calls (k : Nat) (g : Nat) (s0_0 : ByteArray) (s0_1 : Int) (s0_2 : Int) (a1 : Int) (r1 : List Int) (r2 : ByteArray) (r3 : Int) (r4 : Int) (w0 w : World) (hI : IsS43 w0 w g s0_0 s0_1 s0_2) (hB : Below w0.heap.size w0 w) (h : greenwoodref01_Reader_Nums.f k s0_0 s0_1 s0_2 a1 = some (r1, r2, r3, r4)) :
    Calls Tryd.prog 30 #[.pointer (some ⟨g, 0, none⟩), .int .i64 a1] w fun e w' => ∃ v0_ : Value, e = .returned (v0_) ∧ Kd.R (Kd.int .i64) 3 w' w.heap.size (fun _ => True) v0_ r1 ∧ IsS43 w0 w' g r2 r3 r4 ∧ Below w0.heap.size w0 w' ∧ KeepBut w w' g none := by
  have HI0 := Aside0.mk hI
  have HK := Aside0.mk (KeepBut.refl w g none)
  have HL := Aside0.mk hB.size
  clear hI
  have HW0 := Aside0.mk hB.size
  have HB := Aside0.mk hB
  clear hB
  have H : ((greenwoodref01_Reader_Num.f k s0_0 s0_1 s0_2).bind fun bt143 => (if bt143.2.2.2 = 0 then (greenwoodref01_Reader_Nums.j0 k s0_1 bt143.1 (decide (bt143.1 > a1)) bt143.2.1 bt143.2.2.1 bt143.2.2.2) else (greenwoodref01_Reader_Nums.j0 k s0_1 bt143.1 false bt143.2.1 bt143.2.2.1 bt143.2.2.2))) = some (r1, r2, r3, r4) := h
  clear h
  replace H := Option.bind_eq_some_iff.mp H
  obtain ⟨⟨t143, t144, t145, t146⟩, A30, H⟩ := H
  replace H : (if t146 = 0 then (greenwoodref01_Reader_Nums.j0 k s0_1 t143 (decide (t143 > a1)) t144 t145 t146) else (greenwoodref01_Reader_Nums.j0 k s0_1 t143 false t144 t145 t146)) = some (r1, r2, r3, r4) := H
  have A3 := Aside0.mk A30
  clear A30
  have HC4 := Aside0.mk H
  clear H
  obtain ⟨HGz5, hgz5⟩ := HI0.out
  have hcz5_0 := cellS43_0 HGz5
  have hcz5_1 := cellS43_1 HGz5
  have hcz5_2 := cellS43_2 HGz5
  have hfz5_0 := blk_frozen HGz5 0
  have hfz5_1 := blk_frozen HGz5 1
  have hfz5_2 := blk_frozen HGz5 2
  clear HGz5 hgz5
  go_enter Tryd.func30, Tryd.ntmps30
  go_upto_region 3 with (first | ((with_reducible refine gate_callee (f := 28) rfl ?_); refine goesL_ (some 14) rfl rfl Tryd.func28 (by kernel_rfl) rfl #[.pointer (some ⟨g, 0, none⟩)] rfl (by (try simp only [List.map_toArray, List.map_cons, List.map_nil]); first | done | rfl | (simp only [List.length_drop, List.length_take]; rfl)) ?_; (with_reducible refine (greenwoodref01_Reader_Num.calls k g s0_0 s0_1 s0_2 t143 t144 t145 t146 w0 _ ?side1 ?side2 A3.out).mono ?_); (case side1 => repeat (first | (with_reducible first | exact HI0.out | apply IsS43.alloc | apply IsS43.drewN | apply IsS43.drew | apply IsS43.set_0 | apply IsS43.set_1 | apply IsS43.set_2) | exact HI0.out)); (case side2 => repeat (first | (with_reducible first | exact HB.out | apply below_alloc | apply pw_below_drewN | apply below_drew1 | refine below_set ?_ (IsS43.ge HI0.out)) | exact HB.out)); rintro e w6 ⟨rfl, hi, hb, hk⟩; refine ⟨_, rfl, ?_⟩; have n0_ := Aside0.mk (KeepBut.trans (by repeat (first | (with_reducible first | exact HK.out | apply KeepBut.set_ | apply keep_drewN | apply keep_drew | apply keep_alloc) | exact HK.out)) hk (.inl rfl)); have n1_ := Aside0.mk (hb); have n2_ := Aside0.mk (hi); clear HK; clear HB; clear HI0; have HK := n0_; have HB := n1_; have HI0 := n2_; clear n0_ n1_ n2_; (try clear hb); (try clear hb2); (try clear hk); (try clear hi)))
  (try simp only [Act.put, List.setIfInBounds_toArray, List.set_cons_zero, List.set_cons_succ])
  go_cut [24] (fun v24 wc => ∃ (kq : Nat) (x24_3 : Bool), v24 = .bool x24_3 ∧ Aside0 (greenwoodref01_Reader_Nums.j0 kq s0_1 t143 x24_3 t144 t145 t146 = some (r1, r2, r3, r4)) ∧ Aside0 (kq ≤ k) ∧ Aside0 (IsS43 w0 wc g t144 t145 t146) ∧ Aside0 (KeepBut w wc g none) ∧ Aside0 (Below w0.heap.size w0 wc))
  case first =>
    have H := HC4.out
    clear HC4
    by_cases c7 : t146 = 0
    · rw [if_pos c7] at H
      have c7b0 : (t146 == 0) = true := beq_iff_eq.mpr c7
      have c7b1 : (t146 != 0) = false := bne_eq_false_iff_eq.mpr c7
      clear c7
      (first | rw [c7b0] | (simp only [i64_w, i32_w]; rw [c7b0]) | skip)
      have H' := Aside0.mk H
      clear H
      obtain ⟨HGz8, hgz8⟩ := HI0.out
      have hcz8_0 := cellS43_0 HGz8
      have hcz8_1 := cellS43_1 HGz8
      have hcz8_2 := cellS43_2 HGz8
      have hfz8_0 := blk_frozen HGz8 0
      have hfz8_1 := blk_frozen HGz8 1
      have hfz8_2 := blk_frozen HGz8 2
      clear HGz8 hgz8
      go_wp2
      go_meet
      case rel => exact ⟨_, (decide (t143 > a1)), (by first | rfl | (simp; done) | (simp [*]; done)), H', ⟨by first | omega | exact Nat.le_refl _⟩, ⟨by repeat (first | (with_reducible first | exact HI0.out | apply IsS43.alloc | apply IsS43.drewN | apply IsS43.drew | apply IsS43.set_0 | apply IsS43.set_1 | apply IsS43.set_2) | exact HI0.out)⟩, ⟨by repeat (first | (with_reducible first | exact HK.out | apply KeepBut.set_ | apply keep_drewN | apply keep_drew | apply keep_alloc) | exact HK.out)⟩, ⟨by repeat (first | (with_reducible first | exact HB.out | apply below_alloc | apply pw_below_drewN | apply below_drew1 | refine below_set ?_ (IsS43.ge HI0.out)) | exact HB.out)⟩⟩
    · rw [if_neg c7] at H
      have c7b0 : (t146 == 0) = false := beq_eq_false_iff_ne.mpr c7
      have c7b1 : (t146 != 0) = true := bne_iff_ne.mpr c7
      (first | rw [c7b0] | (simp only [i64_w, i32_w]; rw [c7b0]) | skip)
      have H' := Aside0.mk H
      clear H
      obtain ⟨HGz9, hgz9⟩ := HI0.out
      have hcz9_0 := cellS43_0 HGz9
      have hcz9_1 := cellS43_1 HGz9
      have hcz9_2 := cellS43_2 HGz9
      have hfz9_0 := blk_frozen HGz9 0
      have hfz9_1 := blk_frozen HGz9 1
      have hfz9_2 := blk_frozen HGz9 2
      clear HGz9 hgz9
      go_wp2
      go_meet
      case rel => exact ⟨_, (false), (by first | rfl | (simp; done) | (simp [*]; done)), H', ⟨by first | omega | exact Nat.le_refl _⟩, ⟨by repeat (first | (with_reducible first | exact HI0.out | apply IsS43.alloc | apply IsS43.drewN | apply IsS43.drew | apply IsS43.set_0 | apply IsS43.set_1 | apply IsS43.set_2) | exact HI0.out)⟩, ⟨by repeat (first | (with_reducible first | exact HK.out | apply KeepBut.set_ | apply keep_drewN | apply keep_drew | apply keep_alloc) | exact HK.out)⟩, ⟨by repeat (first | (with_reducible first | exact HB.out | apply below_alloc | apply pw_below_drewN | apply below_drew1 | refine below_set ?_ (IsS43.ge HI0.out)) | exact HB.out)⟩⟩
  case rest =>
    clear HC4
    try clear c2
    try clear p2
    try clear c3
    try clear c7
    try clear c7b0
    try clear c7b1
    try clear hcz5_0
    try clear hcz5_1
    try clear hcz5_2
    try clear hcz8_0
    try clear hcz8_1
    try clear hcz8_2
    try clear hcz9_0
    try clear hcz9_1
    try clear hcz9_2
    try clear hfz5_0
    try clear hfz5_1
    try clear hfz5_2
    try clear hfz8_0
    try clear hfz8_1
    try clear hfz8_2
    try clear hfz9_0
    try clear hfz9_1
    try clear hfz9_2
    obtain ⟨kq, x24_3, rfl, HA, HJ3, HI0, HK, HB⟩ := hcut
    cases kq with
    | zero => exact absurd HA.out (by simp [greenwoodref01_Reader_Nums.j0])
    | succ kj3 =>
      have H := HA.out
      clear HA
      simp only [greenwoodref01_Reader_Nums.j0] at H
      have HC10 := Aside0.mk H
      clear H
      go_upto_if 24 with (fail)
      go_cut [] (fun wc => ∃ (kq : Nat) (x1001_9 : Int) (x1002_9 : Int), Aside0 (greenwoodref01_Reader_Nums.j1 kq t143 t144 x1001_9 x1002_9 = some (r1, r2, r3, r4)) ∧ Aside0 (kq ≤ kj3) ∧ Aside0 (IsS43 w0 wc g t144 x1001_9 x1002_9) ∧ Aside0 (KeepBut w wc g none) ∧ Aside0 (Below w0.heap.size w0 wc))
      case first =>
        have H := HC10.out
        clear HC10
        by_cases c11 : x24_3 = true
        · subst c11
          have H1 : (greenwoodref01_Reader_Nums.j1 kj3 t143 t144 s0_1 12) = some (r1, r2, r3, r4) := by rw [if_pos rfl] at H; exact H
          clear H
          have H := H1
          clear H1
          have H' := Aside0.mk H
          clear H
          obtain ⟨HGz12, hgz12⟩ := HI0.out
          have hcz12_0 := cellS43_0 HGz12
          have hcz12_1 := cellS43_1 HGz12
          have hcz12_2 := cellS43_2 HGz12
          have hfz12_0 := blk_frozen HGz12 0
          have hfz12_1 := blk_frozen HGz12 1
          have hfz12_2 := blk_frozen HGz12 2
          clear HGz12 hgz12
          go_wp2
          go_meet
          case rel => exact ⟨_, (s0_1), (12), H', ⟨by have := HJ3.out; first | omega | exact Nat.le_refl _⟩, ⟨by repeat (first | (with_reducible first | exact HI0.out | apply IsS43.alloc | apply IsS43.drewN | apply IsS43.drew | apply IsS43.set_0 | apply IsS43.set_1 | apply IsS43.set_2) | exact HI0.out)⟩, ⟨by repeat (first | (with_reducible first | exact HK.out | apply KeepBut.set_ | apply keep_drewN | apply keep_drew | apply keep_alloc) | exact HK.out)⟩, ⟨by repeat (first | (with_reducible first | exact HB.out | apply below_alloc | apply pw_below_drewN | apply below_drew1 | refine below_set ?_ (IsS43.ge HI0.out)) | exact HB.out)⟩⟩
        · replace c11 := Bool.eq_false_iff.mpr c11
          subst c11
          have H1 : (greenwoodref01_Reader_Nums.j1 kj3 t143 t144 t145 t146) = some (r1, r2, r3, r4) := by rw [if_neg (show ¬ (false = true) by decide)] at H; exact H
          clear H
          have H := H1
          clear H1
          have H' := Aside0.mk H
          clear H
          go_wp2
          go_meet
          case rel => exact ⟨_, (t145), (t146), H', ⟨by have := HJ3.out; first | omega | exact Nat.le_refl _⟩, ⟨by repeat (first | (with_reducible first | exact HI0.out | apply IsS43.alloc | apply IsS43.drewN | apply IsS43.drew | apply IsS43.set_0 | apply IsS43.set_1 | apply IsS43.set_2) | exact HI0.out)⟩, ⟨by repeat (first | (with_reducible first | exact HK.out | apply KeepBut.set_ | apply keep_drewN | apply keep_drew | apply keep_alloc) | exact HK.out)⟩, ⟨by repeat (first | (with_reducible first | exact HB.out | apply below_alloc | apply pw_below_drewN | apply below_drew1 | refine below_set ?_ (IsS43.ge HI0.out)) | exact HB.out)⟩⟩
      case rest =>
        clear HC10
        try clear c1
        try clear c2
        try clear p2
        try clear c3
        try clear c7
        try clear c7b0
        try clear c7b1
        try clear c11
        try clear hcz12_0
        try clear hcz12_1
        try clear hcz12_2
        try clear hcz5_0
        try clear hcz5_1
        try clear hcz5_2
        try clear hcz8_0
        try clear hcz8_1
        try clear hcz8_2
        try clear hcz9_0
        try clear hcz9_1
        try clear hcz9_2
        try clear hfz12_0
        try clear hfz12_1
        try clear hfz12_2
        try clear hfz5_0
        try clear hfz5_1
        try clear hfz5_2
        try clear hfz8_0
        try clear hfz8_1
        try clear hfz8_2
        try clear hfz9_0
        try clear hfz9_1
        try clear hfz9_2
        try clear p2
        obtain ⟨kq, x1001_9, x1002_9, HA, HJ9, HI0, HK, HB⟩ := hcut
        cases kq with
        | zero => exact absurd HA.out (by simp [greenwoodref01_Reader_Nums.j1])
        | succ kj9 =>
          have H := HA.out
          clear HA
          simp only [greenwoodref01_Reader_Nums.j1] at H
          obtain ⟨y147, hy147⟩ : ∃ y_ : List Int, y_ = (([] : List Int)) := ⟨_, rfl⟩
          replace H : (greenwoodref01_Reader_Nums.l0 kj9 t143 y147 0 t144 x1001_9 x1002_9) = some (r1, r2, r3, r4) := by first | (rw [hy147]; with_reducible exact H) | (have H2_ := (Option.bind_some _ _).symm.trans H; rw [hy147]; with_reducible exact H2_) | (have H2_ := (Option.bind_some _ _).symm.trans H; with_reducible exact H2_) | with_reducible exact H | (rw [hy147]; exact H) | exact H
          have Ny147 := Aside0.mk hy147
          clear hy147
          have H' := Aside0.mk H
          clear H
          go_wp2_with (first | ((with_reducible refine gate_dst (N := 32) rfl ?_); refine Kd.R_lit (Kd.int .i64) _ 3 ?hg (N := 32) ?hd (xs := ([] : List Int)) (inner := []) (ok := fun _ => True) (okp := fun _ => True) ?hr ?hp (fun _ hk => hk) trivial (Below.refl _ _) (Nat.le_refl _) (by simp) ?_; (case hd => rfl); (case hg => rfl); (case hr => first | (go_simp; done) | (go_simp; rfl)); (case hp => exact (Reps.none _ _)); intro v148 w13 ho14 hb hg_ hnew_; clear hg_ hnew_; (first | rw [← Ny147.out] at ho14 | (simp only [Int.reduceToNat] at ho14; rw [← Ny147.out] at ho14)); have n0_ := Aside0.mk (Kd.R_lower ho14 (keep_size (w := w) (g := g) (row := none) (by repeat (first | (with_reducible first | exact HK.out | apply KeepBut.set_ | apply keep_drewN | apply keep_drew | apply keep_alloc) | exact HK.out)))); have n1_ := Aside0.mk (IsS43.below (by repeat (first | (with_reducible first | exact HI0.out | apply IsS43.alloc | apply IsS43.drewN | apply IsS43.drew | apply IsS43.set_0 | apply IsS43.set_1 | apply IsS43.set_2) | exact HI0.out)) hb); have n2_ := Aside0.mk (KeepBut.trans (by repeat (first | (with_reducible first | exact HK.out | apply KeepBut.set_ | apply keep_drewN | apply keep_drew | apply keep_alloc) | exact HK.out)) (KeepBut.of_below hb g none) (.inl rfl)); have n3_ := Aside0.mk (below_step (by repeat (first | (with_reducible first | exact HB.out | apply below_alloc | apply pw_below_drewN | apply below_drew1 | refine below_set ?_ (IsS43.ge HI0.out)) | exact HB.out)) hb); clear HI0; clear HK; clear HB; have HO149 := n0_; have HI0 := n1_; have HK := n2_; have HB := n3_; clear n0_ n1_ n2_ n3_; clear hb ho14))
          go_loopg [7, 8] kj9 (fun kq v7 v8 w' => ∃ (x7_3 : List Int) (x8_3 : Int) (x1000_3 : ByteArray) (x1001_3 : Int) (x1002_3 : Int), v8 = .int .i64 x8_3 ∧ Aside0 (greenwoodref01_Reader_Nums.l0 kq t143 x7_3 x8_3 x1000_3 x1001_3 x1002_3 = some (r1, r2, r3, r4)) ∧ Aside0 (kq ≤ kj9) ∧ Aside0 (Kd.R (Kd.int .i64) 3 w' w.heap.size (fun _ => True) v7 x7_3) ∧ Aside0 (IsS43 w0 w' g x1000_3 x1001_3 x1002_3) ∧ Aside0 (KeepBut w w' g none) ∧ Aside0 (Below w0.heap.size w0 w'))
          case atStart => exact ⟨(y147), (0), (t144), (x1001_9), (x1002_9), (by first | rfl | (simp; done) | (simp [*]; done)), H', ⟨Nat.le_refl _⟩, ⟨by (with_reducible repeat (first | apply Kd.R_alloc | apply Kd.R_drewN | apply Kd.R_drew)); exact HO149.out⟩, ⟨by repeat (first | (with_reducible first | exact HI0.out | apply IsS43.alloc | apply IsS43.drewN | apply IsS43.drew | apply IsS43.set_0 | apply IsS43.set_1 | apply IsS43.set_2) | exact HI0.out)⟩, ⟨by repeat (first | (with_reducible first | exact HK.out | apply KeepBut.set_ | apply keep_drewN | apply keep_drew | apply keep_alloc) | exact HK.out)⟩, ⟨by repeat (first | (with_reducible first | exact HB.out | apply below_alloc | apply pw_below_drewN | apply below_drew1 | refine below_set ?_ (IsS43.ge HI0.out)) | exact HB.out)⟩⟩
          case round =>
            clear H'
            try clear c1
            try clear c2
            try clear p2
            try clear c3
            try clear c7
            try clear c7b0
            try clear c7b1
            try clear c11
            try clear hcz12_0
            try clear hcz12_1
            try clear hcz12_2
            try clear hcz5_0
            try clear hcz5_1
            try clear hcz5_2
            try clear hcz8_0
            try clear hcz8_1
            try clear hcz8_2
            try clear hcz9_0
            try clear hcz9_1
            try clear hcz9_2
            try clear hfz12_0
            try clear hfz12_1
            try clear hfz12_2
            try clear hfz5_0
            try clear hfz5_1
            try clear hfz5_2
            try clear hfz8_0
            try clear hfz8_1
            try clear hfz8_2
            try clear hfz9_0
            try clear hfz9_1
            try clear hfz9_2
            try clear p2
            obtain ⟨x7_3, x8_3, x1000_3, x1001_3, x1002_3, rfl, HA, HK3, HO_7, HI0, HK, HB⟩ := hrel
            cases gk with
            | zero => exact absurd HA.out (by simp [greenwoodref01_Reader_Nums.l0])
            | succ k3 =>
              have H := HA.out
              clear HA
              simp only [greenwoodref01_Reader_Nums.l0] at H
              by_cases c15 : x8_3 < t143
              · rw [if_pos c15] at H
                have c15b0 : decide (x8_3 < t143) = true := decide_eq_true c15
                clear c15
                by_cases c16 : x1002_3 = 0
                · rw [if_pos c16] at H
                  have c16b0 : (x1002_3 == 0) = true := beq_iff_eq.mpr c16
                  have c16b1 : (x1002_3 != 0) = false := bne_eq_false_iff_eq.mpr c16
                  clear c16
                  replace H := Option.bind_eq_some_iff.mp H
                  obtain ⟨⟨t150, t151, t152, t153⟩, A170, H⟩ := H
                  replace H : (if x7_3.length < 17592186044416 then (greenwoodref01_Reader_Nums.l0 k3 t143 (x7_3 ++ [t150]) (wrap64 (x8_3 + 1)) t151 t152 t153) else (none)) = some (r1, r2, r3, r4) := H
                  have A17 := Aside0.mk A170
                  clear A170
                  by_cases c18 : x7_3.length < 17592186044416
                  · rw [if_pos c18] at H
                    have LMc18 := Aside0.mk c18
                    clear c18
                    obtain ⟨y154, hy154⟩ : ∃ y_ : List Int, y_ = (x7_3 ++ [t150]) := ⟨_, rfl⟩
                    replace H : (greenwoodref01_Reader_Nums.l0 k3 t143 y154 (wrap64 (x8_3 + 1)) t151 t152 t153) = some (r1, r2, r3, r4) := by first | (rw [hy154]; with_reducible exact H) | (have H2_ := (Option.bind_some _ _).symm.trans H; rw [hy154]; with_reducible exact H2_) | (have H2_ := (Option.bind_some _ _).symm.trans H; with_reducible exact H2_) | with_reducible exact H | (rw [hy154]; exact H) | exact H
                    have Ny154 := Aside0.mk hy154
                    clear hy154
                    have H' := Aside0.mk H
                    clear H
                    obtain ⟨HGz19, hgz19⟩ := HI0.out
                    have hcz19_0 := cellS43_0 HGz19
                    have hcz19_1 := cellS43_1 HGz19
                    have hcz19_2 := cellS43_2 HGz19
                    have hfz19_0 := blk_frozen HGz19 0
                    have hfz19_1 := blk_frozen HGz19 1
                    have hfz19_2 := blk_frozen HGz19 2
                    clear HGz19 hgz19
                    go_wp2_with (first | ((with_reducible refine gate_callee (f := 28) rfl ?_); refine goesL_ (some 47) rfl rfl Tryd.func28 (by kernel_rfl) rfl #[.pointer (some ⟨g, 0, none⟩)] rfl (by (try simp only [List.map_toArray, List.map_cons, List.map_nil]); first | done | rfl | (simp only [List.length_drop, List.length_take]; rfl)) ?_; (with_reducible refine (greenwoodref01_Reader_Num.calls k3 g x1000_3 x1001_3 x1002_3 t150 t151 t152 t153 w0 _ ?side1 ?side2 A17.out).mono ?_); (case side1 => repeat (first | (with_reducible first | exact HI0.out | apply IsS43.alloc | apply IsS43.drewN | apply IsS43.drew | apply IsS43.set_0 | apply IsS43.set_1 | apply IsS43.set_2) | exact HI0.out)); (case side2 => repeat (first | (with_reducible first | exact HB.out | apply below_alloc | apply pw_below_drewN | apply below_drew1 | refine below_set ?_ (IsS43.ge HI0.out)) | exact HB.out)); rintro e w20 ⟨rfl, hi, hb, hk⟩; refine ⟨_, rfl, ?_⟩; have n0_ := Aside0.mk (Kd.R_mono (Kd.R_keep (IsS43.apart (show IsS43 w0 _ g x1000_3 x1001_3 x1002_3 from by repeat (first | (with_reducible first | exact HI0.out | apply IsS43.alloc | apply IsS43.drewN | apply IsS43.drew | apply IsS43.set_0 | apply IsS43.set_1 | apply IsS43.set_2) | exact HI0.out)) (by (with_reducible repeat (first | apply Kd.R_alloc | apply Kd.R_drewN | apply Kd.R_drew)); exact HO_7.out) (by decide)) hk (fun _ h => h.2)) (fun _ h => h.1)); have n1_ := Aside0.mk (KeepBut.trans (by repeat (first | (with_reducible first | exact HK.out | apply KeepBut.set_ | apply keep_drewN | apply keep_drew | apply keep_alloc) | exact HK.out)) hk (.inl rfl)); have n2_ := Aside0.mk (hb); have n3_ := Aside0.mk (hi); clear HO_7; clear HK; clear HB; clear HI0; have HO_7 := n0_; have HK := n1_; have HB := n2_; have HI0 := n3_; clear n0_ n1_ n2_ n3_; (try clear hb); (try clear hb2); (try clear hk); (try clear hi)) | ((with_reducible refine gate_builtin (b := .append) (xs := #[.tmp 45, .tmp 48]) rfl ?_); at_builtin; refine Kd.R_append (Kd.int .i64) w.heap.size rfl (.tmp 45) (.tmp 48) 22 3 (.int .i64 0) 8 rfl Tryd.underlying22 info3 rfl (by decide) (by omega) u7 x7_3 t150 [.int .i64 t150] (fun _ => True) (fun _ => False) rfl rfl ?aP (fun _ hk => hk.elim) ?aF ?aO (Below.refl _ _) ?aS ?aL ?_; (case aP => exact rfl); (case aF => exact (fun _ _ => trivial)); (case aO => exact (by (with_reducible repeat (first | apply Kd.R_alloc | apply Kd.R_drewN | apply Kd.R_drew)); exact HO_7.out)); (case aS => exact (keep_size (w := w) (g := g) (row := none) (by repeat (first | (with_reducible first | exact HK.out | apply KeepBut.set_ | apply keep_drewN | apply keep_drew | apply keep_alloc) | exact HK.out)))); (case aL => have := LMc18.out; omega); intro v155 w21 ho hb hg hat; rw [← Ny154.out] at ho; have n0_ := Aside0.mk (IsS43.grown (by repeat (first | (with_reducible first | exact HI0.out | apply IsS43.alloc | apply IsS43.drewN | apply IsS43.drew | apply IsS43.set_0 | apply IsS43.set_1 | apply IsS43.set_2) | exact HI0.out)) hg (IsS43.own_ne HI0.out HO_7.out (by decide))); have n1_ := Aside0.mk (below_weaken (by repeat (first | (with_reducible first | exact HB.out | apply below_alloc | apply pw_below_drewN | apply below_drew1 | refine below_set ?_ (IsS43.ge HI0.out)) | exact HB.out)) HL.out hb); have n2_ := Aside0.mk (KeepBut.trans (by repeat (first | (with_reducible first | exact HK.out | apply KeepBut.set_ | apply keep_drewN | apply keep_drew | apply keep_alloc) | exact HK.out)) (KeepBut.of_grown hg g) (Kd.R_base2 HO_7.out)); have n3_ := Aside0.mk (ho); clear HI0; clear HB; clear HK; clear HO_7; have HI0 := n0_; have HB := n1_; have HK := n2_; have HO156 := n3_; clear n0_ n1_ n2_ n3_; clear ho hb hg hat))
                    go_roundg k3
                    case measure => have := HJ3.out; have := HJ9.out; have := HK3.out; omega
                    case rel => exact ⟨(y154), (wrap64 (x8_3 + 1)), (t151), (t152), (t153), (by first | rfl | (simp; done) | (simp [*]; done)), H', ⟨by have := HJ3.out; have := HJ9.out; have := HK3.out; omega⟩, ⟨by (with_reducible repeat (first | apply Kd.R_alloc | apply Kd.R_drewN | apply Kd.R_drew)); exact HO156.out⟩, ⟨by repeat (first | (with_reducible first | exact HI0.out | apply IsS43.alloc | apply IsS43.drewN | apply IsS43.drew | apply IsS43.set_0 | apply IsS43.set_1 | apply IsS43.set_2) | exact HI0.out)⟩, ⟨by repeat (first | (with_reducible first | exact HK.out | apply KeepBut.set_ | apply keep_drewN | apply keep_drew | apply keep_alloc) | exact HK.out)⟩, ⟨by repeat (first | (with_reducible first | exact HB.out | apply below_alloc | apply pw_below_drewN | apply below_drew1 | refine below_set ?_ (IsS43.ge HI0.out)) | exact HB.out)⟩⟩
                  · rw [if_neg c18] at H
                    exact absurd H (by simp)
                · rw [if_neg c16] at H
                  have c16b0 : (x1002_3 == 0) = false := beq_eq_false_iff_ne.mpr c16
                  have c16b1 : (x1002_3 != 0) = true := bne_iff_ne.mpr c16
                  simp only [Option.some.injEq, Prod.mk.injEq] at H
                  obtain ⟨rfl, rfl, rfl, rfl⟩ := H
                  obtain ⟨HGz22, hgz22⟩ := HI0.out
                  have hcz22_0 := cellS43_0 HGz22
                  have hcz22_1 := cellS43_1 HGz22
                  have hcz22_2 := cellS43_2 HGz22
                  have hfz22_0 := blk_frozen HGz22 0
                  have hfz22_1 := blk_frozen HGz22 1
                  have hfz22_2 := blk_frozen HGz22 2
                  clear HGz22 hgz22
                  go_wp2
                  go_ret
                  exact ⟨_, by first | rfl | (simp [errW_none, errW_some] <;> rfl) | (simp [*, errW_none, errW_some] <;> rfl), by first | exact Kd.R_nil _ _ _ _ _ | exact Kd.N_nil _ _ _ _ _ | exact Kd.V_nil _ _ _ _ _ | exact Kd.Q_nil _ _ _ _ _ | exact Kd.S_nil _ _ _ _ _, by repeat (first | (with_reducible first | exact HI0.out | apply IsS43.alloc | apply IsS43.drewN | apply IsS43.drew | apply IsS43.set_0 | apply IsS43.set_1 | apply IsS43.set_2) | exact HI0.out), by repeat (first | (with_reducible first | exact HB.out | apply below_alloc | apply pw_below_drewN | apply below_drew1 | refine below_set ?_ (IsS43.ge HI0.out)) | exact HB.out), by repeat (first | (with_reducible first | exact HK.out | apply KeepBut.set_ | apply keep_drewN | apply keep_drew | apply keep_alloc) | exact HK.out)⟩
              · rw [if_neg c15] at H
                have c15b0 : decide (x8_3 < t143) = false := decide_eq_false c15
                clear c15
                by_cases c23 : x1002_3 = 0
                · rw [if_pos c23] at H
                  have c23b0 : (x1002_3 == 0) = true := beq_iff_eq.mpr c23
                  have c23b1 : (x1002_3 != 0) = false := bne_eq_false_iff_eq.mpr c23
                  clear c23
                  simp only [Option.some.injEq, Prod.mk.injEq] at H
                  obtain ⟨rfl, rfl, rfl, rfl⟩ := H
                  obtain ⟨HGz24, hgz24⟩ := HI0.out
                  have hcz24_0 := cellS43_0 HGz24
                  have hcz24_1 := cellS43_1 HGz24
                  have hcz24_2 := cellS43_2 HGz24
                  have hfz24_0 := blk_frozen HGz24 0
                  have hfz24_1 := blk_frozen HGz24 1
                  have hfz24_2 := blk_frozen HGz24 2
                  clear HGz24 hgz24
                  go_wp2
                  go_ret
                  exact ⟨_, by first | rfl | (simp [errW_none, errW_some] <;> rfl) | (simp [*, errW_none, errW_some] <;> rfl), by (with_reducible repeat (first | apply Kd.R_alloc | apply Kd.R_drewN | apply Kd.R_drew)); exact HO_7.out, by repeat (first | (with_reducible first | exact HI0.out | apply IsS43.alloc | apply IsS43.drewN | apply IsS43.drew | apply IsS43.set_0 | apply IsS43.set_1 | apply IsS43.set_2) | exact HI0.out), by repeat (first | (with_reducible first | exact HB.out | apply below_alloc | apply pw_below_drewN | apply below_drew1 | refine below_set ?_ (IsS43.ge HI0.out)) | exact HB.out), by repeat (first | (with_reducible first | exact HK.out | apply KeepBut.set_ | apply keep_drewN | apply keep_drew | apply keep_alloc) | exact HK.out)⟩
                · rw [if_neg c23] at H
                  have c23b0 : (x1002_3 == 0) = false := beq_eq_false_iff_ne.mpr c23
                  have c23b1 : (x1002_3 != 0) = true := bne_iff_ne.mpr c23
                  simp only [Option.some.injEq, Prod.mk.injEq] at H
                  obtain ⟨rfl, rfl, rfl, rfl⟩ := H
                  obtain ⟨HGz25, hgz25⟩ := HI0.out
                  have hcz25_0 := cellS43_0 HGz25
                  have hcz25_1 := cellS43_1 HGz25
                  have hcz25_2 := cellS43_2 HGz25
                  have hfz25_0 := blk_frozen HGz25 0
                  have hfz25_1 := blk_frozen HGz25 1
                  have hfz25_2 := blk_frozen HGz25 2
                  clear HGz25 hgz25
                  go_wp2
                  go_ret
                  exact ⟨_, by first | rfl | (simp [errW_none, errW_some] <;> rfl) | (simp [*, errW_none, errW_some] <;> rfl), by first | exact Kd.R_nil _ _ _ _ _ | exact Kd.N_nil _ _ _ _ _ | exact Kd.V_nil _ _ _ _ _ | exact Kd.Q_nil _ _ _ _ _ | exact Kd.S_nil _ _ _ _ _, by repeat (first | (with_reducible first | exact HI0.out | apply IsS43.alloc | apply IsS43.drewN | apply IsS43.drew | apply IsS43.set_0 | apply IsS43.set_1 | apply IsS43.set_2) | exact HI0.out), by repeat (first | (with_reducible first | exact HB.out | apply below_alloc | apply pw_below_drewN | apply below_drew1 | refine below_set ?_ (IsS43.ge HI0.out)) | exact HB.out), by repeat (first | (with_reducible first | exact HK.out | apply KeepBut.set_ | apply keep_drewN | apply keep_drew | apply keep_alloc) | exact HK.out)⟩

end Go.Proofs.YthiklbhplhdjmaaDoor.P
-- written by wip/tool/ownprint.py of this claim's own repository, out of the translation's print
namespace Go.Proofs.YthiklbhplhdjmaaDoor.P
open Go.RowKit Go.Proofs.YthiklbhplhdjmaaDoorW.PrintWords Go.Proofs.YthiklbhplhdjmaaDoorW.PrintLast Go.Proofs.YthiklbhplhdjmaaDoorW.PrintMore
attribute [local go_sem] max2_int min2_int max_two min_two max_three min_three max_four min_four   -- for this text's walks alone
set_option linter.unusedVariables false
set_option linter.unusedSimpArgs false

/-! ### greenwoodref01_Reader_Ints: function 31 -/
def greenwoodref01_Reader_Ints.l0 : Nat → List Int → List Int → Int → ByteArray → Int → Int → Option (List Int × ByteArray × Int × Int)
  | 0, _, _, _, _, _, _ => none
  | k + 1, x5, x6, x7, x1000, x1001, x1002 => if x7 < (x5.length : Int) then (if 0 ≤ x7 then ((greenwoodref01_signed.f (rd x5 x7)).bind fun t167 => (if x6.length < 17592186044416 then (greenwoodref01_Reader_Ints.l0 k x5 (x6 ++ [t167]) (wrap64 (x7 + 1)) x1000 x1001 x1002) else (none))) else (none)) else (some (x6, x1000, x1001, x1002))
def greenwoodref01_Reader_Ints.f (k : Nat) (s0_0 : ByteArray) (s0_1 : Int) (s0_2 : Int) (a1 : Int) : Option (List Int × ByteArray × Int × Int) := (greenwoodref01_Reader_Nums.f k s0_0 s0_1 s0_2 a1).bind fun bt157 => (greenwoodref01_Reader_Ints.l0 k bt157.1 (([] : List Int)) 0 bt157.2.1 bt157.2.2.1 bt157.2.2.2)
set_option maxHeartbeats 8000000 in
set_option maxRecDepth 100000 in
theorem greenwoodref01_Reader_Ints.calls (k : Nat) (g : Nat) (s0_0 : ByteArray) (s0_1 : Int) (s0_2 : Int) (a1 : Int) (r1 : List Int) (r2 : ByteArray) (r3 : Int) (r4 : Int) (w0 w : World) (hI : IsS43 w0 w g s0_0 s0_1 s0_2) (hB : Below w0.heap.size w0 w) (h : greenwoodref01_Reader_Ints.f k s0_0 s0_1 s0_2 a1 = some (r1, r2, r3, r4)) :
    Calls Tryd.prog 31 #[.pointer (some ⟨g, 0, none⟩), .int .i64 a1] w fun e w' => ∃ v0_ : Value, e = .returned (v0_) ∧ Kd.R (Kd.int .i64) 3 w' w.heap.size (fun _ => True) v0_ r1 ∧ IsS43 w0 w' g r2 r3 r4 ∧ Below w0.heap.size w0 w' ∧ KeepBut w w' g none := by
  have HI0 := Aside0.mk hI
  have HK := Aside0.mk (KeepBut.refl w g none)
  have HL := Aside0.mk hB.size
  clear hI
  have HW0 := Aside0.mk hB.size
  have HB := Aside0.mk hB
  clear hB
  have H : ((greenwoodref01_Reader_Nums.f k s0_0 s0_1 s0_2 a1).bind fun bt157 => (greenwoodref01_Reader_Ints.l0 k bt157.1 (([] : List Int)) 0 bt157.2.1 bt157.2.2.1 bt157.2.2.2)) = some (r1, r2, r3, r4) := h
  clear h
  replace H := Option.bind_eq_some_iff.mp H
  obtain ⟨⟨t157, t160, t161, t162⟩, A30, H⟩ := H
  replace H : (greenwoodref01_Reader_Ints.l0 k t157 (([] : List Int)) 0 t160 t161 t162) = some (r1, r2, r3, r4) := H
  have A3 := Aside0.mk A30
  clear A30
  obtain ⟨y163, hy163⟩ : ∃ y_ : List Int, y_ = (([] : List Int)) := ⟨_, rfl⟩
  replace H : (greenwoodref01_Reader_Ints.l0 k t157 y163 0 t160 t161 t162) = some (r1, r2, r3, r4) := by first | (rw [hy163]; with_reducible exact H) | (have H2_ := (Option.bind_some _ _).symm.trans H; rw [hy163]; with_reducible exact H2_) | (have H2_ := (Option.bind_some _ _).symm.trans H; with_reducible exact H2_) | with_reducible exact H | (rw [hy163]; exact H) | exact H
  have Ny163 := Aside0.mk hy163
  clear hy163
  have H' := Aside0.mk H
  clear H
  go_enter Tryd.func31, Tryd.ntmps31
  go_wp2_with (first | ((with_reducible refine gate_callee (f := 30) rfl ?_); refine goesL_ (some 10) rfl rfl Tryd.func30 (by kernel_rfl) rfl #[.pointer (some ⟨g, 0, none⟩), .int .i64 a1] rfl (by (try simp only [List.map_toArray, List.map_cons, List.map_nil]); first | done | rfl | (simp only [List.length_drop, List.length_take]; rfl)) ?_; (with_reducible refine (greenwoodref01_Reader_Nums.calls k g s0_0 s0_1 s0_2 a1 t157 t160 t161 t162 w0 _ ?side1 ?side2 A3.out).mono ?_); (case side1 => repeat (first | (with_reducible first | exact HI0.out | apply IsS43.alloc | apply IsS43.drewN | apply IsS43.drew | apply IsS43.set_0 | apply IsS43.set_1 | apply IsS43.set_2) | exact HI0.out)); (case side2 => repeat (first | (with_reducible first | exact HB.out | apply below_alloc | apply pw_below_drewN | apply below_drew1 | refine below_set ?_ (IsS43.ge HI0.out)) | exact HB.out)); rintro e w4 ⟨v158, rfl, ho0, hi, hb, hk⟩; refine ⟨_, rfl, ?_⟩; have n0_ := Aside0.mk (Kd.R_lower ho0 (keep_size (w := w) (g := g) (row := none) (by repeat (first | (with_reducible first | exact HK.out | apply KeepBut.set_ | apply keep_drewN | apply keep_drew | apply keep_alloc) | exact HK.out)))); have n1_ := Aside0.mk (KeepBut.trans (by repeat (first | (with_reducible first | exact HK.out | apply KeepBut.set_ | apply keep_drewN | apply keep_drew | apply keep_alloc) | exact HK.out)) hk (.inl rfl)); have n2_ := Aside0.mk (hb); have n3_ := Aside0.mk (hi); clear HK; clear HB; clear HI0; have HO159 := n0_; have HK := n1_; have HB := n2_; have HI0 := n3_; clear n0_ n1_ n2_ n3_; (try clear hb); (try clear hb2); (try clear hk); (try clear hi); (try clear ho0)) | ((with_reducible refine gate_dst (N := 11) rfl ?_); refine Kd.R_lit (Kd.int .i64) _ 3 ?hg (N := 11) ?hd (xs := ([] : List Int)) (inner := []) (ok := fun _ => True) (okp := fun _ => True) ?hr ?hp (fun _ hk => hk) trivial (Below.refl _ _) (Nat.le_refl _) (by simp) ?_; (case hd => rfl); (case hg => rfl); (case hr => first | (go_simp; done) | (go_simp; rfl)); (case hp => exact (Reps.none _ _)); intro v164 w5 ho6 hb hg_ hnew_; clear hg_ hnew_; (first | rw [← Ny163.out] at ho6 | (simp only [Int.reduceToNat] at ho6; rw [← Ny163.out] at ho6)); have n0_ := Aside0.mk (Kd.R_elder' (by (with_reducible repeat (first | apply Kd.R_alloc | apply Kd.R_drewN | apply Kd.R_drew)); exact HO159.out) (Kd.R_base ho6) hb); have n1_ := Aside0.mk (Kd.R_lower (Kd.R_new' ho6 (Kd.R_lt (by (with_reducible repeat (first | apply Kd.R_alloc | apply Kd.R_drewN | apply Kd.R_drew)); exact HO159.out))) (keep_size (w := w) (g := g) (row := none) (by repeat (first | (with_reducible first | exact HK.out | apply KeepBut.set_ | apply keep_drewN | apply keep_drew | apply keep_alloc) | exact HK.out)))); have n2_ := Aside0.mk (IsS43.below (by repeat (first | (with_reducible first | exact HI0.out | apply IsS43.alloc | apply IsS43.drewN | apply IsS43.drew | apply IsS43.set_0 | apply IsS43.set_1 | apply IsS43.set_2) | exact HI0.out)) hb); have n3_ := Aside0.mk (KeepBut.trans (by repeat (first | (with_reducible first | exact HK.out | apply KeepBut.set_ | apply keep_drewN | apply keep_drew | apply keep_alloc) | exact HK.out)) (KeepBut.of_below hb g none) (.inl rfl)); have n4_ := Aside0.mk (below_step (by repeat (first | (with_reducible first | exact HB.out | apply below_alloc | apply pw_below_drewN | apply below_drew1 | refine below_set ?_ (IsS43.ge HI0.out)) | exact HB.out)) hb); clear HO159; clear HI0; clear HK; clear HB; have HO159 := n0_; have HO165 := n1_; have HI0 := n2_; have HK := n3_; have HB := n4_; clear n0_ n1_ n2_ n3_ n4_; clear hb ho6))
  go_loopg [6, 7] k (fun kq v6 v7 w' => ∃ (x6_1 : List Int) (x7_1 : Int), v7 = .int .i64 x7_1 ∧ Aside0 (greenwoodref01_Reader_Ints.l0 kq t157 x6_1 x7_1 t160 t161 t162 = some (r1, r2, r3, r4)) ∧ Aside0 (kq ≤ k) ∧ Aside0 (Kd.R (Kd.int .i64) 3 w' w.heap.size (fun k_ => some k_ ≠ (v6 : Value).ownBlock) v158 t157) ∧ Aside0 (Kd.R (Kd.int .i64) 3 w' w.heap.size (fun k_ => some k_ ≠ (v158 : Value).ownBlock) v6 x6_1) ∧ Aside0 (IsS43 w0 w' g t160 t161 t162) ∧ Aside0 (KeepBut w w' g none) ∧ Aside0 (Below w0.heap.size w0 w'))
  case atStart => exact ⟨(y163), (0), (by first | rfl | (simp; done) | (simp [*]; done)), H', ⟨Nat.le_refl _⟩, ⟨by (with_reducible repeat (first | apply Kd.R_alloc | apply Kd.R_drewN | apply Kd.R_drew)); exact Kd.R_mono HO159.out (fun _ hk => hk.2)⟩, ⟨by (with_reducible repeat (first | apply Kd.R_alloc | apply Kd.R_drewN | apply Kd.R_drew)); exact Kd.R_mono HO165.out (fun _ hk => hk.2)⟩, ⟨by repeat (first | (with_reducible first | exact HI0.out | apply IsS43.alloc | apply IsS43.drewN | apply IsS43.drew | apply IsS43.set_0 | apply IsS43.set_1 | apply IsS43.set_2) | exact HI0.out)⟩, ⟨by repeat (first | (with_reducible first | exact HK.out | apply KeepBut.set_ | apply keep_drewN | apply keep_drew | apply keep_alloc) | exact HK.out)⟩, ⟨by repeat (first | (with_reducible first | exact HB.out | apply below_alloc | apply pw_below_drewN | apply below_drew1 | refine below_set ?_ (IsS43.ge HI0.out)) | exact HB.out)⟩⟩
  case round =>
    clear H'
    try clear p2
    try clear c3
    obtain ⟨x6_1, x7_1, rfl, HA, HK1, HO_5, HO_6, HI0, HK, HB⟩ := hrel
    cases gk with
    | zero => exact absurd HA.out (by simp [greenwoodref01_Reader_Ints.l0])
    | succ k1 =>
      have H := HA.out
      clear HA
      simp only [greenwoodref01_Reader_Ints.l0] at H
      by_cases c7 : x7_1 < (t157.length : Int)
      · rw [if_pos c7] at H
        have c7b0 : decide (x7_1 < (t157.length : Int)) = true := decide_eq_true c7
        clear c7
        by_cases c8 : 0 ≤ x7_1
        · rw [if_pos c8] at H
          have c8b0 : decide (0 ≤ x7_1) = true := decide_eq_true c8
          clear c8
          replace H := Option.bind_eq_some_iff.mp H
          obtain ⟨t167, A90, H⟩ := H
          replace H : (if x6_1.length < 17592186044416 then (greenwoodref01_Reader_Ints.l0 k1 t157 (x6_1 ++ [t167]) (wrap64 (x7_1 + 1)) t160 t161 t162) else (none)) = some (r1, r2, r3, r4) := H
          have A9 := Aside0.mk A90
          clear A90
          by_cases c10 : x6_1.length < 17592186044416
          · rw [if_pos c10] at H
            have LMc10 := Aside0.mk c10
            clear c10
            obtain ⟨y168, hy168⟩ : ∃ y_ : List Int, y_ = (x6_1 ++ [t167]) := ⟨_, rfl⟩
            replace H : (greenwoodref01_Reader_Ints.l0 k1 t157 y168 (wrap64 (x7_1 + 1)) t160 t161 t162) = some (r1, r2, r3, r4) := by first | (rw [hy168]; with_reducible exact H) | (have H2_ := (Option.bind_some _ _).symm.trans H; rw [hy168]; with_reducible exact H2_) | (have H2_ := (Option.bind_some _ _).symm.trans H; with_reducible exact H2_) | with_reducible exact H | (rw [hy168]; exact H) | exact H
            have Ny168 := Aside0.mk hy168
            clear hy168
            have H' := Aside0.mk H
            clear H
            obtain ⟨Ao11, co11, eo11⟩ := Kd.R_slice HO_5.out
            subst eo11
            have p166 : 0 ≤ (x7_1 : Int) := of_decide_eq_true (by first | (with_reducible assumption) | assumption)
            have q166 : x7_1 < (t157.length : Int) := of_decide_eq_true (by first | (with_reducible assumption) | assumption)
            obtain ⟨ad166, e166, hx166_0⟩ := Kd.at_int (Kd.R_reads' HO_5.out).2.2 x7_1 p166 q166
            cases e166
            replace p166 := eq_true p166
            replace q166 := eq_true q166
            go_wp2_with (first | ((with_reducible refine gate_callee (f := 39) rfl ?_); refine goesL_ (some 23) rfl rfl Tryd.func39 (by kernel_rfl) rfl #[.int .i64 (rd t157 x7_1)] rfl (by (try simp only [List.map_toArray, List.map_cons, List.map_nil]); first | done | rfl | (simp only [List.length_drop, List.length_take]; rfl)) ?_; (with_reducible refine (greenwoodref01_signed.calls (rd t157 x7_1) t167 _ A9.out).mono ?_); rintro e w' ⟨rfl, ⟨nd, rfl⟩⟩; refine ⟨_, rfl, ?_⟩) | ((with_reducible refine gate_builtin (b := .append) (xs := #[.tmp 18, .tmp 24]) rfl ?_); at_builtin; refine Kd.R_append (Kd.int .i64) w.heap.size rfl (.tmp 18) (.tmp 24) 22 3 (.int .i64 0) 8 rfl Tryd.underlying22 info3 rfl (by decide) (by omega) u6 x6_1 t167 [.int .i64 t167] (fun k_ => some k_ ≠ (.slice (some ad166) t157.length co11 : Value).ownBlock) (fun _ => False) rfl rfl ?aP (fun _ hk => hk.elim) ?aF ?aO (Below.refl _ _) ?aS ?aL ?_; (case aP => exact rfl); (case aF => exact (fun k_ hk => Kd.fresh' (Kd.R_lt (by (with_reducible repeat (first | apply Kd.R_alloc | apply Kd.R_drewN | apply Kd.R_drew)); exact HO_5.out)) k_ hk)); (case aO => exact (by (with_reducible repeat (first | apply Kd.R_alloc | apply Kd.R_drewN | apply Kd.R_drew)); exact HO_6.out)); (case aS => exact (keep_size (w := w) (g := g) (row := none) (by repeat (first | (with_reducible first | exact HK.out | apply KeepBut.set_ | apply keep_drewN | apply keep_drew | apply keep_alloc) | exact HK.out)))); (case aL => have := LMc10.out; omega); intro v169 w12 ho hb hg hat; rw [← Ny168.out] at ho; have n0_ := Aside0.mk (Kd.R_after (ok := (fun _ => True)) (by (with_reducible repeat (first | apply Kd.R_alloc | apply Kd.R_drewN | apply Kd.R_drew)); exact Kd.R_mono HO_5.out (fun _ hk => ⟨trivial, hk⟩)) hg hat); have n1_ := Aside0.mk (IsS43.grown (by repeat (first | (with_reducible first | exact HI0.out | apply IsS43.alloc | apply IsS43.drewN | apply IsS43.drew | apply IsS43.set_0 | apply IsS43.set_1 | apply IsS43.set_2) | exact HI0.out)) hg (IsS43.own_ne HI0.out HO_6.out (by decide))); have n2_ := Aside0.mk (below_weaken (by repeat (first | (with_reducible first | exact HB.out | apply below_alloc | apply pw_below_drewN | apply below_drew1 | refine below_set ?_ (IsS43.ge HI0.out)) | exact HB.out)) HL.out hb); have n3_ := Aside0.mk (KeepBut.trans (by repeat (first | (with_reducible first | exact HK.out | apply KeepBut.set_ | apply keep_drewN | apply keep_drew | apply keep_alloc) | exact HK.out)) (KeepBut.of_grown hg g) (Kd.R_base2 HO_6.out)); have n4_ := Aside0.mk (ho); clear HO_5; clear HI0; clear HB; clear HK; clear HO_6; have HO_5 := n0_; have HI0 := n1_; have HB := n2_; have HK := n3_; have HO170 := n4_; clear n0_ n1_ n2_ n3_ n4_; clear ho hb hg hat))
            go_roundg k1
            case measure => have := HK1.out; omega
            case rel => exact ⟨(y168), (wrap64 (x7_1 + 1)), (by first | rfl | (simp; done) | (simp [*]; done)), H', ⟨by have := HK1.out; omega⟩, ⟨by (with_reducible repeat (first | apply Kd.R_alloc | apply Kd.R_drewN | apply Kd.R_drew)); exact Kd.R_mono HO_5.out (fun _ hk => hk.2)⟩, ⟨by (with_reducible repeat (first | apply Kd.R_alloc | apply Kd.R_drewN | apply Kd.R_drew)); exact HO170.out⟩, ⟨by repeat (first | (with_reducible first | exact HI0.out | apply IsS43.alloc | apply IsS43.drewN | apply IsS43.drew | apply IsS43.set_0 | apply IsS43.set_1 | apply IsS43.set_2) | exact HI0.out)⟩, ⟨by repeat (first | (with_reducible first | exact HK.out | apply KeepBut.set_ | apply keep_drewN | apply keep_drew | apply keep_alloc) | exact HK.out)⟩, ⟨by repeat (first | (with_reducible first | exact HB.out | apply below_alloc | apply pw_below_drewN | apply below_drew1 | refine below_set ?_ (IsS43.ge HI0.out)) | exact HB.out)⟩⟩
          · rw [if_neg c10] at H
            exact absurd H (by simp)
        · rw [if_neg c8] at H
          exact absurd H (by simp)
      · rw [if_neg c7] at H
        have c7b0 : decide (x7_1 < (t157.length : Int)) = false := decide_eq_false c7
        clear c7
        simp only [Option.some.injEq, Prod.mk.injEq] at H
        obtain ⟨rfl, rfl, rfl, rfl⟩ := H
        obtain ⟨Ao13, co13, eo13⟩ := Kd.R_slice HO_5.out
        subst eo13
        go_wp2
        go_ret
        exact ⟨_, by first | rfl | (simp [errW_none, errW_some] <;> rfl) | (simp [*, errW_none, errW_some] <;> rfl), by (with_reducible repeat (first | apply Kd.R_alloc | apply Kd.R_drewN | apply Kd.R_drew)); exact Kd.R_mono HO_6.out (fun _ hk => trivial), by repeat (first | (with_reducible first | exact HI0.out | apply IsS43.alloc | apply IsS43.drewN | apply IsS43.drew | apply IsS43.set_0 | apply IsS43.set_1 | apply IsS43.set_2) | exact HI0.out), by repeat (first | (with_reducible first | exact HB.out | apply below_alloc | apply pw_below_drewN | apply below_drew1 | refine below_set ?_ (IsS43.ge HI0.out)) | exact HB.out), by repeat (first | (with_reducible first | exact HK.out | apply KeepBut.set_ | apply keep_drewN | apply keep_drew | apply keep_alloc) | exact HK.out)⟩

/-! ### greenwoodref01_Reader_End: function 32 -/
def greenwoodref01_Reader_End.f (s0_0 : ByteArray) (s0_1 : Int) (s0_2 : Int) : Option (Int × Int × ByteArray × Int × Int) := if s0_2 = 0 then (if s0_1 < (s0_0.size : Int) then (some (13, s0_1, s0_0, s0_1, s0_2)) else (some (s0_2, s0_1, s0_0, s0_1, s0_2))) else (some (s0_2, s0_1, s0_0, s0_1, s0_2))
set_option maxHeartbeats 8000000 in
set_option maxRecDepth 100000 in
theorem greenwoodref01_Reader_End.calls (g : Nat) (s0_0 : ByteArray) (s0_1 : Int) (s0_2 : Int) (r1 : Int) (r2 : Int) (r3 : ByteArray) (r4 : Int) (r5 : Int) (w0 w : World) (hI : IsS43 w0 w g s0_0 s0_1 s0_2) (hB : Below w0.heap.size w0 w) (h : greenwoodref01_Reader_End.f s0_0 s0_1 s0_2 = some (r1, r2, r3, r4, r5)) :
    Calls Tryd.prog 32 #[.pointer (some ⟨g, 0, none⟩)] w fun e w' => e = .returned (.tuple #[.int .i64 r1, .int .i64 r2]) ∧ IsS43 w0 w' g r3 r4 r5 ∧ Below w0.heap.size w0 w' ∧ KeepBut w w' g none := by
  have HI0 := Aside0.mk hI
  have HK := Aside0.mk (KeepBut.refl w g none)
  have HL := Aside0.mk hB.size
  clear hI
  have HW0 := Aside0.mk hB.size
  have HB := Aside0.mk hB
  clear hB
  have H : (if s0_2 = 0 then (if s0_1 < (s0_0.size : Int) then (some (13, s0_1, s0_0, s0_1, s0_2)) else (some (s0_2, s0_1, s0_0, s0_1, s0_2))) else (some (s0_2, s0_1, s0_0, s0_1, s0_2))) = some (r1, r2, r3, r4, r5) := h
  clear h
  by_cases c2 : s0_2 = 0
  · rw [if_pos c2] at H
    have c2b0 : (s0_2 == 0) = true := beq_iff_eq.mpr c2
    have c2b1 : (s0_2 != 0) = false := bne_eq_false_iff_eq.mpr c2
    clear c2
    by_cases c3 : s0_1 < (s0_0.size : Int)
    · rw [if_pos c3] at H
      have c3b0 : decide (s0_1 < (s0_0.size : Int)) = true := decide_eq_true c3
      clear c3
      simp only [Option.some.injEq, Prod.mk.injEq] at H
      obtain ⟨rfl, rfl, rfl, rfl, rfl⟩ := H
      obtain ⟨HGz4, hgz4⟩ := HI0.out
      have hcz4_0 := cellS43_0 HGz4
      have hcz4_1 := cellS43_1 HGz4
      have hcz4_2 := cellS43_2 HGz4
      have hfz4_0 := blk_frozen HGz4 0
      have hfz4_1 := blk_frozen HGz4 1
      have hfz4_2 := blk_frozen HGz4 2
      clear HGz4 hgz4
      go_enter Tryd.func32, Tryd.ntmps32
      go_wp2
      repeat (go_quiet (fail); try go_wp2)
      go_ret2
      exact ⟨by first | rfl | (simp [errW_none, errW_some] <;> rfl) | (simp [*, errW_none, errW_some] <;> rfl), by repeat (first | (with_reducible first | exact HI0.out | apply IsS43.alloc | apply IsS43.drewN | apply IsS43.drew | apply IsS43.set_0 | apply IsS43.set_1 | apply IsS43.set_2) | exact HI0.out), by repeat (first | (with_reducible first | exact HB.out | apply below_alloc | apply pw_below_drewN | apply below_drew1 | refine below_set ?_ (IsS43.ge HI0.out)) | exact HB.out), by repeat (first | (with_reducible first | exact HK.out | apply KeepBut.set_ | apply keep_drewN | apply keep_drew | apply keep_alloc) | exact HK.out)⟩
    · rw [if_neg c3] at H
      have c3b0 : decide (s0_1 < (s0_0.size : Int)) = false := decide_eq_false c3
      clear c3
      simp only [Option.some.injEq, Prod.mk.injEq] at H
      obtain ⟨rfl, rfl, rfl, rfl, rfl⟩ := H
      obtain ⟨HGz5, hgz5⟩ := HI0.out
      have hcz5_0 := cellS43_0 HGz5
      have hcz5_1 := cellS43_1 HGz5
      have hcz5_2 := cellS43_2 HGz5
      have hfz5_0 := blk_frozen HGz5 0
      have hfz5_1 := blk_frozen HGz5 1
      have hfz5_2 := blk_frozen HGz5 2
      clear HGz5 hgz5
      go_enter Tryd.func32, Tryd.ntmps32
      go_wp2
      repeat (go_quiet (fail); try go_wp2)
      go_ret2
      exact ⟨by first | rfl | (simp [errW_none, errW_some] <;> rfl) | (simp [*, errW_none, errW_some] <;> rfl), by repeat (first | (with_reducible first | exact HI0.out | apply IsS43.alloc | apply IsS43.drewN | apply IsS43.drew | apply IsS43.set_0 | apply IsS43.set_1 | apply IsS43.set_2) | exact HI0.out), by repeat (first | (with_reducible first | exact HB.out | apply below_alloc | apply pw_below_drewN | apply below_drew1 | refine below_set ?_ (IsS43.ge HI0.out)) | exact HB.out), by repeat (first | (with_reducible first | exact HK.out | apply KeepBut.set_ | apply keep_drewN | apply keep_drew | apply keep_alloc) | exact HK.out)⟩
  · rw [if_neg c2] at H
    have c2b0 : (s0_2 == 0) = false := beq_eq_false_iff_ne.mpr c2
    have c2b1 : (s0_2 != 0) = true := bne_iff_ne.mpr c2
    simp only [Option.some.injEq, Prod.mk.injEq] at H
    obtain ⟨rfl, rfl, rfl, rfl, rfl⟩ := H
    obtain ⟨HGz6, hgz6⟩ := HI0.out
    have hcz6_0 := cellS43_0 HGz6
    have hcz6_1 := cellS43_1 HGz6
    have hcz6_2 := cellS43_2 HGz6
    have hfz6_0 := blk_frozen HGz6 0
    have hfz6_1 := blk_frozen HGz6 1
    have hfz6_2 := blk_frozen HGz6 2
    clear HGz6 hgz6
    go_enter Tryd.func32, Tryd.ntmps32
    go_wp2
    repeat (go_quiet (fail); try go_wp2)
    go_ret2
    exact ⟨by first | rfl | (simp [errW_none, errW_some] <;> rfl) | (simp [*, errW_none, errW_some] <;> rfl), by repeat (first | (with_reducible first | exact HI0.out | apply IsS43.alloc | apply IsS43.drewN | apply IsS43.drew | apply IsS43.set_0 | apply IsS43.set_1 | apply IsS43.set_2) | exact HI0.out), by repeat (first | (with_reducible first | exact HB.out | apply below_alloc | apply pw_below_drewN | apply below_drew1 | refine below_set ?_ (IsS43.ge HI0.out)) | exact HB.out), by repeat (first | (with_reducible first | exact HK.out | apply KeepBut.set_ | apply keep_drewN | apply keep_drew | apply keep_alloc) | exact HK.out)⟩

-- NOT PRINTED: function 13 (greenwoodlaw01_model)

-- NOT PRINTED: function 3 (greenwoodlaw01_WireTakes)

-- NOT PRINTED: function 4 (greenwoodlaw01_WireWrites)

-- NOT PRINTED: function 5 (greenwoodlaw01_WireBack)

-- NOT PRINTED: function 6 (greenwoodlaw01_WireOne)

-- NOT PRINTED: function 7 (greenwoodlaw01_WireSigns)

-- NOT PRINTED: function 8 (greenwoodlaw01_WireCut)

-- NOT PRINTED: function 9 (greenwoodlaw01_WireMany)

end Go.Proofs.YthiklbhplhdjmaaDoor.P
/- Layer 1: values of the reference reader. -/
namespace Go.Proofs.YthiklbhplhdjmaaDoor.P
open Go.RowKit Go.Proofs.YthiklbhplhdjmaaDoorW.PrintWords Go.Proofs.YthiklbhplhdjmaaDoorW.PrintLast Go.Proofs.YthiklbhplhdjmaaDoorW.PrintMore
open Wr
set_option linter.unusedVariables false
set_option linter.unusedSimpArgs false

theorem rd_bt (s : ByteArray) (i : Nat) : rd (bytesOf s) (i : Int) = bt s (i : Int) := by
  by_cases h : i < s.size
  · rw [rdn (by rw [bytesOf_length]; exact h)]
    have := bt_at s (i : Int) (by simpa using h)
    rw [← this]
    simp [bytesOf]
    rfl
  · simp [rd, bt, h, bytesOf_length, List.getD_eq_getElem?_getD, List.getElem?_eq_none]
def rv (s : ByteArray) (t : Int × Nat × Int) : Int × ByteArray × Int × Int := (t.1, s, (t.2.1 : Int), t.2.2)
theorem refnum_l0 (s : ByteArray) (p : Nat) (hs : s.size ≤ 1000000000) : ∀ (d i : Nat) (m P : Int), d + i = 8 → P = 128 ^ i → 0 ≤ m → m < P → p + i ≤ s.size →
    Ev (fun k => greenwoodref01_Reader_Num.l0 k m P (i : Int) s (p : Int) 0) (rv s (tkL (bytesOf s) p d i m)) := by
  intro d
  induction d with
  | zero =>
    intro i m P hd hP h0 h1 hi
    refine Ev.step (fun k => by rw [greenwoodref01_Reader_Num.l0]) ?_
    refine Ev.ifn (by omega) ?_
    exact Ev.val rfl
  | succ d ih =>
    intro i m P hd hP h0 h1 hi
    refine Ev.step (fun k => by rw [greenwoodref01_Reader_Num.l0]) ?_
    refine Ev.ifp (by omega) ?_
    have ea : wrap64 ((p : Int) + (i : Int)) = ((p + i : Nat) : Int) := by unfold wrap64; omega
    have hb := bt_range s ((p + i : Nat) : Int)
    have hbb : rd (bytesOf s) ((p + i : Nat) : Int) = bt s ((p + i : Nat) : Int) := rd_bt s (p + i)
    obtain ⟨b, hbe⟩ : ∃ b, b = bt s ((p + i : Nat) : Int) := ⟨_, rfl⟩
    rw [← hbe] at hb hbb
    have ew : wrap64 b = b := by unfold wrap64; omega
    unfold tkL
    rw [hbb, bytesOf_length]
    simp only [ea, ← hbe, ew]
    by_cases hc : s.size ≤ p + i
    · rw [if_pos hc]
      refine Ev.ifp (by omega) ?_
      exact Ev.val rfl
    rw [if_neg hc]
    refine Ev.ifn (by omega) (Ev.ifp (by omega) (Ev.ifp (by omega) ?_))
    have hP1 : 1 ≤ P := by have : (0 : Int) < 128 ^ i := pow_nn i; omega
    have hP2 : P ≤ 562949953421312 := by
      have : (128 : Int) ^ i ≤ 128 ^ 7 := by
        have h := Nat.pow_le_pow_right (n := 128) (by decide) (show i ≤ 7 by omega)
        exact_mod_cast h
      rw [hP]
      exact Int.le_trans this (by decide)
    rw [← hP]
    have m1 : 0 ≤ b * P := Int.mul_nonneg hb.1 (by omega)
    have m2 : b * P ≤ 255 * 562949953421312 := Int.mul_le_mul hb.2 hP2 (by omega) (by omega)
    have x1 : wrap64 (b * P) = b * P := by unfold wrap64; omega
    have x2 : wrap64 (m + b * P) = m + b * P := by unfold wrap64; omega
    simp only [x1, x2]
    by_cases hh : 128 ≤ b
    · rw [if_pos hh]
      refine Ev.ifn (by omega) ?_
      have y0 : wrap64 (b - 128) = b - 128 := by unfold wrap64; omega
      have y1 : 0 ≤ (b - 128) * P := Int.mul_nonneg (by omega) (by omega)
      have y2 : (b - 128) * P ≤ 127 * P := Int.mul_le_mul_of_nonneg_right (by omega) (by omega)
      have y3 : wrap64 ((b - 128) * P) = (b - 128) * P := by unfold wrap64; omega
      have y4 : wrap64 (m + (b - 128) * P) = m + (b - 128) * P := by unfold wrap64; omega
      have y5 : wrap64 (P * 128) = P * 128 := by unfold wrap64; omega
      have y6 : wrap64 ((i : Int) + 1) = ((i + 1 : Nat) : Int) := by unfold wrap64; omega
      simp only [y0, y3, y4, y5, y6]
      exact ih (i + 1) _ _ (by omega) (by rw [hP, Int.pow_succ]) (by omega) (by omega) (by omega)
    rw [if_neg hh]
    refine Ev.ifp (by omega) ?_
    have fin : Ev (fun k => if m + b * P > 1125899906842624 then ((greenwoodref01_Reader_fail.f s (p : Int) 0 11).bind fun bt130 => (some (bt130.1, bt130.2.1, bt130.2.2.1, bt130.2.2.2))) else (some (m + b * P, s, wrap64 (((p + i : Nat) : Int) + 1), (0 : Int)))) (rv s (if m + b * P > MX then (0, p, 11) else (m + b * P, p + i + 1, 0))) := by
      by_cases hx : m + b * P > MX
      · have hx' : m + b * P > 1125899906842624 := hx
        refine Ev.ifp hx' ?_
        rw [if_pos hx]
        exact Ev.val rfl
      · have hx' : ¬ m + b * P > 1125899906842624 := hx
        refine Ev.ifn hx' (Ev.val ?_)
        rw [if_neg hx]
        have : wrap64 (((p + i : Nat) : Int) + 1) = ((p + i + 1 : Nat) : Int) := by unfold wrap64; omega
        rw [this]; rfl
    by_cases hz : b = 0
    · refine Ev.ifp hz ?_
      by_cases hi0 : 0 < i
      · refine Ev.ifp (by omega) ?_
        rw [if_pos (Or.inl ⟨hz, hi0⟩)]
        exact Ev.val rfl
      · refine Ev.ifn (by omega) ?_
        have e : ((b = 0 ∧ 0 < i) ∨ m + b * P > MX) = (m + b * P > MX) := by simp [hi0]
        simp only [e]
        exact fin
    · refine Ev.ifn hz ?_
      have e : ((b = 0 ∧ 0 < i) ∨ m + b * P > MX) = (m + b * P > MX) := by simp [hz]
      simp only [e]
      exact fin
/-- the states answer each other -/
def sa (st : St) : Int := match st.2 with | none => (st.1 : Int) | some pc => (pc.1 : Int)
def se (st : St) : Int := match st.2 with | none => 0 | some pc => pc.2
def Ok (s : ByteArray) (st : St) : Prop := st.1 ≤ s.size ∧ ∀ pc, st.2 = some pc → pc.2 = 10 ∨ pc.2 = 11 ∨ pc.2 = 12
theorem refnum (s : ByteArray) (st : St) (hs : s.size ≤ 1000000000) (ho : Ok s st) : Ev (fun k => greenwoodref01_Reader_Num.f k s (sa st) (se st)) ((numF (bytesOf s) st).1, s, sa (numF (bytesOf s) st).2, se (numF (bytesOf s) st).2) := by
  obtain ⟨p, er⟩ := st
  unfold greenwoodref01_Reader_Num.f
  cases er with
  | some pc =>
    have := ho.2 pc rfl
    refine Ev.ifn (by show ¬ pc.2 = 0; omega) ?_
    exact Ev.val rfl
  | none =>
    refine Ev.ifp rfl ?_
    have h := refnum_l0 s p hs 8 0 0 1 rfl rfl (Int.le_refl _) (by decide) ho.1
    have e : rv s (tkL (bytesOf s) p 8 0 0) = ((numF (bytesOf s) (p, none)).1, s, sa (numF (bytesOf s) (p, none)).2, se (numF (bytesOf s) (p, none)).2) := by
      show rv s (tk (bytesOf s) p) = _
      rcases tk_any (bytesOf s) p (bytesOf_in s) with h | h
      · simp only [numF, h.1, if_true, rv, sa, se]
      · have hc : (tk (bytesOf s) p).2.2 ≠ 0 := by rcases h.2.2 with h | h <;> omega
        simp only [numF, if_neg hc, rv, sa, se, h.1, h.2.1]
    rw [← e]
    exact h
theorem refnum_ok {s : ByteArray} {st : St} (ho : Ok s st) : Ok s (numF (bytesOf s) st).2 := by
  obtain ⟨p, er⟩ := st
  cases er with
  | some pc => exact ho
  | none =>
    rcases tk_any (bytesOf s) p (bytesOf_in s) with h | h
    · simp only [numF, h.1, if_true]
      exact ⟨by rw [← bytesOf_length]; exact h.2.2.2.2, fun pc h => by simp at h⟩
    · have hc : (tk (bytesOf s) p).2.2 ≠ 0 := by rcases h.2.2 with h | h <;> omega
      simp only [numF, if_neg hc]
      refine ⟨ho.1, fun pc h2 => ?_⟩
      obtain rfl := Option.some.inj h2
      rcases h.2.2 with h | h
      · exact .inl h
      · exact .inr (.inl h)
theorem refsigned (n : Int) (h0 : 0 ≤ n) (h1 : n ≤ MX) : greenwoodref01_signed.f n = some (sgn n) := by
  simp only [MX] at h1
  unfold greenwoodref01_signed.f sgn
  rw [Int.tmod_eq_emod_of_nonneg h0, Int.tdiv_eq_ediv_of_nonneg h0]
  by_cases h : n % 2 = 1
  · rw [if_pos h, if_pos h]
    have e : wrap64 (n + 1) = n + 1 := by unfold wrap64; omega
    rw [e, Int.tdiv_eq_ediv_of_nonneg (by omega)]
    unfold wrap64
    congr 1
    omega
  · rw [if_neg h, if_neg h]
    unfold wrap64
    congr 1
    omega
theorem refint (s : ByteArray) (st : St) (hs : s.size ≤ 1000000000) (ho : Ok s st) : Ev (fun k => greenwoodref01_Reader_Int.f k s (sa st) (se st)) ((intF (bytesOf s) st).1, s, sa (intF (bytesOf s) st).2, se (intF (bytesOf s) st).2) := by
  unfold greenwoodref01_Reader_Int.f
  refine Ev.bind (refnum s st hs ho) ?_
  obtain ⟨-, -, h0, h1, -⟩ := numF_at (bytesOf_in s) st (by rw [bytesOf_length]; exact ho.1)
  show Ev (fun k => (greenwoodref01_signed.f (numF (bytesOf s) st).1).bind fun t => some (t, s, sa (numF (bytesOf s) st).2, se (numF (bytesOf s) st).2)) _
  rw [refsigned _ h0 h1]
  exact Ev.val rfl
end Go.Proofs.YthiklbhplhdjmaaDoor.P
/- Layer 1: values of the reference reader: lists, End. -/
namespace Go.Proofs.YthiklbhplhdjmaaDoor.P
open Go.RowKit Go.Proofs.YthiklbhplhdjmaaDoorW.PrintWords Go.Proofs.YthiklbhplhdjmaaDoorW.PrintLast Go.Proofs.YthiklbhplhdjmaaDoorW.PrintMore
open Wr
set_option linter.unusedVariables false
set_option linter.unusedSimpArgs false

theorem se_none {s : ByteArray} {st : St} (ho : Ok s st) : se st = 0 ↔ st.2 = none := by
  obtain ⟨p, er⟩ := st
  cases er with
  | none => simp [se]
  | some pc =>
    have := ho.2 pc rfl
    constructor
    · intro h
      have h' : pc.2 = 0 := h
      omega
    · intro h
      simp at h
theorem numF_none {S : List Int} {st : St} (h : (numF S st).2.2 = none) : st.2 = none := by
  obtain ⟨p, er⟩ := st
  cases er with
  | none => rfl
  | some pc => simp [numF] at h
theorem refloop_err (s : ByteArray) (N : Int) (st : St) (ho : Ok s st) (hne : st.2 ≠ none) (out : List Int) (i : Int) : Ev (fun k => greenwoodref01_Reader_Nums.l0 k N out i s (sa st) (se st)) ([], s, sa st, se st) := by
  have he : ¬ se st = 0 := fun h => hne ((se_none ho).1 h)
  refine Ev.step (fun k => by rw [greenwoodref01_Reader_Nums.l0]) ?_
  by_cases h : i < N
  · exact Ev.ifp h (Ev.ifn he (Ev.val rfl))
  · exact Ev.ifn h (Ev.ifn he (Ev.val rfl))
theorem refloop (s : ByteArray) (hs : s.size ≤ 1000000000) (N : Nat) (hN : (N : Int) ≤ MX) : ∀ (d i : Nat) (out : List Int) (st : St), i + d = N → Ok s st → st.2 = none → out.length ≤ st.1 →
    Ev (fun k => greenwoodref01_Reader_Nums.l0 k (N : Int) out (i : Int) s (sa st) (se st)) ((loopF (numF (bytesOf s)) d st out).1, s, sa (loopF (numF (bytesOf s)) d st out).2, se (loopF (numF (bytesOf s)) d st out).2) := by
  intro d
  induction d with
  | zero =>
    intro i out st hd ho h0 hl
    have he : se st = 0 := (se_none ho).2 h0
    refine Ev.step (fun k => by rw [greenwoodref01_Reader_Nums.l0]) ?_
    exact Ev.ifn (by omega) (Ev.ifp he (Ev.val rfl))
  | succ d ih =>
    intro i out st hd ho h0 hl
    have he : se st = 0 := (se_none ho).2 h0
    refine Ev.step (fun k => by rw [greenwoodref01_Reader_Nums.l0]) ?_
    refine Ev.ifp (by omega) (Ev.ifp he ?_)
    refine Ev.bind (refnum s st hs ho) ?_
    refine Ev.ifp (by have := ho.1; omega) ?_
    have ei : wrap64 ((i : Int) + 1) = ((i + 1 : Nat) : Int) := by simp only [MX] at hN; unfold wrap64; omega
    simp only [ei]
    have ho' := refnum_ok ho
    obtain ⟨-, -, -, -, hadv⟩ := numF_at (bytesOf_in s) st (by rw [bytesOf_length]; exact ho.1)
    rw [loopF]
    by_cases hn : (numF (bytesOf s) st).2.2 = none
    · rw [if_pos hn]
      have := hadv hn
      exact ih (i + 1) _ _ (by omega) ho' hn (by rw [List.length_append, List.length_singleton]; omega)
    · rw [if_neg hn]
      exact refloop_err s N _ ho' hn _ _
theorem headF_ok {s : ByteArray} {st : St} (most : Int) (ho : Ok s st) : Ok s (headF (bytesOf s) most st).2 := by
  unfold headF
  have h := refnum_ok ho
  split
  · exact ⟨h.1, fun pc h => by obtain rfl := Option.some.inj h; exact .inr (.inr rfl)⟩
  · exact h
theorem refnums (s : ByteArray) (st : St) (most : Int) (hs : s.size ≤ 1000000000) (ho : Ok s st) : Ev (fun k => greenwoodref01_Reader_Nums.f k s (sa st) (se st) most) ((listF (bytesOf s) (numF (bytesOf s)) most st).1, s, sa (listF (bytesOf s) (numF (bytesOf s)) most st).2, se (listF (bytesOf s) (numF (bytesOf s)) most st).2) := by
  unfold greenwoodref01_Reader_Nums.f
  refine Ev.bind (refnum s st hs ho) ?_
  obtain ⟨a1, a2, h0, h1, hadv⟩ := numF_at (bytesOf_in s) st (by rw [bytesOf_length]; exact ho.1)
  have ho' := refnum_ok ho
  have hho := headF_ok most ho
  obtain ⟨N, hN⟩ : ∃ N : Nat, (numF (bytesOf s) st).1 = (N : Int) := ⟨(numF (bytesOf s) st).1.toNat, by omega⟩
  have hNM : (N : Int) ≤ MX := by rw [← hN]; exact h1
  unfold listF
  have main : ∀ st2 : St, st2 = (headF (bytesOf s) most st).2 → Ev (fun k => greenwoodref01_Reader_Nums.j1 k (N : Int) s (sa st2) (se st2)) ((loopF (numF (bytesOf s)) N st2 []).1, s, sa (loopF (numF (bytesOf s)) N st2 []).2, se (loopF (numF (bytesOf s)) N st2 []).2) := by
    intro st2 h2
    rw [← h2] at hho
    refine Ev.step (fun k => by rw [greenwoodref01_Reader_Nums.j1]) ?_
    by_cases hn : st2.2 = none
    · exact refloop s hs N hNM N 0 [] st2 (by omega) hho hn (Nat.zero_le _)
    · have := refloop_err s N st2 hho hn [] 0
      cases N with
      | zero => exact this
      | succ d =>
        rw [loopF, if_neg (by
          obtain ⟨p, er⟩ := st2
          cases er with
          | none => simp at hn
          | some pc => simp [numF])]
        have e : (numF (bytesOf s) st2).2 = st2 := by
          obtain ⟨p, er⟩ := st2
          cases er with
          | none => simp at hn
          | some pc => simp [numF]
        rw [e]
        exact this
  have e1 : (headF (bytesOf s) most st).1 = (N : Int) := by
    unfold headF
    rw [← hN]
    split <;> rfl
  rw [e1, Int.toNat_natCast]
  simp only [hN]
  by_cases hn : (numF (bytesOf s) st).2.2 = none
  · have hst := numF_none hn
    refine Ev.ifp ((se_none ho').2 hn) ?_
    refine Ev.step (fun k => by rw [greenwoodref01_Reader_Nums.j0]) ?_
    by_cases hm : (N : Int) > most
    · refine Ev.ifp (decide_eq_true hm) ?_
      have eh : (headF (bytesOf s) most st).2 = ((numF (bytesOf s) st).2.1, some (st.1, 12)) := by
        unfold headF
        rw [if_pos ⟨hn, by rw [hN]; exact hm⟩]
      have := main _ eh.symm
      rw [eh]
      have es : sa st = (st.1 : Int) := by unfold sa; rw [hst]
      rw [es]
      exact this
    · refine Ev.ifn (by rw [decide_eq_false hm]; simp) ?_
      have eh : (headF (bytesOf s) most st).2 = (numF (bytesOf s) st).2 := by
        unfold headF
        rw [if_neg (fun h => hm (by rw [← hN]; exact h.2))]
      have := main _ eh.symm
      rw [eh]
      exact this
  · refine Ev.ifn (fun h => hn ((se_none ho').1 h)) ?_
    refine Ev.step (fun k => by rw [greenwoodref01_Reader_Nums.j0]) ?_
    refine Ev.ifn (by simp) ?_
    have eh : (headF (bytesOf s) most st).2 = (numF (bytesOf s) st).2 := by
      unfold headF
      rw [if_neg (fun h => hn h.1)]
    have := main _ eh.symm
    rw [eh]
    exact this
theorem loopF_rng (S : List Int) (hb : ∀ b ∈ S, 0 ≤ b ∧ b ≤ 255) : ∀ (d : Nat) (st : St) (out : List Int), st.1 ≤ S.length → out.length ≤ st.1 → (∀ x ∈ out, 0 ≤ x ∧ x ≤ MX) →
    (loopF (numF S) d st out).1.length ≤ S.length ∧ (∀ x ∈ (loopF (numF S) d st out).1, 0 ≤ x ∧ x ≤ MX) := by
  intro d
  induction d with
  | zero => intro st out h1 h2 h3; exact ⟨by show out.length ≤ _; omega, h3⟩
  | succ d ih =>
    intro st out h1 h2 h3
    obtain ⟨a1, a2, a3, a4, a5⟩ := numF_at hb st h1
    rw [loopF]
    by_cases hn : (numF S st).2.2 = none
    · rw [if_pos hn]
      have := a5 hn
      refine ih _ _ a1 (by rw [List.length_append, List.length_singleton]; omega) (fun x hx => ?_)
      rcases List.mem_append.1 hx with hx | hx
      · exact h3 x hx
      · rw [List.mem_singleton.1 hx]; exact ⟨a3, a4⟩
    · rw [if_neg hn]
      exact ⟨Nat.zero_le _, fun x hx => by simp at hx⟩
theorem headF_le {S : List Int} (hb : ∀ b ∈ S, 0 ≤ b ∧ b ≤ 255) (most : Int) (st : St) (h : st.1 ≤ S.length) : (headF S most st).2.1 ≤ S.length := by
  obtain ⟨a1, -, -, -, -⟩ := numF_at hb st h
  unfold headF
  split <;> exact a1
theorem listF_rng {S : List Int} (hb : ∀ b ∈ S, 0 ≤ b ∧ b ≤ 255) (most : Int) (st : St) (h : st.1 ≤ S.length) : (listF S (numF S) most st).1.length ≤ S.length ∧ (∀ x ∈ (listF S (numF S) most st).1, 0 ≤ x ∧ x ≤ MX) :=
  loopF_rng S hb _ _ _ (headF_le hb most st h) (Nat.zero_le _) (fun x hx => by simp at hx)
theorem loopF_int (S : List Int) : ∀ (d : Nat) (st : St) (out : List Int), loopF (intF S) d st (out.map sgn) = ((loopF (numF S) d st out).1.map sgn, (loopF (numF S) d st out).2) := by
  intro d
  induction d with
  | zero => intro st out; rfl
  | succ d ih =>
    intro st out
    rw [loopF, loopF]
    have e : (intF S st).2 = (numF S st).2 := rfl
    rw [e]
    by_cases hn : (numF S st).2.2 = none
    · rw [if_pos hn, if_pos hn, ← ih]
      simp [intF]
    · rw [if_neg hn, if_neg hn]
      rfl
theorem listF_int (S : List Int) (most : Int) (st : St) : listF S (intF S) most st = ((listF S (numF S) most st).1.map sgn, (listF S (numF S) most st).2) := loopF_int S _ _ []
theorem listF_ok {s : ByteArray} {st : St} (most : Int) (ho : Ok s st) : Ok s (listF (bytesOf s) (numF (bytesOf s)) most st).2 := by
  have key : ∀ (d : Nat) (st : St) (out : List Int), Ok s st → Ok s (loopF (numF (bytesOf s)) d st out).2 := by
    intro d
    induction d with
    | zero => intro st out h; exact h
    | succ d ih =>
      intro st out h
      rw [loopF]
      split
      · exact ih _ _ (refnum_ok h)
      · exact refnum_ok h
  exact key _ _ _ (headF_ok most ho)
theorem refints_l0 (l : List Int) (hl : l.length ≤ 1000000000) (hr : ∀ x ∈ l, 0 ≤ x ∧ x ≤ MX) (s : ByteArray) (x1 x2 : Int) : ∀ (d i : Nat), i + d = l.length →
    Ev (fun k => greenwoodref01_Reader_Ints.l0 k l ((l.take i).map sgn) (i : Int) s x1 x2) (l.map sgn, s, x1, x2) := by
  intro d
  induction d with
  | zero =>
    intro i hi
    refine Ev.step (fun k => by rw [greenwoodref01_Reader_Ints.l0]) ?_
    refine Ev.ifn (by omega) (Ev.val ?_)
    rw [List.take_of_length_le (by omega)]
  | succ d ih =>
    intro i hi
    have hlt : i < l.length := by omega
    refine Ev.step (fun k => by rw [greenwoodref01_Reader_Ints.l0]) ?_
    refine Ev.ifp (by omega) (Ev.ifp (by omega) ?_)
    rw [rd_at hlt, refsigned _ (hr _ (List.getElem_mem hlt)).1 (hr _ (List.getElem_mem hlt)).2]
    refine Ev.bnd ?_
    refine Ev.ifp (by rw [List.length_map, List.length_take]; omega) ?_
    have ei : wrap64 ((i : Int) + 1) = ((i + 1 : Nat) : Int) := by unfold wrap64; omega
    have := ih (i + 1) (by omega)
    rw [List.take_add_one, List.getElem?_eq_getElem hlt, List.map_append] at this
    simp only [ei]
    exact this
theorem refints (s : ByteArray) (st : St) (most : Int) (hs : s.size ≤ 1000000000) (ho : Ok s st) : Ev (fun k => greenwoodref01_Reader_Ints.f k s (sa st) (se st) most) ((listF (bytesOf s) (intF (bytesOf s)) most st).1, s, sa (listF (bytesOf s) (intF (bytesOf s)) most st).2, se (listF (bytesOf s) (intF (bytesOf s)) most st).2) := by
  unfold greenwoodref01_Reader_Ints.f
  refine Ev.bind (refnums s st most hs ho) ?_
  obtain ⟨h1, h2⟩ := listF_rng (bytesOf_in s) most st (by rw [bytesOf_length]; exact ho.1)
  rw [bytesOf_length] at h1
  rw [listF_int]
  exact refints_l0 _ (by omega) h2 s _ _ _ 0 (Nat.zero_add _)
theorem refend (s : ByteArray) (st : St) (ho : Ok s st) : greenwoodref01_Reader_End.f s (sa st) (se st) = some ((endF (bytesOf s) st).1, (endF (bytesOf s) st).2, s, sa st, se st) := by
  obtain ⟨p, er⟩ := st
  unfold greenwoodref01_Reader_End.f
  cases er with
  | some pc =>
    have := ho.2 pc rfl
    rw [if_neg (show ¬ se (p, some pc) = 0 from fun h => by have h' : pc.2 = 0 := h; omega)]
    rfl
  | none =>
    rw [if_pos (show se (p, none) = 0 from rfl)]
    by_cases h : p < s.size
    · rw [if_pos (show sa (p, none) < (s.size : Int) by show ((p : Nat) : Int) < _; omega)]
      simp only [endF, bytesOf_length, if_pos h]
      rfl
    · rw [if_neg (show ¬ sa (p, none) < (s.size : Int) by show ¬ ((p : Nat) : Int) < _; omega)]
      simp only [endF, bytesOf_length, if_neg h]
      rfl
end Go.Proofs.YthiklbhplhdjmaaDoor.P
/- Layer 1: what a script comes to. -/
namespace Go.Proofs.YthiklbhplhdjmaaDoor.P
open Go.RowKit Go.Proofs.YthiklbhplhdjmaaDoorW.PrintWords Go.Proofs.YthiklbhplhdjmaaDoorW.PrintLast Go.Proofs.YthiklbhplhdjmaaDoorW.PrintMore
open Wr
set_option linter.unusedVariables false
set_option linter.unusedSimpArgs false

def stepT (S : List Int) (most : Int) (op : Int) (out : List Int) (st : St) : List Int × St :=
  if op = 0 then (out ++ [(numF S st).1], (numF S st).2)
  else if op = 1 then (out ++ [(intF S st).1], (intF S st).2)
  else if op = 2 then (out ++ (listF S (numF S) most st).1, (listF S (numF S) most st).2)
  else if op = 3 then (out ++ (listF S (intF S) most st).1, (listF S (intF S) most st).2)
  else (out, st)
def play (S : List Int) (most : Int) : List Int → List Int → St → List Int × St
  | [], out, st => (out, st)
  | op :: t, out, st => play S most t (stepT S most op out st).1 (stepT S most op out st).2
theorem stepT_ok {s : ByteArray} {most op : Int} {out : List Int} {st : St} (ho : Ok s st) : Ok s (stepT (bytesOf s) most op out st).2 ∧ (stepT (bytesOf s) most op out st).1.length ≤ out.length + (s.size + 1) := by
  obtain ⟨h1, h2⟩ := listF_rng (bytesOf_in s) most st (by rw [bytesOf_length]; exact ho.1)
  rw [bytesOf_length] at h1
  unfold stepT
  split
  · exact ⟨refnum_ok ho, by rw [List.length_append, List.length_singleton]; omega⟩
  split
  · exact ⟨refnum_ok ho, by rw [List.length_append, List.length_singleton]; omega⟩
  split
  · exact ⟨listF_ok most ho, by rw [List.length_append]; omega⟩
  split
  · rw [listF_int]
    exact ⟨listF_ok most ho, by rw [List.length_append, List.length_map]; omega⟩
  · exact ⟨ho, by show out.length ≤ _; omega⟩
end Go.Proofs.YthiklbhplhdjmaaDoor.P
/- The wire's reader, walked: lists. -/
namespace Go.Proofs.YthiklbhplhdjmaaDoor.P
open Go.RowKit Go.Proofs.YthiklbhplhdjmaaDoorW.PrintWords Go.Proofs.YthiklbhplhdjmaaDoorW.PrintLast Go.Proofs.YthiklbhplhdjmaaDoorW.PrintMore
open Wr
set_option linter.unusedVariables false
set_option linter.unusedSimpArgs false
theorem Rd.fail {w0 w1 : World} {base B : Nat} {s : ByteArray} {p : Nat} (hb : base ≤ B) (hr : RC w1 B s p .nilIface) (hg : w0.grownBy w1 (some B)) (pl : Nat) (c : Int) :
    Rd ((w1.setCell ⟨B, 2, none⟩ (.iface 52 (.pointer (some ⟨w1.heap.size, 0, none⟩)))).alloc (.cells #[.int .i64 (pl : Int), .iface 58 (.int .i64 c)] 54)) base B s (p, some (pl, c)) ∧
    w0.grownBy ((w1.setCell ⟨B, 2, none⟩ (.iface 52 (.pointer (some ⟨w1.heap.size, 0, none⟩)))).alloc (.cells #[.int .i64 (pl : Int), .iface 58 (.int .i64 c)] 54)) (some B) := by
  have hlt := hr.lt
  have hfin := RC.setErr hr hg (.iface 52 (.pointer (some ⟨w1.heap.size, 0, none⟩)))
  have hsz : (w1.setCell ⟨B, 2, none⟩ (.iface 52 (.pointer (some ⟨w1.heap.size, 0, none⟩)))).heap.size = w1.heap.size := by simp [World.setCell]
  refine ⟨⟨hb, _, (World.heap_alloc_at_lt _ _ _ (by rw [hsz]; exact hlt)).trans hfin.1, w1.heap.size, rfl, Nat.le_of_lt (Nat.lt_of_le_of_lt hb hlt), Nat.ne_of_gt hlt, ?_⟩, grown_alloc hfin.2 _⟩
  have hps := @Array.getElem?_push_size _ (w1.setCell ⟨B, 2, none⟩ (.iface 52 (.pointer (some ⟨w1.heap.size, 0, none⟩)))).heap (.cells #[.int .i64 (pl : Int), .iface 58 (.int .i64 c)] 54)
  rw [hsz] at hps
  exact hps
theorem loopF_succ (one : St → Int × St) (d : Nat) (st : St) (out : List Int) : loopF one (d + 1) st out = if (one st).2.2 = none then loopF one d (one st).2 (out ++ [(one st).1]) else ([], (one st).2) := rfl
theorem intF_at {S : List Int} (hb : ∀ b ∈ S, 0 ≤ b ∧ b ≤ 255) (st : St) (hp : st.1 ≤ S.length) : (intF S st).2.1 ≤ S.length ∧ st.1 ≤ (intF S st).2.1 ∧ ((intF S st).2.2 = none → st.1 < (intF S st).2.1) := by
  obtain ⟨a1, a2, a3, a4, a5⟩ := numF_at hb st hp
  exact ⟨a1, a2, a5⟩
theorem numF_at' {S : List Int} (hb : ∀ b ∈ S, 0 ≤ b ∧ b ≤ 255) (st : St) (hp : st.1 ≤ S.length) : (numF S st).2.1 ≤ S.length ∧ st.1 ≤ (numF S st).2.1 ∧ ((numF S st).2.2 = none → st.1 < (numF S st).2.1) := by
  obtain ⟨a1, a2, a3, a4, a5⟩ := numF_at hb st hp
  exact ⟨a1, a2, a5⟩
/-- what was made since W0 is written: all before it stays but the reader -/
theorem grown_new {w wr w1 : World} {B : Nat} {v : Value} (h : w.grownBy wr (some B)) (hg : wr.grownBy w1 v.ownBlock) (hv : ∀ k, v.ownBlock = some k → w.heap.size ≤ k) : w.grownBy w1 (some B) :=
  ⟨hg.os.trans h.os, hg.tape.trans h.tape, hg.output.trans h.output, Nat.le_trans h.size hg.size, fun k hk hne => (hg.block k (Nat.lt_of_lt_of_le hk h.size) (fun e => by have := hv k e.symm; omega)).trans (h.block k hk hne)⟩
theorem R_base {α : Type} {d : Kd α} {e : Nat} {w : World} {base : Nat} {ok : Nat → Prop} {v : Value} {xs : List α} (h : d.R e w base ok v xs) : ∀ k, v.ownBlock = some k → base ≤ k := by
  intro k hk
  rcases Kd.R_base2 h with h | ⟨k', h1, h2⟩
  · rw [h] at hk; simp at hk
  · rw [h1] at hk; obtain rfl := Option.some.inj hk; exact h2
theorem Rd.row {w w1 : World} {base B b0 : Nat} {s : ByteArray} {st : St} {v : Value} {xs : List Int} (h : Rd w base B s st) (hr : (Kd.int .i64).R 3 w b0 (fun k => k ≠ B) v xs) (hg : w.grownBy w1 v.ownBlock) : Rd w1 base B s st := by
  refine h.grown hg (fun e => hr.1 B e.symm rfl) (fun k e hk c hc => ?_)
  obtain ⟨cells, hcells⟩ := Kd.R_typed hr k e
  rw [hcells] at hc
  injection hc with hc
  injection hc with _ hc
  exact absurd hc (by decide)

set_option maxHeartbeats 4000000 in
set_option maxRecDepth 100000 in
theorem list_num {w : World} {base B : Nat} {s : ByteArray} {st : St} (most : Int) (h : Rd w base B s st) (hs : s.size ≤ 1000000000) (hp : st.1 ≤ s.size) (hbase : base ≤ w.heap.size) :
    Calls Tryd.prog 35 #[.pointer (some ⟨B, 0, none⟩), .int .i64 most, .func (Fn.func 23) #[.pointer (some ⟨B, 0, none⟩)] #[]] w fun e w' => ∃ v, e = .returned v ∧ (Kd.int .i64).R 3 w' w.heap.size (fun k => k ≠ B) v (listF (bytesOf s) (numF (bytesOf s)) most st).1 ∧ Rd w' base B s (listF (bytesOf s) (numF (bytesOf s)) most st).2 ∧ w.grownBy w' (some B) := by
  obtain ⟨a1, a2, a3, a4, a5⟩ := numF_at (bytesOf_in s) st (by rw [bytesOf_length]; exact hp)
  rw [bytesOf_length] at a1
  have hh := num_c h hs hp
  obtain ⟨n, st1, hn⟩ : ∃ n st1, numF (bytesOf s) st = (n, st1) := ⟨_, _, rfl⟩
  have hhd : headF (bytesOf s) most st = (n, if st1.2 = none ∧ n > most then (st1.1, some (st.1, 12)) else st1) := by
    unfold headF
    rw [hn]
    split <;> rfl
  unfold listF
  rw [hhd]
  rw [hn] at hh a1 a3 a4
  obtain ⟨p, er⟩ := st
  obtain ⟨p1, er1⟩ := st1
  obtain ⟨h0, ev0, hrc, hre⟩ := id h
  obtain ⟨c0, c1, c2, f1, f2⟩ := hrc.cells
  have hB := hrc.lt
  have a3' : 0 ≤ n := a3
  obtain ⟨N, rfl⟩ : ∃ N : Nat, n = (N : Int) := ⟨n.toNat, by omega⟩
  have a4' : (N : Int) ≤ 1125899906842624 := a4
  have hh' : Calls Tryd.prog 23 #[.pointer (some ⟨B, 0, none⟩)] w fun e w' => e = .returned (.int .i64 (N : Int)) ∧ Rd w' base B s (p1, er1) ∧ w.grownBy w' (some B) := hh
  have HH := Aside0.mk hh'
  have HS := Aside0.mk (And.intro hs (And.intro hbase (And.intro h0 hB)))
  obtain ⟨st2, hst2⟩ : ∃ st2 : St, st2 = (if er1 = none ∧ (N : Int) > most then (p1, some (p, 12)) else (p1, er1)) := ⟨_, rfl⟩
  have HST := Aside0.mk (And.intro hst2 (show p1 ≤ s.size from a1))
  simp only [Int.toNat_natCast]
  rw [← hst2]
  have hways : (er1 = none ∧ decide (most < (N : Int)) = true) ∨ (er1 = none ∧ decide (most < (N : Int)) = false) ∨ (∃ pc, er1 = some pc) := by
    cases er1 with
    | none =>
      by_cases hm : most < (N : Int)
      · exact .inl ⟨rfl, decide_eq_true hm⟩
      · exact .inr (.inl ⟨rfl, decide_eq_false hm⟩)
    | some pc => exact .inr (.inr ⟨pc, rfl⟩)
  clear h hs hp hh hh' hn hhd hbase h0 hrc hre a1 a2 a3 a3' a4 a5 hB hst2
  simp only at c1
  rcases hways with ⟨rfl, y1⟩ | ⟨rfl, y1⟩ | ⟨⟨pl0, cc0⟩, rfl⟩
  · have E2 : Aside0 (st2 = (p1, some (p, 12))) := ⟨by rw [HST.out.1]; exact if_pos ⟨rfl, of_decide_eq_true y1⟩⟩
    go_enter Tryd.func35, Tryd.ntmps35
    go_upto_region 7 with ((go_at_call 23; refine HH.out.mono ?_; rintro e w1 ⟨rfl, hr, hg⟩; (obtain ⟨h10, ev1, hrc1, hre1⟩ := id hr); (obtain rfl : ev1 = .nilIface := hre1); (obtain ⟨d0, d1, d2, g1, g2⟩ := hrc1.cells); (have hlt1 := hrc1.lt); (have H1 := Aside0.mk (And.intro hr (And.intro hg hrc1))); clear hr hg h10 hrc1))
    go_wp2
    go_loopw [9, 38] (fun v9 v38 wr => ∃ (d : Nat) (st : St) (out : List Int), d ≤ N ∧ v38 = .int .i64 (d : Int) ∧ Aside0 ((Kd.int .i64).R 3 wr w.heap.size (fun k => k ≠ B) v9 out ∧ Rd wr base B s st ∧ w.grownBy wr (some B)) ∧ Aside0 (st.1 ≤ s.size ∧ out.length ≤ st.1 ∧ loopF (numF (bytesOf s)) N st2 [] = loopF (numF (bytesOf s)) (N - d) st out)) (fun _ v38 _ => (N - (intOf v38).toNat))
    case atStart => exact ⟨0, st2, [], Nat.zero_le _, rfl, ⟨Kd.R_nil _ _ _ _ _, by rw [E2.out]; exact Rd.fail HS.out.2.2.1 H1.out.2.2 H1.out.2.1 p 12⟩, ⟨by rw [HST.out.1]; split <;> exact HST.out.2, Nat.zero_le _, rfl⟩⟩
    case round =>
      obtain ⟨d, st, out, hd, rfl, HR, HT⟩ := hrel
      by_cases hlt : d < N
      · have hone := num_c HR.out.2.1 HS.out.1 HT.out.1
        obtain ⟨b1, b2, b3⟩ := numF_at' (bytesOf_in s) st (by rw [bytesOf_length]; exact HT.out.1)
        rw [bytesOf_length] at b1
        have hl2 := HT.out.2.2
        rw [show N - d = (N - (d + 1)) + 1 by omega] at hl2
        rw [loopF_succ] at hl2
        obtain ⟨x, st', hx⟩ : ∃ x st', numF (bytesOf s) st = (x, st') := ⟨_, _, rfl⟩
        rw [hx] at hone hl2 b1 b2 b3
        obtain ⟨p', er'⟩ := st'
        have hone' : Calls Tryd.prog 23 #[.pointer (some ⟨B, 0, none⟩)] wr fun e w' => e = .returned (.int .i64 x) ∧ Rd w' base B s (p', er') ∧ wr.grownBy w' (some B) := hone
        have HO := Aside0.mk hone'
        cases er' with
        | none =>
          have hl3 : loopF (numF (bytesOf s)) N st2 [] = loopF (numF (bytesOf s)) (N - (d + 1)) (p', none) (out ++ [x]) := by rw [hl2]; rfl
          have HL := Aside0.mk (And.intro (show p' ≤ s.size from b1) (And.intro (show st.1 < p' from b3 rfl) hl3))
          clear hone hone' hl2 hl3 b1 b2 b3 hx
          go_wp2_with (first
            | (go_at_call 23; refine HO.out.mono ?_; rintro e w3 ⟨rfl, hr, hg⟩; (obtain ⟨h30, ev3, hrc3, hre3⟩ := id hr); (obtain rfl : ev3 = .nilIface := hre3); (obtain ⟨k0, k1, k2, k3, k4⟩ := hrc3.cells); (have hr3 := Kd.R_grown HR.out.1 hg (fun k hk e => hk (Option.some.inj e))); (have H3 := Aside0.mk (And.intro hr3 (And.intro hr (grown_trans HR.out.2.2 hg)))); clear hr hg h30 hrc3 hr3)
            | ((with_reducible refine gate_dst (N := 50) rfl ?_); refine Kd.R_append (Kd.int .i64) w.heap.size rfl (.tmp 47) (.tmp 49) 22 3 (.int .i64 0) 8 rfl Tryd.underlying22 info3 rfl (by decide) (by omega) _ out x [.int .i64 x] (fun k => k ≠ B) (fun _ => False) rfl rfl ?aP (fun _ hk => hk.elim) ?aF ?aO (Below.refl _ _) ?aS ?aL ?_; (case aP => exact rfl); (case aF => exact (fun k hk => by have := H3.out.2.1.lt; omega)); (case aO => exact H3.out.1); (case aS => exact H3.out.2.2.size); (case aL => have := HL.out; have := HT.out; have := HS.out; omega); intro v4 w4 ho hb hg hat; (have H4 := Aside0.mk (And.intro ho (And.intro (H3.out.2.1.row H3.out.1 hg) (grown_new H3.out.2.2 hg (R_base H3.out.1))))); clear ho hb hg hat))
          go_roundw
          case rel => exact ⟨d + 1, _, _, by omega, by go_num, H4, ⟨HL.out.1, by have := HL.out.2.1; have := HT.out.2.1; simp; omega, HL.out.2.2⟩⟩
          case measure => simp [intOf]; omega
        | some pc =>
          obtain ⟨pl, c⟩ := pc
          have hl3 : loopF (numF (bytesOf s)) N st2 [] = ([], (p', some (pl, c))) := by rw [hl2]; rfl
          have HL := Aside0.mk hl3
          clear hone hone' hl2 hl3 b1 b2 b3 hx
          go_wp2_with (go_at_call 23; refine HO.out.mono ?_; rintro e w3 ⟨rfl, hr, hg⟩; (obtain ⟨h30, ev3, hrc3, hre3⟩ := id hr); (obtain ⟨g3, rfl, -⟩ := hre3); (obtain ⟨k0, k1, k2, k3, k4⟩ := hrc3.cells); (have H3 := Aside0.mk (And.intro hr (grown_trans HR.out.2.2 hg))); clear hr hg h30 hrc3)
          go_ret
          rw [HL.out]
          exact ⟨_, rfl, Kd.R_nil _ _ _ _ _, H3.out⟩
      · obtain rfl : d = N := by omega
        have hl3 : loopF (numF (bytesOf s)) d st2 [] = (out, st) := by have := HT.out.2.2; rw [Nat.sub_self] at this; exact this
        have HL := Aside0.mk hl3
        clear hl3
        go_wp2
        go_ret
        rw [HL.out]
        exact ⟨_, rfl, HR.out⟩
  · have E2 : Aside0 (st2 = (p1, none)) := ⟨by rw [HST.out.1]; exact if_neg (fun h => of_decide_eq_false y1 h.2)⟩
    go_enter Tryd.func35, Tryd.ntmps35
    go_upto_region 7 with ((go_at_call 23; refine HH.out.mono ?_; rintro e w1 ⟨rfl, hr, hg⟩; (obtain ⟨h10, ev1, hrc1, hre1⟩ := id hr); (obtain rfl : ev1 = .nilIface := hre1); (obtain ⟨d0, d1, d2, g1, g2⟩ := hrc1.cells); (have hlt1 := hrc1.lt); (have H1 := Aside0.mk (And.intro hr (And.intro hg hrc1))); clear hr hg h10 hrc1))
    go_wp2
    go_loopw [9, 38] (fun v9 v38 wr => ∃ (d : Nat) (st : St) (out : List Int), d ≤ N ∧ v38 = .int .i64 (d : Int) ∧ Aside0 ((Kd.int .i64).R 3 wr w.heap.size (fun k => k ≠ B) v9 out ∧ Rd wr base B s st ∧ w.grownBy wr (some B)) ∧ Aside0 (st.1 ≤ s.size ∧ out.length ≤ st.1 ∧ loopF (numF (bytesOf s)) N st2 [] = loopF (numF (bytesOf s)) (N - d) st out)) (fun _ v38 _ => (N - (intOf v38).toNat))
    case atStart => exact ⟨0, st2, [], Nat.zero_le _, rfl, ⟨Kd.R_nil _ _ _ _ _, by rw [E2.out]; exact ⟨H1.out.1, H1.out.2.1⟩⟩, ⟨by rw [HST.out.1]; split <;> exact HST.out.2, Nat.zero_le _, rfl⟩⟩
    case round =>
      obtain ⟨d, st, out, hd, rfl, HR, HT⟩ := hrel
      by_cases hlt : d < N
      · have hone := num_c HR.out.2.1 HS.out.1 HT.out.1
        obtain ⟨b1, b2, b3⟩ := numF_at' (bytesOf_in s) st (by rw [bytesOf_length]; exact HT.out.1)
        rw [bytesOf_length] at b1
        have hl2 := HT.out.2.2
        rw [show N - d = (N - (d + 1)) + 1 by omega] at hl2
        rw [loopF_succ] at hl2
        obtain ⟨x, st', hx⟩ : ∃ x st', numF (bytesOf s) st = (x, st') := ⟨_, _, rfl⟩
        rw [hx] at hone hl2 b1 b2 b3
        obtain ⟨p', er'⟩ := st'
        have hone' : Calls Tryd.prog 23 #[.pointer (some ⟨B, 0, none⟩)] wr fun e w' => e = .returned (.int .i64 x) ∧ Rd w' base B s (p', er') ∧ wr.grownBy w' (some B) := hone
        have HO := Aside0.mk hone'
        cases er' with
        | none =>
          have hl3 : loopF (numF (bytesOf s)) N st2 [] = loopF (numF (bytesOf s)) (N - (d + 1)) (p', none) (out ++ [x]) := by rw [hl2]; rfl
          have HL := Aside0.mk (And.intro (show p' ≤ s.size from b1) (And.intro (show st.1 < p' from b3 rfl) hl3))
          clear hone hone' hl2 hl3 b1 b2 b3 hx
          go_wp2_with (first
            | (go_at_call 23; refine HO.out.mono ?_; rintro e w3 ⟨rfl, hr, hg⟩; (obtain ⟨h30, ev3, hrc3, hre3⟩ := id hr); (obtain rfl : ev3 = .nilIface := hre3); (obtain ⟨k0, k1, k2, k3, k4⟩ := hrc3.cells); (have hr3 := Kd.R_grown HR.out.1 hg (fun k hk e => hk (Option.some.inj e))); (have H3 := Aside0.mk (And.intro hr3 (And.intro hr (grown_trans HR.out.2.2 hg)))); clear hr hg h30 hrc3 hr3)
            | ((with_reducible refine gate_dst (N := 50) rfl ?_); refine Kd.R_append (Kd.int .i64) w.heap.size rfl (.tmp 47) (.tmp 49) 22 3 (.int .i64 0) 8 rfl Tryd.underlying22 info3 rfl (by decide) (by omega) _ out x [.int .i64 x] (fun k => k ≠ B) (fun _ => False) rfl rfl ?aP (fun _ hk => hk.elim) ?aF ?aO (Below.refl _ _) ?aS ?aL ?_; (case aP => exact rfl); (case aF => exact (fun k hk => by have := H3.out.2.1.lt; omega)); (case aO => exact H3.out.1); (case aS => exact H3.out.2.2.size); (case aL => have := HL.out; have := HT.out; have := HS.out; omega); intro v4 w4 ho hb hg hat; (have H4 := Aside0.mk (And.intro ho (And.intro (H3.out.2.1.row H3.out.1 hg) (grown_new H3.out.2.2 hg (R_base H3.out.1))))); clear ho hb hg hat))
          go_roundw
          case rel => exact ⟨d + 1, _, _, by omega, by go_num, H4, ⟨HL.out.1, by have := HL.out.2.1; have := HT.out.2.1; simp; omega, HL.out.2.2⟩⟩
          case measure => simp [intOf]; omega
        | some pc =>
          obtain ⟨pl, c⟩ := pc
          have hl3 : loopF (numF (bytesOf s)) N st2 [] = ([], (p', some (pl, c))) := by rw [hl2]; rfl
          have HL := Aside0.mk hl3
          clear hone hone' hl2 hl3 b1 b2 b3 hx
          go_wp2_with (go_at_call 23; refine HO.out.mono ?_; rintro e w3 ⟨rfl, hr, hg⟩; (obtain ⟨h30, ev3, hrc3, hre3⟩ := id hr); (obtain ⟨g3, rfl, -⟩ := hre3); (obtain ⟨k0, k1, k2, k3, k4⟩ := hrc3.cells); (have H3 := Aside0.mk (And.intro hr (grown_trans HR.out.2.2 hg))); clear hr hg h30 hrc3)
          go_ret
          rw [HL.out]
          exact ⟨_, rfl, Kd.R_nil _ _ _ _ _, H3.out⟩
      · obtain rfl : d = N := by omega
        have hl3 : loopF (numF (bytesOf s)) d st2 [] = (out, st) := by have := HT.out.2.2; rw [Nat.sub_self] at this; exact this
        have HL := Aside0.mk hl3
        clear hl3
        go_wp2
        go_ret
        rw [HL.out]
        exact ⟨_, rfl, HR.out⟩
  · have E2 : Aside0 (st2 = (p1, some (pl0, cc0))) := ⟨by rw [HST.out.1]; exact if_neg (fun h => by simp at h)⟩
    go_enter Tryd.func35, Tryd.ntmps35
    go_upto_region 7 with ((go_at_call 23; refine HH.out.mono ?_; rintro e w1 ⟨rfl, hr, hg⟩; (obtain ⟨h10, ev1, hrc1, hre1⟩ := id hr); (obtain ⟨g0, rfl, -⟩ := hre1); (obtain ⟨d0, d1, d2, g1, g2⟩ := hrc1.cells); (have hlt1 := hrc1.lt); (have H1 := Aside0.mk (And.intro hr (And.intro hg hrc1))); clear hr hg h10 hrc1))
    go_wp2
    go_loopw [9, 38] (fun v9 v38 wr => ∃ (d : Nat) (st : St) (out : List Int), d ≤ N ∧ v38 = .int .i64 (d : Int) ∧ Aside0 ((Kd.int .i64).R 3 wr w.heap.size (fun k => k ≠ B) v9 out ∧ Rd wr base B s st ∧ w.grownBy wr (some B)) ∧ Aside0 (st.1 ≤ s.size ∧ out.length ≤ st.1 ∧ loopF (numF (bytesOf s)) N st2 [] = loopF (numF (bytesOf s)) (N - d) st out)) (fun _ v38 _ => (N - (intOf v38).toNat))
    case atStart => exact ⟨0, st2, [], Nat.zero_le _, rfl, ⟨Kd.R_nil _ _ _ _ _, by rw [E2.out]; exact ⟨H1.out.1, H1.out.2.1⟩⟩, ⟨by rw [HST.out.1]; split <;> exact HST.out.2, Nat.zero_le _, rfl⟩⟩
    case round =>
      obtain ⟨d, st, out, hd, rfl, HR, HT⟩ := hrel
      by_cases hlt : d < N
      · have hone := num_c HR.out.2.1 HS.out.1 HT.out.1
        obtain ⟨b1, b2, b3⟩ := numF_at' (bytesOf_in s) st (by rw [bytesOf_length]; exact HT.out.1)
        rw [bytesOf_length] at b1
        have hl2 := HT.out.2.2
        rw [show N - d = (N - (d + 1)) + 1 by omega] at hl2
        rw [loopF_succ] at hl2
        obtain ⟨x, st', hx⟩ : ∃ x st', numF (bytesOf s) st = (x, st') := ⟨_, _, rfl⟩
        rw [hx] at hone hl2 b1 b2 b3
        obtain ⟨p', er'⟩ := st'
        have hone' : Calls Tryd.prog 23 #[.pointer (some ⟨B, 0, none⟩)] wr fun e w' => e = .returned (.int .i64 x) ∧ Rd w' base B s (p', er') ∧ wr.grownBy w' (some B) := hone
        have HO := Aside0.mk hone'
        cases er' with
        | none =>
          have hl3 : loopF (numF (bytesOf s)) N st2 [] = loopF (numF (bytesOf s)) (N - (d + 1)) (p', none) (out ++ [x]) := by rw [hl2]; rfl
          have HL := Aside0.mk (And.intro (show p' ≤ s.size from b1) (And.intro (show st.1 < p' from b3 rfl) hl3))
          clear hone hone' hl2 hl3 b1 b2 b3 hx
          go_wp2_with (first
            | (go_at_call 23; refine HO.out.mono ?_; rintro e w3 ⟨rfl, hr, hg⟩; (obtain ⟨h30, ev3, hrc3, hre3⟩ := id hr); (obtain rfl : ev3 = .nilIface := hre3); (obtain ⟨k0, k1, k2, k3, k4⟩ := hrc3.cells); (have hr3 := Kd.R_grown HR.out.1 hg (fun k hk e => hk (Option.some.inj e))); (have H3 := Aside0.mk (And.intro hr3 (And.intro hr (grown_trans HR.out.2.2 hg)))); clear hr hg h30 hrc3 hr3)
            | ((with_reducible refine gate_dst (N := 50) rfl ?_); refine Kd.R_append (Kd.int .i64) w.heap.size rfl (.tmp 47) (.tmp 49) 22 3 (.int .i64 0) 8 rfl Tryd.underlying22 info3 rfl (by decide) (by omega) _ out x [.int .i64 x] (fun k => k ≠ B) (fun _ => False) rfl rfl ?aP (fun _ hk => hk.elim) ?aF ?aO (Below.refl _ _) ?aS ?aL ?_; (case aP => exact rfl); (case aF => exact (fun k hk => by have := H3.out.2.1.lt; omega)); (case aO => exact H3.out.1); (case aS => exact H3.out.2.2.size); (case aL => have := HL.out; have := HT.out; have := HS.out; omega); intro v4 w4 ho hb hg hat; (have H4 := Aside0.mk (And.intro ho (And.intro (H3.out.2.1.row H3.out.1 hg) (grown_new H3.out.2.2 hg (R_base H3.out.1))))); clear ho hb hg hat))
          go_roundw
          case rel => exact ⟨d + 1, _, _, by omega, by go_num, H4, ⟨HL.out.1, by have := HL.out.2.1; have := HT.out.2.1; simp; omega, HL.out.2.2⟩⟩
          case measure => simp [intOf]; omega
        | some pc =>
          obtain ⟨pl, c⟩ := pc
          have hl3 : loopF (numF (bytesOf s)) N st2 [] = ([], (p', some (pl, c))) := by rw [hl2]; rfl
          have HL := Aside0.mk hl3
          clear hone hone' hl2 hl3 b1 b2 b3 hx
          go_wp2_with (go_at_call 23; refine HO.out.mono ?_; rintro e w3 ⟨rfl, hr, hg⟩; (obtain ⟨h30, ev3, hrc3, hre3⟩ := id hr); (obtain ⟨g3, rfl, -⟩ := hre3); (obtain ⟨k0, k1, k2, k3, k4⟩ := hrc3.cells); (have H3 := Aside0.mk (And.intro hr (grown_trans HR.out.2.2 hg))); clear hr hg h30 hrc3)
          go_ret
          rw [HL.out]
          exact ⟨_, rfl, Kd.R_nil _ _ _ _ _, H3.out⟩
      · obtain rfl : d = N := by omega
        have hl3 : loopF (numF (bytesOf s)) d st2 [] = (out, st) := by have := HT.out.2.2; rw [Nat.sub_self] at this; exact this
        have HL := Aside0.mk hl3
        clear hl3
        go_wp2
        go_ret
        rw [HL.out]
        exact ⟨_, rfl, HR.out⟩

set_option maxHeartbeats 4000000 in
set_option maxRecDepth 100000 in
theorem list_int {w : World} {base B : Nat} {s : ByteArray} {st : St} (most : Int) (h : Rd w base B s st) (hs : s.size ≤ 1000000000) (hp : st.1 ≤ s.size) (hbase : base ≤ w.heap.size) :
    Calls Tryd.prog 35 #[.pointer (some ⟨B, 0, none⟩), .int .i64 most, .func (Fn.func 24) #[.pointer (some ⟨B, 0, none⟩)] #[]] w fun e w' => ∃ v, e = .returned v ∧ (Kd.int .i64).R 3 w' w.heap.size (fun k => k ≠ B) v (listF (bytesOf s) (intF (bytesOf s)) most st).1 ∧ Rd w' base B s (listF (bytesOf s) (intF (bytesOf s)) most st).2 ∧ w.grownBy w' (some B) := by
  obtain ⟨a1, a2, a3, a4, a5⟩ := numF_at (bytesOf_in s) st (by rw [bytesOf_length]; exact hp)
  rw [bytesOf_length] at a1
  have hh := num_c h hs hp
  obtain ⟨n, st1, hn⟩ : ∃ n st1, numF (bytesOf s) st = (n, st1) := ⟨_, _, rfl⟩
  have hhd : headF (bytesOf s) most st = (n, if st1.2 = none ∧ n > most then (st1.1, some (st.1, 12)) else st1) := by
    unfold headF
    rw [hn]
    split <;> rfl
  unfold listF
  rw [hhd]
  rw [hn] at hh a1 a3 a4
  obtain ⟨p, er⟩ := st
  obtain ⟨p1, er1⟩ := st1
  obtain ⟨h0, ev0, hrc, hre⟩ := id h
  obtain ⟨c0, c1, c2, f1, f2⟩ := hrc.cells
  have hB := hrc.lt
  have a3' : 0 ≤ n := a3
  obtain ⟨N, rfl⟩ : ∃ N : Nat, n = (N : Int) := ⟨n.toNat, by omega⟩
  have a4' : (N : Int) ≤ 1125899906842624 := a4
  have hh' : Calls Tryd.prog 23 #[.pointer (some ⟨B, 0, none⟩)] w fun e w' => e = .returned (.int .i64 (N : Int)) ∧ Rd w' base B s (p1, er1) ∧ w.grownBy w' (some B) := hh
  have HH := Aside0.mk hh'
  have HS := Aside0.mk (And.intro hs (And.intro hbase (And.intro h0 hB)))
  obtain ⟨st2, hst2⟩ : ∃ st2 : St, st2 = (if er1 = none ∧ (N : Int) > most then (p1, some (p, 12)) else (p1, er1)) := ⟨_, rfl⟩
  have HST := Aside0.mk (And.intro hst2 (show p1 ≤ s.size from a1))
  simp only [Int.toNat_natCast]
  rw [← hst2]
  have hways : (er1 = none ∧ decide (most < (N : Int)) = true) ∨ (er1 = none ∧ decide (most < (N : Int)) = false) ∨ (∃ pc, er1 = some pc) := by
    cases er1 with
    | none =>
      by_cases hm : most < (N : Int)
      · exact .inl ⟨rfl, decide_eq_true hm⟩
      · exact .inr (.inl ⟨rfl, decide_eq_false hm⟩)
    | some pc => exact .inr (.inr ⟨pc, rfl⟩)
  clear h hs hp hh hh' hn hhd hbase h0 hrc hre a1 a2 a3 a3' a4 a5 hB hst2
  simp only at c1
  rcases hways with ⟨rfl, y1⟩ | ⟨rfl, y1⟩ | ⟨⟨pl0, cc0⟩, rfl⟩
  · have E2 : Aside0 (st2 = (p1, some (p, 12))) := ⟨by rw [HST.out.1]; exact if_pos ⟨rfl, of_decide_eq_true y1⟩⟩
    go_enter Tryd.func35, Tryd.ntmps35
    go_upto_region 7 with ((go_at_call 23; refine HH.out.mono ?_; rintro e w1 ⟨rfl, hr, hg⟩; (obtain ⟨h10, ev1, hrc1, hre1⟩ := id hr); (obtain rfl : ev1 = .nilIface := hre1); (obtain ⟨d0, d1, d2, g1, g2⟩ := hrc1.cells); (have hlt1 := hrc1.lt); (have H1 := Aside0.mk (And.intro hr (And.intro hg hrc1))); clear hr hg h10 hrc1))
    go_wp2
    go_loopw [9, 38] (fun v9 v38 wr => ∃ (d : Nat) (st : St) (out : List Int), d ≤ N ∧ v38 = .int .i64 (d : Int) ∧ Aside0 ((Kd.int .i64).R 3 wr w.heap.size (fun k => k ≠ B) v9 out ∧ Rd wr base B s st ∧ w.grownBy wr (some B)) ∧ Aside0 (st.1 ≤ s.size ∧ out.length ≤ st.1 ∧ loopF (intF (bytesOf s)) N st2 [] = loopF (intF (bytesOf s)) (N - d) st out)) (fun _ v38 _ => (N - (intOf v38).toNat))
    case atStart => exact ⟨0, st2, [], Nat.zero_le _, rfl, ⟨Kd.R_nil _ _ _ _ _, by rw [E2.out]; exact Rd.fail HS.out.2.2.1 H1.out.2.2 H1.out.2.1 p 12⟩, ⟨by rw [HST.out.1]; split <;> exact HST.out.2, Nat.zero_le _, rfl⟩⟩
    case round =>
      obtain ⟨d, st, out, hd, rfl, HR, HT⟩ := hrel
      by_cases hlt : d < N
      · have hone := int_c HR.out.2.1 HS.out.1 HT.out.1
        obtain ⟨b1, b2, b3⟩ := intF_at (bytesOf_in s) st (by rw [bytesOf_length]; exact HT.out.1)
        rw [bytesOf_length] at b1
        have hl2 := HT.out.2.2
        rw [show N - d = (N - (d + 1)) + 1 by omega] at hl2
        rw [loopF_succ] at hl2
        obtain ⟨x, st', hx⟩ : ∃ x st', intF (bytesOf s) st = (x, st') := ⟨_, _, rfl⟩
        rw [hx] at hone hl2 b1 b2 b3
        obtain ⟨p', er'⟩ := st'
        have hone' : Calls Tryd.prog 24 #[.pointer (some ⟨B, 0, none⟩)] wr fun e w' => e = .returned (.int .i64 x) ∧ Rd w' base B s (p', er') ∧ wr.grownBy w' (some B) := hone
        have HO := Aside0.mk hone'
        cases er' with
        | none =>
          have hl3 : loopF (intF (bytesOf s)) N st2 [] = loopF (intF (bytesOf s)) (N - (d + 1)) (p', none) (out ++ [x]) := by rw [hl2]; rfl
          have HL := Aside0.mk (And.intro (show p' ≤ s.size from b1) (And.intro (show st.1 < p' from b3 rfl) hl3))
          clear hone hone' hl2 hl3 b1 b2 b3 hx
          go_wp2_with (first
            | (go_at_call 24; refine HO.out.mono ?_; rintro e w3 ⟨rfl, hr, hg⟩; (obtain ⟨h30, ev3, hrc3, hre3⟩ := id hr); (obtain rfl : ev3 = .nilIface := hre3); (obtain ⟨k0, k1, k2, k3, k4⟩ := hrc3.cells); (have hr3 := Kd.R_grown HR.out.1 hg (fun k hk e => hk (Option.some.inj e))); (have H3 := Aside0.mk (And.intro hr3 (And.intro hr (grown_trans HR.out.2.2 hg)))); clear hr hg h30 hrc3 hr3)
            | ((with_reducible refine gate_dst (N := 50) rfl ?_); refine Kd.R_append (Kd.int .i64) w.heap.size rfl (.tmp 47) (.tmp 49) 22 3 (.int .i64 0) 8 rfl Tryd.underlying22 info3 rfl (by decide) (by omega) _ out x [.int .i64 x] (fun k => k ≠ B) (fun _ => False) rfl rfl ?aP (fun _ hk => hk.elim) ?aF ?aO (Below.refl _ _) ?aS ?aL ?_; (case aP => exact rfl); (case aF => exact (fun k hk => by have := H3.out.2.1.lt; omega)); (case aO => exact H3.out.1); (case aS => exact H3.out.2.2.size); (case aL => have := HL.out; have := HT.out; have := HS.out; omega); intro v4 w4 ho hb hg hat; (have H4 := Aside0.mk (And.intro ho (And.intro (H3.out.2.1.row H3.out.1 hg) (grown_new H3.out.2.2 hg (R_base H3.out.1))))); clear ho hb hg hat))
          go_roundw
          case rel => exact ⟨d + 1, _, _, by omega, by go_num, H4, ⟨HL.out.1, by have := HL.out.2.1; have := HT.out.2.1; simp; omega, HL.out.2.2⟩⟩
          case measure => simp [intOf]; omega
        | some pc =>
          obtain ⟨pl, c⟩ := pc
          have hl3 : loopF (intF (bytesOf s)) N st2 [] = ([], (p', some (pl, c))) := by rw [hl2]; rfl
          have HL := Aside0.mk hl3
          clear hone hone' hl2 hl3 b1 b2 b3 hx
          go_wp2_with (go_at_call 24; refine HO.out.mono ?_; rintro e w3 ⟨rfl, hr, hg⟩; (obtain ⟨h30, ev3, hrc3, hre3⟩ := id hr); (obtain ⟨g3, rfl, -⟩ := hre3); (obtain ⟨k0, k1, k2, k3, k4⟩ := hrc3.cells); (have H3 := Aside0.mk (And.intro hr (grown_trans HR.out.2.2 hg))); clear hr hg h30 hrc3)
          go_ret
          rw [HL.out]
          exact ⟨_, rfl, Kd.R_nil _ _ _ _ _, H3.out⟩
      · obtain rfl : d = N := by omega
        have hl3 : loopF (intF (bytesOf s)) d st2 [] = (out, st) := by have := HT.out.2.2; rw [Nat.sub_self] at this; exact this
        have HL := Aside0.mk hl3
        clear hl3
        go_wp2
        go_ret
        rw [HL.out]
        exact ⟨_, rfl, HR.out⟩
  · have E2 : Aside0 (st2 = (p1, none)) := ⟨by rw [HST.out.1]; exact if_neg (fun h => of_decide_eq_false y1 h.2)⟩
    go_enter Tryd.func35, Tryd.ntmps35
    go_upto_region 7 with ((go_at_call 23; refine HH.out.mono ?_; rintro e w1 ⟨rfl, hr, hg⟩; (obtain ⟨h10, ev1, hrc1, hre1⟩ := id hr); (obtain rfl : ev1 = .nilIface := hre1); (obtain ⟨d0, d1, d2, g1, g2⟩ := hrc1.cells); (have hlt1 := hrc1.lt); (have H1 := Aside0.mk (And.intro hr (And.intro hg hrc1))); clear hr hg h10 hrc1))
    go_wp2
    go_loopw [9, 38] (fun v9 v38 wr => ∃ (d : Nat) (st : St) (out : List Int), d ≤ N ∧ v38 = .int .i64 (d : Int) ∧ Aside0 ((Kd.int .i64).R 3 wr w.heap.size (fun k => k ≠ B) v9 out ∧ Rd wr base B s st ∧ w.grownBy wr (some B)) ∧ Aside0 (st.1 ≤ s.size ∧ out.length ≤ st.1 ∧ loopF (intF (bytesOf s)) N st2 [] = loopF (intF (bytesOf s)) (N - d) st out)) (fun _ v38 _ => (N - (intOf v38).toNat))
    case atStart => exact ⟨0, st2, [], Nat.zero_le _, rfl, ⟨Kd.R_nil _ _ _ _ _, by rw [E2.out]; exact ⟨H1.out.1, H1.out.2.1⟩⟩, ⟨by rw [HST.out.1]; split <;> exact HST.out.2, Nat.zero_le _, rfl⟩⟩
    case round =>
      obtain ⟨d, st, out, hd, rfl, HR, HT⟩ := hrel
      by_cases hlt : d < N
      · have hone := int_c HR.out.2.1 HS.out.1 HT.out.1
        obtain ⟨b1, b2, b3⟩ := intF_at (bytesOf_in s) st (by rw [bytesOf_length]; exact HT.out.1)
        rw [bytesOf_length] at b1
        have hl2 := HT.out.2.2
        rw [show N - d = (N - (d + 1)) + 1 by omega] at hl2
        rw [loopF_succ] at hl2
        obtain ⟨x, st', hx⟩ : ∃ x st', intF (bytesOf s) st = (x, st') := ⟨_, _, rfl⟩
        rw [hx] at hone hl2 b1 b2 b3
        obtain ⟨p', er'⟩ := st'
        have hone' : Calls Tryd.prog 24 #[.pointer (some ⟨B, 0, none⟩)] wr fun e w' => e = .returned (.int .i64 x) ∧ Rd w' base B s (p', er') ∧ wr.grownBy w' (some B) := hone
        have HO := Aside0.mk hone'
        cases er' with
        | none =>
          have hl3 : loopF (intF (bytesOf s)) N st2 [] = loopF (intF (bytesOf s)) (N - (d + 1)) (p', none) (out ++ [x]) := by rw [hl2]; rfl
          have HL := Aside0.mk (And.intro (show p' ≤ s.size from b1) (And.intro (show st.1 < p' from b3 rfl) hl3))
          clear hone hone' hl2 hl3 b1 b2 b3 hx
          go_wp2_with (first
            | (go_at_call 24; refine HO.out.mono ?_; rintro e w3 ⟨rfl, hr, hg⟩; (obtain ⟨h30, ev3, hrc3, hre3⟩ := id hr); (obtain rfl : ev3 = .nilIface := hre3); (obtain ⟨k0, k1, k2, k3, k4⟩ := hrc3.cells); (have hr3 := Kd.R_grown HR.out.1 hg (fun k hk e => hk (Option.some.inj e))); (have H3 := Aside0.mk (And.intro hr3 (And.intro hr (grown_trans HR.out.2.2 hg)))); clear hr hg h30 hrc3 hr3)
            | ((with_reducible refine gate_dst (N := 50) rfl ?_); refine Kd.R_append (Kd.int .i64) w.heap.size rfl (.tmp 47) (.tmp 49) 22 3 (.int .i64 0) 8 rfl Tryd.underlying22 info3 rfl (by decide) (by omega) _ out x [.int .i64 x] (fun k => k ≠ B) (fun _ => False) rfl rfl ?aP (fun _ hk => hk.elim) ?aF ?aO (Below.refl _ _) ?aS ?aL ?_; (case aP => exact rfl); (case aF => exact (fun k hk => by have := H3.out.2.1.lt; omega)); (case aO => exact H3.out.1); (case aS => exact H3.out.2.2.size); (case aL => have := HL.out; have := HT.out; have := HS.out; omega); intro v4 w4 ho hb hg hat; (have H4 := Aside0.mk (And.intro ho (And.intro (H3.out.2.1.row H3.out.1 hg) (grown_new H3.out.2.2 hg (R_base H3.out.1))))); clear ho hb hg hat))
          go_roundw
          case rel => exact ⟨d + 1, _, _, by omega, by go_num, H4, ⟨HL.out.1, by have := HL.out.2.1; have := HT.out.2.1; simp; omega, HL.out.2.2⟩⟩
          case measure => simp [intOf]; omega
        | some pc =>
          obtain ⟨pl, c⟩ := pc
          have hl3 : loopF (intF (bytesOf s)) N st2 [] = ([], (p', some (pl, c))) := by rw [hl2]; rfl
          have HL := Aside0.mk hl3
          clear hone hone' hl2 hl3 b1 b2 b3 hx
          go_wp2_with (go_at_call 24; refine HO.out.mono ?_; rintro e w3 ⟨rfl, hr, hg⟩; (obtain ⟨h30, ev3, hrc3, hre3⟩ := id hr); (obtain ⟨g3, rfl, -⟩ := hre3); (obtain ⟨k0, k1, k2, k3, k4⟩ := hrc3.cells); (have H3 := Aside0.mk (And.intro hr (grown_trans HR.out.2.2 hg))); clear hr hg h30 hrc3)
          go_ret
          rw [HL.out]
          exact ⟨_, rfl, Kd.R_nil _ _ _ _ _, H3.out⟩
      · obtain rfl : d = N := by omega
        have hl3 : loopF (intF (bytesOf s)) d st2 [] = (out, st) := by have := HT.out.2.2; rw [Nat.sub_self] at this; exact this
        have HL := Aside0.mk hl3
        clear hl3
        go_wp2
        go_ret
        rw [HL.out]
        exact ⟨_, rfl, HR.out⟩
  · have E2 : Aside0 (st2 = (p1, some (pl0, cc0))) := ⟨by rw [HST.out.1]; exact if_neg (fun h => by simp at h)⟩
    go_enter Tryd.func35, Tryd.ntmps35
    go_upto_region 7 with ((go_at_call 23; refine HH.out.mono ?_; rintro e w1 ⟨rfl, hr, hg⟩; (obtain ⟨h10, ev1, hrc1, hre1⟩ := id hr); (obtain ⟨g0, rfl, -⟩ := hre1); (obtain ⟨d0, d1, d2, g1, g2⟩ := hrc1.cells); (have hlt1 := hrc1.lt); (have H1 := Aside0.mk (And.intro hr (And.intro hg hrc1))); clear hr hg h10 hrc1))
    go_wp2
    go_loopw [9, 38] (fun v9 v38 wr => ∃ (d : Nat) (st : St) (out : List Int), d ≤ N ∧ v38 = .int .i64 (d : Int) ∧ Aside0 ((Kd.int .i64).R 3 wr w.heap.size (fun k => k ≠ B) v9 out ∧ Rd wr base B s st ∧ w.grownBy wr (some B)) ∧ Aside0 (st.1 ≤ s.size ∧ out.length ≤ st.1 ∧ loopF (intF (bytesOf s)) N st2 [] = loopF (intF (bytesOf s)) (N - d) st out)) (fun _ v38 _ => (N - (intOf v38).toNat))
    case atStart => exact ⟨0, st2, [], Nat.zero_le _, rfl, ⟨Kd.R_nil _ _ _ _ _, by rw [E2.out]; exact ⟨H1.out.1, H1.out.2.1⟩⟩, ⟨by rw [HST.out.1]; split <;> exact HST.out.2, Nat.zero_le _, rfl⟩⟩
    case round =>
      obtain ⟨d, st, out, hd, rfl, HR, HT⟩ := hrel
      by_cases hlt : d < N
      · have hone := int_c HR.out.2.1 HS.out.1 HT.out.1
        obtain ⟨b1, b2, b3⟩ := intF_at (bytesOf_in s) st (by rw [bytesOf_length]; exact HT.out.1)
        rw [bytesOf_length] at b1
        have hl2 := HT.out.2.2
        rw [show N - d = (N - (d + 1)) + 1 by omega] at hl2
        rw [loopF_succ] at hl2
        obtain ⟨x, st', hx⟩ : ∃ x st', intF (bytesOf s) st = (x, st') := ⟨_, _, rfl⟩
        rw [hx] at hone hl2 b1 b2 b3
        obtain ⟨p', er'⟩ := st'
        have hone' : Calls Tryd.prog 24 #[.pointer (some ⟨B, 0, none⟩)] wr fun e w' => e = .returned (.int .i64 x) ∧ Rd w' base B s (p', er') ∧ wr.grownBy w' (some B) := hone
        have HO := Aside0.mk hone'
        cases er' with
        | none =>
          have hl3 : loopF (intF (bytesOf s)) N st2 [] = loopF (intF (bytesOf s)) (N - (d + 1)) (p', none) (out ++ [x]) := by rw [hl2]; rfl
          have HL := Aside0.mk (And.intro (show p' ≤ s.size from b1) (And.intro (show st.1 < p' from b3 rfl) hl3))
          clear hone hone' hl2 hl3 b1 b2 b3 hx
          go_wp2_with (first
            | (go_at_call 24; refine HO.out.mono ?_; rintro e w3 ⟨rfl, hr, hg⟩; (obtain ⟨h30, ev3, hrc3, hre3⟩ := id hr); (obtain rfl : ev3 = .nilIface := hre3); (obtain ⟨k0, k1, k2, k3, k4⟩ := hrc3.cells); (have hr3 := Kd.R_grown HR.out.1 hg (fun k hk e => hk (Option.some.inj e))); (have H3 := Aside0.mk (And.intro hr3 (And.intro hr (grown_trans HR.out.2.2 hg)))); clear hr hg h30 hrc3 hr3)
            | ((with_reducible refine gate_dst (N := 50) rfl ?_); refine Kd.R_append (Kd.int .i64) w.heap.size rfl (.tmp 47) (.tmp 49) 22 3 (.int .i64 0) 8 rfl Tryd.underlying22 info3 rfl (by decide) (by omega) _ out x [.int .i64 x] (fun k => k ≠ B) (fun _ => False) rfl rfl ?aP (fun _ hk => hk.elim) ?aF ?aO (Below.refl _ _) ?aS ?aL ?_; (case aP => exact rfl); (case aF => exact (fun k hk => by have := H3.out.2.1.lt; omega)); (case aO => exact H3.out.1); (case aS => exact H3.out.2.2.size); (case aL => have := HL.out; have := HT.out; have := HS.out; omega); intro v4 w4 ho hb hg hat; (have H4 := Aside0.mk (And.intro ho (And.intro (H3.out.2.1.row H3.out.1 hg) (grown_new H3.out.2.2 hg (R_base H3.out.1))))); clear ho hb hg hat))
          go_roundw
          case rel => exact ⟨d + 1, _, _, by omega, by go_num, H4, ⟨HL.out.1, by have := HL.out.2.1; have := HT.out.2.1; simp; omega, HL.out.2.2⟩⟩
          case measure => simp [intOf]; omega
        | some pc =>
          obtain ⟨pl, c⟩ := pc
          have hl3 : loopF (intF (bytesOf s)) N st2 [] = ([], (p', some (pl, c))) := by rw [hl2]; rfl
          have HL := Aside0.mk hl3
          clear hone hone' hl2 hl3 b1 b2 b3 hx
          go_wp2_with (go_at_call 24; refine HO.out.mono ?_; rintro e w3 ⟨rfl, hr, hg⟩; (obtain ⟨h30, ev3, hrc3, hre3⟩ := id hr); (obtain ⟨g3, rfl, -⟩ := hre3); (obtain ⟨k0, k1, k2, k3, k4⟩ := hrc3.cells); (have H3 := Aside0.mk (And.intro hr (grown_trans HR.out.2.2 hg))); clear hr hg h30 hrc3)
          go_ret
          rw [HL.out]
          exact ⟨_, rfl, Kd.R_nil _ _ _ _ _, H3.out⟩
      · obtain rfl : d = N := by omega
        have hl3 : loopF (intF (bytesOf s)) d st2 [] = (out, st) := by have := HT.out.2.2; rw [Nat.sub_self] at this; exact this
        have HL := Aside0.mk hl3
        clear hl3
        go_wp2
        go_ret
        rw [HL.out]
        exact ⟨_, rfl, HR.out⟩
theorem nums_c {w : World} {base B : Nat} {s : ByteArray} {st : St} (most : Int) (h : Rd w base B s st) (hs : s.size ≤ 1000000000) (hp : st.1 ≤ s.size) (hbase : base ≤ w.heap.size) :
    Calls Tryd.prog 25 #[.pointer (some ⟨B, 0, none⟩), .int .i64 most] w fun e w' => ∃ v, e = .returned v ∧ (Kd.int .i64).R 3 w' w.heap.size (fun k => k ≠ B) v (listF (bytesOf s) (numF (bytesOf s)) most st).1 ∧ Rd w' base B s (listF (bytesOf s) (numF (bytesOf s)) most st).2 ∧ w.grownBy w' (some B) := by
  have H := Aside0.mk (list_num most h hs hp hbase)
  clear h hs hp hbase
  go_enter Tryd.func25, Tryd.ntmps25
  go_wp2_with (go_at_call 35; refine H.out.mono ?_; rintro e w1 ⟨v, rfl, h1⟩; (have H1 := Aside0.mk h1); clear h1)
  go_ret
  exact ⟨_, rfl, H1.out⟩
theorem ints_c {w : World} {base B : Nat} {s : ByteArray} {st : St} (most : Int) (h : Rd w base B s st) (hs : s.size ≤ 1000000000) (hp : st.1 ≤ s.size) (hbase : base ≤ w.heap.size) :
    Calls Tryd.prog 26 #[.pointer (some ⟨B, 0, none⟩), .int .i64 most] w fun e w' => ∃ v, e = .returned v ∧ (Kd.int .i64).R 3 w' w.heap.size (fun k => k ≠ B) v (listF (bytesOf s) (intF (bytesOf s)) most st).1 ∧ Rd w' base B s (listF (bytesOf s) (intF (bytesOf s)) most st).2 ∧ w.grownBy w' (some B) := by
  have H := Aside0.mk (list_int most h hs hp hbase)
  clear h hs hp hbase
  go_enter Tryd.func26, Tryd.ntmps26
  go_wp2_with (go_at_call 35; refine H.out.mono ?_; rintro e w1 ⟨v, rfl, h1⟩; (have H1 := Aside0.mk h1); clear h1)
  go_ret
  exact ⟨_, rfl, H1.out⟩
end Go.Proofs.YthiklbhplhdjmaaDoor.P
/- errors.As at the reader's own error, errors.Is at a number's flaw: Go's text of both walked (turned from a worked proof of the kit). -/
namespace Go.Proofs.YthiklbhplhdjmaaDoor.P
open Go.RowKit Go.Extern.Stop Go.Stop Go.Extern
set_option linter.unusedVariables false
set_option linter.unusedSimpArgs false
theorem wr_valueOf27 (t : Addr) (w : World) : (ReflectliteValue.unpack (.iface 57 (.pointer (some t)))).run Tryd.prog w
    = .ok (.agg #[.pointer (some ⟨1, 57, none⟩), .pointer (some ⟨w.heap.size, 0, none⟩), .int .u64 150]) (w.alloc (.cells #[.pointer (some t)] 57)) := by kernel_rfl
theorem wr_type27 (a : Addr) (w : World) : (ReflectliteValue.methodAny (ReflectliteValue.valueError "reflectlite.Value.Type" 0) (fun t _ _ _ => ReflectliteType.toType t) #[.agg #[.pointer (some ⟨1, 57, none⟩), .pointer (some a), .int .u64 150]]).run Tryd.prog w
    = .ok (.iface 84 (.agg #[.pointer (some ⟨1, 57, none⟩)])) w := by kernel_rfl
theorem wr_methodKind (h : Value) (w : World) : (Go.method 227 84 (.agg #[h]) "Kind").run Tryd.prog w = .ok (66, h) w := by kernel_rfl
theorem wr_kind27 (w : World) : ((ReflectliteType.abiMethod fun t => (fun a : Nat => Value.int IntKind.u8 (a : Int)) <$> Rtype.kind t) #[.pointer (some ⟨1, 57, none⟩)]).run Tryd.prog w = .ok (.int .u8 22) w := by kernel_rfl
theorem wr_kind25 (w : World) : ((ReflectliteType.abiMethod fun t => (fun a : Nat => Value.int IntKind.u8 (a : Int)) <$> Rtype.kind t) #[.pointer (some ⟨1, 52, none⟩)]).run Tryd.prog w = .ok (.int .u8 22) w := by kernel_rfl

theorem rlm (z : Sem Value) (f : TypeId → Addr → Nat → Nat → Sem Value) (v : Value) :
    ReflectliteValue.method z f #[v] = (do match ← ReflectliteValue.parts v with | none => z | some (t, a, fl) => f t a fl (fl % 32)) := rfl
theorem wr_parts27 (a : Addr) (w : World) : (ReflectliteValue.parts (.agg #[.pointer (some ⟨1, 57, none⟩), .pointer (some a), .int .u64 150])).run Tryd.prog w = .ok (some (57, a, 150)) w := by kernel_rfl
theorem wr_isNil27 (a p : Addr) (W : World) (ha : W.cell? a = some (.pointer (some p))) :
    (ReflectliteValue.method (ReflectliteValue.valueError "reflectlite.Value.IsNil" 0) ReflectliteValue.isNil #[.agg #[.pointer (some ⟨1, 57, none⟩), .pointer (some a), .int .u64 150]]).run Tryd.prog W = .ok (.bool false) W := by
  rw [rlm]
  simp only [Sem.run_bind, wr_parts27, Result.andThen]
  simp [ReflectliteValue.isNil, loadVar, isAgg, underlying, Tryd.underlying57, ha, Result.andThen]

theorem wr_methodElem (h : Value) (w : World) : (Go.method 227 84 (.agg #[h]) "Elem").run Tryd.prog w = .ok (79, .agg #[h]) w := by kernel_rfl
theorem wr_methodImplements (h : Value) (w : World) : (Go.method 227 84 (.agg #[h]) "Implements").run Tryd.prog w = .ok (80, .agg #[h]) w := by kernel_rfl
theorem wr_methodAssignableTo (h : Value) (w : World) : (Go.method 227 84 (.agg #[h]) "AssignableTo").run Tryd.prog w = .ok (77, .agg #[h]) w := by kernel_rfl
theorem wr_elem27 (w : World) : (ReflectliteType.method ReflectliteType.elem #[.agg #[.pointer (some ⟨1, 57, none⟩)]]).run Tryd.prog w = .ok (.iface 84 (.agg #[.pointer (some ⟨1, 52, none⟩)])) w := by kernel_rfl
theorem wr_implements25 (w : World) : (ReflectliteType.relation "Implements" ReflectliteType.implements_ #[.agg #[.pointer (some ⟨1, 52, none⟩)], .iface 84 (.agg #[.pointer (some ⟨1, 47, none⟩)])]).run Tryd.prog w = .ok (.bool true) w := by kernel_rfl
theorem wr_typeOf25 (v : Value) (w : World) : (ReflectliteType.typeOf #[.iface 52 v]).run Tryd.prog w = .ok (.iface 84 (.agg #[.pointer (some ⟨1, 52, none⟩)])) w := by kernel_rfl
theorem wr_assignable25 (w : World) : (ReflectliteType.relation "AssignableTo" ReflectliteType.assignableTo #[.agg #[.pointer (some ⟨1, 52, none⟩)], .iface 84 (.agg #[.pointer (some ⟨1, 52, none⟩)])]).run Tryd.prog w = .ok (.bool true) w := by kernel_rfl
theorem wr_valueOf25 (e : Addr) (w : World) : (ReflectliteValue.unpack (.iface 52 (.pointer (some e)))).run Tryd.prog w
    = .ok (.agg #[.pointer (some ⟨1, 52, none⟩), .pointer (some ⟨w.heap.size, 0, none⟩), .int .u64 150]) (w.alloc (.cells #[.pointer (some e)] 52)) := by kernel_rfl

theorem wr_elemOf27 (w : World) : (Rtype.elem? 57).run Tryd.prog w = .ok (some 52) w := by kernel_rfl
theorem wr_mk25 (p : Addr) (w : World) : (ReflectliteValue.mk 52 p ReflectliteValue.flagAddr).run Tryd.prog w = .ok (.agg #[.pointer (some ⟨1, 52, none⟩), .pointer (some p), .int .u64 406]) w := by kernel_rfl
theorem wr_elemV27 (a p : Addr) (W : World) (ha : W.cell? a = some (.pointer (some p))) :
    (ReflectliteValue.method (ReflectliteValue.valueError "reflectlite.Value.Elem" 0) ReflectliteValue.elem #[.agg #[.pointer (some ⟨1, 57, none⟩), .pointer (some a), .int .u64 150]]).run Tryd.prog W
      = .ok (.agg #[.pointer (some ⟨1, 52, none⟩), .pointer (some p), .int .u64 406]) W := by
  rw [rlm]
  simp only [Sem.run_bind, wr_parts27, Result.andThen]
  simp [ReflectliteValue.elem, loadVar, isAgg, underlying, Tryd.underlying57, ha, Result.andThen, wr_elemOf27, wr_mk25]
theorem rls (v x : Value) : ReflectliteValue.set #[v, x] = (do
    let (some (dst, a, fl), some (src, b, _)) := (← ReflectliteValue.parts v, ← ReflectliteValue.parts x)
      | unsupported (.noEntry "extern/(internal/reflectlite.Value).Set.zeroValue")
    if fl / ReflectliteValue.flagAddr % 2 == 0 then unsupported (.noEntry "extern/(internal/reflectlite.Value).Set.unaddressable")
    let val ← loadVar src b
    if ← Rtype.directlyAssignable dst src then storeVar dst a val
    else if ← Rtype.implements dst src then
      if (← Rtype.kind src) == 20 then
        match val with
        | .nilIface => unsupported (.noEntry "extern/reflectlite: a nil value of one interface type handed on as a value of another")
        | _ => storeVar dst a val
      else storeVar dst a (.iface src val)
    else panicString ("reflectlite.Set: value of type " ++ (← Rtype.spelt src) ++ " is not assignable to type " ++ (← Rtype.spelt dst))
    pure (.tuple #[])) := rfl
theorem wr_parts25a (a : Addr) (w : World) : (ReflectliteValue.parts (.agg #[.pointer (some ⟨1, 52, none⟩), .pointer (some a), .int .u64 406])).run Tryd.prog w = .ok (some (52, a, 406)) w := by kernel_rfl
theorem wr_parts25 (a : Addr) (w : World) : (ReflectliteValue.parts (.agg #[.pointer (some ⟨1, 52, none⟩), .pointer (some a), .int .u64 150])).run Tryd.prog w = .ok (some (52, a, 150)) w := by kernel_rfl
theorem wr_direct25 (w : World) : (Rtype.directlyAssignable 52 52).run Tryd.prog w = .ok true w := by kernel_rfl
theorem wr_set25 (ta b e : Addr) (old : Value) (W : World) (hb : W.cell? b = some (.pointer (some e))) (ht : W.cell? ta = some old) (hf : W.frozen? ta = false) :
    (ReflectliteValue.set #[.agg #[.pointer (some ⟨1, 52, none⟩), .pointer (some ta), .int .u64 406], .agg #[.pointer (some ⟨1, 52, none⟩), .pointer (some b), .int .u64 150]]).run Tryd.prog W
      = .ok (.tuple #[]) (W.setCell ta (.pointer (some e))) := by
  rw [rls]
  simp only [Sem.run_bind, wr_parts25a, wr_parts25, Result.andThen]
  simp [ReflectliteValue.flagAddr, loadVar, isAgg, underlying, Tryd.underlying52, hb, Result.andThen, wr_direct25, storeVar, Value.cells, storeCells, Addr.add]
  rw [run_store Tryd.prog W ta _ _ (by rfl)]
  simp [ht, hf]

set_option maxHeartbeats 4000000 in
theorem as_hit (e t : Addr) (old : Value) (w : World) (hg : w.cell? ⟨0, 0, none⟩ = some (.iface 84 (.agg #[.pointer (some ⟨1, 47, none⟩)]))) (ht0 : w.cell? t = some old) (hf0 : w.frozen? t = false) :
    Calls Tryd.prog 36 #[.iface 52 (.pointer (some e)), .iface 57 (.pointer (some t))] w fun ev w' => ev = .returned (.bool true) ∧ w' = ((((w.alloc (.cells #[.pointer (some t)] 57)).alloc (.cells #[.pointer (some ⟨1, 57, none⟩), .pointer (some ⟨w.heap.size, 0, none⟩), .int .u64 150] 71)).alloc (.cells #[.pointer (some ⟨1, 57, none⟩), .pointer (some ⟨w.heap.size, 0, none⟩), .int .u64 150] 71)).alloc (.cells #[.pointer (some e)] 52)).setCell t (.pointer (some e)) := by
  have h6 := @run_callFunc_extern Tryd.prog 42 _ (fun args => ReflectliteValue.unpack (args.getD 0 (.tuple #[]))) Tryd.func42 (by kernel_rfl) (by kernel_rfl) (by kernel_rfl) (by kernel_rfl)
  have h7 := @run_callFunc_extern Tryd.prog 43 _ (ReflectliteValue.methodAny (ReflectliteValue.valueError "reflectlite.Value.Type" 0) (fun t _ _ _ => ReflectliteType.toType t)) Tryd.func43 (by kernel_rfl) (by kernel_rfl) (by kernel_rfl) (by kernel_rfl)
  have h8 := @run_callFunc_extern Tryd.prog 44 _ (ReflectliteValue.method (ReflectliteValue.valueError "reflectlite.Value.IsNil" 0) ReflectliteValue.isNil) Tryd.func44 (by kernel_rfl) (by kernel_rfl) (by kernel_rfl) (by kernel_rfl)
  have h27 := @run_callFunc_extern Tryd.prog 66 _ (ReflectliteType.abiMethod fun t => do pure (.int .u8 (← Rtype.kind t))) Tryd.func66 (by kernel_rfl) (by kernel_rfl) (by kernel_rfl) (by kernel_rfl)
  have h37 := @run_callFunc_extern Tryd.prog 79 _ (ReflectliteType.method ReflectliteType.elem) Tryd.func79 (by kernel_rfl) (by kernel_rfl) (by kernel_rfl) (by kernel_rfl)
  have h38 := @run_callFunc_extern Tryd.prog 80 _ (ReflectliteType.relation "Implements" ReflectliteType.implements_) Tryd.func80 (by kernel_rfl) (by kernel_rfl) (by kernel_rfl) (by kernel_rfl)
  have h10 := @run_callFunc_extern Tryd.prog 46 _ ReflectliteType.typeOf Tryd.func46 (by kernel_rfl) (by kernel_rfl) (by kernel_rfl) (by kernel_rfl)
  have h35 := @run_callFunc_extern Tryd.prog 77 _ (ReflectliteType.relation "AssignableTo" ReflectliteType.assignableTo) Tryd.func77 (by kernel_rfl) (by kernel_rfl) (by kernel_rfl) (by kernel_rfl)
  have h11 := @run_callFunc_extern Tryd.prog 49 _ (ReflectliteValue.method (ReflectliteValue.valueError "reflectlite.Value.Elem" 0) ReflectliteValue.elem) Tryd.func49 (by kernel_rfl) (by kernel_rfl) (by kernel_rfl) (by kernel_rfl)
  have h12 := @run_callFunc_extern Tryd.prog 50 _ ReflectliteValue.set Tryd.func50 (by kernel_rfl) (by kernel_rfl) (by kernel_rfl) (by kernel_rfl)
  have tO := wr_typeOf25
  have mA := wr_methodAssignableTo
  have a25 := wr_assignable25
  have v25 := wr_valueOf25
  have f6 := wr_valueOf27
  have f7 := wr_type27
  have mK := wr_methodKind
  have mE := wr_methodElem
  have mI := wr_methodImplements
  have k27 := wr_kind27
  have k25 := wr_kind25
  have e27 := wr_elem27
  have i25 := wr_implements25
  have n8 := wr_isNil27 ⟨w.heap.size, 0, none⟩ t ((w.alloc (.cells #[.pointer (some t)] 57)).alloc (.cells #[.pointer (some ⟨1, 57, none⟩), .pointer (some ⟨w.heap.size, 0, none⟩), .int .u64 150] 71)) (by simp)
  have hlt : 0 < w.heap.size := by
    rcases Nat.eq_zero_or_pos w.heap.size with h0 | h
    · simp [World.cell?, h0] at hg
    · exact h
  have hg2 : ((w.alloc (.cells #[.pointer (some t)] 57)).alloc (.cells #[.pointer (some ⟨1, 57, none⟩), .pointer (some ⟨w.heap.size, 0, none⟩), .int .u64 150] 71)).cell? ⟨0, 0, none⟩ = some (.iface 84 (.agg #[.pointer (some ⟨1, 47, none⟩)])) := by
    rw [World.cell?_alloc_lt _ _ ⟨0, 0, none⟩ (by simp), World.cell?_alloc_lt _ _ ⟨0, 0, none⟩ hlt]; exact hg
  have htl : t.block < w.heap.size := by
    rcases Nat.lt_or_ge t.block w.heap.size with h | h
    · exact h
    · simp [World.cell?, Array.getElem?_eq_none h] at ht0
  have el := wr_elemV27 ⟨w.heap.size, 0, none⟩ t (((w.alloc (.cells #[.pointer (some t)] 57)).alloc (.cells #[.pointer (some ⟨1, 57, none⟩), .pointer (some ⟨w.heap.size, 0, none⟩), .int .u64 150] 71)).alloc (.cells #[.pointer (some ⟨1, 57, none⟩), .pointer (some ⟨w.heap.size, 0, none⟩), .int .u64 150] 71)) (by rw [World.cell?_alloc_lt _ _ ⟨w.heap.size, 0, none⟩ (by simp; omega)]; simp)
  have st := wr_set25 t ⟨w.heap.size + 1 + 1 + 1, 0, none⟩ e old ((((w.alloc (.cells #[.pointer (some t)] 57)).alloc (.cells #[.pointer (some ⟨1, 57, none⟩), .pointer (some ⟨w.heap.size, 0, none⟩), .int .u64 150] 71)).alloc (.cells #[.pointer (some ⟨1, 57, none⟩), .pointer (some ⟨w.heap.size, 0, none⟩), .int .u64 150] 71)).alloc (.cells #[.pointer (some e)] 52))
    (by rw [World.cell?_alloc_at _ _ _ _ (by simp)]; rfl)
    (by rw [World.cell?_alloc_lt _ _ t (by simp; omega), World.cell?_alloc_lt _ _ t (by simp; omega), World.cell?_alloc_lt _ _ t (by simp; omega), World.cell?_alloc_lt _ _ t htl]; exact ht0)
    (by rw [World.frozen?_alloc_old _ _ t (by simp; omega), World.frozen?_alloc_old _ _ t (by simp; omega), World.frozen?_alloc_old _ _ t (by simp; omega), World.frozen?_alloc_old _ _ t (Nat.ne_of_lt htl)]; exact hf0)
  go_enter Tryd.func36, Tryd.ntmps36
  go_wp2
  refine wp_loop_rounds 1 ?_
  rw [rounds_succ]
  go_wp2
  go_ret
  exact ⟨rfl, rfl⟩
end Go.Proofs.YthiklbhplhdjmaaDoor.P
/- errors.Is at the reader's own error. -/
namespace Go.Proofs.YthiklbhplhdjmaaDoor.P
open Go.RowKit Go.Extern.Stop Go.Stop Go.Extern
set_option linter.unusedVariables false
set_option linter.unusedSimpArgs false

theorem wr_typeOfF (v : Value) (w : World) : (ReflectliteType.typeOf #[.iface 58 v]).run Tryd.prog w = .ok (.iface 84 (.agg #[.pointer (some ⟨1, 58, none⟩)])) w := by kernel_rfl
theorem wr_methodComparable (h : Value) (w : World) : (Go.method 227 84 (.agg #[h]) "Comparable").run Tryd.prog w = .ok (78, .agg #[h]) w := by kernel_rfl
theorem wr_comparableF (w : World) : ((ReflectliteType.method fun t => do Rtype.noPackHeld "Comparable" t; (fun a => Value.bool a.comparable) <$> typeInfo t) #[.agg #[.pointer (some ⟨1, 58, none⟩)]]).run Tryd.prog w = .ok (.bool true) w := by kernel_rfl
theorem wr_eq1 (g : Nat) (c : Int) (W : World) : (binOp .eql 47 (.iface 52 (.pointer (some ⟨g, 0, none⟩))) (.iface 58 (.int .i64 c))).run Tryd.prog W = .ok (.bool false) W := by kernel_rfl
theorem wr_eq2 (a b : Int) (W : World) : (binOp .eql 47 (.iface 58 (.int .i64 a)) (.iface 58 (.int .i64 b))).run Tryd.prog W = .ok (.bool (a == b)) W := by kernel_rfl
theorem wr_ta1 (v : Value) (W : World) : (Instr.typeAssert (.iface 52 v) 47 96 true).run Tryd.prog W = .ok (.tuple #[.nilIface, .bool false]) W := run_typeAssert_lacksB Tryd.underlying96 (by decide +kernel) (by kernel_rfl) _ _ _
theorem wr_ta2 (v : Value) (W : World) : (Instr.typeAssert (.iface 52 v) 47 91 true).run Tryd.prog W = .ok (.tuple #[.iface 52 v, .bool true]) W := by kernel_rfl
theorem wr_ta3 (v : Value) (W : World) : (Instr.typeAssert (.iface 58 v) 47 96 true).run Tryd.prog W = .ok (.tuple #[.nilIface, .bool false]) W := run_typeAssert_lacksB Tryd.underlying96 (by decide +kernel) (by kernel_rfl) _ _ _
theorem wr_ta4 (v : Value) (W : World) : (Instr.typeAssert (.iface 58 v) 47 91 true).run Tryd.prog W = .ok (.tuple #[.nilIface, .bool false]) W := run_typeAssert_lacksB Tryd.underlying91 (by decide +kernel) (by kernel_rfl) _ _ _
theorem wr_ta5 (v : Value) (W : World) : (Instr.typeAssert (.iface 58 v) 47 93 true).run Tryd.prog W = .ok (.tuple #[.nilIface, .bool false]) W := run_typeAssert_lacksB Tryd.underlying93 (by decide +kernel) (by kernel_rfl) _ _ _
theorem wr_methodUnwrap (g : Nat) (W : World) : (Go.method 227 52 (.pointer (some ⟨g, 0, none⟩)) "Unwrap").run Tryd.prog W = .ok (70, .pointer (some ⟨g, 0, none⟩)) W := by kernel_rfl
set_option maxHeartbeats 2000000 in
set_option maxRecDepth 100000 in
theorem is_c {w : World} {g : Nat} {pl : Int} {c c' : Int} (hg : w.heap[g]? = some (.cells #[.int .i64 pl, .iface 58 (.int .i64 c)] 54 (0, 0))) :
    Calls Tryd.prog 37 #[.iface 52 (.pointer (some ⟨g, 0, none⟩)), .iface 58 (.int .i64 c')] w fun e w' => e = .returned (.bool (decide (c = c'))) ∧ ∃ q, w' = w.drewN q := by
  have h10 := @run_callFunc_extern Tryd.prog 46 _ ReflectliteType.typeOf Tryd.func46 (by kernel_rfl) (by kernel_rfl) (by kernel_rfl) (by kernel_rfl)
  have h78 := @run_callFunc_extern Tryd.prog 78 _ (ReflectliteType.method fun t => do Rtype.noPackHeld "Comparable" t; pure (.bool (← typeInfo t).comparable)) Tryd.func78 (by kernel_rfl) (by kernel_rfl) (by kernel_rfl) (by kernel_rfl)
  have tO := wr_typeOfF
  have cF := wr_comparableF
  have mC := wr_methodComparable
  have k0 : w.cell? ⟨g, 0, none⟩ = some (.int .i64 pl) := by simp [World.cell?, hg]
  have k1 : w.cell? ⟨g, 1, none⟩ = some (.iface 58 (.int .i64 c)) := by simp [World.cell?, hg]
  have e1 := wr_eq1
  have e2 := wr_eq2
  have t1 := wr_ta1
  have t2 := wr_ta2
  have t3 := wr_ta3
  have t4 := wr_ta4
  have t5 := wr_ta5
  have mU := wr_methodUnwrap
  clear hg
  by_cases hcc : c = c'
  · have hcb : (c == c') = true := beq_iff_eq.mpr hcc
    clear hcc
    go_enter Tryd.func37, Tryd.ntmps37
    go_wp2
    refine wp_loop_rounds 2 ?_
    rw [rounds_succ]
    go_wp2
    rw [rounds_succ]
    go_wp2
    go_ret
    exact ⟨by rw [decide_eq_true (beq_iff_eq.mp hcb)]; rfl, by first | exact ⟨0, rfl⟩ | exact ⟨_, rfl⟩⟩
  · have hcb : (c == c') = false := beq_eq_false_iff_ne.mpr hcc
    clear hcc
    go_enter Tryd.func37, Tryd.ntmps37
    go_wp2
    refine wp_loop_rounds 2 ?_
    rw [rounds_succ]
    go_wp2
    rw [rounds_succ]
    go_wp2
    go_ret
    exact ⟨by rw [decide_eq_false (beq_eq_false_iff_ne.mp hcb)]; rfl, by first | exact ⟨0, rfl⟩ | exact ⟨_, rfl⟩⟩
end Go.Proofs.YthiklbhplhdjmaaDoor.P
/- The wire's reader, walked: End. -/
namespace Go.Proofs.YthiklbhplhdjmaaDoor.P
open Go.RowKit Go.Proofs.YthiklbhplhdjmaaDoorW.PrintWords Go.Proofs.YthiklbhplhdjmaaDoorW.PrintLast Go.Proofs.YthiklbhplhdjmaaDoorW.PrintMore
open Wr
set_option linter.unusedVariables false
set_option linter.unusedSimpArgs false

/-- the one variable of the library's that errors.As reads -/
def EV (w : World) : Prop := w.cell? ⟨0, 0, none⟩ = some (.iface 84 (.agg #[.pointer (some ⟨1, 47, none⟩)]))
theorem EV.pos {w : World} (h : EV w) : 0 < w.heap.size := World.block_lt_of_cell? w _ h
theorem EV.below {w w1 : World} {b : Nat} (h : EV w) (hb : Below b w w1) (h0 : 0 < b) : EV w1 := (hb.cell (p := ⟨0, 0, none⟩) h0).trans h
theorem end_nil {w : World} :
    Calls Tryd.prog 27 #[.pointer none] w fun e w' => e = .returned (.tuple #[.int .i64 1, .int .i64 0]) ∧ ∃ q, w' = w.drewN q := by
  go_enter Tryd.func27, Tryd.ntmps27
  go_wp2
  go_ret2
  exact ⟨rfl, by first | exact ⟨0, rfl⟩ | exact ⟨_, rfl⟩ | exact ⟨_, World.drewN_drewN _ _ _⟩⟩
theorem end_ok {w : World} {B : Nat} {s : ByteArray} {p : Nat} (h : RC w B s p .nilIface) :
    Calls Tryd.prog 27 #[.pointer (some ⟨B, 0, none⟩)] w fun e w' => e = .returned (.tuple #[.int .i64 (if p < s.size then 13 else 0), .int .i64 (p : Int)]) ∧ ∃ q, w' = w.drewN q := by
  obtain ⟨c0, c1, c2, f1, f2⟩ := h.cells
  clear h
  by_cases hlt : p < s.size
  · have d1 : decide (p < s.size) = true := decide_eq_true hlt
    rw [if_pos hlt]
    clear hlt
    go_enter Tryd.func27, Tryd.ntmps27
    go_wp2
    go_quiet (fail)
    go_wp2
    go_quiet (fail)
    go_wp2
    go_ret2
    exact ⟨rfl, by first | exact ⟨0, rfl⟩ | exact ⟨_, rfl⟩ | exact ⟨_, World.drewN_drewN _ _ _⟩⟩
  · have d1 : decide (p < s.size) = false := decide_eq_false hlt
    rw [if_neg hlt]
    clear hlt
    go_enter Tryd.func27, Tryd.ntmps27
    go_wp2
    go_quiet (fail)
    go_wp2
    go_quiet (fail)
    go_wp2
    go_ret2
    exact ⟨rfl, by first | exact ⟨0, rfl⟩ | exact ⟨_, rfl⟩ | exact ⟨_, World.drewN_drewN _ _ _⟩⟩
theorem wr_idx0 (W : World) : (Instr.index 59 (.agg #[.int .i64 10, .int .i64 11]) (.int .i64 0)).run Tryd.prog W = .ok (.int .i64 10) W := by kernel_rfl
theorem wr_idx1 (W : World) : (Instr.index 59 (.agg #[.int .i64 10, .int .i64 11]) (.int .i64 1)).run Tryd.prog W = .ok (.int .i64 11) W := by kernel_rfl
theorem as_c {w : World} (hE : EV w) (g : Nat) :
    Calls Tryd.prog 36 #[.iface 52 (.pointer (some ⟨g, 0, none⟩)), .iface 57 (.pointer (some ⟨w.heap.size, 0, none⟩))] (w.alloc (.cells #[.pointer none] 52)) fun e w' => e = .returned (.bool true) ∧ Below w.heap.size w w' ∧ w'.cell? ⟨w.heap.size, 0, none⟩ = some (.pointer (some ⟨g, 0, none⟩)) := by
  have hp := hE.pos
  have hb : Below w.heap.size w (w.alloc (.cells #[.pointer none] 52)) := (Below.refl _ _).alloc (Nat.le_refl _) _
  have hcell : (w.alloc (.cells #[.pointer none] 52)).heap[w.heap.size]? = some (.cells #[.pointer none] 52 (0, 0)) := Array.getElem?_push_size
  refine (as_hit ⟨g, 0, none⟩ ⟨w.heap.size, 0, none⟩ (.pointer none) _ (hE.below hb hp) (by simp) (by simp only [World.frozen?, hcell]; rfl)).mono ?_
  rintro e w' ⟨rfl, rfl⟩
  refine ⟨rfl, ?_, ?_⟩
  · refine Below.setCell (p := ⟨w.heap.size, 0, none⟩) ?_ (Nat.le_refl _) _
    refine Below.alloc (Below.alloc (Below.alloc (Below.alloc hb ?_ _) ?_ _) ?_ _) ?_ _ <;> simp <;> omega
  · have hs : ∀ (W : World) (v v0 : Value) (t : TypeId), W.heap[w.heap.size]? = some (.cells #[v0] t (0, 0)) → (W.setCell ⟨w.heap.size, 0, none⟩ v).cell? ⟨w.heap.size, 0, none⟩ = some v := by
      intro W v v0 t h
      simp [World.setCell, World.cell?, Array.getElem?_modify, h]
    refine hs _ _ (.pointer none) 52 ?_
    rw [World.heap_alloc_at_lt _ _ _ (by simp; omega), World.heap_alloc_at_lt _ _ _ (by simp; omega), World.heap_alloc_at_lt _ _ _ (by simp; omega), World.heap_alloc_at_lt _ _ _ (by simp)]
    exact Array.getElem?_push_size
theorem is_at {w W : World} {g : Nat} {pl : Int} {c c' : Int} (hg : w.heap[g]? = some (.cells #[.int .i64 pl, .iface 58 (.int .i64 c)] 54 (0, 0))) (e : W.heap = w.heap) :
    Calls Tryd.prog 37 #[.iface 52 (.pointer (some ⟨g, 0, none⟩)), .iface 58 (.int .i64 c')] W fun e w' => e = .returned (.bool (decide (c = c'))) ∧ ∃ q, w' = W.drewN q := is_c (by rw [e]; exact hg)
set_option maxHeartbeats 4000000 in
set_option maxRecDepth 100000 in
theorem end_err {w : World} {B : Nat} {s : ByteArray} {p g pl : Nat} {c : Int} (hE : EV w) (h : RC w B s p (.iface 52 (.pointer (some ⟨g, 0, none⟩)))) (hg : w.heap[g]? = some (.cells #[.int .i64 (pl : Int), .iface 58 (.int .i64 c)] 54 (0, 0))) (hc : c = 10 ∨ c = 11 ∨ c = 12) :
    Calls Tryd.prog 27 #[.pointer (some ⟨B, 0, none⟩)] w fun e w' => e = .returned (.tuple #[.int .i64 c, .int .i64 (pl : Int)]) ∧ Below w.heap.size w w' := by
  obtain ⟨c0, c1, c2, f1, f2⟩ := h.cells
  have hB := h.lt
  have i0 := wr_idx0
  have i1 := wr_idx1
  have HG := Aside0.mk (And.intro hE hg)
  have hglt : g < w.heap.size := by
    rcases Nat.lt_or_ge g w.heap.size with h | h
    · exact h
    · simp [Array.getElem?_eq_none h] at hg
  clear h hg hE
  rcases hc with rfl | rfl | rfl
  all_goals
    go_enter Tryd.func27, Tryd.ntmps27
    go_wp2_with (go_at_call 36; refine (as_c HG.out.1 g).mono ?_; rintro e w1 ⟨rfl, hb, k6⟩; (have hg1 := (hb.block g hglt).trans HG.out.2); (have k7 : w1.cell? ⟨g, 0, none⟩ = some (.int .i64 (pl : Int)) := by simp [World.cell?, hg1]); (have k8 : w1.cell? ⟨B, 2, none⟩ = _ := (hb.cell (p := ⟨B, 2, none⟩) hB).trans c2); (have H1 := Aside0.mk (And.intro hb hg1)); clear hb hg1)
    refine wp_loop_rounds 3 ?_
    rw [rounds_succ]
    go_wp2_with (go_at_call 37; refine (is_at H1.out.2 (by rfl)).mono ?_; rintro e w2 ⟨rfl, q2, rfl⟩)
    rw [rounds_succ]
    go_wp2_with (go_at_call 37; refine (is_at H1.out.2 (by rfl)).mono ?_; rintro e w2 ⟨rfl, q2, rfl⟩)
    rw [rounds_succ]
    go_wp2
    go_ret2
    exact ⟨rfl, by first | exact pw_below_drewN H1.out.1 _ | exact pw_below_drewN (pw_below_drewN H1.out.1 _) _⟩
theorem end_c {w : World} {base B : Nat} {s : ByteArray} {st : St} (hE : EV w) (h : Rd w base B s st) (hok : ∀ pc, st.2 = some pc → pc.2 = 10 ∨ pc.2 = 11 ∨ pc.2 = 12) :
    Calls Tryd.prog 27 #[.pointer (some ⟨B, 0, none⟩)] w fun e w' => e = .returned (.tuple #[.int .i64 (endF (bytesOf s) st).1, .int .i64 (endF (bytesOf s) st).2]) ∧ Below w.heap.size w w' := by
  obtain ⟨p, er⟩ := st
  obtain ⟨h0, ev, h1, h2⟩ := h
  cases er with
  | none =>
    obtain rfl : ev = .nilIface := h2
    refine (end_ok h1).mono ?_
    rintro e w' ⟨rfl, q, rfl⟩
    refine ⟨?_, pw_below_drewN (Below.refl _ _) q⟩
    simp only [endF, bytesOf_length]
    split <;> rfl
  | some pc =>
    obtain ⟨pl, c⟩ := pc
    obtain ⟨g, rfl, -, -, hg⟩ := h2
    exact end_err hE h1 hg (hok (pl, c) rfl)
end Go.Proofs.YthiklbhplhdjmaaDoor.P
/- What the wire's writers come to: Num, Int, and the document's, likewise. -/
namespace Go.Proofs.YthiklbhplhdjmaaDoor.P
open Go.RowKit Go.Proofs.YthiklbhplhdjmaaDoorW.PrintWords Go.Proofs.YthiklbhplhdjmaaDoorW.PrintLast Go.Proofs.YthiklbhplhdjmaaDoorW.PrintMore
open Wr
set_option linter.unusedVariables false
set_option linter.unusedSimpArgs false

theorem sn_toList (a : List Int) : (strOfNums a).toList = [] ↔ a = [] := by
  rw [Lib.toList_data]
  simp [strOfNums]
theorem wnum_l0 : ∀ (n : Nat) (acc : List Int), (n : Int) ≤ MX → acc.length + (vb n).length ≤ 1000 → Ev (fun k => wire_Num.l0 k (n : Int) acc) (strOfNums (acc ++ vb n)) := by
  intro n
  induction n using Nat.strongRecOn with
  | ind n ih =>
    intro acc hn hl
    simp only [MX] at hn
    have hv := vb_len_pos n
    refine Ev.step (fun k => by rw [wire_Num.l0]) ?_
    by_cases h : n < 128
    · refine Ev.ifn (by omega) (Ev.ifp (by omega) (Ev.val ?_))
      rw [vb_lo h, show ((n : Int) % 256) = (n : Int) by omega]
    · refine Ev.ifp (by omega) (Ev.ifp (by omega) ?_)
      have e : (wrap64 (Int.tmod (n : Int) 128 + 128)) % 256 = ((n % 128 + 128 : Nat) : Int) := by
        rw [Int.tmod_eq_emod_of_nonneg (by omega)]
        unfold wrap64
        omega
      rw [e, show ((n : Int) / 128) = ((n / 128 : Nat) : Int) by omega]
      have hv2 : (vb n).length = (vb (n / 128)).length + 1 := by rw [vb_hi h]; rfl
      have := ih (n / 128) (by omega) (acc ++ [((n % 128 + 128 : Nat) : Int)]) (by simp only [MX]; omega) (by rw [List.length_append, List.length_singleton]; omega)
      rw [vb_hi h]
      simpa using this
theorem wnum_ev (n : Int) : Ev (fun k => wire_Num.f k n) (strOfNums (encN n)) := by
  unfold wire_Num.f
  by_cases h0 : n < 0
  · refine Ev.ifp h0 (Ev.step (fun k => by rw [wire_Num.j0]) (Ev.ifp rfl (Ev.val ?_)))
    rw [encN_nil.2 (.inl h0)]; rfl
  · refine Ev.ifn h0 (Ev.step (fun k => by rw [wire_Num.j0]) ?_)
    by_cases h1 : n > 1125899906842624
    · refine Ev.ifp (decide_eq_true h1) (Ev.val ?_)
      rw [encN_nil.2 (.inr h1)]; rfl
    · refine Ev.ifn (by simpa using h1) ?_
      obtain ⟨m, rfl⟩ : ∃ m : Nat, n = (m : Int) := ⟨n.toNat, by omega⟩
      have hm : (m : Int) ≤ MX := by simp only [MX]; omega
      rw [encN_nat hm]
      have := wnum_l0 m [] hm (by have := vb_len8 hm; simp; omega)
      simpa using this
theorem wint_ev (n : Int) : Ev (fun k => wire_Int.f k n) (strOfNums (encI n)) := by
  unfold wire_Int.f encI
  by_cases h0 : n < -1125899906842624
  · rw [if_pos (.inl h0)]
    refine Ev.ifp h0 (Ev.step (fun k => by rw [wire_Int.j0]) ?_)
    exact Ev.ifp rfl (Ev.val rfl)
  · refine Ev.ifn h0 (Ev.step (fun k => by rw [wire_Int.j0]) ?_)
    by_cases h1 : n > 1125899906842624
    · rw [if_pos (.inr h1)]
      exact Ev.ifp (decide_eq_true h1) (Ev.val rfl)
    · rw [if_neg (by simp only [MX]; omega)]
      refine Ev.ifn (by simpa using h1) ?_
      by_cases h2 : n < 0
      · refine Ev.ifp h2 ?_
        rw [if_pos h2, show wrap64 (wrap64 (-2 * n) - 1) = -2 * n - 1 by unfold wrap64; omega]
        exact Ev.bind (wnum_ev _) (Ev.val rfl)
      · refine Ev.ifn h2 ?_
        rw [if_neg h2, show wrap64 (2 * n) = 2 * n by unfold wrap64; omega]
        exact Ev.bind (wnum_ev _) (Ev.val rfl)
theorem encN_len (n : Int) : (encN n).length ≤ 8 := by
  by_cases h : n < 0 ∨ n > MX
  · rw [encN_nil.2 h]; simp
  · rw [encN_in (by omega) (by omega)]
    exact vb_len8 (by omega)
theorem encI_len (n : Int) : (encI n).length ≤ 8 := by
  unfold encI
  split
  · simp
  · split <;> exact encN_len _
/-- contracts with closed values -/
theorem wnum_c (n : Int) (w : World) : Calls Tryd.prog 14 #[.int .i64 n] w fun e w' => e = .returned (.string (strOfNums (encN n))) ∧ Below w.heap.size w w' := by
  obtain ⟨k, hk⟩ := (wnum_ev n).rounds
  exact wire_Num.calls k n _ w hk
theorem wint_c (n : Int) (w : World) : Calls Tryd.prog 16 #[.int .i64 n] w fun e w' => e = .returned (.string (strOfNums (encI n))) ∧ Below w.heap.size w w' := by
  obtain ⟨k, hk⟩ := (wint_ev n).rounds
  exact wire_Int.calls k n _ w hk
end Go.Proofs.YthiklbhplhdjmaaDoor.P
/-
  DERIVED: THE SHELF's CONTRACTS AT THIS DUMP, IN PLAIN WORDS (tools/lay-plain.mjs out of 'YthiklbhplhdjmaaDoorShelf.lean', which tools/lay-shelf.mjs wrote): THE SAME DECLARATIONS UNDER THE SAME NAMES: 'import', 'namespace', 'open', 'def', 'theorem' AND NOTHING ELSE: no command of the shelf's: FOR A HAND-IN. Each laying: the table of numbers ('.._ren') and one theorem, a field a fact of the dump's own or the kernel's comparison; each contract: ONE APPLICATION.
-/
namespace Go.Proofs
open Go.Shelf
def Tryd.lays169_ren : Go.Shelf.Ren := ⟨fun | 169 => 41 | n => n, fun | 70 => 63 | 9 => 9 | 0 => 0 | 72 => 65 | 37 => 39 | 127 => 82 | 3 => 3 | 5 => 5 | n => n, fun | n => n⟩
theorem Tryd.lays169 : Go.Proofs.Lays.n169 Tryd.prog Tryd.lays169_ren := {
  mixed := by kernel_rfl
  f169 := Tryd.func41.trans (congrArg some (by kernel_rfl))
  t0 := Tryd.underlying0
  a0 := Tryd.isAgg0
  z0 := Tryd.sizeOf0
  v0 := Tryd.zeroValue0
  t3 := Tryd.underlying3
  a3 := Tryd.isAgg3
  z3 := Tryd.sizeOf3
  v3 := Tryd.zeroValue3
  t9 := Tryd.underlying9
  a9 := Tryd.isAgg9
  z9 := Tryd.sizeOf9
  v9 := Tryd.zeroValue9
  t37 := Tryd.underlying39
  a37 := Tryd.isAgg39
  z37 := Tryd.sizeOf39
  v37 := Tryd.zeroValue39
  t70 := Tryd.underlying63
  a70 := Tryd.isAgg63
  z70 := Tryd.sizeOf63
  v70 := Tryd.zeroValue63
  t72 := Tryd.underlying65
  a72 := Tryd.isAgg65
  z72 := Tryd.sizeOf65
  v72 := Tryd.zeroValue65
  t127 := Tryd.underlying82
  a127 := Tryd.isAgg82
  z127 := Tryd.sizeOf82
  v127 := Tryd.zeroValue82 }
theorem Tryd.Builder_Extra_169 : Builder.Extra Tryd.prog Tryd.lays169_ren := {
  sizeBuilder := by kernel_rfl
  liesBuilder := by kernel_rfl
  t5 := Tryd.underlying5
  a5 := Tryd.isAgg5
  z5 := Tryd.sizeOf5
  v5 := Tryd.zeroValue5
  infoByte := by kernel_rfl
  cellsByte := by kernel_rfl
  sizeByte := by kernel_rfl
  neB5 := by decide }
open Go.RowKit in
/-- (*strings.Builder).String: "String returns the accumulated string.": WHATEVER THE BUILDER HOLDS. (LAID: no walk: one application.) -/
theorem Tryd.Builder_String_any (B b : Nat) (l : List UInt8) (w : World) (h : Lib.IsBuilder 65 5 B b (Lib.byteCells l) w) (hBw : B ≤ w.heap.size) :
    Calls Tryd.prog 41 #[.pointer (some ⟨b, 0, none⟩)] w fun e w' => e = .returned (.string ⟨l.toArray⟩) ∧ Below B w w' := Any.Builder_String_any Tryd.lays169 Tryd.Builder_Extra_169 B b l w h hBw
end Go.Proofs
/- wire.all, Nums, Ints: lists written. -/
namespace Go.Proofs.YthiklbhplhdjmaaDoor.P
open Go.RowKit Go.Proofs.YthiklbhplhdjmaaDoorW.PrintWords Go.Proofs.YthiklbhplhdjmaaDoorW.PrintLast Go.Proofs.YthiklbhplhdjmaaDoorW.PrintMore
open Wr
set_option linter.unusedVariables false
set_option linter.unusedSimpArgs false
theorem C_at {W : World} {A : Option Addr} {l : List Int} (h : Kd.C (Kd.int .i64) W A l.length l) {i : Nat} (hi : i < l.length) : ∃ ad, A = some ad ∧ W.cell? (ad.add i) = some (.int .i64 (rd l (i : Int))) := by
  obtain ⟨ad, e, hx⟩ := Kd.at_int h (i : Int) (by omega) (by omega)
  exact ⟨ad, e, by simpa using hx⟩
theorem strCells_sn (a b : List Int) : Lib.strCells (strOfNums a) ++ Lib.strCells (strOfNums b) = Lib.strCells (strOfNums (a ++ b)) := by simp [Lib.strCells, strOfNums]
theorem _root_.Go.Lib.BuilderAt.below {T e : TypeId} {B b : Nat} {p : Value} {bs : List Value} {w w1 : World} (h : Lib.BuilderAt T e B b p bs w) (hb : Below w.heap.size w w1) : Lib.BuilderAt T e B b p bs w1 := by
  have hlt := h.lt
  obtain ⟨h1, v, h2, h3, h4⟩ := h
  exact ⟨h1, v, (hb.block b hlt).trans h2, own_move h3 (fun k hk => hb.block k (own_lt h3 k hk)), h4⟩
theorem _root_.Go.Lib.IsBuilder.below {T e : TypeId} {B b : Nat} {bs : List Value} {w w1 : World} (h : Lib.IsBuilder T e B b bs w) (hb : Below w.heap.size w w1) : Lib.IsBuilder T e B b bs w1 := by
  rcases h with h | h
  · exact .inl (h.below hb)
  · exact .inr (h.below hb)

set_option maxHeartbeats 4000000 in
set_option maxRecDepth 100000 in
theorem all_num {w : World} {A0 : Option Addr} {c0 : Nat} {l0 : List Int} (hr0 : Kd.C (Kd.int .i64) w A0 l0.length l0) (hl : l0.length ≤ 1000000) :
    Calls Tryd.prog 33 #[.slice A0 l0.length c0, .func (Fn.func 14) #[] #[]] w fun e w' => e = .returned (.string (strOfNums (encL encN l0))) ∧ Below w.heap.size w w' := by
  have HR0 := Aside0.mk hr0
  have HL := Aside0.mk hl
  clear hr0 hl
  have hfr := Lib.fresh_isBuilder 65 5 w
  have hb0 : Below w.heap.size w (w.alloc (.cells #[.pointer none, .slice none 0 0] 65)) := (Below.refl _ _).alloc (Nat.le_refl _) _
  have HF := Aside0.mk (And.intro hfr hb0)
  clear hfr hb0
  go_enter Tryd.func33, Tryd.ntmps33
  go_wp2_with (first
    | (go_at_call 14; refine (wnum_c _ _).mono ?_; rintro e w1 ⟨rfl, hb⟩; (have H1 := Aside0.mk (And.intro (HF.out.1.below hb) (below_step HF.out.2 hb))); clear hb)
    | (go_at_call 40; refine (bwrite_c w.heap.size w.heap.size [] _ _ H1.out.1 (by have := encN_len (l0.length : Int); rw [strOfNums_size]; simp; omega) H1.out.2.size).mono ?_; rintro e w2 ⟨rfl, hbd, hb⟩; rw [List.nil_append] at hbd; (have H2 := Aside0.mk (And.intro hbd (H1.out.2.trans hb))); clear hbd hb))
  go_loopw [15] (fun v15 wr => ∃ (i : Nat) (acc : List Int), i ≤ l0.length ∧ v15 = .int .i64 (i : Int) ∧ Aside0 (Lib.BuilderAt 65 5 w.heap.size w.heap.size (.pointer (some ⟨w.heap.size, 0, none⟩)) (Lib.strCells (strOfNums acc)) wr ∧ Below w.heap.size w wr) ∧ Aside0 (acc.length ≤ 8 * (i + 1) ∧ encL encN l0 = encA encN acc (l0.drop i))) (fun v15 _ => (l0.length - (RowKit.intOf v15).toNat))
  case atStart => exact ⟨0, _, Nat.zero_le _, rfl, H2, ⟨by have := encN_len (l0.length : Int); omega, by rw [List.drop_zero]; rfl⟩⟩
  case round =>
    obtain ⟨i, acc, hi, rfl, HR, HT⟩ := hrel
    by_cases hlt : i < l0.length
    · obtain ⟨ad, rfl, hx⟩ := C_at HR0.out hlt
      replace hx := (HR.out.2.cell (World.block_lt_of_cell? w _ hx)).trans hx
      obtain ⟨x, hxx⟩ : ∃ x, x = rd l0 (i : Int) := ⟨_, rfl⟩
      rw [← hxx] at hx
      have he := HT.out.2
      rw [List.drop_eq_getElem_cons hlt, encA, ← rd_at hlt, ← hxx] at he
      have hi100 : i < 1000000 := by have := HL.out; omega
      have hlen8 := encN_len x
      have H8 := Aside0.mk hlen8
      clear hxx hlen8
      by_cases hz : encN x = []
      · rw [if_pos hz] at he
        have HE := Aside0.mk he
        have hzz : strOfNums (encN x) = (⟨#[]⟩ : ByteArray) := by rw [hz]; rfl
        clear he hz
        go_wp2_with (go_at_call 14; refine (wnum_c _ _).mono ?_; rintro e w3 ⟨rfl, hb⟩; (have H3 := Aside0.mk (below_step HR.out.2 hb)); clear hb)
        go_ret
        rw [HE.out]
        exact ⟨rfl, H3.out⟩
      · rw [if_neg hz] at he
        have HE := Aside0.mk he
        have hz1 : (strOfNums (encN x)).toList ≠ [] := fun h => hz ((sn_toList _).1 h)
        have hz2 : (strOfNums (encN x)).toList.isEmpty = false := by simpa using hz1
        have hz3 : (!(strOfNums (encN x)).toList.isEmpty) = true := by rw [hz2]; rfl
        clear he hz
        go_wp2_with (first
          | (go_at_call 14; refine (wnum_c _ _).mono ?_; rintro e w3 ⟨rfl, hb⟩; (have H3 := Aside0.mk (And.intro (HR.out.1.below hb) (below_step HR.out.2 hb))); clear hb)
          | (go_at_call 40; refine (bwrite_c w.heap.size w.heap.size _ _ _ (.inr H3.out.1) (by have := HT.out.1; have := H8.out; rw [Lib.strCells_length, strOfNums_size, strOfNums_size]; omega) H3.out.2.size).mono ?_; rintro e w4 ⟨rfl, hbd, hb⟩; rw [strCells_sn] at hbd; (have H4 := Aside0.mk (And.intro hbd (H3.out.2.trans hb))); clear hbd hb))
        go_roundw
        case rel => exact ⟨i + 1, _, by omega, by go_num, H4, ⟨by have := HT.out.1; have := H8.out; rw [List.length_append]; omega, HE.out⟩⟩
        case measure => simp [RowKit.intOf]; omega
    · have he := HT.out.2
      rw [List.drop_eq_nil_of_le (by omega), encA] at he
      have HE := Aside0.mk he
      clear he
      go_wp2_with (go_at_call 41; refine (Tryd.Builder_String_any w.heap.size w.heap.size (strOfNums acc).data.toList _ (.inr HR.out.1) HR.out.2.size).mono ?_; rintro e w5 ⟨rfl, hb⟩; (have H5 := Aside0.mk (HR.out.2.trans hb)); clear hb)
      go_ret
      rw [HE.out]
      exact ⟨rfl, H5.out⟩

set_option maxHeartbeats 4000000 in
set_option maxRecDepth 100000 in
theorem all_int {w : World} {A0 : Option Addr} {c0 : Nat} {l0 : List Int} (hr0 : Kd.C (Kd.int .i64) w A0 l0.length l0) (hl : l0.length ≤ 1000000) :
    Calls Tryd.prog 33 #[.slice A0 l0.length c0, .func (Fn.func 16) #[] #[]] w fun e w' => e = .returned (.string (strOfNums (encL encI l0))) ∧ Below w.heap.size w w' := by
  have HR0 := Aside0.mk hr0
  have HL := Aside0.mk hl
  clear hr0 hl
  have hfr := Lib.fresh_isBuilder 65 5 w
  have hb0 : Below w.heap.size w (w.alloc (.cells #[.pointer none, .slice none 0 0] 65)) := (Below.refl _ _).alloc (Nat.le_refl _) _
  have HF := Aside0.mk (And.intro hfr hb0)
  clear hfr hb0
  go_enter Tryd.func33, Tryd.ntmps33
  go_wp2_with (first
    | (go_at_call 14; refine (wnum_c _ _).mono ?_; rintro e w1 ⟨rfl, hb⟩; (have H1 := Aside0.mk (And.intro (HF.out.1.below hb) (below_step HF.out.2 hb))); clear hb)
    | (go_at_call 40; refine (bwrite_c w.heap.size w.heap.size [] _ _ H1.out.1 (by have := encN_len (l0.length : Int); rw [strOfNums_size]; simp; omega) H1.out.2.size).mono ?_; rintro e w2 ⟨rfl, hbd, hb⟩; rw [List.nil_append] at hbd; (have H2 := Aside0.mk (And.intro hbd (H1.out.2.trans hb))); clear hbd hb))
  go_loopw [15] (fun v15 wr => ∃ (i : Nat) (acc : List Int), i ≤ l0.length ∧ v15 = .int .i64 (i : Int) ∧ Aside0 (Lib.BuilderAt 65 5 w.heap.size w.heap.size (.pointer (some ⟨w.heap.size, 0, none⟩)) (Lib.strCells (strOfNums acc)) wr ∧ Below w.heap.size w wr) ∧ Aside0 (acc.length ≤ 8 * (i + 1) ∧ encL encI l0 = encA encI acc (l0.drop i))) (fun v15 _ => (l0.length - (RowKit.intOf v15).toNat))
  case atStart => exact ⟨0, _, Nat.zero_le _, rfl, H2, ⟨by have := encN_len (l0.length : Int); omega, by rw [List.drop_zero]; rfl⟩⟩
  case round =>
    obtain ⟨i, acc, hi, rfl, HR, HT⟩ := hrel
    by_cases hlt : i < l0.length
    · obtain ⟨ad, rfl, hx⟩ := C_at HR0.out hlt
      replace hx := (HR.out.2.cell (World.block_lt_of_cell? w _ hx)).trans hx
      obtain ⟨x, hxx⟩ : ∃ x, x = rd l0 (i : Int) := ⟨_, rfl⟩
      rw [← hxx] at hx
      have he := HT.out.2
      rw [List.drop_eq_getElem_cons hlt, encA, ← rd_at hlt, ← hxx] at he
      have hi100 : i < 1000000 := by have := HL.out; omega
      have hlen8 := encI_len x
      have H8 := Aside0.mk hlen8
      clear hxx hlen8
      by_cases hz : encI x = []
      · rw [if_pos hz] at he
        have HE := Aside0.mk he
        have hzz : strOfNums (encI x) = (⟨#[]⟩ : ByteArray) := by rw [hz]; rfl
        clear he hz
        go_wp2_with (go_at_call 16; refine (wint_c _ _).mono ?_; rintro e w3 ⟨rfl, hb⟩; (have H3 := Aside0.mk (below_step HR.out.2 hb)); clear hb)
        go_ret
        rw [HE.out]
        exact ⟨rfl, H3.out⟩
      · rw [if_neg hz] at he
        have HE := Aside0.mk he
        have hz1 : (strOfNums (encI x)).toList ≠ [] := fun h => hz ((sn_toList _).1 h)
        have hz2 : (strOfNums (encI x)).toList.isEmpty = false := by simpa using hz1
        have hz3 : (!(strOfNums (encI x)).toList.isEmpty) = true := by rw [hz2]; rfl
        clear he hz
        go_wp2_with (first
          | (go_at_call 16; refine (wint_c _ _).mono ?_; rintro e w3 ⟨rfl, hb⟩; (have H3 := Aside0.mk (And.intro (HR.out.1.below hb) (below_step HR.out.2 hb))); clear hb)
          | (go_at_call 40; refine (bwrite_c w.heap.size w.heap.size _ _ _ (.inr H3.out.1) (by have := HT.out.1; have := H8.out; rw [Lib.strCells_length, strOfNums_size, strOfNums_size]; omega) H3.out.2.size).mono ?_; rintro e w4 ⟨rfl, hbd, hb⟩; rw [strCells_sn] at hbd; (have H4 := Aside0.mk (And.intro hbd (H3.out.2.trans hb))); clear hbd hb))
        go_roundw
        case rel => exact ⟨i + 1, _, by omega, by go_num, H4, ⟨by have := HT.out.1; have := H8.out; rw [List.length_append]; omega, HE.out⟩⟩
        case measure => simp [RowKit.intOf]; omega
    · have he := HT.out.2
      rw [List.drop_eq_nil_of_le (by omega), encA] at he
      have HE := Aside0.mk he
      clear he
      go_wp2_with (go_at_call 41; refine (Tryd.Builder_String_any w.heap.size w.heap.size (strOfNums acc).data.toList _ (.inr HR.out.1) HR.out.2.size).mono ?_; rintro e w5 ⟨rfl, hb⟩; (have H5 := Aside0.mk (HR.out.2.trans hb)); clear hb)
      go_ret
      rw [HE.out]
      exact ⟨rfl, H5.out⟩
theorem wnums_c {w : World} {A0 : Option Addr} {c0 : Nat} {l0 : List Int} (hr0 : Kd.C (Kd.int .i64) w A0 l0.length l0) (hl : l0.length ≤ 1000000) :
    Calls Tryd.prog 18 #[.slice A0 l0.length c0] w fun e w' => e = .returned (.string (strOfNums (encL encN l0))) ∧ Below w.heap.size w w' := by
  have H := Aside0.mk (all_num (c0 := c0) hr0 hl)
  clear hr0 hl
  go_enter Tryd.func18, Tryd.ntmps18
  go_wp2_with (go_at_call 33; refine H.out.mono ?_; rintro e w1 ⟨rfl, h1⟩; (have H1 := Aside0.mk h1); clear h1)
  go_ret
  exact ⟨rfl, H1.out⟩
theorem wints_c {w : World} {A0 : Option Addr} {c0 : Nat} {l0 : List Int} (hr0 : Kd.C (Kd.int .i64) w A0 l0.length l0) (hl : l0.length ≤ 1000000) :
    Calls Tryd.prog 20 #[.slice A0 l0.length c0] w fun e w' => e = .returned (.string (strOfNums (encL encI l0))) ∧ Below w.heap.size w w' := by
  have H := Aside0.mk (all_int (c0 := c0) hr0 hl)
  clear hr0 hl
  go_enter Tryd.func20, Tryd.ntmps20
  go_wp2_with (go_at_call 33; refine H.out.mono ?_; rintro e w1 ⟨rfl, h1⟩; (have H1 := Aside0.mk h1); clear h1)
  go_ret
  exact ⟨rfl, H1.out⟩
end Go.Proofs.YthiklbhplhdjmaaDoor.P
