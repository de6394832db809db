/- Texts of this claim's own repository, merged by wip/tool/pack.py: MatCheck, MatImA, MatImg, Px6B, MatFv, MatFix, MatRh, MatTb, MatD, MatTe. -/
import Derived.Deep.RegionHeld
import Derived.Test.YtgbmlkmkfigolaaDoorKMatroidTags2
set_option linter.unusedVariables false
set_option linter.unusedSimpArgs false
/- matroid.Check, by hand: what is wrong with a matroid. -/
namespace Go.Proofs.YtgbmlkmkfigolaaDoor.P
open Go.RowKit Go.Extern.Stop Go.Stop Go.Extern Go.Proofs.YtgbmlkmkfigolaaDoorW.PrintWords Go.Proofs.YtgbmlkmkfigolaaDoorW.PrintLast Go.Proofs.YtgbmlkmkfigolaaDoorW.PrintMore
set_option linter.unusedVariables false
set_option linter.unusedSimpArgs false

set_option maxHeartbeats 4000000 in
set_option maxRecDepth 100000 in
theorem As_c {w : World} (hE : EV w) {n : Nat} {v : Value} (hv : WE n v) (T : Nat) (old : Value) (hT : w.heap[T]? = some (.cells #[old] 46 (0, 0))) :
 Calls Tryd.prog 28 #[v, .iface 50 (.pointer (some ⟨T, 0, none⟩))] w fun e w' => e = .returned (.bool true) ∧ ∃ W, Below w.heap.size w W ∧ w' = W.setCell ⟨T, 0, none⟩ (.int .i64 90) := by
 have h6 := @run_callFunc_extern Tryd.prog 41 _ (fun args => ReflectliteValue.unpack (args.getD 0 (.tuple #[]))) Tryd.func41 (by kernel_rfl) (by kernel_rfl) (by kernel_rfl) (by kernel_rfl)
 have h7 := @run_callFunc_extern Tryd.prog 42 _ (ReflectliteValue.methodAny (ReflectliteValue.valueError "reflectlite.Value.Type" 0) (fun t _ _ _ => ReflectliteType.toType t)) Tryd.func42 (by kernel_rfl) (by kernel_rfl) (by kernel_rfl) (by kernel_rfl)
 have h8 := @run_callFunc_extern Tryd.prog 43 _ (ReflectliteValue.method (ReflectliteValue.valueError "reflectlite.Value.IsNil" 0) ReflectliteValue.isNil) Tryd.func43 (by kernel_rfl) (by kernel_rfl) (by kernel_rfl) (by kernel_rfl)
 have h27 := @run_callFunc_extern Tryd.prog 86 _ (ReflectliteType.abiMethod fun t => do pure (.int .u8 (← Rtype.kind t))) Tryd.func86 (by kernel_rfl) (by kernel_rfl) (by kernel_rfl) (by kernel_rfl)
 have h37 := @run_callFunc_extern Tryd.prog 97 _ (ReflectliteType.method ReflectliteType.elem) Tryd.func97 (by kernel_rfl) (by kernel_rfl) (by kernel_rfl) (by kernel_rfl)
 have h38 := @run_callFunc_extern Tryd.prog 98 _ (ReflectliteType.relation "Implements" ReflectliteType.implements_) Tryd.func98 (by kernel_rfl) (by kernel_rfl) (by kernel_rfl) (by kernel_rfl)
 have f6 := ma_valueOfP
 have f7 := ma_typeP
 have mK := ma_methodKind
 have mE := ma_methodElem
 have mI := ma_methodImplements
 have kP := ma_kindP
 have kF := ma_kindF
 have eP := ma_elemP
 have iF := ma_implementsF
 obtain ⟨W1, hW1⟩ : ∃ W1, W1 = (w.alloc (.cells #[.pointer (some ⟨T, 0, none⟩)] 50)).alloc (.cells #[.pointer (some ⟨1, 50, none⟩), .pointer (some ⟨w.heap.size, 0, none⟩), .int .u64 150] 63) := ⟨_, rfl⟩
 have hlt : 0 < w.heap.size := hE.pos
 have hB1 : Below w.heap.size w W1 := by subst hW1; exact ((Below.refl _ _).alloc (Nat.le_refl _) _).alloc (by simp) _
 have hE1 : W1.cell? ⟨0, 0, none⟩ = some (.iface 76 (.agg #[.pointer (some ⟨1, 45, none⟩)])) := hE.below hB1 hlt
 have ha1 : W1.heap[w.heap.size]? = some (.cells #[.pointer (some ⟨T, 0, none⟩)] 50 (0, 0)) := by
  subst hW1
  have h0 : (w.alloc (.cells #[.pointer (some ⟨T, 0, none⟩)] 50)).heap[w.heap.size]? = some (.cells #[.pointer (some ⟨T, 0, none⟩)] 50 (0, 0)) := Array.getElem?_push_size
  exact ((Below.refl _ (w.alloc (.cells #[.pointer (some ⟨T, 0, none⟩)] 50))).alloc (Nat.le_refl _) _).block _ (box_lt h0) |>.trans h0
 have n8 := ma_isNilP ⟨w.heap.size, 0, none⟩ ⟨T, 0, none⟩ W1 (box_at ha1).1
 have hT1 := (hB1.block T (box_lt hT)).trans hT
 have HQ := Aside0.mk (as_in (w := W1) hv T w.heap.size old hT1 ha1)
 have HB1 := Aside0.mk hB1
 obtain ⟨vt, vu, rfl⟩ := hv.form
 rw [hW1] at hE1 n8
 have HW1 := Aside0.mk hW1
 clear hv hT hT1 ha1 hB1 hW1 hE hlt
 go_enter Tryd.func28, Tryd.ntmps28
 go_wp2_with (go_at_call 44; rw [← HW1.out]; refine HQ.out.mono ?_; rintro e w' ⟨rfl, W, hW, rfl⟩; have HW := Aside0.mk hW; clear hW)
 go_ret
 exact ⟨rfl, W, HB1.out.trans (HW.out.mono HB1.out.size), rfl⟩
/-- what is wrong with a matroid, as a number -/
def chkN (m : Mtr) : Int := if 4 < deepV 4 m then 91 else if chkV 4 m = true then 0 else 90
def matroid_Check.f (a0_0 a0_1 a0_2 a0_3 : Int) (l0_4 : List (List Int)) (l0_5 : List Mtr) : Option Int := some (chkN ⟨a0_0, a0_1, a0_2, a0_3, l0_4, l0_5⟩)
set_option maxHeartbeats 4000000 in
set_option maxRecDepth 100000 in
theorem matroid_Check.calls (a0_0 : Int) (a0_1 : Int) (a0_2 : Int) (a0_3 : Int) (A0_4 : Option Addr) (c0_4 : Nat) (l0_4 : List (List Int)) (A0_5 : Option Addr) (c0_5 : Nat) (l0_5 : List Mtr) (r : Int) (w : World) (hEV : EV w) (hr0_4 : Kd.C (Kd.slice 3 (Kd.int .i64)) w A0_4 l0_4.length l0_4) (hc0_4 : l0_4.length ≤ c0_4) (hr0_5 : Kd.C k25 w A0_5 l0_5.length l0_5) (hc0_5 : l0_5.length ≤ c0_5) (h : matroid_Check.f a0_0 a0_1 a0_2 a0_3 l0_4 l0_5 = some r) :
 Calls Tryd.prog 12 #[.agg #[.int .i64 a0_0, .int .i64 a0_1, .int .i64 a0_2, .int .i64 a0_3, .slice A0_4 l0_4.length c0_4, .slice A0_5 l0_5.length c0_5]] w fun e w' => e = .returned (.int .i64 r) ∧ Below w.heap.size w w' := by
 have hf := Option.some.inj h
 clear h
 have hok : OkS ⟨a0_0, a0_1, a0_2, a0_3, l0_4, l0_5⟩ := .mk (C_len hr0_4) (fun l hl => by obtain ⟨cs', A, c, _, _, hC⟩ := C_mem hr0_4 hl; exact C_len hC) (C_len hr0_5) (OkS_row hr0_5)
 obtain ⟨k, hk⟩ := (Deep_ev ⟨a0_0, a0_1, a0_2, a0_3, l0_4, l0_5⟩ hok).rounds
 obtain ⟨W1, hW1⟩ : ∃ W1, W1 = w.alloc (Obj.cells #[.int .i64 a0_0, .int .i64 a0_1, .int .i64 a0_2, .int .i64 a0_3, .slice A0_4 l0_4.length c0_4, .slice A0_5 l0_5.length c0_5] 25) := ⟨_, rfl⟩
 have hB1 : Below w.heap.size w W1 := by subst hW1; exact (Below.refl _ _).alloc (Nat.le_refl _) _
 have hbx := mbox w 25 (.int .i64 a0_0) (.int .i64 a0_1) (.int .i64 a0_2) (.int .i64 a0_3) (.slice A0_4 l0_4.length c0_4) (.slice A0_5 l0_5.length c0_5)
 have hsz : w.heap.size < W1.heap.size := by
  subst hW1
  rw [show (w.alloc (Obj.cells #[.int .i64 a0_0, .int .i64 a0_1, .int .i64 a0_2, .int .i64 a0_3, .slice A0_4 l0_4.length c0_4, .slice A0_5 l0_5.length c0_5] 25)).heap.size = w.heap.size + 1 from Array.size_push ..]; omega
 rw [← hW1] at hbx
 have HQ := Aside0.mk (matroid_Deep.calls k a0_0 a0_1 a0_2 a0_3 A0_4 c0_4 l0_4 A0_5 c0_5 l0_5 _ W1 (Kd.C_below hr0_4 hB1) hc0_4 (Kd.C_below hr0_5 hB1) hc0_5 hk)
 have HB1 := Aside0.mk (And.intro hB1 (And.intro hbx hsz))
 have HW1 := Aside0.mk hW1
 by_cases hd : 4 < deepV 4 ⟨a0_0, a0_1, a0_2, a0_3, l0_4, l0_5⟩
 ·have HF : Aside0 (r = 91) := ⟨by rw [← hf]; unfold chkN; rw [if_pos hd]⟩
  have hdd := decide_eq_true hd
  clear hf hd hk hr0_4 hc0_4 hr0_5 hc0_5 hbx hB1 hsz hW1 hEV hok
  generalize deepV 4 ⟨a0_0, a0_1, a0_2, a0_3, l0_4, l0_5⟩ = d at *
  go_enter Tryd.func12, Tryd.ntmps12
  go_wp2_with (first
   | (go_at_call 27; refine (IsD_c).mono ?_; rintro e w3 ⟨rfl, hb⟩; have HB3 := at_step (by exact ⟨HB2.out.alloc HB2.out.size _⟩) hb; clear hb)
   | (go_at_call 14; rw [← HW1.out]; refine HQ.out.mono ?_; rintro e w2 ⟨rfl, hb⟩; have HB2 := at_step ⟨HB1.out.1⟩ hb; clear hb))
  go_ret
  exact ⟨by rw [HF.out]; rfl, HB3.out⟩
 ·have hdd := decide_eq_false hd
  have hjj : deepV 4 ⟨a0_0, a0_1, a0_2, a0_3, l0_4, l0_5⟩ ≤ ((4 : Nat) : Int) := by omega
  have HC := Aside0.mk (fun (W : World) (hW : Aside0 (Below w.heap.size w W)) => check_c 4 a0_0 a0_1 a0_2 a0_3 l0_4 l0_5 A0_4 c0_4 A0_5 c0_5 W hjj (Kd.C_below hr0_4 hW.out) hc0_4 (Kd.C_below hr0_5 hW.out) hc0_5)
  have HEV := Aside0.mk hEV
  have hfr : r = if chkV 4 ⟨a0_0, a0_1, a0_2, a0_3, l0_4, l0_5⟩ = true then 0 else 90 := by rw [← hf]; unfold chkN; rw [if_neg hd]
  clear hf hd hjj hk hr0_4 hc0_4 hr0_5 hc0_5 hbx hB1 hsz hW1 hEV hok
  generalize deepV 4 ⟨a0_0, a0_1, a0_2, a0_3, l0_4, l0_5⟩ = d at *
  generalize chkV 4 ⟨a0_0, a0_1, a0_2, a0_3, l0_4, l0_5⟩ = b at *
  have HFR := Aside0.mk hfr
  clear hfr
  cases b with
  | true =>
   go_enter Tryd.func12, Tryd.ntmps12
   go_wp2_with (first
    | (go_at_call 26; refine (HC.out _ HB2).mono ?_; rintro e w3 ⟨v, rfl, hv, hb⟩; (have hv2 : v = .nilIface := by (rcases hv with ⟨_, h⟩ | ⟨h, _⟩; exact h; cases h)); subst hv2; have HB3 := at_step HB2 hb; clear hb hv)
    | (go_at_call 14; rw [← HW1.out]; refine HQ.out.mono ?_; rintro e w2 ⟨rfl, hb⟩; have HB2 := at_step ⟨HB1.out.1⟩ hb; obtain ⟨z0, z1, z2, z3, z4, z5⟩ := HB1.out.2.1; replace z0 := (hb.cell (p := ⟨w.heap.size, 0, none⟩) HB1.out.2.2).trans z0; replace z1 := (hb.cell (p := ⟨w.heap.size, 1, none⟩) HB1.out.2.2).trans z1; replace z2 := (hb.cell (p := ⟨w.heap.size, 2, none⟩) HB1.out.2.2).trans z2; replace z3 := (hb.cell (p := ⟨w.heap.size, 3, none⟩) HB1.out.2.2).trans z3; replace z4 := (hb.cell (p := ⟨w.heap.size, 4, none⟩) HB1.out.2.2).trans z4; replace z5 := (hb.cell (p := ⟨w.heap.size, 5, none⟩) HB1.out.2.2).trans z5; clear hb))
   go_ret
   exact ⟨by rw [HFR.out]; rfl, HB3.out.alloc HB3.out.size _⟩
  | false =>
   go_enter Tryd.func12, Tryd.ntmps12
   go_wp2_with (first
    | (go_at_call 28; refine (As_c HX5.out.2.1 HWE.out w3.heap.size (.int .i64 0) HX5.out.2.2).mono ?_; rintro e w6 ⟨rfl, W, hW, rfl⟩; have HW6 := Aside0.mk hW; have hload : (W.setCell ⟨w3.heap.size, 0, none⟩ (.int .i64 90)).cell? ⟨w3.heap.size, 0, none⟩ = some (.int .i64 90) := World.cell?_setCell_same _ _ _ ((box_at ((hW.block w3.heap.size (box_lt HX5.out.2.2)).trans HX5.out.2.2)).1); clear hW)
    | (go_at_call 27; (have hx4 := HX4 _ rfl); refine (Is_c HWE.out).mono ?_; rintro e w5 ⟨rfl, hb⟩; (have HX5 : Aside0 (Below w.heap.size w w5 ∧ EV w5 ∧ w5.heap[w3.heap.size]? = some (.cells #[.int .i64 0] 46 (0, 0))) := ⟨hx4.1.trans (hb.mono hx4.1.size), hx4.2.1.below hb (Nat.lt_of_lt_of_le HEV.out.pos hx4.1.size), (hb.block w3.heap.size (box_lt hx4.2.2)).trans hx4.2.2⟩); clear hb hx4)
    | (go_at_call 26; refine (HC.out _ HB2).mono ?_; rintro e w3 ⟨v, rfl, hv, hb⟩; (have hv2 : ∃ n, WE n v := by (rcases hv with ⟨h, _⟩ | ⟨_, h⟩; cases h; exact h)); (obtain ⟨n, hwe⟩ := hv2); (obtain ⟨vt, vu, hvv⟩ := hwe.form); subst hvv; (have HWE := Aside0.mk hwe); have HB3 := at_step HB2 hb; (have HX4 : ∀ W4, W4 = w3.alloc (.cells #[.int .i64 0] 46) → (Below w.heap.size w W4 ∧ EV W4 ∧ W4.heap[w3.heap.size]? = some (.cells #[.int .i64 0] 46 (0, 0))) := by (intro W4 h4; subst h4; have hbb := HB3.out.alloc HB3.out.size (.cells #[.int .i64 0] 46); refine ⟨hbb, HEV.out.below hbb HEV.out.pos, ?_⟩; exact Array.getElem?_push_size)); clear hb hv hwe)
    | (go_at_call 14; rw [← HW1.out]; refine HQ.out.mono ?_; rintro e w2 ⟨rfl, hb⟩; have HB2 := at_step ⟨HB1.out.1⟩ hb; obtain ⟨z0, z1, z2, z3, z4, z5⟩ := HB1.out.2.1; replace z0 := (hb.cell (p := ⟨w.heap.size, 0, none⟩) HB1.out.2.2).trans z0; replace z1 := (hb.cell (p := ⟨w.heap.size, 1, none⟩) HB1.out.2.2).trans z1; replace z2 := (hb.cell (p := ⟨w.heap.size, 2, none⟩) HB1.out.2.2).trans z2; replace z3 := (hb.cell (p := ⟨w.heap.size, 3, none⟩) HB1.out.2.2).trans z3; replace z4 := (hb.cell (p := ⟨w.heap.size, 4, none⟩) HB1.out.2.2).trans z4; replace z5 := (hb.cell (p := ⟨w.heap.size, 5, none⟩) HB1.out.2.2).trans z5; clear hb))
   go_ret
   exact ⟨by rw [HFR.out]; rfl, (HX5.out.1.trans (HW6.out.mono HX5.out.1.size)).setCell (p := ⟨w3.heap.size, 0, none⟩) HB3.out.size _⟩
end Go.Proofs.YtgbmlkmkfigolaaDoor.P
/- matroid.Image, by hand. -/
namespace Go.Proofs.YtgbmlkmkfigolaaDoor.P
open Go.RowKit Go.Proofs.YtgbmlkmkfigolaaDoorW.PrintWords Go.Proofs.YtgbmlkmkfigolaaDoorW.PrintLast Go.Proofs.YtgbmlkmkfigolaaDoorW.PrintMore
set_option linter.unusedVariables false
set_option linter.unusedSimpArgs false

def imgO (l : List Int) : List Int → List Int → Option (List Int)
 | acc, [] => some acc
 | acc, x :: r => if 0 ≤ x then (if x < (l.length : Int) then (if acc.length < 17592186044416 then imgO l (acc ++ [rd l x]) r else none) else none) else none
def matroid_Image.f (k : Nat) (a0 a1 a2 a3 : Int) (l4 : List (List Int)) (l5 : List Mtr) (l1 : List Int) : Option (List Int × Bool) :=
 if chkN ⟨a0, a1, a2, a3, l4, l5⟩ ≠ 0 ∨ (a0 ≠ 5 ∧ a0 ≠ 6) then some ([], false)
 else if mayB l1 = false ∨ (0 < l1.length ∧ a1 ≤ rd l1 ((l1.length : Int) - 1)) then some ([], false)
 else if l4.length = 0 then none
 else if a0 = 6 then (if l5.length = 0 then none else (set_All.f k (rd_T25 l5 0).f1).bind fun a => (set_Minus.f k a (rd_L1 l4 0)).bind fun l => (imgO l [] l1).bind fun o => some (o, true))
 else (imgO (rd_L1 l4 0) [] l1).bind fun o => some (o, true)
theorem held_below {W1 w3 w4 : World} (h : Aside0 (Below W1.heap.size W1 w3)) (hb : Below w3.heap.size w3 w4) : Aside0 (Below W1.heap.size W1 w4) := ⟨h.out.trans (hb.mono h.out.size)⟩
set_option maxHeartbeats 4000000 in
set_option maxRecDepth 100000 in
theorem img_no (c : Int) (a0 a1 a2 a3 : Int) (A4 : Option Addr) (c4 : Nat) (l4 : List (List Int)) (A5 : Option Addr) (c5 : Nat) (l5 : List Mtr) (A1 : Option Addr) (c1 : Nat) (l1 : List Int) (w : World) (hEV : EV w) (hr4 : Kd.C (Kd.slice 3 (Kd.int .i64)) w A4 l4.length l4) (hc4 : l4.length ≤ c4) (hr5 : Kd.C k25 w A5 l5.length l5) (hc5 : l5.length ≤ c5) (hr1 : Kd.C (Kd.int .i64) w A1 l1.length l1) (hc1 : l1.length ≤ c1) (hck : chkN ⟨a0, a1, a2, a3, l4, l5⟩ = c) (b : Bool) (hm : mayB l1 = b)
 (hb : (c != 0) = true ∨ ((c != 0) = false ∧ (a0 != 5) = true ∧ (a0 != 6) = true) ∨ (c = 0 ∧ a0 = 5 ∧ b = false) ∨ (c = 0 ∧ a0 = 6 ∧ b = false)) :
 Calls Tryd.prog 10 #[.agg #[.int .i64 a0, .int .i64 a1, .int .i64 a2, .int .i64 a3, .slice A4 l4.length c4, .slice A5 l5.length c5], .slice A1 l1.length c1] w fun e w' => ∃ v0_ : Value, e = .returned (.tuple #[v0_, .bool false]) ∧ Kd.R (Kd.int .i64) 3 w' w.heap.size (fun _ => True) v0_ [] ∧ Below w.heap.size w w' := by
 obtain ⟨W1, hW1⟩ : ∃ W1, W1 = w.alloc (Obj.cells #[.int .i64 a0, .int .i64 a1, .int .i64 a2, .int .i64 a3, .slice A4 l4.length c4, .slice A5 l5.length c5] 25) := ⟨_, rfl⟩
 have hB1 : Below w.heap.size w W1 := by subst hW1; exact (Below.refl _ _).alloc (Nat.le_refl _) _
 have hbx := mbox w 25 (.int .i64 a0) (.int .i64 a1) (.int .i64 a2) (.int .i64 a3) (.slice A4 l4.length c4) (.slice A5 l5.length c5)
 have hsz : w.heap.size < W1.heap.size := by
  subst hW1
  rw [show (w.alloc (Obj.cells #[.int .i64 a0, .int .i64 a1, .int .i64 a2, .int .i64 a3, .slice A4 l4.length c4, .slice A5 l5.length c5] 25)).heap.size = w.heap.size + 1 from Array.size_push ..]; omega
 rw [← hW1] at hbx
 have HB1 := Aside0.mk (And.intro hB1 (And.intro hbx hsz))
 have HW1 := Aside0.mk hW1
 have HCK := Aside0.mk (fun (w' : World) (hw : Aside0 (Below W1.heap.size W1 w')) => matroid_Check.calls a0 a1 a2 a3 A4 c4 l4 A5 c5 l5 c w' (hEV.below (hB1.trans (hw.out.mono hB1.size)) hEV.pos) (Kd.C_below hr4 (hB1.trans (hw.out.mono hB1.size))) hc4 (Kd.C_below hr5 (hB1.trans (hw.out.mono hB1.size))) hc5 (by rw [← hck]; rfl))
 have HMAY := Aside0.mk (fun (w' : World) (hw : Aside0 (Below W1.heap.size W1 w')) => set_May_now A1 c1 l1 w' (Kd.C_below hr1 (hB1.trans (hw.out.mono hB1.size))) hc1 hr1.2.1)
 have HC : Aside0 (∀ w', Aside0 (Below W1.heap.size W1 w') → w'.cell? ⟨w.heap.size, 0, none⟩ = some (.int .i64 a0) ∧ w'.cell? ⟨w.heap.size, 1, none⟩ = some (.int .i64 a1) ∧ w'.cell? ⟨w.heap.size, 2, none⟩ = some (.int .i64 a2) ∧ w'.cell? ⟨w.heap.size, 3, none⟩ = some (.int .i64 a3) ∧ w'.cell? ⟨w.heap.size, 4, none⟩ = some (.slice A4 l4.length c4) ∧ w'.cell? ⟨w.heap.size, 5, none⟩ = some (.slice A5 l5.length c5)) :=
  ⟨fun w' hw => ⟨(hw.out.cell (p := ⟨w.heap.size, 0, none⟩) hsz).trans hbx.1, (hw.out.cell (p := ⟨w.heap.size, 1, none⟩) hsz).trans hbx.2.1, (hw.out.cell (p := ⟨w.heap.size, 2, none⟩) hsz).trans hbx.2.2.1, (hw.out.cell (p := ⟨w.heap.size, 3, none⟩) hsz).trans hbx.2.2.2.1, (hw.out.cell (p := ⟨w.heap.size, 4, none⟩) hsz).trans hbx.2.2.2.2.1, (hw.out.cell (p := ⟨w.heap.size, 5, none⟩) hsz).trans hbx.2.2.2.2.2⟩⟩
 rw [hm] at HMAY
 clear hB1 hbx hsz hr4 hc4 hr5 hc5 hr1 hc1 hck hEV hW1 hm
 rcases hb with g1 | ⟨g1, g2, g3⟩ | ⟨rfl, rfl, rfl⟩ | ⟨rfl, rfl, rfl⟩
 ·go_enter Tryd.func10, Tryd.ntmps10
  go_wp2
  rw [← HW1.out]
  refine wp_region_held_drew (S := fun w' => Aside0 (Below W1.heap.size W1 w')) (by kernel_rfl) (⟨(Below.refl _ _).drew⟩) (fun hHeld => ?_)
  (refine wpAnyH_take (i := 0) (v := ?_) rfl (by kernel_rfl) (by kernel_rfl) (by kernel_rfl) (fun _ _ _ h => h) (Or.inl ⟨by rfl, ?_⟩) hHeld ?_; rotate_left; focus (intro w_ hSw_; obtain ⟨z0, z1, z2, z3, z4, z5⟩ := HC.out w_ hSw_; go_simp; try with_reducible rfl)); (try simp only [Act.put, zA, zB, zC, zD, zE, zF])
  refine wpAnyH_ready (rs := [1]) (by kernel_rfl) (by simp) ?_; refine AllReadyH.cons rfl (fun K hK => ?_) AllReadyH.nil; rw [if_pos (by rfl)]; (go_simp); (go_at_call 12; refine (HCK.out _ hHeld).mono ?_; rintro e w3 ⟨rfl, hb⟩; (have HB' := held_below hHeld hb); clear hb); (first | skip); refine hK.out _ _ (HB') (fun hHeld => ?_); clear hK K; (try simp only [Act.put, zA, zB, zC, zD, zE, zF])
  (refine wpAnyH_take (i := 2) (v := ?_) rfl (by kernel_rfl) (by kernel_rfl) (by kernel_rfl) (fun _ _ _ h => h) (Or.inl ⟨by rfl, ?_⟩) hHeld ?_; rotate_left; focus (intro w_ hSw_; obtain ⟨z0, z1, z2, z3, z4, z5⟩ := HC.out w_ hSw_; go_simp; try with_reducible rfl)); (try simp only [Act.put, zA, zB, zC, zD, zE, zF])
  (refine wpAnyH_take (i := 3) (v := ?_) rfl (by kernel_rfl) (by kernel_rfl) (by kernel_rfl) (fun _ _ _ h => h) (Or.inl ⟨by rfl, ?_⟩) hHeld ?_; rotate_left; focus (intro w_ hSw_; obtain ⟨z0, z1, z2, z3, z4, z5⟩ := HC.out w_ hSw_; go_simp; try with_reducible rfl)); (try simp only [Act.put, zA, zB, zC, zD, zE, zF])
  (refine wpAnyH_take (i := 4) (v := _) rfl (by kernel_rfl) (by kernel_rfl) (by kernel_rfl) (fun _ _ _ h => h) (Or.inr ⟨by rfl, rfl⟩) hHeld ?_); (try simp only [Act.put, zA, zB, zC, zD, zE, zF])
  (refine wpAnyH_take (i := 5) (v := _) rfl (by kernel_rfl) (by kernel_rfl) (by kernel_rfl) (fun _ _ _ h => h) (Or.inr ⟨by rfl, rfl⟩) hHeld ?_); (try simp only [Act.put, zA, zB, zC, zD, zE, zF])
  (refine wpAnyH_take (i := 6) (v := _) rfl (by kernel_rfl) (by kernel_rfl) (by kernel_rfl) (fun _ _ _ h => h) (Or.inr ⟨by rfl, rfl⟩) hHeld ?_); (try simp only [Act.put, zA, zB, zC, zD, zE, zF])
  (refine wpAnyH_take (i := 7) (v := _) rfl (by kernel_rfl) (by kernel_rfl) (by kernel_rfl) (fun _ _ _ h => h) (Or.inr ⟨by rfl, rfl⟩) hHeld ?_); (try simp only [Act.put, zA, zB, zC, zD, zE, zF])
  (refine wpAnyH_take (i := 8) (v := _) rfl (by kernel_rfl) (by kernel_rfl) (by kernel_rfl) (fun _ _ _ h => h) (Or.inr ⟨by rfl, rfl⟩) hHeld ?_); (try simp only [Act.put, zA, zB, zC, zD, zE, zF])
  (refine wpAnyH_take (i := 9) (v := _) rfl (by kernel_rfl) (by kernel_rfl) (by kernel_rfl) (fun _ _ _ h => h) (Or.inr ⟨by rfl, rfl⟩) hHeld ?_); (try simp only [Act.put, zA, zB, zC, zD, zE, zF])
  (refine wpAnyH_take (i := 10) (v := _) rfl (by kernel_rfl) (by kernel_rfl) (by kernel_rfl) (fun _ _ _ h => h) (Or.inr ⟨by rfl, rfl⟩) hHeld ?_); (try simp only [Act.put, zA, zB, zC, zD, zE, zF])
  (refine wpAnyH_take (i := 11) (v := _) rfl (by kernel_rfl) (by kernel_rfl) (by kernel_rfl) (fun _ _ _ h => h) (Or.inr ⟨by rfl, rfl⟩) hHeld ?_); (try simp only [Act.put, zA, zB, zC, zD, zE, zF])
  (refine wpAnyH_take (i := 12) (v := ?_) rfl (by kernel_rfl) (by kernel_rfl) (by kernel_rfl) (fun _ _ _ h => h) (Or.inl ⟨by rfl, ?_⟩) hHeld ?_; rotate_left; focus (intro w_ hSw_; obtain ⟨z0, z1, z2, z3, z4, z5⟩ := HC.out w_ hSw_; go_simp; try with_reducible rfl)); (try simp only [Act.put, zA, zB, zC, zD, zE, zF])
  (refine wpAnyH_take (i := 13) (v := ?_) rfl (by kernel_rfl) (by kernel_rfl) (by kernel_rfl) (fun _ _ _ h => h) (Or.inl ⟨by rfl, ?_⟩) hHeld ?_; rotate_left; focus (intro w_ hSw_; obtain ⟨z0, z1, z2, z3, z4, z5⟩ := HC.out w_ hSw_; go_simp; try with_reducible rfl)); (try simp only [Act.put, zA, zB, zC, zD, zE, zF])
  (refine wpAnyH_take (i := 14) (v := _) rfl (by kernel_rfl) (by kernel_rfl) (by kernel_rfl) (fun _ _ _ h => h) (Or.inr ⟨by rfl, rfl⟩) hHeld ?_); (try simp only [Act.put, zA, zB, zC, zD, zE, zF])
  (refine wpAnyH_take (i := 15) (v := _) rfl (by kernel_rfl) (by kernel_rfl) (by kernel_rfl) (fun _ _ _ h => h) (Or.inr ⟨by rfl, rfl⟩) hHeld ?_); (try simp only [Act.put, zA, zB, zC, zD, zE, zF])
  (refine wpAnyH_take (i := 16) (v := _) rfl (by kernel_rfl) (by kernel_rfl) (by kernel_rfl) (fun _ _ _ h => h) (Or.inr ⟨by rfl, rfl⟩) hHeld ?_); (try simp only [Act.put, zA, zB, zC, zD, zE, zF])
  (refine wpAnyH_take (i := 17) (v := ?_) rfl (by kernel_rfl) (by kernel_rfl) (by kernel_rfl) (fun _ _ _ h => h) (Or.inl ⟨by rfl, ?_⟩) hHeld ?_; rotate_left; focus (intro w_ hSw_; obtain ⟨z0, z1, z2, z3, z4, z5⟩ := HC.out w_ hSw_; go_simp; try with_reducible rfl)); (try simp only [Act.put, zA, zB, zC, zD, zE, zF])
  (refine wpAnyH_take (i := 18) (v := ?_) rfl (by kernel_rfl) (by kernel_rfl) (by kernel_rfl) (fun _ _ _ h => h) (Or.inl ⟨by rfl, ?_⟩) hHeld ?_; rotate_left; focus (intro w_ hSw_; obtain ⟨z0, z1, z2, z3, z4, z5⟩ := HC.out w_ hSw_; go_simp; try with_reducible rfl)); (try simp only [Act.put, zA, zB, zC, zD, zE, zF])
  (refine wpAnyH_take (i := 19) (v := _) rfl (by kernel_rfl) (by kernel_rfl) (by kernel_rfl) (fun _ _ _ h => h) (Or.inr ⟨by rfl, rfl⟩) hHeld ?_); (try simp only [Act.put, zA, zB, zC, zD, zE, zF])
  (refine wpAnyH_take (i := 20) (v := _) rfl (by kernel_rfl) (by kernel_rfl) (by kernel_rfl) (fun _ _ _ h => h) (Or.inr ⟨by rfl, rfl⟩) hHeld ?_); (try simp only [Act.put, zA, zB, zC, zD, zE, zF])
  (refine wpAnyH_take (i := 21) (v := _) rfl (by kernel_rfl) (by kernel_rfl) (by kernel_rfl) (fun _ _ _ h => h) (Or.inr ⟨by rfl, rfl⟩) hHeld ?_); (try simp only [Act.put, zA, zB, zC, zD, zE, zF])
  (refine wpAnyH_take (i := 22) (v := _) rfl (by kernel_rfl) (by kernel_rfl) (by kernel_rfl) (fun _ _ _ h => h) (Or.inr ⟨by rfl, rfl⟩) hHeld ?_); (try simp only [Act.put, zA, zB, zC, zD, zE, zF])
  (refine wpAnyH_take (i := 23) (v := _) rfl (by kernel_rfl) (by kernel_rfl) (by kernel_rfl) (fun _ _ _ h => h) (Or.inr ⟨by rfl, rfl⟩) hHeld ?_); (try simp only [Act.put, zA, zB, zC, zD, zE, zF])
  (refine wpAnyH_take (i := 24) (v := _) rfl (by kernel_rfl) (by kernel_rfl) (by kernel_rfl) (fun _ _ _ h => h) (Or.inr ⟨by rfl, rfl⟩) hHeld ?_); (try simp only [Act.put, zA, zB, zC, zD, zE, zF])
  (refine wpAnyH_take (i := 25) (v := _) rfl (by kernel_rfl) (by kernel_rfl) (by kernel_rfl) (fun _ _ _ h => h) (Or.inr ⟨by rfl, rfl⟩) hHeld ?_); (try simp only [Act.put, zA, zB, zC, zD, zE, zF])
  (refine wpAnyH_take (i := 26) (v := _) rfl (by kernel_rfl) (by kernel_rfl) (by kernel_rfl) (fun _ _ _ h => h) (Or.inr ⟨by rfl, rfl⟩) hHeld ?_); (try simp only [Act.put, zA, zB, zC, zD, zE, zF])
  (refine wpAnyH_take (i := 27) (v := _) rfl (by kernel_rfl) (by kernel_rfl) (by kernel_rfl) (fun _ _ _ h => h) (Or.inr ⟨by rfl, rfl⟩) hHeld ?_); (try simp only [Act.put, zA, zB, zC, zD, zE, zF])
  (refine wpAnyH_take (i := 28) (v := _) rfl (by kernel_rfl) (by kernel_rfl) (by kernel_rfl) (fun _ _ _ h => h) (Or.inr ⟨by rfl, rfl⟩) hHeld ?_); (try simp only [Act.put, zA, zB, zC, zD, zE, zF])
  (refine wpAnyH_take (i := 29) (v := _) rfl (by kernel_rfl) (by kernel_rfl) (by kernel_rfl) (fun _ _ _ h => h) (Or.inr ⟨by rfl, rfl⟩) hHeld ?_); (try simp only [Act.put, zA, zB, zC, zD, zE, zF])
  (refine wpAnyH_take (i := 30) (v := _) rfl (by kernel_rfl) (by kernel_rfl) (by kernel_rfl) (fun _ _ _ h => h) (Or.inr ⟨by rfl, rfl⟩) hHeld ?_); (try simp only [Act.put, zA, zB, zC, zD, zE, zF])
  (refine wpAnyH_take (i := 31) (v := _) rfl (by kernel_rfl) (by kernel_rfl) (by kernel_rfl) (fun _ _ _ h => h) (Or.inr ⟨by rfl, rfl⟩) hHeld ?_); (try simp only [Act.put, zA, zB, zC, zD, zE, zF])
  (refine wpAnyH_take (i := 32) (v := _) rfl (by kernel_rfl) (by kernel_rfl) (by kernel_rfl) (fun _ _ _ h => h) (Or.inr ⟨by rfl, rfl⟩) hHeld ?_); (try simp only [Act.put, zA, zB, zC, zD, zE, zF])
  (refine wpAnyH_take (i := 33) (v := ?_) rfl (by kernel_rfl) (by kernel_rfl) (by kernel_rfl) (fun _ _ _ h => h) (Or.inl ⟨by rfl, ?_⟩) hHeld ?_; rotate_left; focus (intro w_ hSw_; obtain ⟨z0, z1, z2, z3, z4, z5⟩ := HC.out w_ hSw_; go_simp; try with_reducible rfl)); (try simp only [Act.put, zA, zB, zC, zD, zE, zF])
  refine wpAnyH_done (by kernel_rfl) ?_ _
  go_wp2
  go_ret2
  exact ⟨_, rfl, Kd.R_nil _ _ _ _ _, by repeat (first | exact HB1.out.1.trans (hHeld.out.mono HB1.out.1.size) | apply pw_below_drewN)⟩
 ·go_enter Tryd.func10, Tryd.ntmps10
  go_wp2
  rw [← HW1.out]
  refine wp_region_held_drew (S := fun w' => Aside0 (Below W1.heap.size W1 w')) (by kernel_rfl) (⟨(Below.refl _ _).drew⟩) (fun hHeld => ?_)
  (refine wpAnyH_take (i := 0) (v := ?_) rfl (by kernel_rfl) (by kernel_rfl) (by kernel_rfl) (fun _ _ _ h => h) (Or.inl ⟨by rfl, ?_⟩) hHeld ?_; rotate_left; focus (intro w_ hSw_; obtain ⟨z0, z1, z2, z3, z4, z5⟩ := HC.out w_ hSw_; go_simp; try with_reducible rfl)); (try simp only [Act.put, zA, zB, zC, zD, zE, zF])
  refine wpAnyH_ready (rs := [1]) (by kernel_rfl) (by simp) ?_; refine AllReadyH.cons rfl (fun K hK => ?_) AllReadyH.nil; rw [if_pos (by rfl)]; (go_simp); (go_at_call 12; refine (HCK.out _ hHeld).mono ?_; rintro e w3 ⟨rfl, hb⟩; (have HB' := held_below hHeld hb); clear hb); (first | skip); refine hK.out _ _ (HB') (fun hHeld => ?_); clear hK K; (try simp only [Act.put, zA, zB, zC, zD, zE, zF])
  (refine wpAnyH_take (i := 2) (v := ?_) rfl (by kernel_rfl) (by kernel_rfl) (by kernel_rfl) (fun _ _ _ h => h) (Or.inl ⟨by rfl, ?_⟩) hHeld ?_; rotate_left; focus (intro w_ hSw_; obtain ⟨z0, z1, z2, z3, z4, z5⟩ := HC.out w_ hSw_; go_simp; try with_reducible rfl)); (try simp only [Act.put, zA, zB, zC, zD, zE, zF])
  (refine wpAnyH_take (i := 3) (v := ?_) rfl (by kernel_rfl) (by kernel_rfl) (by kernel_rfl) (fun _ _ _ h => h) (Or.inl ⟨by rfl, ?_⟩) hHeld ?_; rotate_left; focus (intro w_ hSw_; obtain ⟨z0, z1, z2, z3, z4, z5⟩ := HC.out w_ hSw_; go_simp; try with_reducible rfl)); (try simp only [Act.put, zA, zB, zC, zD, zE, zF])
  (refine wpAnyH_take (i := 4) (v := ?_) rfl (by kernel_rfl) (by kernel_rfl) (by kernel_rfl) (fun _ _ _ h => h) (Or.inl ⟨by rfl, ?_⟩) hHeld ?_; rotate_left; focus (intro w_ hSw_; obtain ⟨z0, z1, z2, z3, z4, z5⟩ := HC.out w_ hSw_; go_simp; try with_reducible rfl)); (try simp only [Act.put, zA, zB, zC, zD, zE, zF])
  (refine wpAnyH_take (i := 5) (v := ?_) rfl (by kernel_rfl) (by kernel_rfl) (by kernel_rfl) (fun _ _ _ h => h) (Or.inl ⟨by rfl, ?_⟩) hHeld ?_; rotate_left; focus (intro w_ hSw_; obtain ⟨z0, z1, z2, z3, z4, z5⟩ := HC.out w_ hSw_; go_simp; try with_reducible rfl)); (try simp only [Act.put, zA, zB, zC, zD, zE, zF])
  (refine wpAnyH_take (i := 6) (v := ?_) rfl (by kernel_rfl) (by kernel_rfl) (by kernel_rfl) (fun _ _ _ h => h) (Or.inl ⟨by rfl, ?_⟩) hHeld ?_; rotate_left; focus (intro w_ hSw_; obtain ⟨z0, z1, z2, z3, z4, z5⟩ := HC.out w_ hSw_; go_simp; try with_reducible rfl)); (try simp only [Act.put, zA, zB, zC, zD, zE, zF])
  (refine wpAnyH_take (i := 7) (v := ?_) rfl (by kernel_rfl) (by kernel_rfl) (by kernel_rfl) (fun _ _ _ h => h) (Or.inl ⟨by rfl, ?_⟩) hHeld ?_; rotate_left; focus (intro w_ hSw_; obtain ⟨z0, z1, z2, z3, z4, z5⟩ := HC.out w_ hSw_; go_simp; try with_reducible rfl)); (try simp only [Act.put, zA, zB, zC, zD, zE, zF])
  (refine wpAnyH_take (i := 8) (v := ?_) rfl (by kernel_rfl) (by kernel_rfl) (by kernel_rfl) (fun _ _ _ h => h) (Or.inl ⟨by rfl, ?_⟩) hHeld ?_; rotate_left; focus (intro w_ hSw_; obtain ⟨z0, z1, z2, z3, z4, z5⟩ := HC.out w_ hSw_; go_simp; try with_reducible rfl)); (try simp only [Act.put, zA, zB, zC, zD, zE, zF])
  (refine wpAnyH_take (i := 9) (v := ?_) rfl (by kernel_rfl) (by kernel_rfl) (by kernel_rfl) (fun _ _ _ h => h) (Or.inl ⟨by rfl, ?_⟩) hHeld ?_; rotate_left; focus (intro w_ hSw_; obtain ⟨z0, z1, z2, z3, z4, z5⟩ := HC.out w_ hSw_; go_simp; try with_reducible rfl)); (try simp only [Act.put, zA, zB, zC, zD, zE, zF])
  (refine wpAnyH_take (i := 10) (v := ?_) rfl (by kernel_rfl) (by kernel_rfl) (by kernel_rfl) (fun _ _ _ h => h) (Or.inl ⟨by rfl, ?_⟩) hHeld ?_; rotate_left; focus (intro w_ hSw_; obtain ⟨z0, z1, z2, z3, z4, z5⟩ := HC.out w_ hSw_; go_simp; try with_reducible rfl)); (try simp only [Act.put, zA, zB, zC, zD, zE, zF])
  (refine wpAnyH_take (i := 11) (v := ?_) rfl (by kernel_rfl) (by kernel_rfl) (by kernel_rfl) (fun _ _ _ h => h) (Or.inl ⟨by rfl, ?_⟩) hHeld ?_; rotate_left; focus (intro w_ hSw_; obtain ⟨z0, z1, z2, z3, z4, z5⟩ := HC.out w_ hSw_; go_simp; try with_reducible rfl)); (try simp only [Act.put, zA, zB, zC, zD, zE, zF])
  (refine wpAnyH_take (i := 12) (v := ?_) rfl (by kernel_rfl) (by kernel_rfl) (by kernel_rfl) (fun _ _ _ h => h) (Or.inl ⟨by rfl, ?_⟩) hHeld ?_; rotate_left; focus (intro w_ hSw_; obtain ⟨z0, z1, z2, z3, z4, z5⟩ := HC.out w_ hSw_; go_simp; try with_reducible rfl)); (try simp only [Act.put, zA, zB, zC, zD, zE, zF])
  (refine wpAnyH_take (i := 13) (v := ?_) rfl (by kernel_rfl) (by kernel_rfl) (by kernel_rfl) (fun _ _ _ h => h) (Or.inl ⟨by rfl, ?_⟩) hHeld ?_; rotate_left; focus (intro w_ hSw_; obtain ⟨z0, z1, z2, z3, z4, z5⟩ := HC.out w_ hSw_; go_simp; try with_reducible rfl)); (try simp only [Act.put, zA, zB, zC, zD, zE, zF])
  (refine wpAnyH_take (i := 14) (v := _) rfl (by kernel_rfl) (by kernel_rfl) (by kernel_rfl) (fun _ _ _ h => h) (Or.inr ⟨by rfl, rfl⟩) hHeld ?_); (try simp only [Act.put, zA, zB, zC, zD, zE, zF])
  (refine wpAnyH_take (i := 15) (v := _) rfl (by kernel_rfl) (by kernel_rfl) (by kernel_rfl) (fun _ _ _ h => h) (Or.inr ⟨by rfl, rfl⟩) hHeld ?_); (try simp only [Act.put, zA, zB, zC, zD, zE, zF])
  (refine wpAnyH_take (i := 16) (v := _) rfl (by kernel_rfl) (by kernel_rfl) (by kernel_rfl) (fun _ _ _ h => h) (Or.inr ⟨by rfl, rfl⟩) hHeld ?_); (try simp only [Act.put, zA, zB, zC, zD, zE, zF])
  (refine wpAnyH_take (i := 17) (v := ?_) rfl (by kernel_rfl) (by kernel_rfl) (by kernel_rfl) (fun _ _ _ h => h) (Or.inl ⟨by rfl, ?_⟩) hHeld ?_; rotate_left; focus (intro w_ hSw_; obtain ⟨z0, z1, z2, z3, z4, z5⟩ := HC.out w_ hSw_; go_simp; try with_reducible rfl)); (try simp only [Act.put, zA, zB, zC, zD, zE, zF])
  (refine wpAnyH_take (i := 18) (v := ?_) rfl (by kernel_rfl) (by kernel_rfl) (by kernel_rfl) (fun _ _ _ h => h) (Or.inl ⟨by rfl, ?_⟩) hHeld ?_; rotate_left; focus (intro w_ hSw_; obtain ⟨z0, z1, z2, z3, z4, z5⟩ := HC.out w_ hSw_; go_simp; try with_reducible rfl)); (try simp only [Act.put, zA, zB, zC, zD, zE, zF])
  (refine wpAnyH_take (i := 19) (v := _) rfl (by kernel_rfl) (by kernel_rfl) (by kernel_rfl) (fun _ _ _ h => h) (Or.inr ⟨by rfl, rfl⟩) hHeld ?_); (try simp only [Act.put, zA, zB, zC, zD, zE, zF])
  (refine wpAnyH_take (i := 20) (v := _) rfl (by kernel_rfl) (by kernel_rfl) (by kernel_rfl) (fun _ _ _ h => h) (Or.inr ⟨by rfl, rfl⟩) hHeld ?_); (try simp only [Act.put, zA, zB, zC, zD, zE, zF])
  (refine wpAnyH_take (i := 21) (v := _) rfl (by kernel_rfl) (by kernel_rfl) (by kernel_rfl) (fun _ _ _ h => h) (Or.inr ⟨by rfl, rfl⟩) hHeld ?_); (try simp only [Act.put, zA, zB, zC, zD, zE, zF])
  (refine wpAnyH_take (i := 22) (v := _) rfl (by kernel_rfl) (by kernel_rfl) (by kernel_rfl) (fun _ _ _ h => h) (Or.inr ⟨by rfl, rfl⟩) hHeld ?_); (try simp only [Act.put, zA, zB, zC, zD, zE, zF])
  (refine wpAnyH_take (i := 23) (v := _) rfl (by kernel_rfl) (by kernel_rfl) (by kernel_rfl) (fun _ _ _ h => h) (Or.inr ⟨by rfl, rfl⟩) hHeld ?_); (try simp only [Act.put, zA, zB, zC, zD, zE, zF])
  (refine wpAnyH_take (i := 24) (v := _) rfl (by kernel_rfl) (by kernel_rfl) (by kernel_rfl) (fun _ _ _ h => h) (Or.inr ⟨by rfl, rfl⟩) hHeld ?_); (try simp only [Act.put, zA, zB, zC, zD, zE, zF])
  (refine wpAnyH_take (i := 25) (v := _) rfl (by kernel_rfl) (by kernel_rfl) (by kernel_rfl) (fun _ _ _ h => h) (Or.inr ⟨by rfl, rfl⟩) hHeld ?_); (try simp only [Act.put, zA, zB, zC, zD, zE, zF])
  (refine wpAnyH_take (i := 26) (v := _) rfl (by kernel_rfl) (by kernel_rfl) (by kernel_rfl) (fun _ _ _ h => h) (Or.inr ⟨by rfl, rfl⟩) hHeld ?_); (try simp only [Act.put, zA, zB, zC, zD, zE, zF])
  (refine wpAnyH_take (i := 27) (v := _) rfl (by kernel_rfl) (by kernel_rfl) (by kernel_rfl) (fun _ _ _ h => h) (Or.inr ⟨by rfl, rfl⟩) hHeld ?_); (try simp only [Act.put, zA, zB, zC, zD, zE, zF])
  (refine wpAnyH_take (i := 28) (v := _) rfl (by kernel_rfl) (by kernel_rfl) (by kernel_rfl) (fun _ _ _ h => h) (Or.inr ⟨by rfl, rfl⟩) hHeld ?_); (try simp only [Act.put, zA, zB, zC, zD, zE, zF])
  (refine wpAnyH_take (i := 29) (v := _) rfl (by kernel_rfl) (by kernel_rfl) (by kernel_rfl) (fun _ _ _ h => h) (Or.inr ⟨by rfl, rfl⟩) hHeld ?_); (try simp only [Act.put, zA, zB, zC, zD, zE, zF])
  (refine wpAnyH_take (i := 30) (v := _) rfl (by kernel_rfl) (by kernel_rfl) (by kernel_rfl) (fun _ _ _ h => h) (Or.inr ⟨by rfl, rfl⟩) hHeld ?_); (try simp only [Act.put, zA, zB, zC, zD, zE, zF])
  (refine wpAnyH_take (i := 31) (v := _) rfl (by kernel_rfl) (by kernel_rfl) (by kernel_rfl) (fun _ _ _ h => h) (Or.inr ⟨by rfl, rfl⟩) hHeld ?_); (try simp only [Act.put, zA, zB, zC, zD, zE, zF])
  (refine wpAnyH_take (i := 32) (v := _) rfl (by kernel_rfl) (by kernel_rfl) (by kernel_rfl) (fun _ _ _ h => h) (Or.inr ⟨by rfl, rfl⟩) hHeld ?_); (try simp only [Act.put, zA, zB, zC, zD, zE, zF])
  (refine wpAnyH_take (i := 33) (v := ?_) rfl (by kernel_rfl) (by kernel_rfl) (by kernel_rfl) (fun _ _ _ h => h) (Or.inl ⟨by rfl, ?_⟩) hHeld ?_; rotate_left; focus (intro w_ hSw_; obtain ⟨z0, z1, z2, z3, z4, z5⟩ := HC.out w_ hSw_; go_simp; try with_reducible rfl)); (try simp only [Act.put, zA, zB, zC, zD, zE, zF])
  refine wpAnyH_done (by kernel_rfl) ?_ _
  go_wp2
  go_ret2
  exact ⟨_, rfl, Kd.R_nil _ _ _ _ _, by repeat (first | exact HB1.out.1.trans (hHeld.out.mono HB1.out.1.size) | apply pw_below_drewN)⟩
 ·go_enter Tryd.func10, Tryd.ntmps10
  go_wp2
  rw [← HW1.out]
  refine wp_region_held_drew (S := fun w' => Aside0 (Below W1.heap.size W1 w')) (by kernel_rfl) (⟨(Below.refl _ _).drew⟩) (fun hHeld => ?_)
  (refine wpAnyH_take (i := 0) (v := ?_) rfl (by kernel_rfl) (by kernel_rfl) (by kernel_rfl) (fun _ _ _ h => h) (Or.inl ⟨by rfl, ?_⟩) hHeld ?_; rotate_left; focus (intro w_ hSw_; obtain ⟨z0, z1, z2, z3, z4, z5⟩ := HC.out w_ hSw_; go_simp; try with_reducible rfl)); (try simp only [Act.put, zA, zB, zC, zD, zE, zF])
  refine wpAnyH_ready (rs := [1]) (by kernel_rfl) (by simp) ?_; refine AllReadyH.cons rfl (fun K hK => ?_) AllReadyH.nil; rw [if_pos (by rfl)]; (go_simp); (go_at_call 12; refine (HCK.out _ hHeld).mono ?_; rintro e w3 ⟨rfl, hb⟩; (have HB' := held_below hHeld hb); clear hb); (first | skip); refine hK.out _ _ (HB') (fun hHeld => ?_); clear hK K; (try simp only [Act.put, zA, zB, zC, zD, zE, zF])
  (refine wpAnyH_take (i := 2) (v := ?_) rfl (by kernel_rfl) (by kernel_rfl) (by kernel_rfl) (fun _ _ _ h => h) (Or.inl ⟨by rfl, ?_⟩) hHeld ?_; rotate_left; focus (intro w_ hSw_; obtain ⟨z0, z1, z2, z3, z4, z5⟩ := HC.out w_ hSw_; go_simp; try with_reducible rfl)); (try simp only [Act.put, zA, zB, zC, zD, zE, zF])
  (refine wpAnyH_take (i := 3) (v := ?_) rfl (by kernel_rfl) (by kernel_rfl) (by kernel_rfl) (fun _ _ _ h => h) (Or.inl ⟨by rfl, ?_⟩) hHeld ?_; rotate_left; focus (intro w_ hSw_; obtain ⟨z0, z1, z2, z3, z4, z5⟩ := HC.out w_ hSw_; go_simp; try with_reducible rfl)); (try simp only [Act.put, zA, zB, zC, zD, zE, zF])
  (refine wpAnyH_take (i := 4) (v := ?_) rfl (by kernel_rfl) (by kernel_rfl) (by kernel_rfl) (fun _ _ _ h => h) (Or.inl ⟨by rfl, ?_⟩) hHeld ?_; rotate_left; focus (intro w_ hSw_; obtain ⟨z0, z1, z2, z3, z4, z5⟩ := HC.out w_ hSw_; go_simp; try with_reducible rfl)); (try simp only [Act.put, zA, zB, zC, zD, zE, zF])
  (refine wpAnyH_take (i := 5) (v := ?_) rfl (by kernel_rfl) (by kernel_rfl) (by kernel_rfl) (fun _ _ _ h => h) (Or.inl ⟨by rfl, ?_⟩) hHeld ?_; rotate_left; focus (intro w_ hSw_; obtain ⟨z0, z1, z2, z3, z4, z5⟩ := HC.out w_ hSw_; go_simp; try with_reducible rfl)); (try simp only [Act.put, zA, zB, zC, zD, zE, zF])
  (refine wpAnyH_take (i := 6) (v := ?_) rfl (by kernel_rfl) (by kernel_rfl) (by kernel_rfl) (fun _ _ _ h => h) (Or.inl ⟨by rfl, ?_⟩) hHeld ?_; rotate_left; focus (intro w_ hSw_; obtain ⟨z0, z1, z2, z3, z4, z5⟩ := HC.out w_ hSw_; go_simp; try with_reducible rfl)); (try simp only [Act.put, zA, zB, zC, zD, zE, zF])
  (refine wpAnyH_take (i := 7) (v := ?_) rfl (by kernel_rfl) (by kernel_rfl) (by kernel_rfl) (fun _ _ _ h => h) (Or.inl ⟨by rfl, ?_⟩) hHeld ?_; rotate_left; focus (intro w_ hSw_; obtain ⟨z0, z1, z2, z3, z4, z5⟩ := HC.out w_ hSw_; go_simp; try with_reducible rfl)); (try simp only [Act.put, zA, zB, zC, zD, zE, zF])
  (refine wpAnyH_take (i := 8) (v := _) rfl (by kernel_rfl) (by kernel_rfl) (by kernel_rfl) (fun _ _ _ h => h) (Or.inr ⟨by rfl, rfl⟩) hHeld ?_); (try simp only [Act.put, zA, zB, zC, zD, zE, zF])
  (refine wpAnyH_take (i := 9) (v := _) rfl (by kernel_rfl) (by kernel_rfl) (by kernel_rfl) (fun _ _ _ h => h) (Or.inr ⟨by rfl, rfl⟩) hHeld ?_); (try simp only [Act.put, zA, zB, zC, zD, zE, zF])
  (refine wpAnyH_take (i := 10) (v := _) rfl (by kernel_rfl) (by kernel_rfl) (by kernel_rfl) (fun _ _ _ h => h) (Or.inr ⟨by rfl, rfl⟩) hHeld ?_); (try simp only [Act.put, zA, zB, zC, zD, zE, zF])
  (refine wpAnyH_take (i := 11) (v := ?_) rfl (by kernel_rfl) (by kernel_rfl) (by kernel_rfl) (fun _ _ _ h => h) (Or.inl ⟨by rfl, ?_⟩) hHeld ?_; rotate_left; focus (intro w_ hSw_; obtain ⟨z0, z1, z2, z3, z4, z5⟩ := HC.out w_ hSw_; go_simp; try with_reducible rfl)); (try simp only [Act.put, zA, zB, zC, zD, zE, zF])
  (refine wpAnyH_take (i := 12) (v := ?_) rfl (by kernel_rfl) (by kernel_rfl) (by kernel_rfl) (fun _ _ _ h => h) (Or.inl ⟨by rfl, ?_⟩) hHeld ?_; rotate_left; focus (intro w_ hSw_; obtain ⟨z0, z1, z2, z3, z4, z5⟩ := HC.out w_ hSw_; go_simp; try with_reducible rfl)); (try simp only [Act.put, zA, zB, zC, zD, zE, zF])
  (refine wpAnyH_take (i := 13) (v := ?_) rfl (by kernel_rfl) (by kernel_rfl) (by kernel_rfl) (fun _ _ _ h => h) (Or.inl ⟨by rfl, ?_⟩) hHeld ?_; rotate_left; focus (intro w_ hSw_; obtain ⟨z0, z1, z2, z3, z4, z5⟩ := HC.out w_ hSw_; go_simp; try with_reducible rfl)); (try simp only [Act.put, zA, zB, zC, zD, zE, zF])
  (refine wpAnyH_take (i := 14) (v := ?_) rfl (by kernel_rfl) (by kernel_rfl) (by kernel_rfl) (fun _ _ _ h => h) (Or.inl ⟨by rfl, ?_⟩) hHeld ?_; rotate_left; focus (intro w_ hSw_; obtain ⟨z0, z1, z2, z3, z4, z5⟩ := HC.out w_ hSw_; go_simp; try with_reducible rfl)); (try simp only [Act.put, zA, zB, zC, zD, zE, zF])
  refine wpAnyH_ready (rs := [15]) (by kernel_rfl) (by simp) ?_; refine AllReadyH.cons rfl (fun K hK => ?_) AllReadyH.nil; rw [if_pos (by rfl)]; (go_simp); (go_at_call 21; refine (HMAY.out _ hHeld).mono ?_; rintro e w4 ⟨rfl, ⟨q4, rfl⟩⟩; (have HB' := held_below hHeld (pw_below_drewN (Below.refl _ _) q4))); (first | skip); refine hK.out _ _ (HB') (fun hHeld => ?_); clear hK K; (try simp only [Act.put, zA, zB, zC, zD, zE, zF])
  (refine wpAnyH_take (i := 16) (v := ?_) rfl (by kernel_rfl) (by kernel_rfl) (by kernel_rfl) (fun _ _ _ h => h) (Or.inl ⟨by rfl, ?_⟩) hHeld ?_; rotate_left; focus (intro w_ hSw_; obtain ⟨z0, z1, z2, z3, z4, z5⟩ := HC.out w_ hSw_; go_simp; try with_reducible rfl)); (try simp only [Act.put, zA, zB, zC, zD, zE, zF])
  (refine wpAnyH_take (i := 17) (v := ?_) rfl (by kernel_rfl) (by kernel_rfl) (by kernel_rfl) (fun _ _ _ h => h) (Or.inl ⟨by rfl, ?_⟩) hHeld ?_; rotate_left; focus (intro w_ hSw_; obtain ⟨z0, z1, z2, z3, z4, z5⟩ := HC.out w_ hSw_; go_simp; try with_reducible rfl)); (try simp only [Act.put, zA, zB, zC, zD, zE, zF])
  (refine wpAnyH_take (i := 18) (v := ?_) rfl (by kernel_rfl) (by kernel_rfl) (by kernel_rfl) (fun _ _ _ h => h) (Or.inl ⟨by rfl, ?_⟩) hHeld ?_; rotate_left; focus (intro w_ hSw_; obtain ⟨z0, z1, z2, z3, z4, z5⟩ := HC.out w_ hSw_; go_simp; try with_reducible rfl)); (try simp only [Act.put, zA, zB, zC, zD, zE, zF])
  (refine wpAnyH_take (i := 19) (v := _) rfl (by kernel_rfl) (by kernel_rfl) (by kernel_rfl) (fun _ _ _ h => h) (Or.inr ⟨by rfl, rfl⟩) hHeld ?_); (try simp only [Act.put, zA, zB, zC, zD, zE, zF])
  (refine wpAnyH_take (i := 20) (v := _) rfl (by kernel_rfl) (by kernel_rfl) (by kernel_rfl) (fun _ _ _ h => h) (Or.inr ⟨by rfl, rfl⟩) hHeld ?_); (try simp only [Act.put, zA, zB, zC, zD, zE, zF])
  (refine wpAnyH_take (i := 21) (v := _) rfl (by kernel_rfl) (by kernel_rfl) (by kernel_rfl) (fun _ _ _ h => h) (Or.inr ⟨by rfl, rfl⟩) hHeld ?_); (try simp only [Act.put, zA, zB, zC, zD, zE, zF])
  (refine wpAnyH_take (i := 22) (v := _) rfl (by kernel_rfl) (by kernel_rfl) (by kernel_rfl) (fun _ _ _ h => h) (Or.inr ⟨by rfl, rfl⟩) hHeld ?_); (try simp only [Act.put, zA, zB, zC, zD, zE, zF])
  (refine wpAnyH_take (i := 23) (v := _) rfl (by kernel_rfl) (by kernel_rfl) (by kernel_rfl) (fun _ _ _ h => h) (Or.inr ⟨by rfl, rfl⟩) hHeld ?_); (try simp only [Act.put, zA, zB, zC, zD, zE, zF])
  (refine wpAnyH_take (i := 24) (v := _) rfl (by kernel_rfl) (by kernel_rfl) (by kernel_rfl) (fun _ _ _ h => h) (Or.inr ⟨by rfl, rfl⟩) hHeld ?_); (try simp only [Act.put, zA, zB, zC, zD, zE, zF])
  (refine wpAnyH_take (i := 25) (v := _) rfl (by kernel_rfl) (by kernel_rfl) (by kernel_rfl) (fun _ _ _ h => h) (Or.inr ⟨by rfl, rfl⟩) hHeld ?_); (try simp only [Act.put, zA, zB, zC, zD, zE, zF])
  (refine wpAnyH_take (i := 26) (v := _) rfl (by kernel_rfl) (by kernel_rfl) (by kernel_rfl) (fun _ _ _ h => h) (Or.inr ⟨by rfl, rfl⟩) hHeld ?_); (try simp only [Act.put, zA, zB, zC, zD, zE, zF])
  (refine wpAnyH_take (i := 27) (v := _) rfl (by kernel_rfl) (by kernel_rfl) (by kernel_rfl) (fun _ _ _ h => h) (Or.inr ⟨by rfl, rfl⟩) hHeld ?_); (try simp only [Act.put, zA, zB, zC, zD, zE, zF])
  (refine wpAnyH_take (i := 28) (v := _) rfl (by kernel_rfl) (by kernel_rfl) (by kernel_rfl) (fun _ _ _ h => h) (Or.inr ⟨by rfl, rfl⟩) hHeld ?_); (try simp only [Act.put, zA, zB, zC, zD, zE, zF])
  (refine wpAnyH_take (i := 29) (v := _) rfl (by kernel_rfl) (by kernel_rfl) (by kernel_rfl) (fun _ _ _ h => h) (Or.inr ⟨by rfl, rfl⟩) hHeld ?_); (try simp only [Act.put, zA, zB, zC, zD, zE, zF])
  (refine wpAnyH_take (i := 30) (v := _) rfl (by kernel_rfl) (by kernel_rfl) (by kernel_rfl) (fun _ _ _ h => h) (Or.inr ⟨by rfl, rfl⟩) hHeld ?_); (try simp only [Act.put, zA, zB, zC, zD, zE, zF])
  (refine wpAnyH_take (i := 31) (v := _) rfl (by kernel_rfl) (by kernel_rfl) (by kernel_rfl) (fun _ _ _ h => h) (Or.inr ⟨by rfl, rfl⟩) hHeld ?_); (try simp only [Act.put, zA, zB, zC, zD, zE, zF])
  (refine wpAnyH_take (i := 32) (v := _) rfl (by kernel_rfl) (by kernel_rfl) (by kernel_rfl) (fun _ _ _ h => h) (Or.inr ⟨by rfl, rfl⟩) hHeld ?_); (try simp only [Act.put, zA, zB, zC, zD, zE, zF])
  (refine wpAnyH_take (i := 33) (v := ?_) rfl (by kernel_rfl) (by kernel_rfl) (by kernel_rfl) (fun _ _ _ h => h) (Or.inl ⟨by rfl, ?_⟩) hHeld ?_; rotate_left; focus (intro w_ hSw_; obtain ⟨z0, z1, z2, z3, z4, z5⟩ := HC.out w_ hSw_; go_simp; try with_reducible rfl)); (try simp only [Act.put, zA, zB, zC, zD, zE, zF])
  refine wpAnyH_done (by kernel_rfl) ?_ _
  go_wp2
  go_ret2
  exact ⟨_, rfl, Kd.R_nil _ _ _ _ _, by repeat (first | exact HB1.out.1.trans (hHeld.out.mono HB1.out.1.size) | apply pw_below_drewN)⟩
 ·go_enter Tryd.func10, Tryd.ntmps10
  go_wp2
  rw [← HW1.out]
  refine wp_region_held_drew (S := fun w' => Aside0 (Below W1.heap.size W1 w')) (by kernel_rfl) (⟨(Below.refl _ _).drew⟩) (fun hHeld => ?_)
  (refine wpAnyH_take (i := 0) (v := ?_) rfl (by kernel_rfl) (by kernel_rfl) (by kernel_rfl) (fun _ _ _ h => h) (Or.inl ⟨by rfl, ?_⟩) hHeld ?_; rotate_left; focus (intro w_ hSw_; obtain ⟨z0, z1, z2, z3, z4, z5⟩ := HC.out w_ hSw_; go_simp; try with_reducible rfl)); (try simp only [Act.put, zA, zB, zC, zD, zE, zF])
  refine wpAnyH_ready (rs := [1]) (by kernel_rfl) (by simp) ?_; refine AllReadyH.cons rfl (fun K hK => ?_) AllReadyH.nil; rw [if_pos (by rfl)]; (go_simp); (go_at_call 12; refine (HCK.out _ hHeld).mono ?_; rintro e w3 ⟨rfl, hb⟩; (have HB' := held_below hHeld hb); clear hb); (first | skip); refine hK.out _ _ (HB') (fun hHeld => ?_); clear hK K; (try simp only [Act.put, zA, zB, zC, zD, zE, zF])
  (refine wpAnyH_take (i := 2) (v := ?_) rfl (by kernel_rfl) (by kernel_rfl) (by kernel_rfl) (fun _ _ _ h => h) (Or.inl ⟨by rfl, ?_⟩) hHeld ?_; rotate_left; focus (intro w_ hSw_; obtain ⟨z0, z1, z2, z3, z4, z5⟩ := HC.out w_ hSw_; go_simp; try with_reducible rfl)); (try simp only [Act.put, zA, zB, zC, zD, zE, zF])
  (refine wpAnyH_take (i := 3) (v := ?_) rfl (by kernel_rfl) (by kernel_rfl) (by kernel_rfl) (fun _ _ _ h => h) (Or.inl ⟨by rfl, ?_⟩) hHeld ?_; rotate_left; focus (intro w_ hSw_; obtain ⟨z0, z1, z2, z3, z4, z5⟩ := HC.out w_ hSw_; go_simp; try with_reducible rfl)); (try simp only [Act.put, zA, zB, zC, zD, zE, zF])
  (refine wpAnyH_take (i := 4) (v := ?_) rfl (by kernel_rfl) (by kernel_rfl) (by kernel_rfl) (fun _ _ _ h => h) (Or.inl ⟨by rfl, ?_⟩) hHeld ?_; rotate_left; focus (intro w_ hSw_; obtain ⟨z0, z1, z2, z3, z4, z5⟩ := HC.out w_ hSw_; go_simp; try with_reducible rfl)); (try simp only [Act.put, zA, zB, zC, zD, zE, zF])
  (refine wpAnyH_take (i := 5) (v := ?_) rfl (by kernel_rfl) (by kernel_rfl) (by kernel_rfl) (fun _ _ _ h => h) (Or.inl ⟨by rfl, ?_⟩) hHeld ?_; rotate_left; focus (intro w_ hSw_; obtain ⟨z0, z1, z2, z3, z4, z5⟩ := HC.out w_ hSw_; go_simp; try with_reducible rfl)); (try simp only [Act.put, zA, zB, zC, zD, zE, zF])
  (refine wpAnyH_take (i := 6) (v := ?_) rfl (by kernel_rfl) (by kernel_rfl) (by kernel_rfl) (fun _ _ _ h => h) (Or.inl ⟨by rfl, ?_⟩) hHeld ?_; rotate_left; focus (intro w_ hSw_; obtain ⟨z0, z1, z2, z3, z4, z5⟩ := HC.out w_ hSw_; go_simp; try with_reducible rfl)); (try simp only [Act.put, zA, zB, zC, zD, zE, zF])
  (refine wpAnyH_take (i := 7) (v := ?_) rfl (by kernel_rfl) (by kernel_rfl) (by kernel_rfl) (fun _ _ _ h => h) (Or.inl ⟨by rfl, ?_⟩) hHeld ?_; rotate_left; focus (intro w_ hSw_; obtain ⟨z0, z1, z2, z3, z4, z5⟩ := HC.out w_ hSw_; go_simp; try with_reducible rfl)); (try simp only [Act.put, zA, zB, zC, zD, zE, zF])
  (refine wpAnyH_take (i := 8) (v := ?_) rfl (by kernel_rfl) (by kernel_rfl) (by kernel_rfl) (fun _ _ _ h => h) (Or.inl ⟨by rfl, ?_⟩) hHeld ?_; rotate_left; focus (intro w_ hSw_; obtain ⟨z0, z1, z2, z3, z4, z5⟩ := HC.out w_ hSw_; go_simp; try with_reducible rfl)); (try simp only [Act.put, zA, zB, zC, zD, zE, zF])
  (refine wpAnyH_take (i := 9) (v := ?_) rfl (by kernel_rfl) (by kernel_rfl) (by kernel_rfl) (fun _ _ _ h => h) (Or.inl ⟨by rfl, ?_⟩) hHeld ?_; rotate_left; focus (intro w_ hSw_; obtain ⟨z0, z1, z2, z3, z4, z5⟩ := HC.out w_ hSw_; go_simp; try with_reducible rfl)); (try simp only [Act.put, zA, zB, zC, zD, zE, zF])
  (refine wpAnyH_take (i := 10) (v := ?_) rfl (by kernel_rfl) (by kernel_rfl) (by kernel_rfl) (fun _ _ _ h => h) (Or.inl ⟨by rfl, ?_⟩) hHeld ?_; rotate_left; focus (intro w_ hSw_; obtain ⟨z0, z1, z2, z3, z4, z5⟩ := HC.out w_ hSw_; go_simp; try with_reducible rfl)); (try simp only [Act.put, zA, zB, zC, zD, zE, zF])
  (refine wpAnyH_take (i := 11) (v := ?_) rfl (by kernel_rfl) (by kernel_rfl) (by kernel_rfl) (fun _ _ _ h => h) (Or.inl ⟨by rfl, ?_⟩) hHeld ?_; rotate_left; focus (intro w_ hSw_; obtain ⟨z0, z1, z2, z3, z4, z5⟩ := HC.out w_ hSw_; go_simp; try with_reducible rfl)); (try simp only [Act.put, zA, zB, zC, zD, zE, zF])
  (refine wpAnyH_take (i := 12) (v := ?_) rfl (by kernel_rfl) (by kernel_rfl) (by kernel_rfl) (fun _ _ _ h => h) (Or.inl ⟨by rfl, ?_⟩) hHeld ?_; rotate_left; focus (intro w_ hSw_; obtain ⟨z0, z1, z2, z3, z4, z5⟩ := HC.out w_ hSw_; go_simp; try with_reducible rfl)); (try simp only [Act.put, zA, zB, zC, zD, zE, zF])
  (refine wpAnyH_take (i := 13) (v := ?_) rfl (by kernel_rfl) (by kernel_rfl) (by kernel_rfl) (fun _ _ _ h => h) (Or.inl ⟨by rfl, ?_⟩) hHeld ?_; rotate_left; focus (intro w_ hSw_; obtain ⟨z0, z1, z2, z3, z4, z5⟩ := HC.out w_ hSw_; go_simp; try with_reducible rfl)); (try simp only [Act.put, zA, zB, zC, zD, zE, zF])
  (refine wpAnyH_take (i := 14) (v := ?_) rfl (by kernel_rfl) (by kernel_rfl) (by kernel_rfl) (fun _ _ _ h => h) (Or.inl ⟨by rfl, ?_⟩) hHeld ?_; rotate_left; focus (intro w_ hSw_; obtain ⟨z0, z1, z2, z3, z4, z5⟩ := HC.out w_ hSw_; go_simp; try with_reducible rfl)); (try simp only [Act.put, zA, zB, zC, zD, zE, zF])
  refine wpAnyH_ready (rs := [15]) (by kernel_rfl) (by simp) ?_; refine AllReadyH.cons rfl (fun K hK => ?_) AllReadyH.nil; rw [if_pos (by rfl)]; (go_simp); (go_at_call 21; refine (HMAY.out _ hHeld).mono ?_; rintro e w4 ⟨rfl, ⟨q4, rfl⟩⟩; (have HB' := held_below hHeld (pw_below_drewN (Below.refl _ _) q4))); (first | skip); refine hK.out _ _ (HB') (fun hHeld => ?_); clear hK K; (try simp only [Act.put, zA, zB, zC, zD, zE, zF])
  (refine wpAnyH_take (i := 16) (v := ?_) rfl (by kernel_rfl) (by kernel_rfl) (by kernel_rfl) (fun _ _ _ h => h) (Or.inl ⟨by rfl, ?_⟩) hHeld ?_; rotate_left; focus (intro w_ hSw_; obtain ⟨z0, z1, z2, z3, z4, z5⟩ := HC.out w_ hSw_; go_simp; try with_reducible rfl)); (try simp only [Act.put, zA, zB, zC, zD, zE, zF])
  (refine wpAnyH_take (i := 17) (v := ?_) rfl (by kernel_rfl) (by kernel_rfl) (by kernel_rfl) (fun _ _ _ h => h) (Or.inl ⟨by rfl, ?_⟩) hHeld ?_; rotate_left; focus (intro w_ hSw_; obtain ⟨z0, z1, z2, z3, z4, z5⟩ := HC.out w_ hSw_; go_simp; try with_reducible rfl)); (try simp only [Act.put, zA, zB, zC, zD, zE, zF])
  (refine wpAnyH_take (i := 18) (v := ?_) rfl (by kernel_rfl) (by kernel_rfl) (by kernel_rfl) (fun _ _ _ h => h) (Or.inl ⟨by rfl, ?_⟩) hHeld ?_; rotate_left; focus (intro w_ hSw_; obtain ⟨z0, z1, z2, z3, z4, z5⟩ := HC.out w_ hSw_; go_simp; try with_reducible rfl)); (try simp only [Act.put, zA, zB, zC, zD, zE, zF])
  (refine wpAnyH_take (i := 19) (v := _) rfl (by kernel_rfl) (by kernel_rfl) (by kernel_rfl) (fun _ _ _ h => h) (Or.inr ⟨by rfl, rfl⟩) hHeld ?_); (try simp only [Act.put, zA, zB, zC, zD, zE, zF])
  (refine wpAnyH_take (i := 20) (v := _) rfl (by kernel_rfl) (by kernel_rfl) (by kernel_rfl) (fun _ _ _ h => h) (Or.inr ⟨by rfl, rfl⟩) hHeld ?_); (try simp only [Act.put, zA, zB, zC, zD, zE, zF])
  (refine wpAnyH_take (i := 21) (v := _) rfl (by kernel_rfl) (by kernel_rfl) (by kernel_rfl) (fun _ _ _ h => h) (Or.inr ⟨by rfl, rfl⟩) hHeld ?_); (try simp only [Act.put, zA, zB, zC, zD, zE, zF])
  (refine wpAnyH_take (i := 22) (v := _) rfl (by kernel_rfl) (by kernel_rfl) (by kernel_rfl) (fun _ _ _ h => h) (Or.inr ⟨by rfl, rfl⟩) hHeld ?_); (try simp only [Act.put, zA, zB, zC, zD, zE, zF])
  (refine wpAnyH_take (i := 23) (v := _) rfl (by kernel_rfl) (by kernel_rfl) (by kernel_rfl) (fun _ _ _ h => h) (Or.inr ⟨by rfl, rfl⟩) hHeld ?_); (try simp only [Act.put, zA, zB, zC, zD, zE, zF])
  (refine wpAnyH_take (i := 24) (v := _) rfl (by kernel_rfl) (by kernel_rfl) (by kernel_rfl) (fun _ _ _ h => h) (Or.inr ⟨by rfl, rfl⟩) hHeld ?_); (try simp only [Act.put, zA, zB, zC, zD, zE, zF])
  (refine wpAnyH_take (i := 25) (v := _) rfl (by kernel_rfl) (by kernel_rfl) (by kernel_rfl) (fun _ _ _ h => h) (Or.inr ⟨by rfl, rfl⟩) hHeld ?_); (try simp only [Act.put, zA, zB, zC, zD, zE, zF])
  (refine wpAnyH_take (i := 26) (v := _) rfl (by kernel_rfl) (by kernel_rfl) (by kernel_rfl) (fun _ _ _ h => h) (Or.inr ⟨by rfl, rfl⟩) hHeld ?_); (try simp only [Act.put, zA, zB, zC, zD, zE, zF])
  (refine wpAnyH_take (i := 27) (v := _) rfl (by kernel_rfl) (by kernel_rfl) (by kernel_rfl) (fun _ _ _ h => h) (Or.inr ⟨by rfl, rfl⟩) hHeld ?_); (try simp only [Act.put, zA, zB, zC, zD, zE, zF])
  (refine wpAnyH_take (i := 28) (v := _) rfl (by kernel_rfl) (by kernel_rfl) (by kernel_rfl) (fun _ _ _ h => h) (Or.inr ⟨by rfl, rfl⟩) hHeld ?_); (try simp only [Act.put, zA, zB, zC, zD, zE, zF])
  (refine wpAnyH_take (i := 29) (v := _) rfl (by kernel_rfl) (by kernel_rfl) (by kernel_rfl) (fun _ _ _ h => h) (Or.inr ⟨by rfl, rfl⟩) hHeld ?_); (try simp only [Act.put, zA, zB, zC, zD, zE, zF])
  (refine wpAnyH_take (i := 30) (v := _) rfl (by kernel_rfl) (by kernel_rfl) (by kernel_rfl) (fun _ _ _ h => h) (Or.inr ⟨by rfl, rfl⟩) hHeld ?_); (try simp only [Act.put, zA, zB, zC, zD, zE, zF])
  (refine wpAnyH_take (i := 31) (v := _) rfl (by kernel_rfl) (by kernel_rfl) (by kernel_rfl) (fun _ _ _ h => h) (Or.inr ⟨by rfl, rfl⟩) hHeld ?_); (try simp only [Act.put, zA, zB, zC, zD, zE, zF])
  (refine wpAnyH_take (i := 32) (v := _) rfl (by kernel_rfl) (by kernel_rfl) (by kernel_rfl) (fun _ _ _ h => h) (Or.inr ⟨by rfl, rfl⟩) hHeld ?_); (try simp only [Act.put, zA, zB, zC, zD, zE, zF])
  (refine wpAnyH_take (i := 33) (v := ?_) rfl (by kernel_rfl) (by kernel_rfl) (by kernel_rfl) (fun _ _ _ h => h) (Or.inl ⟨by rfl, ?_⟩) hHeld ?_; rotate_left; focus (intro w_ hSw_; obtain ⟨z0, z1, z2, z3, z4, z5⟩ := HC.out w_ hSw_; go_simp; try with_reducible rfl)); (try simp only [Act.put, zA, zB, zC, zD, zE, zF])
  refine wpAnyH_done (by kernel_rfl) ?_ _
  go_wp2
  go_ret2
  exact ⟨_, rfl, Kd.R_nil _ _ _ _ _, by repeat (first | exact HB1.out.1.trans (hHeld.out.mono HB1.out.1.size) | apply pw_below_drewN)⟩
set_option maxHeartbeats 4000000 in
set_option maxRecDepth 100000 in
theorem img_ge (a0 a1 a2 a3 : Int) (A4 : Option Addr) (c4 : Nat) (l4 : List (List Int)) (A5 : Option Addr) (c5 : Nat) (l5 : List Mtr) (A1 : Option Addr) (c1 : Nat) (l1 : List Int) (w : World) (hEV : EV w) (hr4 : Kd.C (Kd.slice 3 (Kd.int .i64)) w A4 l4.length l4) (hc4 : l4.length ≤ c4) (hr5 : Kd.C k25 w A5 l5.length l5) (hc5 : l5.length ≤ c5) (hr1 : Kd.C (Kd.int .i64) w A1 l1.length l1) (hc1 : l1.length ≤ c1) (hck : chkN ⟨a0, a1, a2, a3, l4, l5⟩ = 0) (hm : mayB l1 = true) (h0 : 0 < l1.length) (hge : a1 ≤ rd l1 ((l1.length : Int) - 1)) (h56 : a0 = 5 ∨ a0 = 6) :
 Calls Tryd.prog 10 #[.agg #[.int .i64 a0, .int .i64 a1, .int .i64 a2, .int .i64 a3, .slice A4 l4.length c4, .slice A5 l5.length c5], .slice A1 l1.length c1] w fun e w' => ∃ v0_ : Value, e = .returned (.tuple #[v0_, .bool false]) ∧ Kd.R (Kd.int .i64) 3 w' w.heap.size (fun _ => True) v0_ [] ∧ Below w.heap.size w w' := by
 obtain ⟨c, hc⟩ : ∃ c : Int, c = 0 := ⟨_, rfl⟩
 rw [← hc] at hck
 obtain ⟨ad1, hA1, hy⟩ := Kd.at_int hr1 ((l1.length : Int) - 1) (by omega) (by omega)
 subst hA1
 rw [show ((l1.length : Int) - 1).toNat = l1.length - 1 by omega] at hy
 have h0c : decide (0 < l1.length) = true := decide_eq_true h0
 have hi0 : (0 : Int) ≤ (l1.length : Int) - 1 := by omega
 have hi1 : (l1.length : Int) - 1 < (l1.length : Int) := by omega
 have hlast : wrap64 ((l1.length : Int) - 1) = (l1.length : Int) - 1 := by have := hr1.2.1; unfold wrap64; omega
 have hb0 : (l1.length : Int) ≤ 9223372036854775807 := by have := hr1.2.1; omega
 have hwr : IntKind.i64.wrap ((l1.length : Int) - 1) = (l1.length : Int) - 1 := by rw [wrap_i64]; exact hlast
 have htn : ((l1.length : Int) - 1).toNat = l1.length - 1 := by omega
 have h1l : (1 : Int) ≤ (l1.length : Int) := by omega
 obtain ⟨W1, hW1⟩ : ∃ W1, W1 = w.alloc (Obj.cells #[.int .i64 a0, .int .i64 a1, .int .i64 a2, .int .i64 a3, .slice A4 l4.length c4, .slice A5 l5.length c5] 25) := ⟨_, rfl⟩
 have hB1 : Below w.heap.size w W1 := by subst hW1; exact (Below.refl _ _).alloc (Nat.le_refl _) _
 have hbx := mbox w 25 (.int .i64 a0) (.int .i64 a1) (.int .i64 a2) (.int .i64 a3) (.slice A4 l4.length c4) (.slice A5 l5.length c5)
 have hsz : w.heap.size < W1.heap.size := by
  subst hW1
  rw [show (w.alloc (Obj.cells #[.int .i64 a0, .int .i64 a1, .int .i64 a2, .int .i64 a3, .slice A4 l4.length c4, .slice A5 l5.length c5] 25)).heap.size = w.heap.size + 1 from Array.size_push ..]; omega
 rw [← hW1] at hbx
 have HB1 := Aside0.mk (And.intro hB1 (And.intro hbx hsz))
 have HW1 := Aside0.mk hW1
 have HCK := Aside0.mk (fun (w' : World) (hw : Aside0 (Below W1.heap.size W1 w')) => matroid_Check.calls a0 a1 a2 a3 A4 c4 l4 A5 c5 l5 c w' (hEV.below (hB1.trans (hw.out.mono hB1.size)) hEV.pos) (Kd.C_below hr4 (hB1.trans (hw.out.mono hB1.size))) hc4 (Kd.C_below hr5 (hB1.trans (hw.out.mono hB1.size))) hc5 (by rw [← hck]; rfl))
 have HMAY := Aside0.mk (fun (w' : World) (hw : Aside0 (Below W1.heap.size W1 w')) => set_May_now (some ad1) c1 l1 w' (Kd.C_below hr1 (hB1.trans (hw.out.mono hB1.size))) hc1 hr1.2.1)
 have HC : Aside0 (∀ w', Aside0 (Below W1.heap.size W1 w') → w'.cell? ⟨w.heap.size, 0, none⟩ = some (.int .i64 a0) ∧ w'.cell? ⟨w.heap.size, 1, none⟩ = some (.int .i64 a1) ∧ w'.cell? ⟨w.heap.size, 2, none⟩ = some (.int .i64 a2) ∧ w'.cell? ⟨w.heap.size, 3, none⟩ = some (.int .i64 a3) ∧ w'.cell? ⟨w.heap.size, 4, none⟩ = some (.slice A4 l4.length c4) ∧ w'.cell? ⟨w.heap.size, 5, none⟩ = some (.slice A5 l5.length c5)) :=
  ⟨fun w' hw => ⟨(hw.out.cell (p := ⟨w.heap.size, 0, none⟩) hsz).trans hbx.1, (hw.out.cell (p := ⟨w.heap.size, 1, none⟩) hsz).trans hbx.2.1, (hw.out.cell (p := ⟨w.heap.size, 2, none⟩) hsz).trans hbx.2.2.1, (hw.out.cell (p := ⟨w.heap.size, 3, none⟩) hsz).trans hbx.2.2.2.1, (hw.out.cell (p := ⟨w.heap.size, 4, none⟩) hsz).trans hbx.2.2.2.2.1, (hw.out.cell (p := ⟨w.heap.size, 5, none⟩) hsz).trans hbx.2.2.2.2.2⟩⟩
 subst hc
 have g2 : decide (a1 ≤ rd l1 ((l1.length : Int) - 1)) = true := decide_eq_true hge
 clear hge
 generalize rd l1 ((l1.length : Int) - 1) = y at *
 have HY : Aside0 (∀ w', Aside0 (Below W1.heap.size W1 w') → w'.cell? (ad1.add (l1.length - 1)) = some (.int .i64 y)) := ⟨fun w' hw => ((hB1.trans (hw.out.mono hB1.size)).cell (World.block_lt_of_cell? w _ hy)).trans hy⟩
 rw [hm] at HMAY
 clear hB1 hbx hsz hr4 hc4 hr5 hc5 hr1 hc1 hck hEV hW1 hm hy
 rcases h56 with rfl | rfl
 ·go_enter Tryd.func10, Tryd.ntmps10
  go_wp2
  rw [← HW1.out]
  refine wp_region_held_drew (S := fun w' => Aside0 (Below W1.heap.size W1 w')) (by kernel_rfl) (⟨(Below.refl _ _).drew⟩) (fun hHeld => ?_)
  (refine wpAnyH_take (i := 0) (v := ?_) rfl (by kernel_rfl) (by kernel_rfl) (by kernel_rfl) (fun _ _ _ h => h) (Or.inl ⟨by rfl, ?_⟩) hHeld ?_; rotate_left; focus (intro w_ hSw_; obtain ⟨z0, z1, z2, z3, z4, z5⟩ := HC.out w_ hSw_; go_simp; try with_reducible rfl)); (try simp only [Act.put, zA, zB, zC, zD, zE, zF])
  refine wpAnyH_ready (rs := [1]) (by kernel_rfl) (by simp) ?_; refine AllReadyH.cons rfl (fun K hK => ?_) AllReadyH.nil; rw [if_pos (by rfl)]; (go_simp); (go_at_call 12; refine (HCK.out _ hHeld).mono ?_; rintro e w3 ⟨rfl, hb⟩; (have HB' := held_below hHeld hb); clear hb); (first | skip); refine hK.out _ _ (HB') (fun hHeld => ?_); clear hK K; (try simp only [Act.put, zA, zB, zC, zD, zE, zF])
  (refine wpAnyH_take (i := 2) (v := ?_) rfl (by kernel_rfl) (by kernel_rfl) (by kernel_rfl) (fun _ _ _ h => h) (Or.inl ⟨by rfl, ?_⟩) hHeld ?_; rotate_left; focus (intro w_ hSw_; obtain ⟨z0, z1, z2, z3, z4, z5⟩ := HC.out w_ hSw_; go_simp; try with_reducible rfl)); (try simp only [Act.put, zA, zB, zC, zD, zE, zF])
  (refine wpAnyH_take (i := 3) (v := ?_) rfl (by kernel_rfl) (by kernel_rfl) (by kernel_rfl) (fun _ _ _ h => h) (Or.inl ⟨by rfl, ?_⟩) hHeld ?_; rotate_left; focus (intro w_ hSw_; obtain ⟨z0, z1, z2, z3, z4, z5⟩ := HC.out w_ hSw_; go_simp; try with_reducible rfl)); (try simp only [Act.put, zA, zB, zC, zD, zE, zF])
  (refine wpAnyH_take (i := 4) (v := ?_) rfl (by kernel_rfl) (by kernel_rfl) (by kernel_rfl) (fun _ _ _ h => h) (Or.inl ⟨by rfl, ?_⟩) hHeld ?_; rotate_left; focus (intro w_ hSw_; obtain ⟨z0, z1, z2, z3, z4, z5⟩ := HC.out w_ hSw_; go_simp; try with_reducible rfl)); (try simp only [Act.put, zA, zB, zC, zD, zE, zF])
  (refine wpAnyH_take (i := 5) (v := ?_) rfl (by kernel_rfl) (by kernel_rfl) (by kernel_rfl) (fun _ _ _ h => h) (Or.inl ⟨by rfl, ?_⟩) hHeld ?_; rotate_left; focus (intro w_ hSw_; obtain ⟨z0, z1, z2, z3, z4, z5⟩ := HC.out w_ hSw_; go_simp; try with_reducible rfl)); (try simp only [Act.put, zA, zB, zC, zD, zE, zF])
  (refine wpAnyH_take (i := 6) (v := ?_) rfl (by kernel_rfl) (by kernel_rfl) (by kernel_rfl) (fun _ _ _ h => h) (Or.inl ⟨by rfl, ?_⟩) hHeld ?_; rotate_left; focus (intro w_ hSw_; obtain ⟨z0, z1, z2, z3, z4, z5⟩ := HC.out w_ hSw_; go_simp; try with_reducible rfl)); (try simp only [Act.put, zA, zB, zC, zD, zE, zF])
  (refine wpAnyH_take (i := 7) (v := ?_) rfl (by kernel_rfl) (by kernel_rfl) (by kernel_rfl) (fun _ _ _ h => h) (Or.inl ⟨by rfl, ?_⟩) hHeld ?_; rotate_left; focus (intro w_ hSw_; obtain ⟨z0, z1, z2, z3, z4, z5⟩ := HC.out w_ hSw_; go_simp; try with_reducible rfl)); (try simp only [Act.put, zA, zB, zC, zD, zE, zF])
  (refine wpAnyH_take (i := 8) (v := _) rfl (by kernel_rfl) (by kernel_rfl) (by kernel_rfl) (fun _ _ _ h => h) (Or.inr ⟨by rfl, rfl⟩) hHeld ?_); (try simp only [Act.put, zA, zB, zC, zD, zE, zF])
  (refine wpAnyH_take (i := 9) (v := _) rfl (by kernel_rfl) (by kernel_rfl) (by kernel_rfl) (fun _ _ _ h => h) (Or.inr ⟨by rfl, rfl⟩) hHeld ?_); (try simp only [Act.put, zA, zB, zC, zD, zE, zF])
  (refine wpAnyH_take (i := 10) (v := _) rfl (by kernel_rfl) (by kernel_rfl) (by kernel_rfl) (fun _ _ _ h => h) (Or.inr ⟨by rfl, rfl⟩) hHeld ?_); (try simp only [Act.put, zA, zB, zC, zD, zE, zF])
  (refine wpAnyH_take (i := 11) (v := ?_) rfl (by kernel_rfl) (by kernel_rfl) (by kernel_rfl) (fun _ _ _ h => h) (Or.inl ⟨by rfl, ?_⟩) hHeld ?_; rotate_left; focus (intro w_ hSw_; obtain ⟨z0, z1, z2, z3, z4, z5⟩ := HC.out w_ hSw_; go_simp; try with_reducible rfl)); (try simp only [Act.put, zA, zB, zC, zD, zE, zF])
  (refine wpAnyH_take (i := 12) (v := ?_) rfl (by kernel_rfl) (by kernel_rfl) (by kernel_rfl) (fun _ _ _ h => h) (Or.inl ⟨by rfl, ?_⟩) hHeld ?_; rotate_left; focus (intro w_ hSw_; obtain ⟨z0, z1, z2, z3, z4, z5⟩ := HC.out w_ hSw_; go_simp; try with_reducible rfl)); (try simp only [Act.put, zA, zB, zC, zD, zE, zF])
  (refine wpAnyH_take (i := 13) (v := ?_) rfl (by kernel_rfl) (by kernel_rfl) (by kernel_rfl) (fun _ _ _ h => h) (Or.inl ⟨by rfl, ?_⟩) hHeld ?_; rotate_left; focus (intro w_ hSw_; obtain ⟨z0, z1, z2, z3, z4, z5⟩ := HC.out w_ hSw_; go_simp; try with_reducible rfl)); (try simp only [Act.put, zA, zB, zC, zD, zE, zF])
  (refine wpAnyH_take (i := 14) (v := ?_) rfl (by kernel_rfl) (by kernel_rfl) (by kernel_rfl) (fun _ _ _ h => h) (Or.inl ⟨by rfl, ?_⟩) hHeld ?_; rotate_left; focus (intro w_ hSw_; obtain ⟨z0, z1, z2, z3, z4, z5⟩ := HC.out w_ hSw_; go_simp; try with_reducible rfl)); (try simp only [Act.put, zA, zB, zC, zD, zE, zF])
  refine wpAnyH_ready (rs := [15]) (by kernel_rfl) (by simp) ?_; refine AllReadyH.cons rfl (fun K hK => ?_) AllReadyH.nil; rw [if_pos (by rfl)]; (go_simp); (go_at_call 21; refine (HMAY.out _ hHeld).mono ?_; rintro e w4 ⟨rfl, ⟨q4, rfl⟩⟩; (have HB' := held_below hHeld (pw_below_drewN (Below.refl _ _) q4))); (first | skip); refine hK.out _ _ (HB') (fun hHeld => ?_); clear hK K; (try simp only [Act.put, zA, zB, zC, zD, zE, zF])
  (refine wpAnyH_take (i := 16) (v := ?_) rfl (by kernel_rfl) (by kernel_rfl) (by kernel_rfl) (fun _ _ _ h => h) (Or.inl ⟨by rfl, ?_⟩) hHeld ?_; rotate_left; focus (intro w_ hSw_; obtain ⟨z0, z1, z2, z3, z4, z5⟩ := HC.out w_ hSw_; go_simp; try with_reducible rfl)); (try simp only [Act.put, zA, zB, zC, zD, zE, zF])
  (refine wpAnyH_take (i := 17) (v := ?_) rfl (by kernel_rfl) (by kernel_rfl) (by kernel_rfl) (fun _ _ _ h => h) (Or.inl ⟨by rfl, ?_⟩) hHeld ?_; rotate_left; focus (intro w_ hSw_; obtain ⟨z0, z1, z2, z3, z4, z5⟩ := HC.out w_ hSw_; go_simp; try with_reducible rfl)); (try simp only [Act.put, zA, zB, zC, zD, zE, zF])
  (refine wpAnyH_take (i := 18) (v := ?_) rfl (by kernel_rfl) (by kernel_rfl) (by kernel_rfl) (fun _ _ _ h => h) (Or.inl ⟨by rfl, ?_⟩) hHeld ?_; rotate_left; focus (intro w_ hSw_; obtain ⟨z0, z1, z2, z3, z4, z5⟩ := HC.out w_ hSw_; go_simp; try with_reducible rfl)); (try simp only [Act.put, zA, zB, zC, zD, zE, zF])
  (refine wpAnyH_take (i := 19) (v := ?_) rfl (by kernel_rfl) (by kernel_rfl) (by kernel_rfl) (fun _ _ _ h => h) (Or.inl ⟨by rfl, ?_⟩) hHeld ?_; rotate_left; focus (intro w_ hSw_; obtain ⟨z0, z1, z2, z3, z4, z5⟩ := HC.out w_ hSw_; go_simp; try with_reducible rfl)); (try simp only [Act.put, zA, zB, zC, zD, zE, zF])
  (refine wpAnyH_take (i := 20) (v := ?_) rfl (by kernel_rfl) (by kernel_rfl) (by kernel_rfl) (fun _ _ _ h => h) (Or.inl ⟨by rfl, ?_⟩) hHeld ?_; rotate_left; focus (intro w_ hSw_; obtain ⟨z0, z1, z2, z3, z4, z5⟩ := HC.out w_ hSw_; go_simp; try with_reducible rfl)); (try simp only [Act.put, zA, zB, zC, zD, zE, zF])
  (refine wpAnyH_take (i := 21) (v := ?_) rfl (by kernel_rfl) (by kernel_rfl) (by kernel_rfl) (fun _ _ _ h => h) (Or.inl ⟨by rfl, ?_⟩) hHeld ?_; rotate_left; focus (intro w_ hSw_; obtain ⟨z0, z1, z2, z3, z4, z5⟩ := HC.out w_ hSw_; go_simp; try with_reducible rfl)); (try simp only [Act.put, zA, zB, zC, zD, zE, zF])
  (refine wpAnyH_take (i := 22) (v := ?_) rfl (by kernel_rfl) (by kernel_rfl) (by kernel_rfl) (fun _ _ _ h => h) (Or.inl ⟨by rfl, ?_⟩) hHeld ?_; rotate_left; focus (intro w_ hSw_; obtain ⟨z0, z1, z2, z3, z4, z5⟩ := HC.out w_ hSw_; go_simp; try with_reducible rfl)); (try simp only [Act.put, zA, zB, zC, zD, zE, zF])
  (refine wpAnyH_take (i := 23) (v := ?_) rfl (by kernel_rfl) (by kernel_rfl) (by kernel_rfl) (fun _ _ _ h => h) (Or.inl ⟨by rfl, ?_⟩) hHeld ?_; rotate_left; focus (intro w_ hSw_; obtain ⟨z0, z1, z2, z3, z4, z5⟩ := HC.out w_ hSw_; have y0 := HY.out w_ hSw_; go_simp; try with_reducible rfl)); (try simp only [Act.put, zA, zB, zC, zD, zE, zF])
  (refine wpAnyH_take (i := 24) (v := ?_) rfl (by kernel_rfl) (by kernel_rfl) (by kernel_rfl) (fun _ _ _ h => h) (Or.inl ⟨by rfl, ?_⟩) hHeld ?_; rotate_left; focus (intro w_ hSw_; obtain ⟨z0, z1, z2, z3, z4, z5⟩ := HC.out w_ hSw_; have y0 := HY.out w_ hSw_; go_simp; try with_reducible rfl)); (try simp only [Act.put, zA, zB, zC, zD, zE, zF])
  (refine wpAnyH_take (i := 25) (v := ?_) rfl (by kernel_rfl) (by kernel_rfl) (by kernel_rfl) (fun _ _ _ h => h) (Or.inl ⟨by rfl, ?_⟩) hHeld ?_; rotate_left; focus (intro w_ hSw_; obtain ⟨z0, z1, z2, z3, z4, z5⟩ := HC.out w_ hSw_; have y0 := HY.out w_ hSw_; go_simp; try with_reducible rfl)); (try simp only [Act.put, zA, zB, zC, zD, zE, zF])
  (refine wpAnyH_take (i := 26) (v := ?_) rfl (by kernel_rfl) (by kernel_rfl) (by kernel_rfl) (fun _ _ _ h => h) (Or.inl ⟨by rfl, ?_⟩) hHeld ?_; rotate_left; focus (intro w_ hSw_; obtain ⟨z0, z1, z2, z3, z4, z5⟩ := HC.out w_ hSw_; have y0 := HY.out w_ hSw_; go_simp; try with_reducible rfl)); (try simp only [Act.put, zA, zB, zC, zD, zE, zF])
  (refine wpAnyH_take (i := 27) (v := ?_) rfl (by kernel_rfl) (by kernel_rfl) (by kernel_rfl) (fun _ _ _ h => h) (Or.inl ⟨by rfl, ?_⟩) hHeld ?_; rotate_left; focus (intro w_ hSw_; obtain ⟨z0, z1, z2, z3, z4, z5⟩ := HC.out w_ hSw_; have y0 := HY.out w_ hSw_; go_simp; try with_reducible rfl)); (try simp only [Act.put, zA, zB, zC, zD, zE, zF])
  (refine wpAnyH_take (i := 28) (v := ?_) rfl (by kernel_rfl) (by kernel_rfl) (by kernel_rfl) (fun _ _ _ h => h) (Or.inl ⟨by rfl, ?_⟩) hHeld ?_; rotate_left; focus (intro w_ hSw_; obtain ⟨z0, z1, z2, z3, z4, z5⟩ := HC.out w_ hSw_; have y0 := HY.out w_ hSw_; go_simp; try with_reducible rfl)); (try simp only [Act.put, zA, zB, zC, zD, zE, zF])
  (refine wpAnyH_take (i := 29) (v := ?_) rfl (by kernel_rfl) (by kernel_rfl) (by kernel_rfl) (fun _ _ _ h => h) (Or.inl ⟨by rfl, ?_⟩) hHeld ?_; rotate_left; focus (intro w_ hSw_; obtain ⟨z0, z1, z2, z3, z4, z5⟩ := HC.out w_ hSw_; have y0 := HY.out w_ hSw_; go_simp; try with_reducible rfl)); (try simp only [Act.put, zA, zB, zC, zD, zE, zF])
  (refine wpAnyH_take (i := 30) (v := ?_) rfl (by kernel_rfl) (by kernel_rfl) (by kernel_rfl) (fun _ _ _ h => h) (Or.inl ⟨by rfl, ?_⟩) hHeld ?_; rotate_left; focus (intro w_ hSw_; obtain ⟨z0, z1, z2, z3, z4, z5⟩ := HC.out w_ hSw_; have y0 := HY.out w_ hSw_; go_simp; try with_reducible rfl)); (try simp only [Act.put, zA, zB, zC, zD, zE, zF])
  (refine wpAnyH_take (i := 31) (v := ?_) rfl (by kernel_rfl) (by kernel_rfl) (by kernel_rfl) (fun _ _ _ h => h) (Or.inl ⟨by rfl, ?_⟩) hHeld ?_; rotate_left; focus (intro w_ hSw_; obtain ⟨z0, z1, z2, z3, z4, z5⟩ := HC.out w_ hSw_; have y0 := HY.out w_ hSw_; go_simp; try with_reducible rfl)); (try simp only [Act.put, zA, zB, zC, zD, zE, zF])
  (refine wpAnyH_take (i := 32) (v := ?_) rfl (by kernel_rfl) (by kernel_rfl) (by kernel_rfl) (fun _ _ _ h => h) (Or.inl ⟨by rfl, ?_⟩) hHeld ?_; rotate_left; focus (intro w_ hSw_; obtain ⟨z0, z1, z2, z3, z4, z5⟩ := HC.out w_ hSw_; have y0 := HY.out w_ hSw_; go_simp; try with_reducible rfl)); (try simp only [Act.put, zA, zB, zC, zD, zE, zF])
  (refine wpAnyH_take (i := 33) (v := ?_) rfl (by kernel_rfl) (by kernel_rfl) (by kernel_rfl) (fun _ _ _ h => h) (Or.inl ⟨by rfl, ?_⟩) hHeld ?_; rotate_left; focus (intro w_ hSw_; obtain ⟨z0, z1, z2, z3, z4, z5⟩ := HC.out w_ hSw_; have y0 := HY.out w_ hSw_; go_simp; try with_reducible rfl)); (try simp only [Act.put, zA, zB, zC, zD, zE, zF])
  refine wpAnyH_done (by kernel_rfl) ?_ _
  go_wp2
  go_ret2
  exact ⟨_, rfl, Kd.R_nil _ _ _ _ _, by repeat (first | exact HB1.out.1.trans (hHeld.out.mono HB1.out.1.size) | apply pw_below_drewN)⟩
 ·go_enter Tryd.func10, Tryd.ntmps10
  go_wp2
  rw [← HW1.out]
  refine wp_region_held_drew (S := fun w' => Aside0 (Below W1.heap.size W1 w')) (by kernel_rfl) (⟨(Below.refl _ _).drew⟩) (fun hHeld => ?_)
  (refine wpAnyH_take (i := 0) (v := ?_) rfl (by kernel_rfl) (by kernel_rfl) (by kernel_rfl) (fun _ _ _ h => h) (Or.inl ⟨by rfl, ?_⟩) hHeld ?_; rotate_left; focus (intro w_ hSw_; obtain ⟨z0, z1, z2, z3, z4, z5⟩ := HC.out w_ hSw_; go_simp; try with_reducible rfl)); (try simp only [Act.put, zA, zB, zC, zD, zE, zF])
  refine wpAnyH_ready (rs := [1]) (by kernel_rfl) (by simp) ?_; refine AllReadyH.cons rfl (fun K hK => ?_) AllReadyH.nil; rw [if_pos (by rfl)]; (go_simp); (go_at_call 12; refine (HCK.out _ hHeld).mono ?_; rintro e w3 ⟨rfl, hb⟩; (have HB' := held_below hHeld hb); clear hb); (first | skip); refine hK.out _ _ (HB') (fun hHeld => ?_); clear hK K; (try simp only [Act.put, zA, zB, zC, zD, zE, zF])
  (refine wpAnyH_take (i := 2) (v := ?_) rfl (by kernel_rfl) (by kernel_rfl) (by kernel_rfl) (fun _ _ _ h => h) (Or.inl ⟨by rfl, ?_⟩) hHeld ?_; rotate_left; focus (intro w_ hSw_; obtain ⟨z0, z1, z2, z3, z4, z5⟩ := HC.out w_ hSw_; go_simp; try with_reducible rfl)); (try simp only [Act.put, zA, zB, zC, zD, zE, zF])
  (refine wpAnyH_take (i := 3) (v := ?_) rfl (by kernel_rfl) (by kernel_rfl) (by kernel_rfl) (fun _ _ _ h => h) (Or.inl ⟨by rfl, ?_⟩) hHeld ?_; rotate_left; focus (intro w_ hSw_; obtain ⟨z0, z1, z2, z3, z4, z5⟩ := HC.out w_ hSw_; go_simp; try with_reducible rfl)); (try simp only [Act.put, zA, zB, zC, zD, zE, zF])
  (refine wpAnyH_take (i := 4) (v := ?_) rfl (by kernel_rfl) (by kernel_rfl) (by kernel_rfl) (fun _ _ _ h => h) (Or.inl ⟨by rfl, ?_⟩) hHeld ?_; rotate_left; focus (intro w_ hSw_; obtain ⟨z0, z1, z2, z3, z4, z5⟩ := HC.out w_ hSw_; go_simp; try with_reducible rfl)); (try simp only [Act.put, zA, zB, zC, zD, zE, zF])
  (refine wpAnyH_take (i := 5) (v := ?_) rfl (by kernel_rfl) (by kernel_rfl) (by kernel_rfl) (fun _ _ _ h => h) (Or.inl ⟨by rfl, ?_⟩) hHeld ?_; rotate_left; focus (intro w_ hSw_; obtain ⟨z0, z1, z2, z3, z4, z5⟩ := HC.out w_ hSw_; go_simp; try with_reducible rfl)); (try simp only [Act.put, zA, zB, zC, zD, zE, zF])
  (refine wpAnyH_take (i := 6) (v := ?_) rfl (by kernel_rfl) (by kernel_rfl) (by kernel_rfl) (fun _ _ _ h => h) (Or.inl ⟨by rfl, ?_⟩) hHeld ?_; rotate_left; focus (intro w_ hSw_; obtain ⟨z0, z1, z2, z3, z4, z5⟩ := HC.out w_ hSw_; go_simp; try with_reducible rfl)); (try simp only [Act.put, zA, zB, zC, zD, zE, zF])
  (refine wpAnyH_take (i := 7) (v := ?_) rfl (by kernel_rfl) (by kernel_rfl) (by kernel_rfl) (fun _ _ _ h => h) (Or.inl ⟨by rfl, ?_⟩) hHeld ?_; rotate_left; focus (intro w_ hSw_; obtain ⟨z0, z1, z2, z3, z4, z5⟩ := HC.out w_ hSw_; go_simp; try with_reducible rfl)); (try simp only [Act.put, zA, zB, zC, zD, zE, zF])
  (refine wpAnyH_take (i := 8) (v := ?_) rfl (by kernel_rfl) (by kernel_rfl) (by kernel_rfl) (fun _ _ _ h => h) (Or.inl ⟨by rfl, ?_⟩) hHeld ?_; rotate_left; focus (intro w_ hSw_; obtain ⟨z0, z1, z2, z3, z4, z5⟩ := HC.out w_ hSw_; go_simp; try with_reducible rfl)); (try simp only [Act.put, zA, zB, zC, zD, zE, zF])
  (refine wpAnyH_take (i := 9) (v := ?_) rfl (by kernel_rfl) (by kernel_rfl) (by kernel_rfl) (fun _ _ _ h => h) (Or.inl ⟨by rfl, ?_⟩) hHeld ?_; rotate_left; focus (intro w_ hSw_; obtain ⟨z0, z1, z2, z3, z4, z5⟩ := HC.out w_ hSw_; go_simp; try with_reducible rfl)); (try simp only [Act.put, zA, zB, zC, zD, zE, zF])
  (refine wpAnyH_take (i := 10) (v := ?_) rfl (by kernel_rfl) (by kernel_rfl) (by kernel_rfl) (fun _ _ _ h => h) (Or.inl ⟨by rfl, ?_⟩) hHeld ?_; rotate_left; focus (intro w_ hSw_; obtain ⟨z0, z1, z2, z3, z4, z5⟩ := HC.out w_ hSw_; go_simp; try with_reducible rfl)); (try simp only [Act.put, zA, zB, zC, zD, zE, zF])
  (refine wpAnyH_take (i := 11) (v := ?_) rfl (by kernel_rfl) (by kernel_rfl) (by kernel_rfl) (fun _ _ _ h => h) (Or.inl ⟨by rfl, ?_⟩) hHeld ?_; rotate_left; focus (intro w_ hSw_; obtain ⟨z0, z1, z2, z3, z4, z5⟩ := HC.out w_ hSw_; go_simp; try with_reducible rfl)); (try simp only [Act.put, zA, zB, zC, zD, zE, zF])
  (refine wpAnyH_take (i := 12) (v := ?_) rfl (by kernel_rfl) (by kernel_rfl) (by kernel_rfl) (fun _ _ _ h => h) (Or.inl ⟨by rfl, ?_⟩) hHeld ?_; rotate_left; focus (intro w_ hSw_; obtain ⟨z0, z1, z2, z3, z4, z5⟩ := HC.out w_ hSw_; go_simp; try with_reducible rfl)); (try simp only [Act.put, zA, zB, zC, zD, zE, zF])
  (refine wpAnyH_take (i := 13) (v := ?_) rfl (by kernel_rfl) (by kernel_rfl) (by kernel_rfl) (fun _ _ _ h => h) (Or.inl ⟨by rfl, ?_⟩) hHeld ?_; rotate_left; focus (intro w_ hSw_; obtain ⟨z0, z1, z2, z3, z4, z5⟩ := HC.out w_ hSw_; go_simp; try with_reducible rfl)); (try simp only [Act.put, zA, zB, zC, zD, zE, zF])
  (refine wpAnyH_take (i := 14) (v := ?_) rfl (by kernel_rfl) (by kernel_rfl) (by kernel_rfl) (fun _ _ _ h => h) (Or.inl ⟨by rfl, ?_⟩) hHeld ?_; rotate_left; focus (intro w_ hSw_; obtain ⟨z0, z1, z2, z3, z4, z5⟩ := HC.out w_ hSw_; go_simp; try with_reducible rfl)); (try simp only [Act.put, zA, zB, zC, zD, zE, zF])
  refine wpAnyH_ready (rs := [15]) (by kernel_rfl) (by simp) ?_; refine AllReadyH.cons rfl (fun K hK => ?_) AllReadyH.nil; rw [if_pos (by rfl)]; (go_simp); (go_at_call 21; refine (HMAY.out _ hHeld).mono ?_; rintro e w4 ⟨rfl, ⟨q4, rfl⟩⟩; (have HB' := held_below hHeld (pw_below_drewN (Below.refl _ _) q4))); (first | skip); refine hK.out _ _ (HB') (fun hHeld => ?_); clear hK K; (try simp only [Act.put, zA, zB, zC, zD, zE, zF])
  (refine wpAnyH_take (i := 16) (v := ?_) rfl (by kernel_rfl) (by kernel_rfl) (by kernel_rfl) (fun _ _ _ h => h) (Or.inl ⟨by rfl, ?_⟩) hHeld ?_; rotate_left; focus (intro w_ hSw_; obtain ⟨z0, z1, z2, z3, z4, z5⟩ := HC.out w_ hSw_; go_simp; try with_reducible rfl)); (try simp only [Act.put, zA, zB, zC, zD, zE, zF])
  (refine wpAnyH_take (i := 17) (v := ?_) rfl (by kernel_rfl) (by kernel_rfl) (by kernel_rfl) (fun _ _ _ h => h) (Or.inl ⟨by rfl, ?_⟩) hHeld ?_; rotate_left; focus (intro w_ hSw_; obtain ⟨z0, z1, z2, z3, z4, z5⟩ := HC.out w_ hSw_; go_simp; try with_reducible rfl)); (try simp only [Act.put, zA, zB, zC, zD, zE, zF])
  (refine wpAnyH_take (i := 18) (v := ?_) rfl (by kernel_rfl) (by kernel_rfl) (by kernel_rfl) (fun _ _ _ h => h) (Or.inl ⟨by rfl, ?_⟩) hHeld ?_; rotate_left; focus (intro w_ hSw_; obtain ⟨z0, z1, z2, z3, z4, z5⟩ := HC.out w_ hSw_; go_simp; try with_reducible rfl)); (try simp only [Act.put, zA, zB, zC, zD, zE, zF])
  (refine wpAnyH_take (i := 19) (v := ?_) rfl (by kernel_rfl) (by kernel_rfl) (by kernel_rfl) (fun _ _ _ h => h) (Or.inl ⟨by rfl, ?_⟩) hHeld ?_; rotate_left; focus (intro w_ hSw_; obtain ⟨z0, z1, z2, z3, z4, z5⟩ := HC.out w_ hSw_; go_simp; try with_reducible rfl)); (try simp only [Act.put, zA, zB, zC, zD, zE, zF])
  (refine wpAnyH_take (i := 20) (v := ?_) rfl (by kernel_rfl) (by kernel_rfl) (by kernel_rfl) (fun _ _ _ h => h) (Or.inl ⟨by rfl, ?_⟩) hHeld ?_; rotate_left; focus (intro w_ hSw_; obtain ⟨z0, z1, z2, z3, z4, z5⟩ := HC.out w_ hSw_; go_simp; try with_reducible rfl)); (try simp only [Act.put, zA, zB, zC, zD, zE, zF])
  (refine wpAnyH_take (i := 21) (v := ?_) rfl (by kernel_rfl) (by kernel_rfl) (by kernel_rfl) (fun _ _ _ h => h) (Or.inl ⟨by rfl, ?_⟩) hHeld ?_; rotate_left; focus (intro w_ hSw_; obtain ⟨z0, z1, z2, z3, z4, z5⟩ := HC.out w_ hSw_; go_simp; try with_reducible rfl)); (try simp only [Act.put, zA, zB, zC, zD, zE, zF])
  (refine wpAnyH_take (i := 22) (v := ?_) rfl (by kernel_rfl) (by kernel_rfl) (by kernel_rfl) (fun _ _ _ h => h) (Or.inl ⟨by rfl, ?_⟩) hHeld ?_; rotate_left; focus (intro w_ hSw_; obtain ⟨z0, z1, z2, z3, z4, z5⟩ := HC.out w_ hSw_; go_simp; try with_reducible rfl)); (try simp only [Act.put, zA, zB, zC, zD, zE, zF])
  (refine wpAnyH_take (i := 23) (v := ?_) rfl (by kernel_rfl) (by kernel_rfl) (by kernel_rfl) (fun _ _ _ h => h) (Or.inl ⟨by rfl, ?_⟩) hHeld ?_; rotate_left; focus (intro w_ hSw_; obtain ⟨z0, z1, z2, z3, z4, z5⟩ := HC.out w_ hSw_; have y0 := HY.out w_ hSw_; go_simp; try with_reducible rfl)); (try simp only [Act.put, zA, zB, zC, zD, zE, zF])
  (refine wpAnyH_take (i := 24) (v := ?_) rfl (by kernel_rfl) (by kernel_rfl) (by kernel_rfl) (fun _ _ _ h => h) (Or.inl ⟨by rfl, ?_⟩) hHeld ?_; rotate_left; focus (intro w_ hSw_; obtain ⟨z0, z1, z2, z3, z4, z5⟩ := HC.out w_ hSw_; have y0 := HY.out w_ hSw_; go_simp; try with_reducible rfl)); (try simp only [Act.put, zA, zB, zC, zD, zE, zF])
  (refine wpAnyH_take (i := 25) (v := ?_) rfl (by kernel_rfl) (by kernel_rfl) (by kernel_rfl) (fun _ _ _ h => h) (Or.inl ⟨by rfl, ?_⟩) hHeld ?_; rotate_left; focus (intro w_ hSw_; obtain ⟨z0, z1, z2, z3, z4, z5⟩ := HC.out w_ hSw_; have y0 := HY.out w_ hSw_; go_simp; try with_reducible rfl)); (try simp only [Act.put, zA, zB, zC, zD, zE, zF])
  (refine wpAnyH_take (i := 26) (v := ?_) rfl (by kernel_rfl) (by kernel_rfl) (by kernel_rfl) (fun _ _ _ h => h) (Or.inl ⟨by rfl, ?_⟩) hHeld ?_; rotate_left; focus (intro w_ hSw_; obtain ⟨z0, z1, z2, z3, z4, z5⟩ := HC.out w_ hSw_; have y0 := HY.out w_ hSw_; go_simp; try with_reducible rfl)); (try simp only [Act.put, zA, zB, zC, zD, zE, zF])
  (refine wpAnyH_take (i := 27) (v := ?_) rfl (by kernel_rfl) (by kernel_rfl) (by kernel_rfl) (fun _ _ _ h => h) (Or.inl ⟨by rfl, ?_⟩) hHeld ?_; rotate_left; focus (intro w_ hSw_; obtain ⟨z0, z1, z2, z3, z4, z5⟩ := HC.out w_ hSw_; have y0 := HY.out w_ hSw_; go_simp; try with_reducible rfl)); (try simp only [Act.put, zA, zB, zC, zD, zE, zF])
  (refine wpAnyH_take (i := 28) (v := ?_) rfl (by kernel_rfl) (by kernel_rfl) (by kernel_rfl) (fun _ _ _ h => h) (Or.inl ⟨by rfl, ?_⟩) hHeld ?_; rotate_left; focus (intro w_ hSw_; obtain ⟨z0, z1, z2, z3, z4, z5⟩ := HC.out w_ hSw_; have y0 := HY.out w_ hSw_; go_simp; try with_reducible rfl)); (try simp only [Act.put, zA, zB, zC, zD, zE, zF])
  (refine wpAnyH_take (i := 29) (v := ?_) rfl (by kernel_rfl) (by kernel_rfl) (by kernel_rfl) (fun _ _ _ h => h) (Or.inl ⟨by rfl, ?_⟩) hHeld ?_; rotate_left; focus (intro w_ hSw_; obtain ⟨z0, z1, z2, z3, z4, z5⟩ := HC.out w_ hSw_; have y0 := HY.out w_ hSw_; go_simp; try with_reducible rfl)); (try simp only [Act.put, zA, zB, zC, zD, zE, zF])
  (refine wpAnyH_take (i := 30) (v := ?_) rfl (by kernel_rfl) (by kernel_rfl) (by kernel_rfl) (fun _ _ _ h => h) (Or.inl ⟨by rfl, ?_⟩) hHeld ?_; rotate_left; focus (intro w_ hSw_; obtain ⟨z0, z1, z2, z3, z4, z5⟩ := HC.out w_ hSw_; have y0 := HY.out w_ hSw_; go_simp; try with_reducible rfl)); (try simp only [Act.put, zA, zB, zC, zD, zE, zF])
  (refine wpAnyH_take (i := 31) (v := ?_) rfl (by kernel_rfl) (by kernel_rfl) (by kernel_rfl) (fun _ _ _ h => h) (Or.inl ⟨by rfl, ?_⟩) hHeld ?_; rotate_left; focus (intro w_ hSw_; obtain ⟨z0, z1, z2, z3, z4, z5⟩ := HC.out w_ hSw_; have y0 := HY.out w_ hSw_; go_simp; try with_reducible rfl)); (try simp only [Act.put, zA, zB, zC, zD, zE, zF])
  (refine wpAnyH_take (i := 32) (v := ?_) rfl (by kernel_rfl) (by kernel_rfl) (by kernel_rfl) (fun _ _ _ h => h) (Or.inl ⟨by rfl, ?_⟩) hHeld ?_; rotate_left; focus (intro w_ hSw_; obtain ⟨z0, z1, z2, z3, z4, z5⟩ := HC.out w_ hSw_; have y0 := HY.out w_ hSw_; go_simp; try with_reducible rfl)); (try simp only [Act.put, zA, zB, zC, zD, zE, zF])
  (refine wpAnyH_take (i := 33) (v := ?_) rfl (by kernel_rfl) (by kernel_rfl) (by kernel_rfl) (fun _ _ _ h => h) (Or.inl ⟨by rfl, ?_⟩) hHeld ?_; rotate_left; focus (intro w_ hSw_; obtain ⟨z0, z1, z2, z3, z4, z5⟩ := HC.out w_ hSw_; have y0 := HY.out w_ hSw_; go_simp; try with_reducible rfl)); (try simp only [Act.put, zA, zB, zC, zD, zE, zF])
  refine wpAnyH_done (by kernel_rfl) ?_ _
  go_wp2
  go_ret2
  exact ⟨_, rfl, Kd.R_nil _ _ _ _ _, by repeat (first | exact HB1.out.1.trans (hHeld.out.mono HB1.out.1.size) | apply pw_below_drewN)⟩
end Go.Proofs.YtgbmlkmkfigolaaDoor.P
/- matroid.Image, by hand. -/
namespace Go.Proofs.YtgbmlkmkfigolaaDoor.P
open Go.RowKit Go.Proofs.YtgbmlkmkfigolaaDoorW.PrintWords Go.Proofs.YtgbmlkmkfigolaaDoorW.PrintLast Go.Proofs.YtgbmlkmkfigolaaDoorW.PrintMore
set_option linter.unusedVariables false
set_option linter.unusedSimpArgs false

set_option maxHeartbeats 4000000 in
set_option maxRecDepth 100000 in
theorem img_5e (k : Nat) (a0 a1 a2 a3 : Int) (A4 : Option Addr) (c4 : Nat) (l4 : List (List Int)) (A5 : Option Addr) (c5 : Nat) (l5 : List Mtr) (A1 : Option Addr) (c1 : Nat) (l1 : List Int) (w : World) (hEV : EV w) (hr4 : Kd.C (Kd.slice 3 (Kd.int .i64)) w A4 l4.length l4) (hc4 : l4.length ≤ c4) (hr5 : Kd.C k25 w A5 l5.length l5) (hc5 : l5.length ≤ c5) (hr1 : Kd.C (Kd.int .i64) w A1 l1.length l1) (hc1 : l1.length ≤ c1) (hck : chkN ⟨a0, a1, a2, a3, l4, l5⟩ = 0) (hm : mayB l1 = true) (h0 : l1.length = 0) (h56 : a0 = 5) (h04 : 0 < l4.length) (o : List Int) (ho : imgO (rd_L1 l4 0) [] l1 = some o) :
 Calls Tryd.prog 10 #[.agg #[.int .i64 a0, .int .i64 a1, .int .i64 a2, .int .i64 a3, .slice A4 l4.length c4, .slice A5 l5.length c5], .slice A1 l1.length c1] w fun e w' => ∃ v0_ : Value, e = .returned (.tuple #[v0_, .bool true]) ∧ Kd.R (Kd.int .i64) 3 w' w.heap.size (fun _ => True) v0_ o ∧ Below w.heap.size w w' := by
 obtain ⟨c, hc⟩ : ∃ c : Int, c = 0 := ⟨_, rfl⟩
 rw [← hc] at hck
 obtain ⟨W1, hW1⟩ : ∃ W1, W1 = w.alloc (Obj.cells #[.int .i64 a0, .int .i64 a1, .int .i64 a2, .int .i64 a3, .slice A4 l4.length c4, .slice A5 l5.length c5] 25) := ⟨_, rfl⟩
 have hB1 : Below w.heap.size w W1 := by subst hW1; exact (Below.refl _ _).alloc (Nat.le_refl _) _
 have hbx := mbox w 25 (.int .i64 a0) (.int .i64 a1) (.int .i64 a2) (.int .i64 a3) (.slice A4 l4.length c4) (.slice A5 l5.length c5)
 have hsz : w.heap.size < W1.heap.size := by
  subst hW1
  rw [show (w.alloc (Obj.cells #[.int .i64 a0, .int .i64 a1, .int .i64 a2, .int .i64 a3, .slice A4 l4.length c4, .slice A5 l5.length c5] 25)).heap.size = w.heap.size + 1 from Array.size_push ..]; omega
 rw [← hW1] at hbx
 have HB1 := Aside0.mk (And.intro hB1 (And.intro hbx hsz))
 have HW1 := Aside0.mk hW1
 have HCK := Aside0.mk (fun (w' : World) (hw : Aside0 (Below W1.heap.size W1 w')) => matroid_Check.calls a0 a1 a2 a3 A4 c4 l4 A5 c5 l5 c w' (hEV.below (hB1.trans (hw.out.mono hB1.size)) hEV.pos) (Kd.C_below hr4 (hB1.trans (hw.out.mono hB1.size))) hc4 (Kd.C_below hr5 (hB1.trans (hw.out.mono hB1.size))) hc5 (by rw [← hck]; rfl))
 have HMAY := Aside0.mk (fun (w' : World) (hw : Aside0 (Below W1.heap.size W1 w')) => set_May_now A1 c1 l1 w' (Kd.C_below hr1 (hB1.trans (hw.out.mono hB1.size))) hc1 hr1.2.1)
 have HC : Aside0 (∀ w', Aside0 (Below W1.heap.size W1 w') → w'.cell? ⟨w.heap.size, 0, none⟩ = some (.int .i64 a0) ∧ w'.cell? ⟨w.heap.size, 1, none⟩ = some (.int .i64 a1) ∧ w'.cell? ⟨w.heap.size, 2, none⟩ = some (.int .i64 a2) ∧ w'.cell? ⟨w.heap.size, 3, none⟩ = some (.int .i64 a3) ∧ w'.cell? ⟨w.heap.size, 4, none⟩ = some (.slice A4 l4.length c4) ∧ w'.cell? ⟨w.heap.size, 5, none⟩ = some (.slice A5 l5.length c5)) :=
  ⟨fun w' hw => ⟨(hw.out.cell (p := ⟨w.heap.size, 0, none⟩) hsz).trans hbx.1, (hw.out.cell (p := ⟨w.heap.size, 1, none⟩) hsz).trans hbx.2.1, (hw.out.cell (p := ⟨w.heap.size, 2, none⟩) hsz).trans hbx.2.2.1, (hw.out.cell (p := ⟨w.heap.size, 3, none⟩) hsz).trans hbx.2.2.2.1, (hw.out.cell (p := ⟨w.heap.size, 4, none⟩) hsz).trans hbx.2.2.2.2.1, (hw.out.cell (p := ⟨w.heap.size, 5, none⟩) hsz).trans hbx.2.2.2.2.2⟩⟩
 subst hc
 obtain ⟨ad, A0, c0, hA, x0, hl0, hR0⟩ := at_L1 hr4 0 (by omega) (by omega)
 subst hA
 rw [show (0 : Int).toNat = 0 from rfl, Addr.add_zero'] at x0
 have HX0 := Aside0.mk x0
 generalize rd_L1 l4 0 = l at *
 have HO := Aside0.mk ho
 have HL0 := Aside0.mk hR0
 have HS0 := Aside0.mk hr1
 have g2 : decide (0 < l1.length) = false := decide_eq_false (by omega)
 have g3 : decide (0 < (l1.length : Int)) = false := decide_eq_false (by omega)
 clear h0
 rw [hm] at HMAY
 clear hB1 hbx hsz hr4 hc4 hr5 hc5 hr1 hc1 hck hEV hW1 hm x0 hl0 hR0 ho
 subst h56
 go_enter Tryd.func10, Tryd.ntmps10
 go_wp2
 rw [← HW1.out]
 refine wp_region_held_drew (S := fun w' => Aside0 (Below W1.heap.size W1 w')) (by kernel_rfl) (⟨(Below.refl _ _).drew⟩) (fun hHeld => ?_)
 (refine wpAnyH_take (i := 0) (v := ?_) rfl (by kernel_rfl) (by kernel_rfl) (by kernel_rfl) (fun _ _ _ h => h) (Or.inl ⟨by rfl, ?_⟩) hHeld ?_; rotate_left; focus (intro w_ hSw_; obtain ⟨z0, z1, z2, z3, z4, z5⟩ := HC.out w_ hSw_; go_simp; try with_reducible rfl)); (try simp only [Act.put, zA, zB, zC, zD, zE, zF])
 refine wpAnyH_ready (rs := [1]) (by kernel_rfl) (by simp) ?_; refine AllReadyH.cons rfl (fun K hK => ?_) AllReadyH.nil; rw [if_pos (by rfl)]; (go_simp); (go_at_call 12; refine (HCK.out _ hHeld).mono ?_; rintro e w3 ⟨rfl, hb⟩; (have HB' := held_below hHeld hb); clear hb); (first | skip); refine hK.out _ _ (HB') (fun hHeld => ?_); clear hK K; (try simp only [Act.put, zA, zB, zC, zD, zE, zF])
 (refine wpAnyH_take (i := 2) (v := ?_) rfl (by kernel_rfl) (by kernel_rfl) (by kernel_rfl) (fun _ _ _ h => h) (Or.inl ⟨by rfl, ?_⟩) hHeld ?_; rotate_left; focus (intro w_ hSw_; obtain ⟨z0, z1, z2, z3, z4, z5⟩ := HC.out w_ hSw_; go_simp; try with_reducible rfl)); (try simp only [Act.put, zA, zB, zC, zD, zE, zF])
 (refine wpAnyH_take (i := 3) (v := ?_) rfl (by kernel_rfl) (by kernel_rfl) (by kernel_rfl) (fun _ _ _ h => h) (Or.inl ⟨by rfl, ?_⟩) hHeld ?_; rotate_left; focus (intro w_ hSw_; obtain ⟨z0, z1, z2, z3, z4, z5⟩ := HC.out w_ hSw_; go_simp; try with_reducible rfl)); (try simp only [Act.put, zA, zB, zC, zD, zE, zF])
 (refine wpAnyH_take (i := 4) (v := ?_) rfl (by kernel_rfl) (by kernel_rfl) (by kernel_rfl) (fun _ _ _ h => h) (Or.inl ⟨by rfl, ?_⟩) hHeld ?_; rotate_left; focus (intro w_ hSw_; obtain ⟨z0, z1, z2, z3, z4, z5⟩ := HC.out w_ hSw_; go_simp; try with_reducible rfl)); (try simp only [Act.put, zA, zB, zC, zD, zE, zF])
 (refine wpAnyH_take (i := 5) (v := ?_) rfl (by kernel_rfl) (by kernel_rfl) (by kernel_rfl) (fun _ _ _ h => h) (Or.inl ⟨by rfl, ?_⟩) hHeld ?_; rotate_left; focus (intro w_ hSw_; obtain ⟨z0, z1, z2, z3, z4, z5⟩ := HC.out w_ hSw_; go_simp; try with_reducible rfl)); (try simp only [Act.put, zA, zB, zC, zD, zE, zF])
 (refine wpAnyH_take (i := 6) (v := ?_) rfl (by kernel_rfl) (by kernel_rfl) (by kernel_rfl) (fun _ _ _ h => h) (Or.inl ⟨by rfl, ?_⟩) hHeld ?_; rotate_left; focus (intro w_ hSw_; obtain ⟨z0, z1, z2, z3, z4, z5⟩ := HC.out w_ hSw_; go_simp; try with_reducible rfl)); (try simp only [Act.put, zA, zB, zC, zD, zE, zF])
 (refine wpAnyH_take (i := 7) (v := ?_) rfl (by kernel_rfl) (by kernel_rfl) (by kernel_rfl) (fun _ _ _ h => h) (Or.inl ⟨by rfl, ?_⟩) hHeld ?_; rotate_left; focus (intro w_ hSw_; obtain ⟨z0, z1, z2, z3, z4, z5⟩ := HC.out w_ hSw_; go_simp; try with_reducible rfl)); (try simp only [Act.put, zA, zB, zC, zD, zE, zF])
 (refine wpAnyH_take (i := 8) (v := _) rfl (by kernel_rfl) (by kernel_rfl) (by kernel_rfl) (fun _ _ _ h => h) (Or.inr ⟨by rfl, rfl⟩) hHeld ?_); (try simp only [Act.put, zA, zB, zC, zD, zE, zF])
 (refine wpAnyH_take (i := 9) (v := _) rfl (by kernel_rfl) (by kernel_rfl) (by kernel_rfl) (fun _ _ _ h => h) (Or.inr ⟨by rfl, rfl⟩) hHeld ?_); (try simp only [Act.put, zA, zB, zC, zD, zE, zF])
 (refine wpAnyH_take (i := 10) (v := _) rfl (by kernel_rfl) (by kernel_rfl) (by kernel_rfl) (fun _ _ _ h => h) (Or.inr ⟨by rfl, rfl⟩) hHeld ?_); (try simp only [Act.put, zA, zB, zC, zD, zE, zF])
 (refine wpAnyH_take (i := 11) (v := ?_) rfl (by kernel_rfl) (by kernel_rfl) (by kernel_rfl) (fun _ _ _ h => h) (Or.inl ⟨by rfl, ?_⟩) hHeld ?_; rotate_left; focus (intro w_ hSw_; obtain ⟨z0, z1, z2, z3, z4, z5⟩ := HC.out w_ hSw_; go_simp; try with_reducible rfl)); (try simp only [Act.put, zA, zB, zC, zD, zE, zF])
 (refine wpAnyH_take (i := 12) (v := ?_) rfl (by kernel_rfl) (by kernel_rfl) (by kernel_rfl) (fun _ _ _ h => h) (Or.inl ⟨by rfl, ?_⟩) hHeld ?_; rotate_left; focus (intro w_ hSw_; obtain ⟨z0, z1, z2, z3, z4, z5⟩ := HC.out w_ hSw_; go_simp; try with_reducible rfl)); (try simp only [Act.put, zA, zB, zC, zD, zE, zF])
 (refine wpAnyH_take (i := 13) (v := ?_) rfl (by kernel_rfl) (by kernel_rfl) (by kernel_rfl) (fun _ _ _ h => h) (Or.inl ⟨by rfl, ?_⟩) hHeld ?_; rotate_left; focus (intro w_ hSw_; obtain ⟨z0, z1, z2, z3, z4, z5⟩ := HC.out w_ hSw_; go_simp; try with_reducible rfl)); (try simp only [Act.put, zA, zB, zC, zD, zE, zF])
 (refine wpAnyH_take (i := 14) (v := ?_) rfl (by kernel_rfl) (by kernel_rfl) (by kernel_rfl) (fun _ _ _ h => h) (Or.inl ⟨by rfl, ?_⟩) hHeld ?_; rotate_left; focus (intro w_ hSw_; obtain ⟨z0, z1, z2, z3, z4, z5⟩ := HC.out w_ hSw_; go_simp; try with_reducible rfl)); (try simp only [Act.put, zA, zB, zC, zD, zE, zF])
 refine wpAnyH_ready (rs := [15]) (by kernel_rfl) (by simp) ?_; refine AllReadyH.cons rfl (fun K hK => ?_) AllReadyH.nil; rw [if_pos (by rfl)]; (go_simp); (go_at_call 21; refine (HMAY.out _ hHeld).mono ?_; rintro e w4 ⟨rfl, ⟨q4, rfl⟩⟩; (have HB' := held_below hHeld (pw_below_drewN (Below.refl _ _) q4))); (first | skip); refine hK.out _ _ (HB') (fun hHeld => ?_); clear hK K; (try simp only [Act.put, zA, zB, zC, zD, zE, zF])
 (refine wpAnyH_take (i := 16) (v := ?_) rfl (by kernel_rfl) (by kernel_rfl) (by kernel_rfl) (fun _ _ _ h => h) (Or.inl ⟨by rfl, ?_⟩) hHeld ?_; rotate_left; focus (intro w_ hSw_; obtain ⟨z0, z1, z2, z3, z4, z5⟩ := HC.out w_ hSw_; go_simp; try with_reducible rfl)); (try simp only [Act.put, zA, zB, zC, zD, zE, zF])
 (refine wpAnyH_take (i := 17) (v := ?_) rfl (by kernel_rfl) (by kernel_rfl) (by kernel_rfl) (fun _ _ _ h => h) (Or.inl ⟨by rfl, ?_⟩) hHeld ?_; rotate_left; focus (intro w_ hSw_; obtain ⟨z0, z1, z2, z3, z4, z5⟩ := HC.out w_ hSw_; go_simp; try with_reducible rfl)); (try simp only [Act.put, zA, zB, zC, zD, zE, zF])
 (refine wpAnyH_take (i := 18) (v := ?_) rfl (by kernel_rfl) (by kernel_rfl) (by kernel_rfl) (fun _ _ _ h => h) (Or.inl ⟨by rfl, ?_⟩) hHeld ?_; rotate_left; focus (intro w_ hSw_; obtain ⟨z0, z1, z2, z3, z4, z5⟩ := HC.out w_ hSw_; go_simp; try with_reducible rfl)); (try simp only [Act.put, zA, zB, zC, zD, zE, zF])
 (refine wpAnyH_take (i := 19) (v := ?_) rfl (by kernel_rfl) (by kernel_rfl) (by kernel_rfl) (fun _ _ _ h => h) (Or.inl ⟨by rfl, ?_⟩) hHeld ?_; rotate_left; focus (intro w_ hSw_; obtain ⟨z0, z1, z2, z3, z4, z5⟩ := HC.out w_ hSw_; go_simp; try with_reducible rfl)); (try simp only [Act.put, zA, zB, zC, zD, zE, zF])
 (refine wpAnyH_take (i := 20) (v := ?_) rfl (by kernel_rfl) (by kernel_rfl) (by kernel_rfl) (fun _ _ _ h => h) (Or.inl ⟨by rfl, ?_⟩) hHeld ?_; rotate_left; focus (intro w_ hSw_; obtain ⟨z0, z1, z2, z3, z4, z5⟩ := HC.out w_ hSw_; go_simp; try with_reducible rfl)); (try simp only [Act.put, zA, zB, zC, zD, zE, zF])
 (refine wpAnyH_take (i := 21) (v := ?_) rfl (by kernel_rfl) (by kernel_rfl) (by kernel_rfl) (fun _ _ _ h => h) (Or.inl ⟨by rfl, ?_⟩) hHeld ?_; rotate_left; focus (intro w_ hSw_; obtain ⟨z0, z1, z2, z3, z4, z5⟩ := HC.out w_ hSw_; go_simp; try with_reducible rfl)); (try simp only [Act.put, zA, zB, zC, zD, zE, zF])
 (refine wpAnyH_take (i := 22) (v := ?_) rfl (by kernel_rfl) (by kernel_rfl) (by kernel_rfl) (fun _ _ _ h => h) (Or.inl ⟨by rfl, ?_⟩) hHeld ?_; rotate_left; focus (intro w_ hSw_; obtain ⟨z0, z1, z2, z3, z4, z5⟩ := HC.out w_ hSw_; go_simp; try with_reducible rfl)); (try simp only [Act.put, zA, zB, zC, zD, zE, zF])
 (refine wpAnyH_take (i := 23) (v := _) rfl (by kernel_rfl) (by kernel_rfl) (by kernel_rfl) (fun _ _ _ h => h) (Or.inr ⟨by rfl, rfl⟩) hHeld ?_); (try simp only [Act.put, zA, zB, zC, zD, zE, zF])
 (refine wpAnyH_take (i := 24) (v := _) rfl (by kernel_rfl) (by kernel_rfl) (by kernel_rfl) (fun _ _ _ h => h) (Or.inr ⟨by rfl, rfl⟩) hHeld ?_); (try simp only [Act.put, zA, zB, zC, zD, zE, zF])
 (refine wpAnyH_take (i := 25) (v := _) rfl (by kernel_rfl) (by kernel_rfl) (by kernel_rfl) (fun _ _ _ h => h) (Or.inr ⟨by rfl, rfl⟩) hHeld ?_); (try simp only [Act.put, zA, zB, zC, zD, zE, zF])
 (refine wpAnyH_take (i := 26) (v := _) rfl (by kernel_rfl) (by kernel_rfl) (by kernel_rfl) (fun _ _ _ h => h) (Or.inr ⟨by rfl, rfl⟩) hHeld ?_); (try simp only [Act.put, zA, zB, zC, zD, zE, zF])
 (refine wpAnyH_take (i := 27) (v := _) rfl (by kernel_rfl) (by kernel_rfl) (by kernel_rfl) (fun _ _ _ h => h) (Or.inr ⟨by rfl, rfl⟩) hHeld ?_); (try simp only [Act.put, zA, zB, zC, zD, zE, zF])
 (refine wpAnyH_take (i := 28) (v := _) rfl (by kernel_rfl) (by kernel_rfl) (by kernel_rfl) (fun _ _ _ h => h) (Or.inr ⟨by rfl, rfl⟩) hHeld ?_); (try simp only [Act.put, zA, zB, zC, zD, zE, zF])
 (refine wpAnyH_take (i := 29) (v := _) rfl (by kernel_rfl) (by kernel_rfl) (by kernel_rfl) (fun _ _ _ h => h) (Or.inr ⟨by rfl, rfl⟩) hHeld ?_); (try simp only [Act.put, zA, zB, zC, zD, zE, zF])
 (refine wpAnyH_take (i := 30) (v := _) rfl (by kernel_rfl) (by kernel_rfl) (by kernel_rfl) (fun _ _ _ h => h) (Or.inr ⟨by rfl, rfl⟩) hHeld ?_); (try simp only [Act.put, zA, zB, zC, zD, zE, zF])
 (refine wpAnyH_take (i := 31) (v := _) rfl (by kernel_rfl) (by kernel_rfl) (by kernel_rfl) (fun _ _ _ h => h) (Or.inr ⟨by rfl, rfl⟩) hHeld ?_); (try simp only [Act.put, zA, zB, zC, zD, zE, zF])
 (refine wpAnyH_take (i := 32) (v := ?_) rfl (by kernel_rfl) (by kernel_rfl) (by kernel_rfl) (fun _ _ _ h => h) (Or.inl ⟨by rfl, ?_⟩) hHeld ?_; rotate_left; focus (intro w_ hSw_; obtain ⟨z0, z1, z2, z3, z4, z5⟩ := HC.out w_ hSw_; go_simp; try with_reducible rfl)); (try simp only [Act.put, zA, zB, zC, zD, zE, zF])
 (refine wpAnyH_take (i := 33) (v := ?_) rfl (by kernel_rfl) (by kernel_rfl) (by kernel_rfl) (fun _ _ _ h => h) (Or.inl ⟨by rfl, ?_⟩) hHeld ?_; rotate_left; focus (intro w_ hSw_; obtain ⟨z0, z1, z2, z3, z4, z5⟩ := HC.out w_ hSw_; go_simp; try with_reducible rfl)); (try simp only [Act.put, zA, zB, zC, zD, zE, zF])
 refine wpAnyH_done (by kernel_rfl) ?_ _
 obtain ⟨Wx, hWx⟩ : ∃ Wx, Wx = w3.drewN q4 := ⟨_, rfl⟩
 rw [← hWx] at hHeld ⊢
 clear hWx
 obtain ⟨z0, z1, z2, z3, z4, z5⟩ := HC.out _ hHeld
 have HBW : Aside0 (Below w.heap.size w Wx) := ⟨HB1.out.1.trans (hHeld.out.mono HB1.out.1.size)⟩
 have x0' := (HBW.out.cell (World.block_lt_of_cell? w _ HX0.out)).trans HX0.out
 clear hHeld
 go_wp2
 have HL := Aside0.mk (Kd.C_below HL0.out HBW.out)
 have HS := Aside0.mk (Kd.C_below HS0.out HBW.out)
 obtain ⟨Wb, hWb⟩ : ∃ Wb, Wb = Wx := ⟨_, rfl⟩
 rw [← hWb]
 rw [← hWb] at HL HS HBW
 have hWs : Aside0 (Wx.heap.size = Wb.heap.size) := ⟨by subst hWb; rfl⟩
 clear hWb
 go_loopw [7, 61] (fun v7 v8 wr => ∃ (i : Nat) (acc : List Int), i ≤ l1.length ∧ v8 = .int .i64 (i : Int) ∧ Aside0 (Kd.R (Kd.int .i64) 3 wr Wb.heap.size (fun _ => True) v7 acc ∧ Below Wb.heap.size Wb wr) ∧ Aside0 (imgO l acc (l1.drop i) = some o)) (fun _ v8 _ => (l1.length - (RowKit.intOf v8).toNat))
 case atStart => exact ⟨0, [], Nat.zero_le _, rfl, ⟨⟨Kd.R_nil _ _ _ _ _, Below.refl _ _⟩⟩, HO⟩
 case round =>
  clear HO
  obtain ⟨i, acc, hi, rfl, HA, HO⟩ := hrel
  obtain ⟨A7, c7, hv7⟩ := Kd.R_slice HA.out.1
  subst hv7
  have hlen1 : (l1.length : Int) ≤ 9223372036854775807 := by have := HS.out.2.1; omega
  by_cases hlt : i < l1.length
  ·obtain ⟨ad1, hA1, hx⟩ := Kd.at_int (Kd.C_below HS.out HA.out.2) (i : Int) (by omega) (by omega)
   rw [Int.toNat_natCast] at hx
   have ho := HO.out
   rw [List.drop_eq_getElem_cons hlt, show l1[i] = rd l1 (i : Int) from (rd_at hlt).symm] at ho
   generalize rd l1 (i : Int) = x at *
   unfold imgO at ho
   by_cases h0 : 0 ≤ x
   rotate_left
   ·rw [if_neg h0] at ho; cases ho
   rw [if_pos h0] at ho
   by_cases h1 : x < (l.length : Int)
   rotate_left
   ·rw [if_neg h1] at ho; cases ho
   rw [if_pos h1] at ho
   by_cases h2 : acc.length < 17592186044416
   rotate_left
   ·rw [if_neg h2] at ho; cases ho
   rw [if_pos h2] at ho
   obtain ⟨ad6, hA6, hy⟩ := Kd.at_int (Kd.C_below HL.out HA.out.2) x h0 h1
   have HO' := Aside0.mk ho
   clear ho HO
   generalize rd l x = y at *
   cases hA1
   cases hA6
   go_wp2_with (first
    | ((with_reducible refine gate_dst (N := 71) rfl ?_); refine Kd.R_append (Kd.int .i64) Wb.heap.size rfl (.tmp 65) (.tmp 70) 26 3 (.int .i64 0) 8 rfl Tryd.underlying26 info3 rfl (by decide) (by decide) _ acc y [.int .i64 y] (fun _ => True) (fun _ => False) rfl rfl ?aP (fun _ hk => hk.elim) (fun _ _ => trivial) ?aO HA.out.2 ?aS ?aL ?_; (case aP => rfl); (case aO => exact HA.out.1); (case aS => exact HA.out.2.size); (case aL => omega); intro v3 w3 ho hb hg hat; (have HA3 := Aside0.mk (And.intro ho hb)); clear ho hb hg hat))
   go_roundw
   case rel => exact ⟨i + 1, acc ++ [y], by omega, by go_num, HA3, HO'⟩
   case measure => simp [RowKit.intOf]; omega
  ·have hie : i = l1.length := by omega
   subst hie
   have hacc : acc = o := by
    have := HO.out
    rw [List.drop_of_length_le (Nat.le_refl _)] at this
    exact Option.some.inj this
   subst hacc
   clear hlt hi HO
   go_wp2
   go_ret2
   exact ⟨_, rfl, Kd.R_lower HA.out.1 HBW.out.size, HBW.out.trans (HA.out.2.mono HBW.out.size)⟩
set_option maxHeartbeats 4000000 in
set_option maxRecDepth 100000 in
theorem img_5l (k : Nat) (a0 a1 a2 a3 : Int) (A4 : Option Addr) (c4 : Nat) (l4 : List (List Int)) (A5 : Option Addr) (c5 : Nat) (l5 : List Mtr) (A1 : Option Addr) (c1 : Nat) (l1 : List Int) (w : World) (hEV : EV w) (hr4 : Kd.C (Kd.slice 3 (Kd.int .i64)) w A4 l4.length l4) (hc4 : l4.length ≤ c4) (hr5 : Kd.C k25 w A5 l5.length l5) (hc5 : l5.length ≤ c5) (hr1 : Kd.C (Kd.int .i64) w A1 l1.length l1) (hc1 : l1.length ≤ c1) (hck : chkN ⟨a0, a1, a2, a3, l4, l5⟩ = 0) (hm : mayB l1 = true) (h0 : 0 < l1.length) (hge : ¬ a1 ≤ rd l1 ((l1.length : Int) - 1)) (h56 : a0 = 5) (h04 : 0 < l4.length) (o : List Int) (ho : imgO (rd_L1 l4 0) [] l1 = some o) :
 Calls Tryd.prog 10 #[.agg #[.int .i64 a0, .int .i64 a1, .int .i64 a2, .int .i64 a3, .slice A4 l4.length c4, .slice A5 l5.length c5], .slice A1 l1.length c1] w fun e w' => ∃ v0_ : Value, e = .returned (.tuple #[v0_, .bool true]) ∧ Kd.R (Kd.int .i64) 3 w' w.heap.size (fun _ => True) v0_ o ∧ Below w.heap.size w w' := by
 obtain ⟨c, hc⟩ : ∃ c : Int, c = 0 := ⟨_, rfl⟩
 rw [← hc] at hck
 obtain ⟨ad1, hA1, hy⟩ := Kd.at_int hr1 ((l1.length : Int) - 1) (by omega) (by omega)
 subst hA1
 rw [show ((l1.length : Int) - 1).toNat = l1.length - 1 by omega] at hy
 have h0c : decide (0 < l1.length) = true := decide_eq_true h0
 have hi0 : (0 : Int) ≤ (l1.length : Int) - 1 := by omega
 have hi1 : (l1.length : Int) - 1 < (l1.length : Int) := by omega
 have hlast : wrap64 ((l1.length : Int) - 1) = (l1.length : Int) - 1 := by have := hr1.2.1; unfold wrap64; omega
 have hb0 : (l1.length : Int) ≤ 9223372036854775807 := by have := hr1.2.1; omega
 have hwr : IntKind.i64.wrap ((l1.length : Int) - 1) = (l1.length : Int) - 1 := by rw [wrap_i64]; exact hlast
 have htn : ((l1.length : Int) - 1).toNat = l1.length - 1 := by omega
 have h1l : (1 : Int) ≤ (l1.length : Int) := by omega
 obtain ⟨W1, hW1⟩ : ∃ W1, W1 = w.alloc (Obj.cells #[.int .i64 a0, .int .i64 a1, .int .i64 a2, .int .i64 a3, .slice A4 l4.length c4, .slice A5 l5.length c5] 25) := ⟨_, rfl⟩
 have hB1 : Below w.heap.size w W1 := by subst hW1; exact (Below.refl _ _).alloc (Nat.le_refl _) _
 have hbx := mbox w 25 (.int .i64 a0) (.int .i64 a1) (.int .i64 a2) (.int .i64 a3) (.slice A4 l4.length c4) (.slice A5 l5.length c5)
 have hsz : w.heap.size < W1.heap.size := by
  subst hW1
  rw [show (w.alloc (Obj.cells #[.int .i64 a0, .int .i64 a1, .int .i64 a2, .int .i64 a3, .slice A4 l4.length c4, .slice A5 l5.length c5] 25)).heap.size = w.heap.size + 1 from Array.size_push ..]; omega
 rw [← hW1] at hbx
 have HB1 := Aside0.mk (And.intro hB1 (And.intro hbx hsz))
 have HW1 := Aside0.mk hW1
 have HCK := Aside0.mk (fun (w' : World) (hw : Aside0 (Below W1.heap.size W1 w')) => matroid_Check.calls a0 a1 a2 a3 A4 c4 l4 A5 c5 l5 c w' (hEV.below (hB1.trans (hw.out.mono hB1.size)) hEV.pos) (Kd.C_below hr4 (hB1.trans (hw.out.mono hB1.size))) hc4 (Kd.C_below hr5 (hB1.trans (hw.out.mono hB1.size))) hc5 (by rw [← hck]; rfl))
 have HMAY := Aside0.mk (fun (w' : World) (hw : Aside0 (Below W1.heap.size W1 w')) => set_May_now (some ad1) c1 l1 w' (Kd.C_below hr1 (hB1.trans (hw.out.mono hB1.size))) hc1 hr1.2.1)
 have HC : Aside0 (∀ w', Aside0 (Below W1.heap.size W1 w') → w'.cell? ⟨w.heap.size, 0, none⟩ = some (.int .i64 a0) ∧ w'.cell? ⟨w.heap.size, 1, none⟩ = some (.int .i64 a1) ∧ w'.cell? ⟨w.heap.size, 2, none⟩ = some (.int .i64 a2) ∧ w'.cell? ⟨w.heap.size, 3, none⟩ = some (.int .i64 a3) ∧ w'.cell? ⟨w.heap.size, 4, none⟩ = some (.slice A4 l4.length c4) ∧ w'.cell? ⟨w.heap.size, 5, none⟩ = some (.slice A5 l5.length c5)) :=
  ⟨fun w' hw => ⟨(hw.out.cell (p := ⟨w.heap.size, 0, none⟩) hsz).trans hbx.1, (hw.out.cell (p := ⟨w.heap.size, 1, none⟩) hsz).trans hbx.2.1, (hw.out.cell (p := ⟨w.heap.size, 2, none⟩) hsz).trans hbx.2.2.1, (hw.out.cell (p := ⟨w.heap.size, 3, none⟩) hsz).trans hbx.2.2.2.1, (hw.out.cell (p := ⟨w.heap.size, 4, none⟩) hsz).trans hbx.2.2.2.2.1, (hw.out.cell (p := ⟨w.heap.size, 5, none⟩) hsz).trans hbx.2.2.2.2.2⟩⟩
 subst hc
 obtain ⟨ad, A0, c0, hA, x0, hl0, hR0⟩ := at_L1 hr4 0 (by omega) (by omega)
 subst hA
 rw [show (0 : Int).toNat = 0 from rfl, Addr.add_zero'] at x0
 have HX0 := Aside0.mk x0
 generalize rd_L1 l4 0 = l at *
 have HO := Aside0.mk ho
 have HL0 := Aside0.mk hR0
 have HS0 := Aside0.mk hr1
 have g2 : decide (a1 ≤ rd l1 ((l1.length : Int) - 1)) = false := decide_eq_false hge
 clear hge
 generalize rd l1 ((l1.length : Int) - 1) = y at *
 have HY : Aside0 (∀ w', Aside0 (Below W1.heap.size W1 w') → w'.cell? (ad1.add (l1.length - 1)) = some (.int .i64 y)) := ⟨fun w' hw => ((hB1.trans (hw.out.mono hB1.size)).cell (World.block_lt_of_cell? w _ hy)).trans hy⟩
 rw [hm] at HMAY
 clear hB1 hbx hsz hr4 hc4 hr5 hc5 hr1 hc1 hck hEV hW1 hm hy x0 hl0 hR0 ho
 subst h56
 go_enter Tryd.func10, Tryd.ntmps10
 go_wp2
 rw [← HW1.out]
 refine wp_region_held_drew (S := fun w' => Aside0 (Below W1.heap.size W1 w')) (by kernel_rfl) (⟨(Below.refl _ _).drew⟩) (fun hHeld => ?_)
 (refine wpAnyH_take (i := 0) (v := ?_) rfl (by kernel_rfl) (by kernel_rfl) (by kernel_rfl) (fun _ _ _ h => h) (Or.inl ⟨by rfl, ?_⟩) hHeld ?_; rotate_left; focus (intro w_ hSw_; obtain ⟨z0, z1, z2, z3, z4, z5⟩ := HC.out w_ hSw_; go_simp; try with_reducible rfl)); (try simp only [Act.put, zA, zB, zC, zD, zE, zF])
 refine wpAnyH_ready (rs := [1]) (by kernel_rfl) (by simp) ?_; refine AllReadyH.cons rfl (fun K hK => ?_) AllReadyH.nil; rw [if_pos (by rfl)]; (go_simp); (go_at_call 12; refine (HCK.out _ hHeld).mono ?_; rintro e w3 ⟨rfl, hb⟩; (have HB' := held_below hHeld hb); clear hb); (first | skip); refine hK.out _ _ (HB') (fun hHeld => ?_); clear hK K; (try simp only [Act.put, zA, zB, zC, zD, zE, zF])
 (refine wpAnyH_take (i := 2) (v := ?_) rfl (by kernel_rfl) (by kernel_rfl) (by kernel_rfl) (fun _ _ _ h => h) (Or.inl ⟨by rfl, ?_⟩) hHeld ?_; rotate_left; focus (intro w_ hSw_; obtain ⟨z0, z1, z2, z3, z4, z5⟩ := HC.out w_ hSw_; go_simp; try with_reducible rfl)); (try simp only [Act.put, zA, zB, zC, zD, zE, zF])
 (refine wpAnyH_take (i := 3) (v := ?_) rfl (by kernel_rfl) (by kernel_rfl) (by kernel_rfl) (fun _ _ _ h => h) (Or.inl ⟨by rfl, ?_⟩) hHeld ?_; rotate_left; focus (intro w_ hSw_; obtain ⟨z0, z1, z2, z3, z4, z5⟩ := HC.out w_ hSw_; go_simp; try with_reducible rfl)); (try simp only [Act.put, zA, zB, zC, zD, zE, zF])
 (refine wpAnyH_take (i := 4) (v := ?_) rfl (by kernel_rfl) (by kernel_rfl) (by kernel_rfl) (fun _ _ _ h => h) (Or.inl ⟨by rfl, ?_⟩) hHeld ?_; rotate_left; focus (intro w_ hSw_; obtain ⟨z0, z1, z2, z3, z4, z5⟩ := HC.out w_ hSw_; go_simp; try with_reducible rfl)); (try simp only [Act.put, zA, zB, zC, zD, zE, zF])
 (refine wpAnyH_take (i := 5) (v := ?_) rfl (by kernel_rfl) (by kernel_rfl) (by kernel_rfl) (fun _ _ _ h => h) (Or.inl ⟨by rfl, ?_⟩) hHeld ?_; rotate_left; focus (intro w_ hSw_; obtain ⟨z0, z1, z2, z3, z4, z5⟩ := HC.out w_ hSw_; go_simp; try with_reducible rfl)); (try simp only [Act.put, zA, zB, zC, zD, zE, zF])
 (refine wpAnyH_take (i := 6) (v := ?_) rfl (by kernel_rfl) (by kernel_rfl) (by kernel_rfl) (fun _ _ _ h => h) (Or.inl ⟨by rfl, ?_⟩) hHeld ?_; rotate_left; focus (intro w_ hSw_; obtain ⟨z0, z1, z2, z3, z4, z5⟩ := HC.out w_ hSw_; go_simp; try with_reducible rfl)); (try simp only [Act.put, zA, zB, zC, zD, zE, zF])
 (refine wpAnyH_take (i := 7) (v := ?_) rfl (by kernel_rfl) (by kernel_rfl) (by kernel_rfl) (fun _ _ _ h => h) (Or.inl ⟨by rfl, ?_⟩) hHeld ?_; rotate_left; focus (intro w_ hSw_; obtain ⟨z0, z1, z2, z3, z4, z5⟩ := HC.out w_ hSw_; go_simp; try with_reducible rfl)); (try simp only [Act.put, zA, zB, zC, zD, zE, zF])
 (refine wpAnyH_take (i := 8) (v := _) rfl (by kernel_rfl) (by kernel_rfl) (by kernel_rfl) (fun _ _ _ h => h) (Or.inr ⟨by rfl, rfl⟩) hHeld ?_); (try simp only [Act.put, zA, zB, zC, zD, zE, zF])
 (refine wpAnyH_take (i := 9) (v := _) rfl (by kernel_rfl) (by kernel_rfl) (by kernel_rfl) (fun _ _ _ h => h) (Or.inr ⟨by rfl, rfl⟩) hHeld ?_); (try simp only [Act.put, zA, zB, zC, zD, zE, zF])
 (refine wpAnyH_take (i := 10) (v := _) rfl (by kernel_rfl) (by kernel_rfl) (by kernel_rfl) (fun _ _ _ h => h) (Or.inr ⟨by rfl, rfl⟩) hHeld ?_); (try simp only [Act.put, zA, zB, zC, zD, zE, zF])
 (refine wpAnyH_take (i := 11) (v := ?_) rfl (by kernel_rfl) (by kernel_rfl) (by kernel_rfl) (fun _ _ _ h => h) (Or.inl ⟨by rfl, ?_⟩) hHeld ?_; rotate_left; focus (intro w_ hSw_; obtain ⟨z0, z1, z2, z3, z4, z5⟩ := HC.out w_ hSw_; go_simp; try with_reducible rfl)); (try simp only [Act.put, zA, zB, zC, zD, zE, zF])
 (refine wpAnyH_take (i := 12) (v := ?_) rfl (by kernel_rfl) (by kernel_rfl) (by kernel_rfl) (fun _ _ _ h => h) (Or.inl ⟨by rfl, ?_⟩) hHeld ?_; rotate_left; focus (intro w_ hSw_; obtain ⟨z0, z1, z2, z3, z4, z5⟩ := HC.out w_ hSw_; go_simp; try with_reducible rfl)); (try simp only [Act.put, zA, zB, zC, zD, zE, zF])
 (refine wpAnyH_take (i := 13) (v := ?_) rfl (by kernel_rfl) (by kernel_rfl) (by kernel_rfl) (fun _ _ _ h => h) (Or.inl ⟨by rfl, ?_⟩) hHeld ?_; rotate_left; focus (intro w_ hSw_; obtain ⟨z0, z1, z2, z3, z4, z5⟩ := HC.out w_ hSw_; go_simp; try with_reducible rfl)); (try simp only [Act.put, zA, zB, zC, zD, zE, zF])
 (refine wpAnyH_take (i := 14) (v := ?_) rfl (by kernel_rfl) (by kernel_rfl) (by kernel_rfl) (fun _ _ _ h => h) (Or.inl ⟨by rfl, ?_⟩) hHeld ?_; rotate_left; focus (intro w_ hSw_; obtain ⟨z0, z1, z2, z3, z4, z5⟩ := HC.out w_ hSw_; go_simp; try with_reducible rfl)); (try simp only [Act.put, zA, zB, zC, zD, zE, zF])
 refine wpAnyH_ready (rs := [15]) (by kernel_rfl) (by simp) ?_; refine AllReadyH.cons rfl (fun K hK => ?_) AllReadyH.nil; rw [if_pos (by rfl)]; (go_simp); (go_at_call 21; refine (HMAY.out _ hHeld).mono ?_; rintro e w4 ⟨rfl, ⟨q4, rfl⟩⟩; (have HB' := held_below hHeld (pw_below_drewN (Below.refl _ _) q4))); (first | skip); refine hK.out _ _ (HB') (fun hHeld => ?_); clear hK K; (try simp only [Act.put, zA, zB, zC, zD, zE, zF])
 (refine wpAnyH_take (i := 16) (v := ?_) rfl (by kernel_rfl) (by kernel_rfl) (by kernel_rfl) (fun _ _ _ h => h) (Or.inl ⟨by rfl, ?_⟩) hHeld ?_; rotate_left; focus (intro w_ hSw_; obtain ⟨z0, z1, z2, z3, z4, z5⟩ := HC.out w_ hSw_; go_simp; try with_reducible rfl)); (try simp only [Act.put, zA, zB, zC, zD, zE, zF])
 (refine wpAnyH_take (i := 17) (v := ?_) rfl (by kernel_rfl) (by kernel_rfl) (by kernel_rfl) (fun _ _ _ h => h) (Or.inl ⟨by rfl, ?_⟩) hHeld ?_; rotate_left; focus (intro w_ hSw_; obtain ⟨z0, z1, z2, z3, z4, z5⟩ := HC.out w_ hSw_; go_simp; try with_reducible rfl)); (try simp only [Act.put, zA, zB, zC, zD, zE, zF])
 (refine wpAnyH_take (i := 18) (v := ?_) rfl (by kernel_rfl) (by kernel_rfl) (by kernel_rfl) (fun _ _ _ h => h) (Or.inl ⟨by rfl, ?_⟩) hHeld ?_; rotate_left; focus (intro w_ hSw_; obtain ⟨z0, z1, z2, z3, z4, z5⟩ := HC.out w_ hSw_; go_simp; try with_reducible rfl)); (try simp only [Act.put, zA, zB, zC, zD, zE, zF])
 (refine wpAnyH_take (i := 19) (v := ?_) rfl (by kernel_rfl) (by kernel_rfl) (by kernel_rfl) (fun _ _ _ h => h) (Or.inl ⟨by rfl, ?_⟩) hHeld ?_; rotate_left; focus (intro w_ hSw_; obtain ⟨z0, z1, z2, z3, z4, z5⟩ := HC.out w_ hSw_; go_simp; try with_reducible rfl)); (try simp only [Act.put, zA, zB, zC, zD, zE, zF])
 (refine wpAnyH_take (i := 20) (v := ?_) rfl (by kernel_rfl) (by kernel_rfl) (by kernel_rfl) (fun _ _ _ h => h) (Or.inl ⟨by rfl, ?_⟩) hHeld ?_; rotate_left; focus (intro w_ hSw_; obtain ⟨z0, z1, z2, z3, z4, z5⟩ := HC.out w_ hSw_; go_simp; try with_reducible rfl)); (try simp only [Act.put, zA, zB, zC, zD, zE, zF])
 (refine wpAnyH_take (i := 21) (v := ?_) rfl (by kernel_rfl) (by kernel_rfl) (by kernel_rfl) (fun _ _ _ h => h) (Or.inl ⟨by rfl, ?_⟩) hHeld ?_; rotate_left; focus (intro w_ hSw_; obtain ⟨z0, z1, z2, z3, z4, z5⟩ := HC.out w_ hSw_; go_simp; try with_reducible rfl)); (try simp only [Act.put, zA, zB, zC, zD, zE, zF])
 (refine wpAnyH_take (i := 22) (v := ?_) rfl (by kernel_rfl) (by kernel_rfl) (by kernel_rfl) (fun _ _ _ h => h) (Or.inl ⟨by rfl, ?_⟩) hHeld ?_; rotate_left; focus (intro w_ hSw_; obtain ⟨z0, z1, z2, z3, z4, z5⟩ := HC.out w_ hSw_; go_simp; try with_reducible rfl)); (try simp only [Act.put, zA, zB, zC, zD, zE, zF])
 (refine wpAnyH_take (i := 23) (v := ?_) rfl (by kernel_rfl) (by kernel_rfl) (by kernel_rfl) (fun _ _ _ h => h) (Or.inl ⟨by rfl, ?_⟩) hHeld ?_; rotate_left; focus (intro w_ hSw_; obtain ⟨z0, z1, z2, z3, z4, z5⟩ := HC.out w_ hSw_; have y0 := HY.out w_ hSw_; go_simp; try with_reducible rfl)); (try simp only [Act.put, zA, zB, zC, zD, zE, zF])
 (refine wpAnyH_take (i := 24) (v := ?_) rfl (by kernel_rfl) (by kernel_rfl) (by kernel_rfl) (fun _ _ _ h => h) (Or.inl ⟨by rfl, ?_⟩) hHeld ?_; rotate_left; focus (intro w_ hSw_; obtain ⟨z0, z1, z2, z3, z4, z5⟩ := HC.out w_ hSw_; have y0 := HY.out w_ hSw_; go_simp; try with_reducible rfl)); (try simp only [Act.put, zA, zB, zC, zD, zE, zF])
 (refine wpAnyH_take (i := 25) (v := ?_) rfl (by kernel_rfl) (by kernel_rfl) (by kernel_rfl) (fun _ _ _ h => h) (Or.inl ⟨by rfl, ?_⟩) hHeld ?_; rotate_left; focus (intro w_ hSw_; obtain ⟨z0, z1, z2, z3, z4, z5⟩ := HC.out w_ hSw_; have y0 := HY.out w_ hSw_; go_simp; try with_reducible rfl)); (try simp only [Act.put, zA, zB, zC, zD, zE, zF])
 (refine wpAnyH_take (i := 26) (v := ?_) rfl (by kernel_rfl) (by kernel_rfl) (by kernel_rfl) (fun _ _ _ h => h) (Or.inl ⟨by rfl, ?_⟩) hHeld ?_; rotate_left; focus (intro w_ hSw_; obtain ⟨z0, z1, z2, z3, z4, z5⟩ := HC.out w_ hSw_; have y0 := HY.out w_ hSw_; go_simp; try with_reducible rfl)); (try simp only [Act.put, zA, zB, zC, zD, zE, zF])
 (refine wpAnyH_take (i := 27) (v := ?_) rfl (by kernel_rfl) (by kernel_rfl) (by kernel_rfl) (fun _ _ _ h => h) (Or.inl ⟨by rfl, ?_⟩) hHeld ?_; rotate_left; focus (intro w_ hSw_; obtain ⟨z0, z1, z2, z3, z4, z5⟩ := HC.out w_ hSw_; have y0 := HY.out w_ hSw_; go_simp; try with_reducible rfl)); (try simp only [Act.put, zA, zB, zC, zD, zE, zF])
 (refine wpAnyH_take (i := 28) (v := ?_) rfl (by kernel_rfl) (by kernel_rfl) (by kernel_rfl) (fun _ _ _ h => h) (Or.inl ⟨by rfl, ?_⟩) hHeld ?_; rotate_left; focus (intro w_ hSw_; obtain ⟨z0, z1, z2, z3, z4, z5⟩ := HC.out w_ hSw_; have y0 := HY.out w_ hSw_; go_simp; try with_reducible rfl)); (try simp only [Act.put, zA, zB, zC, zD, zE, zF])
 (refine wpAnyH_take (i := 29) (v := ?_) rfl (by kernel_rfl) (by kernel_rfl) (by kernel_rfl) (fun _ _ _ h => h) (Or.inl ⟨by rfl, ?_⟩) hHeld ?_; rotate_left; focus (intro w_ hSw_; obtain ⟨z0, z1, z2, z3, z4, z5⟩ := HC.out w_ hSw_; have y0 := HY.out w_ hSw_; go_simp; try with_reducible rfl)); (try simp only [Act.put, zA, zB, zC, zD, zE, zF])
 (refine wpAnyH_take (i := 30) (v := ?_) rfl (by kernel_rfl) (by kernel_rfl) (by kernel_rfl) (fun _ _ _ h => h) (Or.inl ⟨by rfl, ?_⟩) hHeld ?_; rotate_left; focus (intro w_ hSw_; obtain ⟨z0, z1, z2, z3, z4, z5⟩ := HC.out w_ hSw_; have y0 := HY.out w_ hSw_; go_simp; try with_reducible rfl)); (try simp only [Act.put, zA, zB, zC, zD, zE, zF])
 (refine wpAnyH_take (i := 31) (v := ?_) rfl (by kernel_rfl) (by kernel_rfl) (by kernel_rfl) (fun _ _ _ h => h) (Or.inl ⟨by rfl, ?_⟩) hHeld ?_; rotate_left; focus (intro w_ hSw_; obtain ⟨z0, z1, z2, z3, z4, z5⟩ := HC.out w_ hSw_; have y0 := HY.out w_ hSw_; go_simp; try with_reducible rfl)); (try simp only [Act.put, zA, zB, zC, zD, zE, zF])
 (refine wpAnyH_take (i := 32) (v := ?_) rfl (by kernel_rfl) (by kernel_rfl) (by kernel_rfl) (fun _ _ _ h => h) (Or.inl ⟨by rfl, ?_⟩) hHeld ?_; rotate_left; focus (intro w_ hSw_; obtain ⟨z0, z1, z2, z3, z4, z5⟩ := HC.out w_ hSw_; have y0 := HY.out w_ hSw_; go_simp; try with_reducible rfl)); (try simp only [Act.put, zA, zB, zC, zD, zE, zF])
 (refine wpAnyH_take (i := 33) (v := ?_) rfl (by kernel_rfl) (by kernel_rfl) (by kernel_rfl) (fun _ _ _ h => h) (Or.inl ⟨by rfl, ?_⟩) hHeld ?_; rotate_left; focus (intro w_ hSw_; obtain ⟨z0, z1, z2, z3, z4, z5⟩ := HC.out w_ hSw_; have y0 := HY.out w_ hSw_; go_simp; try with_reducible rfl)); (try simp only [Act.put, zA, zB, zC, zD, zE, zF])
 refine wpAnyH_done (by kernel_rfl) ?_ _
 obtain ⟨Wx, hWx⟩ : ∃ Wx, Wx = w3.drewN q4 := ⟨_, rfl⟩
 rw [← hWx] at hHeld ⊢
 clear hWx
 obtain ⟨z0, z1, z2, z3, z4, z5⟩ := HC.out _ hHeld
 have HBW : Aside0 (Below w.heap.size w Wx) := ⟨HB1.out.1.trans (hHeld.out.mono HB1.out.1.size)⟩
 have x0' := (HBW.out.cell (World.block_lt_of_cell? w _ HX0.out)).trans HX0.out
 clear hHeld
 go_wp2
 have HL := Aside0.mk (Kd.C_below HL0.out HBW.out)
 have HS := Aside0.mk (Kd.C_below HS0.out HBW.out)
 obtain ⟨Wb, hWb⟩ : ∃ Wb, Wb = Wx := ⟨_, rfl⟩
 rw [← hWb]
 rw [← hWb] at HL HS HBW
 have hWs : Aside0 (Wx.heap.size = Wb.heap.size) := ⟨by subst hWb; rfl⟩
 clear hWb
 go_loopw [7, 61] (fun v7 v8 wr => ∃ (i : Nat) (acc : List Int), i ≤ l1.length ∧ v8 = .int .i64 (i : Int) ∧ Aside0 (Kd.R (Kd.int .i64) 3 wr Wb.heap.size (fun _ => True) v7 acc ∧ Below Wb.heap.size Wb wr) ∧ Aside0 (imgO l acc (l1.drop i) = some o)) (fun _ v8 _ => (l1.length - (RowKit.intOf v8).toNat))
 case atStart => exact ⟨0, [], Nat.zero_le _, rfl, ⟨⟨Kd.R_nil _ _ _ _ _, Below.refl _ _⟩⟩, HO⟩
 case round =>
  clear HO
  obtain ⟨i, acc, hi, rfl, HA, HO⟩ := hrel
  obtain ⟨A7, c7, hv7⟩ := Kd.R_slice HA.out.1
  subst hv7
  have hlen1 : (l1.length : Int) ≤ 9223372036854775807 := by have := HS.out.2.1; omega
  by_cases hlt : i < l1.length
  ·obtain ⟨ad1, hA1, hx⟩ := Kd.at_int (Kd.C_below HS.out HA.out.2) (i : Int) (by omega) (by omega)
   rw [Int.toNat_natCast] at hx
   have ho := HO.out
   rw [List.drop_eq_getElem_cons hlt, show l1[i] = rd l1 (i : Int) from (rd_at hlt).symm] at ho
   generalize rd l1 (i : Int) = x at *
   unfold imgO at ho
   by_cases h0 : 0 ≤ x
   rotate_left
   ·rw [if_neg h0] at ho; cases ho
   rw [if_pos h0] at ho
   by_cases h1 : x < (l.length : Int)
   rotate_left
   ·rw [if_neg h1] at ho; cases ho
   rw [if_pos h1] at ho
   by_cases h2 : acc.length < 17592186044416
   rotate_left
   ·rw [if_neg h2] at ho; cases ho
   rw [if_pos h2] at ho
   obtain ⟨ad6, hA6, hy⟩ := Kd.at_int (Kd.C_below HL.out HA.out.2) x h0 h1
   have HO' := Aside0.mk ho
   clear ho HO
   generalize rd l x = y at *
   cases hA1
   cases hA6
   go_wp2_with (first
    | ((with_reducible refine gate_dst (N := 71) rfl ?_); refine Kd.R_append (Kd.int .i64) Wb.heap.size rfl (.tmp 65) (.tmp 70) 26 3 (.int .i64 0) 8 rfl Tryd.underlying26 info3 rfl (by decide) (by decide) _ acc y [.int .i64 y] (fun _ => True) (fun _ => False) rfl rfl ?aP (fun _ hk => hk.elim) (fun _ _ => trivial) ?aO HA.out.2 ?aS ?aL ?_; (case aP => rfl); (case aO => exact HA.out.1); (case aS => exact HA.out.2.size); (case aL => omega); intro v3 w3 ho hb hg hat; (have HA3 := Aside0.mk (And.intro ho hb)); clear ho hb hg hat))
   go_roundw
   case rel => exact ⟨i + 1, acc ++ [y], by omega, by go_num, HA3, HO'⟩
   case measure => simp [RowKit.intOf]; omega
  ·have hie : i = l1.length := by omega
   subst hie
   have hacc : acc = o := by
    have := HO.out
    rw [List.drop_of_length_le (Nat.le_refl _)] at this
    exact Option.some.inj this
   subst hacc
   clear hlt hi HO
   go_wp2
   go_ret2
   exact ⟨_, rfl, Kd.R_lower HA.out.1 HBW.out.size, HBW.out.trans (HA.out.2.mono HBW.out.size)⟩
set_option maxHeartbeats 4000000 in
set_option maxRecDepth 100000 in
theorem img_6e (k : Nat) (a0 a1 a2 a3 : Int) (A4 : Option Addr) (c4 : Nat) (l4 : List (List Int)) (A5 : Option Addr) (c5 : Nat) (l5 : List Mtr) (A1 : Option Addr) (c1 : Nat) (l1 : List Int) (w : World) (hEV : EV w) (hr4 : Kd.C (Kd.slice 3 (Kd.int .i64)) w A4 l4.length l4) (hc4 : l4.length ≤ c4) (hr5 : Kd.C k25 w A5 l5.length l5) (hc5 : l5.length ≤ c5) (hr1 : Kd.C (Kd.int .i64) w A1 l1.length l1) (hc1 : l1.length ≤ c1) (hck : chkN ⟨a0, a1, a2, a3, l4, l5⟩ = 0) (hm : mayB l1 = true) (h0 : l1.length = 0) (h56 : a0 = 6) (h04 : 0 < l4.length) (h05 : 0 < l5.length) (a l : List Int) (ha : set_All.f k (rd_T25 l5 0).f1 = some a) (hmn : set_Minus.f k a (rd_L1 l4 0) = some l) (o : List Int) (ho : imgO l [] l1 = some o) :
 Calls Tryd.prog 10 #[.agg #[.int .i64 a0, .int .i64 a1, .int .i64 a2, .int .i64 a3, .slice A4 l4.length c4, .slice A5 l5.length c5], .slice A1 l1.length c1] w fun e w' => ∃ v0_ : Value, e = .returned (.tuple #[v0_, .bool true]) ∧ Kd.R (Kd.int .i64) 3 w' w.heap.size (fun _ => True) v0_ o ∧ Below w.heap.size w w' := by
 obtain ⟨c, hc⟩ : ∃ c : Int, c = 0 := ⟨_, rfl⟩
 rw [← hc] at hck
 obtain ⟨W1, hW1⟩ : ∃ W1, W1 = w.alloc (Obj.cells #[.int .i64 a0, .int .i64 a1, .int .i64 a2, .int .i64 a3, .slice A4 l4.length c4, .slice A5 l5.length c5] 25) := ⟨_, rfl⟩
 have hB1 : Below w.heap.size w W1 := by subst hW1; exact (Below.refl _ _).alloc (Nat.le_refl _) _
 have hbx := mbox w 25 (.int .i64 a0) (.int .i64 a1) (.int .i64 a2) (.int .i64 a3) (.slice A4 l4.length c4) (.slice A5 l5.length c5)
 have hsz : w.heap.size < W1.heap.size := by
  subst hW1
  rw [show (w.alloc (Obj.cells #[.int .i64 a0, .int .i64 a1, .int .i64 a2, .int .i64 a3, .slice A4 l4.length c4, .slice A5 l5.length c5] 25)).heap.size = w.heap.size + 1 from Array.size_push ..]; omega
 rw [← hW1] at hbx
 have HB1 := Aside0.mk (And.intro hB1 (And.intro hbx hsz))
 have HW1 := Aside0.mk hW1
 have HCK := Aside0.mk (fun (w' : World) (hw : Aside0 (Below W1.heap.size W1 w')) => matroid_Check.calls a0 a1 a2 a3 A4 c4 l4 A5 c5 l5 c w' (hEV.below (hB1.trans (hw.out.mono hB1.size)) hEV.pos) (Kd.C_below hr4 (hB1.trans (hw.out.mono hB1.size))) hc4 (Kd.C_below hr5 (hB1.trans (hw.out.mono hB1.size))) hc5 (by rw [← hck]; rfl))
 have HMAY := Aside0.mk (fun (w' : World) (hw : Aside0 (Below W1.heap.size W1 w')) => set_May_now A1 c1 l1 w' (Kd.C_below hr1 (hB1.trans (hw.out.mono hB1.size))) hc1 hr1.2.1)
 have HC : Aside0 (∀ w', Aside0 (Below W1.heap.size W1 w') → w'.cell? ⟨w.heap.size, 0, none⟩ = some (.int .i64 a0) ∧ w'.cell? ⟨w.heap.size, 1, none⟩ = some (.int .i64 a1) ∧ w'.cell? ⟨w.heap.size, 2, none⟩ = some (.int .i64 a2) ∧ w'.cell? ⟨w.heap.size, 3, none⟩ = some (.int .i64 a3) ∧ w'.cell? ⟨w.heap.size, 4, none⟩ = some (.slice A4 l4.length c4) ∧ w'.cell? ⟨w.heap.size, 5, none⟩ = some (.slice A5 l5.length c5)) :=
  ⟨fun w' hw => ⟨(hw.out.cell (p := ⟨w.heap.size, 0, none⟩) hsz).trans hbx.1, (hw.out.cell (p := ⟨w.heap.size, 1, none⟩) hsz).trans hbx.2.1, (hw.out.cell (p := ⟨w.heap.size, 2, none⟩) hsz).trans hbx.2.2.1, (hw.out.cell (p := ⟨w.heap.size, 3, none⟩) hsz).trans hbx.2.2.2.1, (hw.out.cell (p := ⟨w.heap.size, 4, none⟩) hsz).trans hbx.2.2.2.2.1, (hw.out.cell (p := ⟨w.heap.size, 5, none⟩) hsz).trans hbx.2.2.2.2.2⟩⟩
 subst hc
 obtain ⟨ad, A0, c0, hA, x0, hl0, hR0⟩ := at_L1 hr4 0 (by omega) (by omega)
 subst hA
 rw [show (0 : Int).toNat = 0 from rfl, Addr.add_zero'] at x0
 have HX0 := Aside0.mk x0
 have HALL := Aside0.mk (fun (W : World) => set_All.calls k _ a W ha)
 obtain ⟨ad5, _, _, _, _, hA5, _, y1, _, _, _, _, _, _, _, _⟩ := at_T25 hr5 0 (by omega) (by omega)
 subst hA5
 rw [show (0 : Int).toNat * 6 = 0 from rfl, Addr.add_zero'] at y1
 have HY1 := Aside0.mk y1
 generalize rd_L1 l4 0 = l0 at *
 generalize (rd_T25 l5 0).f1 = m1 at *
 have HMN := Aside0.mk hmn
 have HLC := Aside0.mk hl0
 clear y1 hmn ha
 have HO := Aside0.mk ho
 have HL0 := Aside0.mk hR0
 have HS0 := Aside0.mk hr1
 have g2 : decide (0 < l1.length) = false := decide_eq_false (by omega)
 have g3 : decide (0 < (l1.length : Int)) = false := decide_eq_false (by omega)
 clear h0
 rw [hm] at HMAY
 clear hB1 hbx hsz hr4 hc4 hr5 hc5 hr1 hc1 hck hEV hW1 hm x0 hl0 hR0 ho
 subst h56
 go_enter Tryd.func10, Tryd.ntmps10
 go_wp2
 rw [← HW1.out]
 refine wp_region_held_drew (S := fun w' => Aside0 (Below W1.heap.size W1 w')) (by kernel_rfl) (⟨(Below.refl _ _).drew⟩) (fun hHeld => ?_)
 (refine wpAnyH_take (i := 0) (v := ?_) rfl (by kernel_rfl) (by kernel_rfl) (by kernel_rfl) (fun _ _ _ h => h) (Or.inl ⟨by rfl, ?_⟩) hHeld ?_; rotate_left; focus (intro w_ hSw_; obtain ⟨z0, z1, z2, z3, z4, z5⟩ := HC.out w_ hSw_; go_simp; try with_reducible rfl)); (try simp only [Act.put, zA, zB, zC, zD, zE, zF])
 refine wpAnyH_ready (rs := [1]) (by kernel_rfl) (by simp) ?_; refine AllReadyH.cons rfl (fun K hK => ?_) AllReadyH.nil; rw [if_pos (by rfl)]; (go_simp); (go_at_call 12; refine (HCK.out _ hHeld).mono ?_; rintro e w3 ⟨rfl, hb⟩; (have HB' := held_below hHeld hb); clear hb); (first | skip); refine hK.out _ _ (HB') (fun hHeld => ?_); clear hK K; (try simp only [Act.put, zA, zB, zC, zD, zE, zF])
 (refine wpAnyH_take (i := 2) (v := ?_) rfl (by kernel_rfl) (by kernel_rfl) (by kernel_rfl) (fun _ _ _ h => h) (Or.inl ⟨by rfl, ?_⟩) hHeld ?_; rotate_left; focus (intro w_ hSw_; obtain ⟨z0, z1, z2, z3, z4, z5⟩ := HC.out w_ hSw_; go_simp; try with_reducible rfl)); (try simp only [Act.put, zA, zB, zC, zD, zE, zF])
 (refine wpAnyH_take (i := 3) (v := ?_) rfl (by kernel_rfl) (by kernel_rfl) (by kernel_rfl) (fun _ _ _ h => h) (Or.inl ⟨by rfl, ?_⟩) hHeld ?_; rotate_left; focus (intro w_ hSw_; obtain ⟨z0, z1, z2, z3, z4, z5⟩ := HC.out w_ hSw_; go_simp; try with_reducible rfl)); (try simp only [Act.put, zA, zB, zC, zD, zE, zF])
 (refine wpAnyH_take (i := 4) (v := ?_) rfl (by kernel_rfl) (by kernel_rfl) (by kernel_rfl) (fun _ _ _ h => h) (Or.inl ⟨by rfl, ?_⟩) hHeld ?_; rotate_left; focus (intro w_ hSw_; obtain ⟨z0, z1, z2, z3, z4, z5⟩ := HC.out w_ hSw_; go_simp; try with_reducible rfl)); (try simp only [Act.put, zA, zB, zC, zD, zE, zF])
 (refine wpAnyH_take (i := 5) (v := ?_) rfl (by kernel_rfl) (by kernel_rfl) (by kernel_rfl) (fun _ _ _ h => h) (Or.inl ⟨by rfl, ?_⟩) hHeld ?_; rotate_left; focus (intro w_ hSw_; obtain ⟨z0, z1, z2, z3, z4, z5⟩ := HC.out w_ hSw_; go_simp; try with_reducible rfl)); (try simp only [Act.put, zA, zB, zC, zD, zE, zF])
 (refine wpAnyH_take (i := 6) (v := ?_) rfl (by kernel_rfl) (by kernel_rfl) (by kernel_rfl) (fun _ _ _ h => h) (Or.inl ⟨by rfl, ?_⟩) hHeld ?_; rotate_left; focus (intro w_ hSw_; obtain ⟨z0, z1, z2, z3, z4, z5⟩ := HC.out w_ hSw_; go_simp; try with_reducible rfl)); (try simp only [Act.put, zA, zB, zC, zD, zE, zF])
 (refine wpAnyH_take (i := 7) (v := ?_) rfl (by kernel_rfl) (by kernel_rfl) (by kernel_rfl) (fun _ _ _ h => h) (Or.inl ⟨by rfl, ?_⟩) hHeld ?_; rotate_left; focus (intro w_ hSw_; obtain ⟨z0, z1, z2, z3, z4, z5⟩ := HC.out w_ hSw_; go_simp; try with_reducible rfl)); (try simp only [Act.put, zA, zB, zC, zD, zE, zF])
 (refine wpAnyH_take (i := 8) (v := ?_) rfl (by kernel_rfl) (by kernel_rfl) (by kernel_rfl) (fun _ _ _ h => h) (Or.inl ⟨by rfl, ?_⟩) hHeld ?_; rotate_left; focus (intro w_ hSw_; obtain ⟨z0, z1, z2, z3, z4, z5⟩ := HC.out w_ hSw_; go_simp; try with_reducible rfl)); (try simp only [Act.put, zA, zB, zC, zD, zE, zF])
 (refine wpAnyH_take (i := 9) (v := ?_) rfl (by kernel_rfl) (by kernel_rfl) (by kernel_rfl) (fun _ _ _ h => h) (Or.inl ⟨by rfl, ?_⟩) hHeld ?_; rotate_left; focus (intro w_ hSw_; obtain ⟨z0, z1, z2, z3, z4, z5⟩ := HC.out w_ hSw_; go_simp; try with_reducible rfl)); (try simp only [Act.put, zA, zB, zC, zD, zE, zF])
 (refine wpAnyH_take (i := 10) (v := ?_) rfl (by kernel_rfl) (by kernel_rfl) (by kernel_rfl) (fun _ _ _ h => h) (Or.inl ⟨by rfl, ?_⟩) hHeld ?_; rotate_left; focus (intro w_ hSw_; obtain ⟨z0, z1, z2, z3, z4, z5⟩ := HC.out w_ hSw_; go_simp; try with_reducible rfl)); (try simp only [Act.put, zA, zB, zC, zD, zE, zF])
 (refine wpAnyH_take (i := 11) (v := ?_) rfl (by kernel_rfl) (by kernel_rfl) (by kernel_rfl) (fun _ _ _ h => h) (Or.inl ⟨by rfl, ?_⟩) hHeld ?_; rotate_left; focus (intro w_ hSw_; obtain ⟨z0, z1, z2, z3, z4, z5⟩ := HC.out w_ hSw_; go_simp; try with_reducible rfl)); (try simp only [Act.put, zA, zB, zC, zD, zE, zF])
 (refine wpAnyH_take (i := 12) (v := ?_) rfl (by kernel_rfl) (by kernel_rfl) (by kernel_rfl) (fun _ _ _ h => h) (Or.inl ⟨by rfl, ?_⟩) hHeld ?_; rotate_left; focus (intro w_ hSw_; obtain ⟨z0, z1, z2, z3, z4, z5⟩ := HC.out w_ hSw_; go_simp; try with_reducible rfl)); (try simp only [Act.put, zA, zB, zC, zD, zE, zF])
 (refine wpAnyH_take (i := 13) (v := ?_) rfl (by kernel_rfl) (by kernel_rfl) (by kernel_rfl) (fun _ _ _ h => h) (Or.inl ⟨by rfl, ?_⟩) hHeld ?_; rotate_left; focus (intro w_ hSw_; obtain ⟨z0, z1, z2, z3, z4, z5⟩ := HC.out w_ hSw_; go_simp; try with_reducible rfl)); (try simp only [Act.put, zA, zB, zC, zD, zE, zF])
 (refine wpAnyH_take (i := 14) (v := ?_) rfl (by kernel_rfl) (by kernel_rfl) (by kernel_rfl) (fun _ _ _ h => h) (Or.inl ⟨by rfl, ?_⟩) hHeld ?_; rotate_left; focus (intro w_ hSw_; obtain ⟨z0, z1, z2, z3, z4, z5⟩ := HC.out w_ hSw_; go_simp; try with_reducible rfl)); (try simp only [Act.put, zA, zB, zC, zD, zE, zF])
 refine wpAnyH_ready (rs := [15]) (by kernel_rfl) (by simp) ?_; refine AllReadyH.cons rfl (fun K hK => ?_) AllReadyH.nil; rw [if_pos (by rfl)]; (go_simp); (go_at_call 21; refine (HMAY.out _ hHeld).mono ?_; rintro e w4 ⟨rfl, ⟨q4, rfl⟩⟩; (have HB' := held_below hHeld (pw_below_drewN (Below.refl _ _) q4))); (first | skip); refine hK.out _ _ (HB') (fun hHeld => ?_); clear hK K; (try simp only [Act.put, zA, zB, zC, zD, zE, zF])
 (refine wpAnyH_take (i := 16) (v := ?_) rfl (by kernel_rfl) (by kernel_rfl) (by kernel_rfl) (fun _ _ _ h => h) (Or.inl ⟨by rfl, ?_⟩) hHeld ?_; rotate_left; focus (intro w_ hSw_; obtain ⟨z0, z1, z2, z3, z4, z5⟩ := HC.out w_ hSw_; go_simp; try with_reducible rfl)); (try simp only [Act.put, zA, zB, zC, zD, zE, zF])
 (refine wpAnyH_take (i := 17) (v := ?_) rfl (by kernel_rfl) (by kernel_rfl) (by kernel_rfl) (fun _ _ _ h => h) (Or.inl ⟨by rfl, ?_⟩) hHeld ?_; rotate_left; focus (intro w_ hSw_; obtain ⟨z0, z1, z2, z3, z4, z5⟩ := HC.out w_ hSw_; go_simp; try with_reducible rfl)); (try simp only [Act.put, zA, zB, zC, zD, zE, zF])
 (refine wpAnyH_take (i := 18) (v := ?_) rfl (by kernel_rfl) (by kernel_rfl) (by kernel_rfl) (fun _ _ _ h => h) (Or.inl ⟨by rfl, ?_⟩) hHeld ?_; rotate_left; focus (intro w_ hSw_; obtain ⟨z0, z1, z2, z3, z4, z5⟩ := HC.out w_ hSw_; go_simp; try with_reducible rfl)); (try simp only [Act.put, zA, zB, zC, zD, zE, zF])
 (refine wpAnyH_take (i := 19) (v := ?_) rfl (by kernel_rfl) (by kernel_rfl) (by kernel_rfl) (fun _ _ _ h => h) (Or.inl ⟨by rfl, ?_⟩) hHeld ?_; rotate_left; focus (intro w_ hSw_; obtain ⟨z0, z1, z2, z3, z4, z5⟩ := HC.out w_ hSw_; go_simp; try with_reducible rfl)); (try simp only [Act.put, zA, zB, zC, zD, zE, zF])
 (refine wpAnyH_take (i := 20) (v := ?_) rfl (by kernel_rfl) (by kernel_rfl) (by kernel_rfl) (fun _ _ _ h => h) (Or.inl ⟨by rfl, ?_⟩) hHeld ?_; rotate_left; focus (intro w_ hSw_; obtain ⟨z0, z1, z2, z3, z4, z5⟩ := HC.out w_ hSw_; go_simp; try with_reducible rfl)); (try simp only [Act.put, zA, zB, zC, zD, zE, zF])
 (refine wpAnyH_take (i := 21) (v := ?_) rfl (by kernel_rfl) (by kernel_rfl) (by kernel_rfl) (fun _ _ _ h => h) (Or.inl ⟨by rfl, ?_⟩) hHeld ?_; rotate_left; focus (intro w_ hSw_; obtain ⟨z0, z1, z2, z3, z4, z5⟩ := HC.out w_ hSw_; go_simp; try with_reducible rfl)); (try simp only [Act.put, zA, zB, zC, zD, zE, zF])
 (refine wpAnyH_take (i := 22) (v := ?_) rfl (by kernel_rfl) (by kernel_rfl) (by kernel_rfl) (fun _ _ _ h => h) (Or.inl ⟨by rfl, ?_⟩) hHeld ?_; rotate_left; focus (intro w_ hSw_; obtain ⟨z0, z1, z2, z3, z4, z5⟩ := HC.out w_ hSw_; go_simp; try with_reducible rfl)); (try simp only [Act.put, zA, zB, zC, zD, zE, zF])
 (refine wpAnyH_take (i := 23) (v := _) rfl (by kernel_rfl) (by kernel_rfl) (by kernel_rfl) (fun _ _ _ h => h) (Or.inr ⟨by rfl, rfl⟩) hHeld ?_); (try simp only [Act.put, zA, zB, zC, zD, zE, zF])
 (refine wpAnyH_take (i := 24) (v := _) rfl (by kernel_rfl) (by kernel_rfl) (by kernel_rfl) (fun _ _ _ h => h) (Or.inr ⟨by rfl, rfl⟩) hHeld ?_); (try simp only [Act.put, zA, zB, zC, zD, zE, zF])
 (refine wpAnyH_take (i := 25) (v := _) rfl (by kernel_rfl) (by kernel_rfl) (by kernel_rfl) (fun _ _ _ h => h) (Or.inr ⟨by rfl, rfl⟩) hHeld ?_); (try simp only [Act.put, zA, zB, zC, zD, zE, zF])
 (refine wpAnyH_take (i := 26) (v := _) rfl (by kernel_rfl) (by kernel_rfl) (by kernel_rfl) (fun _ _ _ h => h) (Or.inr ⟨by rfl, rfl⟩) hHeld ?_); (try simp only [Act.put, zA, zB, zC, zD, zE, zF])
 (refine wpAnyH_take (i := 27) (v := _) rfl (by kernel_rfl) (by kernel_rfl) (by kernel_rfl) (fun _ _ _ h => h) (Or.inr ⟨by rfl, rfl⟩) hHeld ?_); (try simp only [Act.put, zA, zB, zC, zD, zE, zF])
 (refine wpAnyH_take (i := 28) (v := _) rfl (by kernel_rfl) (by kernel_rfl) (by kernel_rfl) (fun _ _ _ h => h) (Or.inr ⟨by rfl, rfl⟩) hHeld ?_); (try simp only [Act.put, zA, zB, zC, zD, zE, zF])
 (refine wpAnyH_take (i := 29) (v := _) rfl (by kernel_rfl) (by kernel_rfl) (by kernel_rfl) (fun _ _ _ h => h) (Or.inr ⟨by rfl, rfl⟩) hHeld ?_); (try simp only [Act.put, zA, zB, zC, zD, zE, zF])
 (refine wpAnyH_take (i := 30) (v := _) rfl (by kernel_rfl) (by kernel_rfl) (by kernel_rfl) (fun _ _ _ h => h) (Or.inr ⟨by rfl, rfl⟩) hHeld ?_); (try simp only [Act.put, zA, zB, zC, zD, zE, zF])
 (refine wpAnyH_take (i := 31) (v := _) rfl (by kernel_rfl) (by kernel_rfl) (by kernel_rfl) (fun _ _ _ h => h) (Or.inr ⟨by rfl, rfl⟩) hHeld ?_); (try simp only [Act.put, zA, zB, zC, zD, zE, zF])
 (refine wpAnyH_take (i := 32) (v := ?_) rfl (by kernel_rfl) (by kernel_rfl) (by kernel_rfl) (fun _ _ _ h => h) (Or.inl ⟨by rfl, ?_⟩) hHeld ?_; rotate_left; focus (intro w_ hSw_; obtain ⟨z0, z1, z2, z3, z4, z5⟩ := HC.out w_ hSw_; go_simp; try with_reducible rfl)); (try simp only [Act.put, zA, zB, zC, zD, zE, zF])
 (refine wpAnyH_take (i := 33) (v := ?_) rfl (by kernel_rfl) (by kernel_rfl) (by kernel_rfl) (fun _ _ _ h => h) (Or.inl ⟨by rfl, ?_⟩) hHeld ?_; rotate_left; focus (intro w_ hSw_; obtain ⟨z0, z1, z2, z3, z4, z5⟩ := HC.out w_ hSw_; go_simp; try with_reducible rfl)); (try simp only [Act.put, zA, zB, zC, zD, zE, zF])
 refine wpAnyH_done (by kernel_rfl) ?_ _
 obtain ⟨Wx, hWx⟩ : ∃ Wx, Wx = w3.drewN q4 := ⟨_, rfl⟩
 rw [← hWx] at hHeld ⊢
 clear hWx
 obtain ⟨z0, z1, z2, z3, z4, z5⟩ := HC.out _ hHeld
 have HBW : Aside0 (Below w.heap.size w Wx) := ⟨HB1.out.1.trans (hHeld.out.mono HB1.out.1.size)⟩
 have x0' := (HBW.out.cell (World.block_lt_of_cell? w _ HX0.out)).trans HX0.out
 have y1' := (HBW.out.cell (World.block_lt_of_cell? w _ HY1.out)).trans HY1.out
 clear hHeld
 go_wp2_with (first | (go_at_call 22; refine (set_Minus.calls k _ _ a _ _ l0 l _ (Kd.R_reads' HA4.out).2.2 (Kd.R_reads' HA4.out).2.1 (Kd.C_below HL0.out HBW4.out) HLC.out HMN.out).mono ?_; rintro e w5 ⟨vl, rfl, hol, hb⟩; (obtain ⟨A6, c6, hvl⟩ := Kd.R_slice hol); subst hvl; (have HA5 := Aside0.mk hol); (have HBW5 : Aside0 (Below w.heap.size w w5) := at_step HBW4 hb); clear hol hb) | (go_at_call 23; refine (HALL.out _).mono ?_; rintro e w4 ⟨va, rfl, hoa, hb⟩; (obtain ⟨Aa, ca, hva⟩ := Kd.R_slice hoa); subst hva; (have HA4 := Aside0.mk hoa); (have HBW4 : Aside0 (Below w.heap.size w w4) := at_step HBW hb); clear hoa hb))
 have HL := Aside0.mk (Kd.R_reads' HA5.out).2.2
 have HS := Aside0.mk (Kd.C_below HS0.out HBW5.out)
 clear HBW
 have HBW := HBW5
 clear HBW5
 obtain ⟨Wb, hWb⟩ : ∃ Wb, Wb = w5 := ⟨_, rfl⟩
 rw [← hWb]
 rw [← hWb] at HL HS HBW
 have hWs : Aside0 (w5.heap.size = Wb.heap.size) := ⟨by subst hWb; rfl⟩
 clear hWb
 go_loopw [7, 61] (fun v7 v8 wr => ∃ (i : Nat) (acc : List Int), i ≤ l1.length ∧ v8 = .int .i64 (i : Int) ∧ Aside0 (Kd.R (Kd.int .i64) 3 wr Wb.heap.size (fun _ => True) v7 acc ∧ Below Wb.heap.size Wb wr) ∧ Aside0 (imgO l acc (l1.drop i) = some o)) (fun _ v8 _ => (l1.length - (RowKit.intOf v8).toNat))
 case atStart => exact ⟨0, [], Nat.zero_le _, rfl, ⟨⟨Kd.R_nil _ _ _ _ _, Below.refl _ _⟩⟩, HO⟩
 case round =>
  clear HO
  obtain ⟨i, acc, hi, rfl, HA, HO⟩ := hrel
  obtain ⟨A7, c7, hv7⟩ := Kd.R_slice HA.out.1
  subst hv7
  have hlen1 : (l1.length : Int) ≤ 9223372036854775807 := by have := HS.out.2.1; omega
  by_cases hlt : i < l1.length
  ·obtain ⟨ad1, hA1, hx⟩ := Kd.at_int (Kd.C_below HS.out HA.out.2) (i : Int) (by omega) (by omega)
   rw [Int.toNat_natCast] at hx
   have ho := HO.out
   rw [List.drop_eq_getElem_cons hlt, show l1[i] = rd l1 (i : Int) from (rd_at hlt).symm] at ho
   generalize rd l1 (i : Int) = x at *
   unfold imgO at ho
   by_cases h0 : 0 ≤ x
   rotate_left
   ·rw [if_neg h0] at ho; cases ho
   rw [if_pos h0] at ho
   by_cases h1 : x < (l.length : Int)
   rotate_left
   ·rw [if_neg h1] at ho; cases ho
   rw [if_pos h1] at ho
   by_cases h2 : acc.length < 17592186044416
   rotate_left
   ·rw [if_neg h2] at ho; cases ho
   rw [if_pos h2] at ho
   obtain ⟨ad6, hA6, hy⟩ := Kd.at_int (Kd.C_below HL.out HA.out.2) x h0 h1
   have HO' := Aside0.mk ho
   clear ho HO
   generalize rd l x = y at *
   cases hA1
   cases hA6
   go_wp2_with (first
    | ((with_reducible refine gate_dst (N := 71) rfl ?_); refine Kd.R_append (Kd.int .i64) Wb.heap.size rfl (.tmp 65) (.tmp 70) 26 3 (.int .i64 0) 8 rfl Tryd.underlying26 info3 rfl (by decide) (by decide) _ acc y [.int .i64 y] (fun _ => True) (fun _ => False) rfl rfl ?aP (fun _ hk => hk.elim) (fun _ _ => trivial) ?aO HA.out.2 ?aS ?aL ?_; (case aP => rfl); (case aO => exact HA.out.1); (case aS => exact HA.out.2.size); (case aL => omega); intro v3 w3 ho hb hg hat; (have HA3 := Aside0.mk (And.intro ho hb)); clear ho hb hg hat))
   go_roundw
   case rel => exact ⟨i + 1, acc ++ [y], by omega, by go_num, HA3, HO'⟩
   case measure => simp [RowKit.intOf]; omega
  ·have hie : i = l1.length := by omega
   subst hie
   have hacc : acc = o := by
    have := HO.out
    rw [List.drop_of_length_le (Nat.le_refl _)] at this
    exact Option.some.inj this
   subst hacc
   clear hlt hi HO
   go_wp2
   go_ret2
   exact ⟨_, rfl, Kd.R_lower HA.out.1 HBW.out.size, HBW.out.trans (HA.out.2.mono HBW.out.size)⟩
set_option maxHeartbeats 4000000 in
set_option maxRecDepth 100000 in
theorem img_6l (k : Nat) (a0 a1 a2 a3 : Int) (A4 : Option Addr) (c4 : Nat) (l4 : List (List Int)) (A5 : Option Addr) (c5 : Nat) (l5 : List Mtr) (A1 : Option Addr) (c1 : Nat) (l1 : List Int) (w : World) (hEV : EV w) (hr4 : Kd.C (Kd.slice 3 (Kd.int .i64)) w A4 l4.length l4) (hc4 : l4.length ≤ c4) (hr5 : Kd.C k25 w A5 l5.length l5) (hc5 : l5.length ≤ c5) (hr1 : Kd.C (Kd.int .i64) w A1 l1.length l1) (hc1 : l1.length ≤ c1) (hck : chkN ⟨a0, a1, a2, a3, l4, l5⟩ = 0) (hm : mayB l1 = true) (h0 : 0 < l1.length) (hge : ¬ a1 ≤ rd l1 ((l1.length : Int) - 1)) (h56 : a0 = 6) (h04 : 0 < l4.length) (h05 : 0 < l5.length) (a l : List Int) (ha : set_All.f k (rd_T25 l5 0).f1 = some a) (hmn : set_Minus.f k a (rd_L1 l4 0) = some l) (o : List Int) (ho : imgO l [] l1 = some o) :
 Calls Tryd.prog 10 #[.agg #[.int .i64 a0, .int .i64 a1, .int .i64 a2, .int .i64 a3, .slice A4 l4.length c4, .slice A5 l5.length c5], .slice A1 l1.length c1] w fun e w' => ∃ v0_ : Value, e = .returned (.tuple #[v0_, .bool true]) ∧ Kd.R (Kd.int .i64) 3 w' w.heap.size (fun _ => True) v0_ o ∧ Below w.heap.size w w' := by
 obtain ⟨c, hc⟩ : ∃ c : Int, c = 0 := ⟨_, rfl⟩
 rw [← hc] at hck
 obtain ⟨ad1, hA1, hy⟩ := Kd.at_int hr1 ((l1.length : Int) - 1) (by omega) (by omega)
 subst hA1
 rw [show ((l1.length : Int) - 1).toNat = l1.length - 1 by omega] at hy
 have h0c : decide (0 < l1.length) = true := decide_eq_true h0
 have hi0 : (0 : Int) ≤ (l1.length : Int) - 1 := by omega
 have hi1 : (l1.length : Int) - 1 < (l1.length : Int) := by omega
 have hlast : wrap64 ((l1.length : Int) - 1) = (l1.length : Int) - 1 := by have := hr1.2.1; unfold wrap64; omega
 have hb0 : (l1.length : Int) ≤ 9223372036854775807 := by have := hr1.2.1; omega
 have hwr : IntKind.i64.wrap ((l1.length : Int) - 1) = (l1.length : Int) - 1 := by rw [wrap_i64]; exact hlast
 have htn : ((l1.length : Int) - 1).toNat = l1.length - 1 := by omega
 have h1l : (1 : Int) ≤ (l1.length : Int) := by omega
 obtain ⟨W1, hW1⟩ : ∃ W1, W1 = w.alloc (Obj.cells #[.int .i64 a0, .int .i64 a1, .int .i64 a2, .int .i64 a3, .slice A4 l4.length c4, .slice A5 l5.length c5] 25) := ⟨_, rfl⟩
 have hB1 : Below w.heap.size w W1 := by subst hW1; exact (Below.refl _ _).alloc (Nat.le_refl _) _
 have hbx := mbox w 25 (.int .i64 a0) (.int .i64 a1) (.int .i64 a2) (.int .i64 a3) (.slice A4 l4.length c4) (.slice A5 l5.length c5)
 have hsz : w.heap.size < W1.heap.size := by
  subst hW1
  rw [show (w.alloc (Obj.cells #[.int .i64 a0, .int .i64 a1, .int .i64 a2, .int .i64 a3, .slice A4 l4.length c4, .slice A5 l5.length c5] 25)).heap.size = w.heap.size + 1 from Array.size_push ..]; omega
 rw [← hW1] at hbx
 have HB1 := Aside0.mk (And.intro hB1 (And.intro hbx hsz))
 have HW1 := Aside0.mk hW1
 have HCK := Aside0.mk (fun (w' : World) (hw : Aside0 (Below W1.heap.size W1 w')) => matroid_Check.calls a0 a1 a2 a3 A4 c4 l4 A5 c5 l5 c w' (hEV.below (hB1.trans (hw.out.mono hB1.size)) hEV.pos) (Kd.C_below hr4 (hB1.trans (hw.out.mono hB1.size))) hc4 (Kd.C_below hr5 (hB1.trans (hw.out.mono hB1.size))) hc5 (by rw [← hck]; rfl))
 have HMAY := Aside0.mk (fun (w' : World) (hw : Aside0 (Below W1.heap.size W1 w')) => set_May_now (some ad1) c1 l1 w' (Kd.C_below hr1 (hB1.trans (hw.out.mono hB1.size))) hc1 hr1.2.1)
 have HC : Aside0 (∀ w', Aside0 (Below W1.heap.size W1 w') → w'.cell? ⟨w.heap.size, 0, none⟩ = some (.int .i64 a0) ∧ w'.cell? ⟨w.heap.size, 1, none⟩ = some (.int .i64 a1) ∧ w'.cell? ⟨w.heap.size, 2, none⟩ = some (.int .i64 a2) ∧ w'.cell? ⟨w.heap.size, 3, none⟩ = some (.int .i64 a3) ∧ w'.cell? ⟨w.heap.size, 4, none⟩ = some (.slice A4 l4.length c4) ∧ w'.cell? ⟨w.heap.size, 5, none⟩ = some (.slice A5 l5.length c5)) :=
  ⟨fun w' hw => ⟨(hw.out.cell (p := ⟨w.heap.size, 0, none⟩) hsz).trans hbx.1, (hw.out.cell (p := ⟨w.heap.size, 1, none⟩) hsz).trans hbx.2.1, (hw.out.cell (p := ⟨w.heap.size, 2, none⟩) hsz).trans hbx.2.2.1, (hw.out.cell (p := ⟨w.heap.size, 3, none⟩) hsz).trans hbx.2.2.2.1, (hw.out.cell (p := ⟨w.heap.size, 4, none⟩) hsz).trans hbx.2.2.2.2.1, (hw.out.cell (p := ⟨w.heap.size, 5, none⟩) hsz).trans hbx.2.2.2.2.2⟩⟩
 subst hc
 obtain ⟨ad, A0, c0, hA, x0, hl0, hR0⟩ := at_L1 hr4 0 (by omega) (by omega)
 subst hA
 rw [show (0 : Int).toNat = 0 from rfl, Addr.add_zero'] at x0
 have HX0 := Aside0.mk x0
 have HALL := Aside0.mk (fun (W : World) => set_All.calls k _ a W ha)
 obtain ⟨ad5, _, _, _, _, hA5, _, y1, _, _, _, _, _, _, _, _⟩ := at_T25 hr5 0 (by omega) (by omega)
 subst hA5
 rw [show (0 : Int).toNat * 6 = 0 from rfl, Addr.add_zero'] at y1
 have HY1 := Aside0.mk y1
 generalize rd_L1 l4 0 = l0 at *
 generalize (rd_T25 l5 0).f1 = m1 at *
 have HMN := Aside0.mk hmn
 have HLC := Aside0.mk hl0
 clear y1 hmn ha
 have HO := Aside0.mk ho
 have HL0 := Aside0.mk hR0
 have HS0 := Aside0.mk hr1
 have g2 : decide (a1 ≤ rd l1 ((l1.length : Int) - 1)) = false := decide_eq_false hge
 clear hge
 generalize rd l1 ((l1.length : Int) - 1) = y at *
 have HY : Aside0 (∀ w', Aside0 (Below W1.heap.size W1 w') → w'.cell? (ad1.add (l1.length - 1)) = some (.int .i64 y)) := ⟨fun w' hw => ((hB1.trans (hw.out.mono hB1.size)).cell (World.block_lt_of_cell? w _ hy)).trans hy⟩
 rw [hm] at HMAY
 clear hB1 hbx hsz hr4 hc4 hr5 hc5 hr1 hc1 hck hEV hW1 hm hy x0 hl0 hR0 ho
 subst h56
 go_enter Tryd.func10, Tryd.ntmps10
 go_wp2
 rw [← HW1.out]
 refine wp_region_held_drew (S := fun w' => Aside0 (Below W1.heap.size W1 w')) (by kernel_rfl) (⟨(Below.refl _ _).drew⟩) (fun hHeld => ?_)
 (refine wpAnyH_take (i := 0) (v := ?_) rfl (by kernel_rfl) (by kernel_rfl) (by kernel_rfl) (fun _ _ _ h => h) (Or.inl ⟨by rfl, ?_⟩) hHeld ?_; rotate_left; focus (intro w_ hSw_; obtain ⟨z0, z1, z2, z3, z4, z5⟩ := HC.out w_ hSw_; go_simp; try with_reducible rfl)); (try simp only [Act.put, zA, zB, zC, zD, zE, zF])
 refine wpAnyH_ready (rs := [1]) (by kernel_rfl) (by simp) ?_; refine AllReadyH.cons rfl (fun K hK => ?_) AllReadyH.nil; rw [if_pos (by rfl)]; (go_simp); (go_at_call 12; refine (HCK.out _ hHeld).mono ?_; rintro e w3 ⟨rfl, hb⟩; (have HB' := held_below hHeld hb); clear hb); (first | skip); refine hK.out _ _ (HB') (fun hHeld => ?_); clear hK K; (try simp only [Act.put, zA, zB, zC, zD, zE, zF])
 (refine wpAnyH_take (i := 2) (v := ?_) rfl (by kernel_rfl) (by kernel_rfl) (by kernel_rfl) (fun _ _ _ h => h) (Or.inl ⟨by rfl, ?_⟩) hHeld ?_; rotate_left; focus (intro w_ hSw_; obtain ⟨z0, z1, z2, z3, z4, z5⟩ := HC.out w_ hSw_; go_simp; try with_reducible rfl)); (try simp only [Act.put, zA, zB, zC, zD, zE, zF])
 (refine wpAnyH_take (i := 3) (v := ?_) rfl (by kernel_rfl) (by kernel_rfl) (by kernel_rfl) (fun _ _ _ h => h) (Or.inl ⟨by rfl, ?_⟩) hHeld ?_; rotate_left; focus (intro w_ hSw_; obtain ⟨z0, z1, z2, z3, z4, z5⟩ := HC.out w_ hSw_; go_simp; try with_reducible rfl)); (try simp only [Act.put, zA, zB, zC, zD, zE, zF])
 (refine wpAnyH_take (i := 4) (v := ?_) rfl (by kernel_rfl) (by kernel_rfl) (by kernel_rfl) (fun _ _ _ h => h) (Or.inl ⟨by rfl, ?_⟩) hHeld ?_; rotate_left; focus (intro w_ hSw_; obtain ⟨z0, z1, z2, z3, z4, z5⟩ := HC.out w_ hSw_; go_simp; try with_reducible rfl)); (try simp only [Act.put, zA, zB, zC, zD, zE, zF])
 (refine wpAnyH_take (i := 5) (v := ?_) rfl (by kernel_rfl) (by kernel_rfl) (by kernel_rfl) (fun _ _ _ h => h) (Or.inl ⟨by rfl, ?_⟩) hHeld ?_; rotate_left; focus (intro w_ hSw_; obtain ⟨z0, z1, z2, z3, z4, z5⟩ := HC.out w_ hSw_; go_simp; try with_reducible rfl)); (try simp only [Act.put, zA, zB, zC, zD, zE, zF])
 (refine wpAnyH_take (i := 6) (v := ?_) rfl (by kernel_rfl) (by kernel_rfl) (by kernel_rfl) (fun _ _ _ h => h) (Or.inl ⟨by rfl, ?_⟩) hHeld ?_; rotate_left; focus (intro w_ hSw_; obtain ⟨z0, z1, z2, z3, z4, z5⟩ := HC.out w_ hSw_; go_simp; try with_reducible rfl)); (try simp only [Act.put, zA, zB, zC, zD, zE, zF])
 (refine wpAnyH_take (i := 7) (v := ?_) rfl (by kernel_rfl) (by kernel_rfl) (by kernel_rfl) (fun _ _ _ h => h) (Or.inl ⟨by rfl, ?_⟩) hHeld ?_; rotate_left; focus (intro w_ hSw_; obtain ⟨z0, z1, z2, z3, z4, z5⟩ := HC.out w_ hSw_; go_simp; try with_reducible rfl)); (try simp only [Act.put, zA, zB, zC, zD, zE, zF])
 (refine wpAnyH_take (i := 8) (v := ?_) rfl (by kernel_rfl) (by kernel_rfl) (by kernel_rfl) (fun _ _ _ h => h) (Or.inl ⟨by rfl, ?_⟩) hHeld ?_; rotate_left; focus (intro w_ hSw_; obtain ⟨z0, z1, z2, z3, z4, z5⟩ := HC.out w_ hSw_; go_simp; try with_reducible rfl)); (try simp only [Act.put, zA, zB, zC, zD, zE, zF])
 (refine wpAnyH_take (i := 9) (v := ?_) rfl (by kernel_rfl) (by kernel_rfl) (by kernel_rfl) (fun _ _ _ h => h) (Or.inl ⟨by rfl, ?_⟩) hHeld ?_; rotate_left; focus (intro w_ hSw_; obtain ⟨z0, z1, z2, z3, z4, z5⟩ := HC.out w_ hSw_; go_simp; try with_reducible rfl)); (try simp only [Act.put, zA, zB, zC, zD, zE, zF])
 (refine wpAnyH_take (i := 10) (v := ?_) rfl (by kernel_rfl) (by kernel_rfl) (by kernel_rfl) (fun _ _ _ h => h) (Or.inl ⟨by rfl, ?_⟩) hHeld ?_; rotate_left; focus (intro w_ hSw_; obtain ⟨z0, z1, z2, z3, z4, z5⟩ := HC.out w_ hSw_; go_simp; try with_reducible rfl)); (try simp only [Act.put, zA, zB, zC, zD, zE, zF])
 (refine wpAnyH_take (i := 11) (v := ?_) rfl (by kernel_rfl) (by kernel_rfl) (by kernel_rfl) (fun _ _ _ h => h) (Or.inl ⟨by rfl, ?_⟩) hHeld ?_; rotate_left; focus (intro w_ hSw_; obtain ⟨z0, z1, z2, z3, z4, z5⟩ := HC.out w_ hSw_; go_simp; try with_reducible rfl)); (try simp only [Act.put, zA, zB, zC, zD, zE, zF])
 (refine wpAnyH_take (i := 12) (v := ?_) rfl (by kernel_rfl) (by kernel_rfl) (by kernel_rfl) (fun _ _ _ h => h) (Or.inl ⟨by rfl, ?_⟩) hHeld ?_; rotate_left; focus (intro w_ hSw_; obtain ⟨z0, z1, z2, z3, z4, z5⟩ := HC.out w_ hSw_; go_simp; try with_reducible rfl)); (try simp only [Act.put, zA, zB, zC, zD, zE, zF])
 (refine wpAnyH_take (i := 13) (v := ?_) rfl (by kernel_rfl) (by kernel_rfl) (by kernel_rfl) (fun _ _ _ h => h) (Or.inl ⟨by rfl, ?_⟩) hHeld ?_; rotate_left; focus (intro w_ hSw_; obtain ⟨z0, z1, z2, z3, z4, z5⟩ := HC.out w_ hSw_; go_simp; try with_reducible rfl)); (try simp only [Act.put, zA, zB, zC, zD, zE, zF])
 (refine wpAnyH_take (i := 14) (v := ?_) rfl (by kernel_rfl) (by kernel_rfl) (by kernel_rfl) (fun _ _ _ h => h) (Or.inl ⟨by rfl, ?_⟩) hHeld ?_; rotate_left; focus (intro w_ hSw_; obtain ⟨z0, z1, z2, z3, z4, z5⟩ := HC.out w_ hSw_; go_simp; try with_reducible rfl)); (try simp only [Act.put, zA, zB, zC, zD, zE, zF])
 refine wpAnyH_ready (rs := [15]) (by kernel_rfl) (by simp) ?_; refine AllReadyH.cons rfl (fun K hK => ?_) AllReadyH.nil; rw [if_pos (by rfl)]; (go_simp); (go_at_call 21; refine (HMAY.out _ hHeld).mono ?_; rintro e w4 ⟨rfl, ⟨q4, rfl⟩⟩; (have HB' := held_below hHeld (pw_below_drewN (Below.refl _ _) q4))); (first | skip); refine hK.out _ _ (HB') (fun hHeld => ?_); clear hK K; (try simp only [Act.put, zA, zB, zC, zD, zE, zF])
 (refine wpAnyH_take (i := 16) (v := ?_) rfl (by kernel_rfl) (by kernel_rfl) (by kernel_rfl) (fun _ _ _ h => h) (Or.inl ⟨by rfl, ?_⟩) hHeld ?_; rotate_left; focus (intro w_ hSw_; obtain ⟨z0, z1, z2, z3, z4, z5⟩ := HC.out w_ hSw_; go_simp; try with_reducible rfl)); (try simp only [Act.put, zA, zB, zC, zD, zE, zF])
 (refine wpAnyH_take (i := 17) (v := ?_) rfl (by kernel_rfl) (by kernel_rfl) (by kernel_rfl) (fun _ _ _ h => h) (Or.inl ⟨by rfl, ?_⟩) hHeld ?_; rotate_left; focus (intro w_ hSw_; obtain ⟨z0, z1, z2, z3, z4, z5⟩ := HC.out w_ hSw_; go_simp; try with_reducible rfl)); (try simp only [Act.put, zA, zB, zC, zD, zE, zF])
 (refine wpAnyH_take (i := 18) (v := ?_) rfl (by kernel_rfl) (by kernel_rfl) (by kernel_rfl) (fun _ _ _ h => h) (Or.inl ⟨by rfl, ?_⟩) hHeld ?_; rotate_left; focus (intro w_ hSw_; obtain ⟨z0, z1, z2, z3, z4, z5⟩ := HC.out w_ hSw_; go_simp; try with_reducible rfl)); (try simp only [Act.put, zA, zB, zC, zD, zE, zF])
 (refine wpAnyH_take (i := 19) (v := ?_) rfl (by kernel_rfl) (by kernel_rfl) (by kernel_rfl) (fun _ _ _ h => h) (Or.inl ⟨by rfl, ?_⟩) hHeld ?_; rotate_left; focus (intro w_ hSw_; obtain ⟨z0, z1, z2, z3, z4, z5⟩ := HC.out w_ hSw_; go_simp; try with_reducible rfl)); (try simp only [Act.put, zA, zB, zC, zD, zE, zF])
 (refine wpAnyH_take (i := 20) (v := ?_) rfl (by kernel_rfl) (by kernel_rfl) (by kernel_rfl) (fun _ _ _ h => h) (Or.inl ⟨by rfl, ?_⟩) hHeld ?_; rotate_left; focus (intro w_ hSw_; obtain ⟨z0, z1, z2, z3, z4, z5⟩ := HC.out w_ hSw_; go_simp; try with_reducible rfl)); (try simp only [Act.put, zA, zB, zC, zD, zE, zF])
 (refine wpAnyH_take (i := 21) (v := ?_) rfl (by kernel_rfl) (by kernel_rfl) (by kernel_rfl) (fun _ _ _ h => h) (Or.inl ⟨by rfl, ?_⟩) hHeld ?_; rotate_left; focus (intro w_ hSw_; obtain ⟨z0, z1, z2, z3, z4, z5⟩ := HC.out w_ hSw_; go_simp; try with_reducible rfl)); (try simp only [Act.put, zA, zB, zC, zD, zE, zF])
 (refine wpAnyH_take (i := 22) (v := ?_) rfl (by kernel_rfl) (by kernel_rfl) (by kernel_rfl) (fun _ _ _ h => h) (Or.inl ⟨by rfl, ?_⟩) hHeld ?_; rotate_left; focus (intro w_ hSw_; obtain ⟨z0, z1, z2, z3, z4, z5⟩ := HC.out w_ hSw_; go_simp; try with_reducible rfl)); (try simp only [Act.put, zA, zB, zC, zD, zE, zF])
 (refine wpAnyH_take (i := 23) (v := ?_) rfl (by kernel_rfl) (by kernel_rfl) (by kernel_rfl) (fun _ _ _ h => h) (Or.inl ⟨by rfl, ?_⟩) hHeld ?_; rotate_left; focus (intro w_ hSw_; obtain ⟨z0, z1, z2, z3, z4, z5⟩ := HC.out w_ hSw_; have y0 := HY.out w_ hSw_; go_simp; try with_reducible rfl)); (try simp only [Act.put, zA, zB, zC, zD, zE, zF])
 (refine wpAnyH_take (i := 24) (v := ?_) rfl (by kernel_rfl) (by kernel_rfl) (by kernel_rfl) (fun _ _ _ h => h) (Or.inl ⟨by rfl, ?_⟩) hHeld ?_; rotate_left; focus (intro w_ hSw_; obtain ⟨z0, z1, z2, z3, z4, z5⟩ := HC.out w_ hSw_; have y0 := HY.out w_ hSw_; go_simp; try with_reducible rfl)); (try simp only [Act.put, zA, zB, zC, zD, zE, zF])
 (refine wpAnyH_take (i := 25) (v := ?_) rfl (by kernel_rfl) (by kernel_rfl) (by kernel_rfl) (fun _ _ _ h => h) (Or.inl ⟨by rfl, ?_⟩) hHeld ?_; rotate_left; focus (intro w_ hSw_; obtain ⟨z0, z1, z2, z3, z4, z5⟩ := HC.out w_ hSw_; have y0 := HY.out w_ hSw_; go_simp; try with_reducible rfl)); (try simp only [Act.put, zA, zB, zC, zD, zE, zF])
 (refine wpAnyH_take (i := 26) (v := ?_) rfl (by kernel_rfl) (by kernel_rfl) (by kernel_rfl) (fun _ _ _ h => h) (Or.inl ⟨by rfl, ?_⟩) hHeld ?_; rotate_left; focus (intro w_ hSw_; obtain ⟨z0, z1, z2, z3, z4, z5⟩ := HC.out w_ hSw_; have y0 := HY.out w_ hSw_; go_simp; try with_reducible rfl)); (try simp only [Act.put, zA, zB, zC, zD, zE, zF])
 (refine wpAnyH_take (i := 27) (v := ?_) rfl (by kernel_rfl) (by kernel_rfl) (by kernel_rfl) (fun _ _ _ h => h) (Or.inl ⟨by rfl, ?_⟩) hHeld ?_; rotate_left; focus (intro w_ hSw_; obtain ⟨z0, z1, z2, z3, z4, z5⟩ := HC.out w_ hSw_; have y0 := HY.out w_ hSw_; go_simp; try with_reducible rfl)); (try simp only [Act.put, zA, zB, zC, zD, zE, zF])
 (refine wpAnyH_take (i := 28) (v := ?_) rfl (by kernel_rfl) (by kernel_rfl) (by kernel_rfl) (fun _ _ _ h => h) (Or.inl ⟨by rfl, ?_⟩) hHeld ?_; rotate_left; focus (intro w_ hSw_; obtain ⟨z0, z1, z2, z3, z4, z5⟩ := HC.out w_ hSw_; have y0 := HY.out w_ hSw_; go_simp; try with_reducible rfl)); (try simp only [Act.put, zA, zB, zC, zD, zE, zF])
 (refine wpAnyH_take (i := 29) (v := ?_) rfl (by kernel_rfl) (by kernel_rfl) (by kernel_rfl) (fun _ _ _ h => h) (Or.inl ⟨by rfl, ?_⟩) hHeld ?_; rotate_left; focus (intro w_ hSw_; obtain ⟨z0, z1, z2, z3, z4, z5⟩ := HC.out w_ hSw_; have y0 := HY.out w_ hSw_; go_simp; try with_reducible rfl)); (try simp only [Act.put, zA, zB, zC, zD, zE, zF])
 (refine wpAnyH_take (i := 30) (v := ?_) rfl (by kernel_rfl) (by kernel_rfl) (by kernel_rfl) (fun _ _ _ h => h) (Or.inl ⟨by rfl, ?_⟩) hHeld ?_; rotate_left; focus (intro w_ hSw_; obtain ⟨z0, z1, z2, z3, z4, z5⟩ := HC.out w_ hSw_; have y0 := HY.out w_ hSw_; go_simp; try with_reducible rfl)); (try simp only [Act.put, zA, zB, zC, zD, zE, zF])
 (refine wpAnyH_take (i := 31) (v := ?_) rfl (by kernel_rfl) (by kernel_rfl) (by kernel_rfl) (fun _ _ _ h => h) (Or.inl ⟨by rfl, ?_⟩) hHeld ?_; rotate_left; focus (intro w_ hSw_; obtain ⟨z0, z1, z2, z3, z4, z5⟩ := HC.out w_ hSw_; have y0 := HY.out w_ hSw_; go_simp; try with_reducible rfl)); (try simp only [Act.put, zA, zB, zC, zD, zE, zF])
 (refine wpAnyH_take (i := 32) (v := ?_) rfl (by kernel_rfl) (by kernel_rfl) (by kernel_rfl) (fun _ _ _ h => h) (Or.inl ⟨by rfl, ?_⟩) hHeld ?_; rotate_left; focus (intro w_ hSw_; obtain ⟨z0, z1, z2, z3, z4, z5⟩ := HC.out w_ hSw_; have y0 := HY.out w_ hSw_; go_simp; try with_reducible rfl)); (try simp only [Act.put, zA, zB, zC, zD, zE, zF])
 (refine wpAnyH_take (i := 33) (v := ?_) rfl (by kernel_rfl) (by kernel_rfl) (by kernel_rfl) (fun _ _ _ h => h) (Or.inl ⟨by rfl, ?_⟩) hHeld ?_; rotate_left; focus (intro w_ hSw_; obtain ⟨z0, z1, z2, z3, z4, z5⟩ := HC.out w_ hSw_; have y0 := HY.out w_ hSw_; go_simp; try with_reducible rfl)); (try simp only [Act.put, zA, zB, zC, zD, zE, zF])
 refine wpAnyH_done (by kernel_rfl) ?_ _
 obtain ⟨Wx, hWx⟩ : ∃ Wx, Wx = w3.drewN q4 := ⟨_, rfl⟩
 rw [← hWx] at hHeld ⊢
 clear hWx
 obtain ⟨z0, z1, z2, z3, z4, z5⟩ := HC.out _ hHeld
 have HBW : Aside0 (Below w.heap.size w Wx) := ⟨HB1.out.1.trans (hHeld.out.mono HB1.out.1.size)⟩
 have x0' := (HBW.out.cell (World.block_lt_of_cell? w _ HX0.out)).trans HX0.out
 have y1' := (HBW.out.cell (World.block_lt_of_cell? w _ HY1.out)).trans HY1.out
 clear hHeld
 go_wp2_with (first | (go_at_call 22; refine (set_Minus.calls k _ _ a _ _ l0 l _ (Kd.R_reads' HA4.out).2.2 (Kd.R_reads' HA4.out).2.1 (Kd.C_below HL0.out HBW4.out) HLC.out HMN.out).mono ?_; rintro e w5 ⟨vl, rfl, hol, hb⟩; (obtain ⟨A6, c6, hvl⟩ := Kd.R_slice hol); subst hvl; (have HA5 := Aside0.mk hol); (have HBW5 : Aside0 (Below w.heap.size w w5) := at_step HBW4 hb); clear hol hb) | (go_at_call 23; refine (HALL.out _).mono ?_; rintro e w4 ⟨va, rfl, hoa, hb⟩; (obtain ⟨Aa, ca, hva⟩ := Kd.R_slice hoa); subst hva; (have HA4 := Aside0.mk hoa); (have HBW4 : Aside0 (Below w.heap.size w w4) := at_step HBW hb); clear hoa hb))
 have HL := Aside0.mk (Kd.R_reads' HA5.out).2.2
 have HS := Aside0.mk (Kd.C_below HS0.out HBW5.out)
 clear HBW
 have HBW := HBW5
 clear HBW5
 obtain ⟨Wb, hWb⟩ : ∃ Wb, Wb = w5 := ⟨_, rfl⟩
 rw [← hWb]
 rw [← hWb] at HL HS HBW
 have hWs : Aside0 (w5.heap.size = Wb.heap.size) := ⟨by subst hWb; rfl⟩
 clear hWb
 go_loopw [7, 61] (fun v7 v8 wr => ∃ (i : Nat) (acc : List Int), i ≤ l1.length ∧ v8 = .int .i64 (i : Int) ∧ Aside0 (Kd.R (Kd.int .i64) 3 wr Wb.heap.size (fun _ => True) v7 acc ∧ Below Wb.heap.size Wb wr) ∧ Aside0 (imgO l acc (l1.drop i) = some o)) (fun _ v8 _ => (l1.length - (RowKit.intOf v8).toNat))
 case atStart => exact ⟨0, [], Nat.zero_le _, rfl, ⟨⟨Kd.R_nil _ _ _ _ _, Below.refl _ _⟩⟩, HO⟩
 case round =>
  clear HO
  obtain ⟨i, acc, hi, rfl, HA, HO⟩ := hrel
  obtain ⟨A7, c7, hv7⟩ := Kd.R_slice HA.out.1
  subst hv7
  have hlen1 : (l1.length : Int) ≤ 9223372036854775807 := by have := HS.out.2.1; omega
  by_cases hlt : i < l1.length
  ·obtain ⟨ad1, hA1, hx⟩ := Kd.at_int (Kd.C_below HS.out HA.out.2) (i : Int) (by omega) (by omega)
   rw [Int.toNat_natCast] at hx
   have ho := HO.out
   rw [List.drop_eq_getElem_cons hlt, show l1[i] = rd l1 (i : Int) from (rd_at hlt).symm] at ho
   generalize rd l1 (i : Int) = x at *
   unfold imgO at ho
   by_cases h0 : 0 ≤ x
   rotate_left
   ·rw [if_neg h0] at ho; cases ho
   rw [if_pos h0] at ho
   by_cases h1 : x < (l.length : Int)
   rotate_left
   ·rw [if_neg h1] at ho; cases ho
   rw [if_pos h1] at ho
   by_cases h2 : acc.length < 17592186044416
   rotate_left
   ·rw [if_neg h2] at ho; cases ho
   rw [if_pos h2] at ho
   obtain ⟨ad6, hA6, hy⟩ := Kd.at_int (Kd.C_below HL.out HA.out.2) x h0 h1
   have HO' := Aside0.mk ho
   clear ho HO
   generalize rd l x = y at *
   cases hA1
   cases hA6
   go_wp2_with (first
    | ((with_reducible refine gate_dst (N := 71) rfl ?_); refine Kd.R_append (Kd.int .i64) Wb.heap.size rfl (.tmp 65) (.tmp 70) 26 3 (.int .i64 0) 8 rfl Tryd.underlying26 info3 rfl (by decide) (by decide) _ acc y [.int .i64 y] (fun _ => True) (fun _ => False) rfl rfl ?aP (fun _ hk => hk.elim) (fun _ _ => trivial) ?aO HA.out.2 ?aS ?aL ?_; (case aP => rfl); (case aO => exact HA.out.1); (case aS => exact HA.out.2.size); (case aL => omega); intro v3 w3 ho hb hg hat; (have HA3 := Aside0.mk (And.intro ho hb)); clear ho hb hg hat))
   go_roundw
   case rel => exact ⟨i + 1, acc ++ [y], by omega, by go_num, HA3, HO'⟩
   case measure => simp [RowKit.intOf]; omega
  ·have hie : i = l1.length := by omega
   subst hie
   have hacc : acc = o := by
    have := HO.out
    rw [List.drop_of_length_le (Nat.le_refl _)] at this
    exact Option.some.inj this
   subst hacc
   clear hlt hi HO
   go_wp2
   go_ret2
   exact ⟨_, rfl, Kd.R_lower HA.out.1 HBW.out.size, HBW.out.trans (HA.out.2.mono HBW.out.size)⟩
theorem matroid_Image.calls (k : Nat) (a0_0 : Int) (a0_1 : Int) (a0_2 : Int) (a0_3 : Int) (A0_4 : Option Addr) (c0_4 : Nat) (l0_4 : List (List Int)) (A0_5 : Option Addr) (c0_5 : Nat) (l0_5 : List Mtr) (A1 : Option Addr) (c1 : Nat) (l1 : List Int) (r1 : List Int) (r2 : Bool) (w : World) (hEV : EV w) (hr0_4 : Kd.C (Kd.slice 3 (Kd.int .i64)) w A0_4 l0_4.length l0_4) (hc0_4 : l0_4.length ≤ c0_4) (hr0_5 : Kd.C k25 w A0_5 l0_5.length l0_5) (hc0_5 : l0_5.length ≤ c0_5) (hr1 : Kd.C (Kd.int .i64) w A1 l1.length l1) (hc1 : l1.length ≤ c1) (h : matroid_Image.f k a0_0 a0_1 a0_2 a0_3 l0_4 l0_5 l1 = some (r1, r2)) :
 Calls Tryd.prog 10 #[.agg #[.int .i64 a0_0, .int .i64 a0_1, .int .i64 a0_2, .int .i64 a0_3, .slice A0_4 l0_4.length c0_4, .slice A0_5 l0_5.length c0_5], .slice A1 l1.length c1] w fun e w' => ∃ v0_ : Value, e = .returned (.tuple #[v0_, .bool r2]) ∧ Kd.R (Kd.int .i64) 3 w' w.heap.size (fun _ => True) v0_ r1 ∧ Below w.heap.size w w' := by
 unfold matroid_Image.f at h
 by_cases h1 : chkN ⟨a0_0, a0_1, a0_2, a0_3, l0_4, l0_5⟩ ≠ 0 ∨ (a0_0 ≠ 5 ∧ a0_0 ≠ 6)
 ·rw [if_pos h1] at h
  have hr := Option.some.inj h
  obtain ⟨rfl, rfl⟩ := Prod.mk.inj hr
  refine img_no _ a0_0 a0_1 a0_2 a0_3 A0_4 c0_4 l0_4 A0_5 c0_5 l0_5 A1 c1 l1 w hEV hr0_4 hc0_4 hr0_5 hc0_5 hr1 hc1 rfl _ rfl ?_
  by_cases hc : chkN ⟨a0_0, a0_1, a0_2, a0_3, l0_4, l0_5⟩ = 0
  ·rcases h1 with h1 | ⟨h5, h6⟩
   ·exact absurd hc h1
   ·exact .inr (.inl ⟨by simp [hc], by simp [h5], by simp [h6]⟩)
  ·exact .inl (by simp [hc])
 rw [if_neg h1] at h
 have hc : chkN ⟨a0_0, a0_1, a0_2, a0_3, l0_4, l0_5⟩ = 0 := Decidable.byContradiction (fun e => h1 (.inl e))
 have h56 : a0_0 = 5 ∨ a0_0 = 6 := by
  by_cases e : a0_0 = 5
  ·exact .inl e
  ·exact .inr (Decidable.byContradiction (fun e' => h1 (.inr ⟨e, e'⟩)))
 cases hm : mayB l1 with
 | false =>
  rw [if_pos (.inl hm)] at h
  have hr := Option.some.inj h
  obtain ⟨rfl, rfl⟩ := Prod.mk.inj hr
  refine img_no _ a0_0 a0_1 a0_2 a0_3 A0_4 c0_4 l0_4 A0_5 c0_5 l0_5 A1 c1 l1 w hEV hr0_4 hc0_4 hr0_5 hc0_5 hr1 hc1 rfl _ hm ?_
  rcases h56 with e | e
  ·exact .inr (.inr (.inl ⟨hc, e, rfl⟩))
  ·exact .inr (.inr (.inr ⟨hc, e, rfl⟩))
 | true =>
  by_cases hge : 0 < l1.length ∧ a0_1 ≤ rd l1 ((l1.length : Int) - 1)
  ·rw [if_pos (.inr hge)] at h
   have hr := Option.some.inj h
   obtain ⟨rfl, rfl⟩ := Prod.mk.inj hr
   exact img_ge a0_0 a0_1 a0_2 a0_3 A0_4 c0_4 l0_4 A0_5 c0_5 l0_5 A1 c1 l1 w hEV hr0_4 hc0_4 hr0_5 hc0_5 hr1 hc1 hc hm hge.1 hge.2 h56
  rw [if_neg (by rw [hm]; rintro (h | h); cases h; exact hge h)] at h
  by_cases h4 : l0_4.length = 0
  ·rw [if_pos h4] at h; cases h
  rw [if_neg h4] at h
  rcases h56 with e | e
  ·rw [if_neg (by omega)] at h
   obtain ⟨o, ho, h⟩ := Option.bind_eq_some_iff.mp h
   have hr := Option.some.inj h
   obtain ⟨rfl, rfl⟩ := Prod.mk.inj hr
   by_cases h0 : l1.length = 0
   ·exact img_5e k a0_0 a0_1 a0_2 a0_3 A0_4 c0_4 l0_4 A0_5 c0_5 l0_5 A1 c1 l1 w hEV hr0_4 hc0_4 hr0_5 hc0_5 hr1 hc1 hc hm h0 e (by omega) o ho
   ·exact img_5l k a0_0 a0_1 a0_2 a0_3 A0_4 c0_4 l0_4 A0_5 c0_5 l0_5 A1 c1 l1 w hEV hr0_4 hc0_4 hr0_5 hc0_5 hr1 hc1 hc hm (by omega) (fun h => hge ⟨by omega, h⟩) e (by omega) o ho
  ·rw [if_pos e] at h
   by_cases h5 : l0_5.length = 0
   ·rw [if_pos h5] at h; cases h
   rw [if_neg h5] at h
   obtain ⟨a, ha, h⟩ := Option.bind_eq_some_iff.mp h
   obtain ⟨l, hl, h⟩ := Option.bind_eq_some_iff.mp h
   obtain ⟨o, ho, h⟩ := Option.bind_eq_some_iff.mp h
   have hr := Option.some.inj h
   obtain ⟨rfl, rfl⟩ := Prod.mk.inj hr
   by_cases h0 : l1.length = 0
   ·exact img_6e k a0_0 a0_1 a0_2 a0_3 A0_4 c0_4 l0_4 A0_5 c0_5 l0_5 A1 c1 l1 w hEV hr0_4 hc0_4 hr0_5 hc0_5 hr1 hc1 hc hm h0 e (by omega) (by omega) a l ha hl o ho
   ·exact img_6l k a0_0 a0_1 a0_2 a0_3 A0_4 c0_4 l0_4 A0_5 c0_5 l0_5 A1 c1 l1 w hEV hr0_4 hc0_4 hr0_5 hc0_5 hr1 hc1 hc hm (by omega) (fun h => hge ⟨by omega, h⟩) e (by omega) (by omega) a l ha hl o ho
end Go.Proofs.YtgbmlkmkfigolaaDoor.P
namespace Go.Proofs.YtgbmlkmkfigolaaDoor.P
open Go.RowKit Go.Proofs.YtgbmlkmkfigolaaDoorW.PrintWords Go.Proofs.YtgbmlkmkfigolaaDoorW.PrintLast Go.Proofs.YtgbmlkmkfigolaaDoorW.PrintMore
attribute [local go_sem] max2_int min2_int max_two min_two max_three min_three max_four min_four   -- for this text's walks alone
set_option linter.unusedVariables false
set_option linter.unusedSimpArgs false

/-! ### greenwoodref01_Same: function 16 -/
def greenwoodref01_Same.l0 : Nat → List Int → List Int → Int → Option (Bool)
 | 0, _, _, _ => none
 | k + 1, x0, x1, x5 => if x5 < (x0.length : Int) then (if 0 ≤ x5 then (if x5 < (x1.length : Int) then (if (rd x0 x5) = (rd x1 x5) then (greenwoodref01_Same.l0 k x0 x1 (wrap64 (x5 + 1))) else (some false)) else (none)) else (none)) else (some true)
def greenwoodref01_Same.f (k : Nat) (l0 : List Int) (l1 : List Int) : Option (Bool) := if (l0.length : Int) = (l1.length : Int) then (greenwoodref01_Same.l0 k l0 l1 0) else (some false)
set_option maxHeartbeats 8000000 in
set_option maxRecDepth 100000 in
theorem greenwoodref01_Same.calls (k : Nat) (A0 : Option Addr) (c0 : Nat) (l0 : List Int) (A1 : Option Addr) (c1 : Nat) (l1 : List Int) (r : Bool) (w : World) (hr0 : Kd.C (Kd.int .i64) w A0 l0.length l0) (hc0 : l0.length ≤ c0) (hr1 : Kd.C (Kd.int .i64) w A1 l1.length l1) (hc1 : l1.length ≤ c1) (h : greenwoodref01_Same.f k l0 l1 = some r) :
 Calls Tryd.prog 16 #[.slice A0 l0.length c0, .slice A1 l1.length c1] w fun e w' => e = .returned (.bool r) ∧ Drawn0 w w' := by
 have HR0 := Aside0.mk hr0
 have HC0 := Aside0.mk hc0
 clear hr0 hc0
 have HR1 := Aside0.mk hr1
 have HC1 := Aside0.mk hc1
 clear hr1 hc1
 have H : (if (l0.length : Int) = (l1.length : Int) then (greenwoodref01_Same.l0 k l0 l1 0) else (some false)) = some r := h
 clear h
 by_cases c3 : (l0.length : Int) = (l1.length : Int)
 ·rw [if_pos c3] at H
  have c3b0 : ((l0.length : Int) == (l1.length : Int)) = true := beq_iff_eq.mpr c3
  have c3b1 : ((l0.length : Int) != (l1.length : Int)) = false := bne_eq_false_iff_eq.mpr c3
  have c3b2 : (l0.length == l1.length) = true := by first | simpa using c3 | (simp at c3 ⊢; omega)
  clear c3
  have H' := Aside0.mk H
  clear H
  go_enter Tryd.func16, Tryd.ntmps16
  go_wp2
  repeat (go_quiet (fail); try go_wp2)
  go_loopg [5] k (fun kq v5 w' => ∃ (x5_1 : Int), v5 = .int .i64 x5_1 ∧ Aside0 (greenwoodref01_Same.l0 kq l0 l1 x5_1 = some r) ∧ Aside0 (kq ≤ k) ∧ Drawn0 w w')
  case atStart => exact ⟨(0), (by first | rfl | (simp; done) | (simp [*]; done)), H', ⟨Nat.le_refl _⟩, by repeat (first | exact Drawn0.refl _ | apply Drawn0.step)⟩
  case round =>
   clear H'
   try clear c1
   try clear p2
   try clear c3
   try clear c3b0
   try clear c3b1
   try clear c3b2
   obtain ⟨x5_1, rfl, HA, HK1, ⟨m1, rfl⟩⟩ := hrel
   cases gk with
   | zero => exact absurd HA.out (by simp [greenwoodref01_Same.l0])
   | succ k1 =>
    have H := HA.out
    clear HA
    simp only [greenwoodref01_Same.l0] at H
    by_cases c4 : x5_1 < (l0.length : Int)
    ·rw [if_pos c4] at H
     have c4b0 : decide (x5_1 < (l0.length : Int)) = true := decide_eq_true c4
     clear c4
     by_cases c5 : 0 ≤ x5_1
     ·rw [if_pos c5] at H
      have c5b0 : decide (0 ≤ x5_1) = true := decide_eq_true c5
      clear c5
      by_cases c6 : x5_1 < (l1.length : Int)
      ·rw [if_pos c6] at H
       have c6b0 : decide (x5_1 < (l1.length : Int)) = true := decide_eq_true c6
       clear c6
       by_cases c7 : (rd l0 x5_1) = (rd l1 x5_1)
       ·rw [if_pos c7] at H
        have c7b0 : ((rd l0 x5_1) == (rd l1 x5_1)) = true := beq_iff_eq.mpr c7
        have c7b1 : ((rd l0 x5_1) != (rd l1 x5_1)) = false := bne_eq_false_iff_eq.mpr c7
        clear c7
        have H' := Aside0.mk H
        clear H
        have p193 : 0 ≤ (x5_1 : Int) := of_decide_eq_true (by first | (with_reducible assumption) | assumption)
        have q193 : x5_1 < (l0.length : Int) := of_decide_eq_true (by first | (with_reducible assumption) | assumption)
        obtain ⟨ad193, e193, hx193_0⟩ := Kd.at_int HR0.out x5_1 p193 q193
        cases e193
        replace p193 := eq_true p193
        replace q193 := eq_true q193
        have p194 : 0 ≤ (x5_1 : Int) := of_decide_eq_true (by first | (with_reducible assumption) | assumption)
        have q194 : x5_1 < (l1.length : Int) := of_decide_eq_true (by first | (with_reducible assumption) | assumption)
        obtain ⟨ad194, e194, hx194_0⟩ := Kd.at_int HR1.out x5_1 p194 q194
        cases e194
        replace p194 := eq_true p194
        replace q194 := eq_true q194
        go_wp2
        repeat (go_quiet (fail); try go_wp2)
        go_roundg k1
        case measure => have := HK1.out; omega
        case rel => exact ⟨(wrap64 (x5_1 + 1)), (by first | rfl | (simp; done) | (simp [*]; done)), H', ⟨by have := HK1.out; omega⟩, by repeat (first | exact Drawn0.refl _ | apply Drawn0.step)⟩
       ·rw [if_neg c7] at H
        have c7b0 : ((rd l0 x5_1) == (rd l1 x5_1)) = false := beq_eq_false_iff_ne.mpr c7
        have c7b1 : ((rd l0 x5_1) != (rd l1 x5_1)) = true := bne_iff_ne.mpr c7
        obtain rfl := Option.some.inj H
        have p193 : 0 ≤ (x5_1 : Int) := of_decide_eq_true (by first | (with_reducible assumption) | assumption)
        have q193 : x5_1 < (l0.length : Int) := of_decide_eq_true (by first | (with_reducible assumption) | assumption)
        obtain ⟨ad193, e193, hx193_0⟩ := Kd.at_int HR0.out x5_1 p193 q193
        cases e193
        replace p193 := eq_true p193
        replace q193 := eq_true q193
        have p194 : 0 ≤ (x5_1 : Int) := of_decide_eq_true (by first | (with_reducible assumption) | assumption)
        have q194 : x5_1 < (l1.length : Int) := of_decide_eq_true (by first | (with_reducible assumption) | assumption)
        obtain ⟨ad194, e194, hx194_0⟩ := Kd.at_int HR1.out x5_1 p194 q194
        cases e194
        replace p194 := eq_true p194
        replace q194 := eq_true q194
        go_wp2
        repeat (go_quiet (fail); try go_wp2)
        go_ret
        exact ⟨by first | rfl | (simp; done) | (simp [*]; done), by repeat (first | exact Drawn0.refl _ | apply Drawn0.step)⟩
      ·rw [if_neg c6] at H
       exact absurd H (by simp)
     ·rw [if_neg c5] at H
      exact absurd H (by simp)
    ·rw [if_neg c4] at H
     have c4b0 : decide (x5_1 < (l0.length : Int)) = false := decide_eq_false c4
     clear c4
     obtain rfl := Option.some.inj H
     go_wp2
     repeat (go_quiet (fail); try go_wp2)
     go_ret
     exact ⟨by first | rfl | (simp; done) | (simp [*]; done), by repeat (first | exact Drawn0.refl _ | apply Drawn0.step)⟩
 ·rw [if_neg c3] at H
  have c3b0 : ((l0.length : Int) == (l1.length : Int)) = false := beq_eq_false_iff_ne.mpr c3
  have c3b1 : ((l0.length : Int) != (l1.length : Int)) = true := bne_iff_ne.mpr c3
  have c3b2 : (l0.length == l1.length) = false := by first | simpa using c3 | (simp at c3 ⊢; omega)
  obtain rfl := Option.some.inj H
  go_enter Tryd.func16, Tryd.ntmps16
  go_wp2
  repeat (go_quiet (fail); try go_wp2)
  go_ret
  exact ⟨by first | rfl | (simp; done) | (simp [*]; done), by repeat (first | exact Drawn0.refl _ | apply Drawn0.step)⟩

/-! ### greenwoodlaw09_fixed: function 9 -/
end Go.Proofs.YtgbmlkmkfigolaaDoor.P
/- layer 9's fixed calls: their values. -/
namespace Go.Proofs.YtgbmlkmkfigolaaDoor.P
open Go.RowKit Go.Proofs.YtgbmlkmkfigolaaDoorW.PrintWords Go.Proofs.YtgbmlkmkfigolaaDoorW.PrintLast Go.Proofs.YtgbmlkmkfigolaaDoorW.PrintMore
set_option linter.unusedVariables false
set_option linter.unusedSimpArgs false

def mU : Mtr := ⟨0, 3, 2, 0, [], []⟩
def mD : Nat → Mtr
 | 0 => mU
 | j + 1 => ⟨8, 3, 0, 0, [], [mD j]⟩
theorem v_img1 : ∃ k, matroid_Image.f k 5 2 0 0 [[0, 2]] [mU] [1] = some ([2], true) := ⟨50, by decide +kernel⟩
theorem v_img2 : ∃ k, matroid_Image.f k 6 2 0 0 [[1]] [mU] [0, 1] = some ([0, 2], true) := ⟨50, by decide +kernel⟩
theorem v_img3 : ∃ k, matroid_Image.f k 0 3 2 0 [] [] [] = some ([], false) := ⟨50, by decide +kernel⟩
theorem v_chk1 : matroid_Check.f 0 3 2 0 [] [] = some 0 := by decide +kernel
theorem v_chk2 : matroid_Check.f 5 2 0 0 [[0, 2]] [mU] = some 0 := by decide +kernel
theorem v_chk3 : matroid_Check.f 8 3 0 0 [] [mD 3] = some 91 := by decide +kernel
theorem v_deep1 : ∃ k, matroid_Deep.f k 8 3 0 0 [] [mD 3] = some 5 := ⟨50, by decide +kernel⟩
theorem v_deep2 : ∃ k, matroid_Deep.f k 5 2 0 0 [[0, 2]] [mU] = some 2 := ⟨50, by decide +kernel⟩
theorem v_chk4 : matroid_Check.f 0 1 2 0 [] [] = some 90 := by decide +kernel
theorem v_chk5 : matroid_Check.f 10 0 0 0 [] [] = some 90 := by decide +kernel
theorem v_same1 : ∃ k, greenwoodref01_Same.f k [2] [2] = some true := ⟨50, by decide +kernel⟩
theorem v_same2 : ∃ k, greenwoodref01_Same.f k [0, 2] [0, 2] = some true := ⟨50, by decide +kernel⟩
end Go.Proofs.YtgbmlkmkfigolaaDoor.P
/- layer 9's fixed calls, walked. -/
namespace Go.Proofs.YtgbmlkmkfigolaaDoor.P
open Go.RowKit Go.Proofs.YtgbmlkmkfigolaaDoorW.PrintWords Go.Proofs.YtgbmlkmkfigolaaDoorW.PrintLast Go.Proofs.YtgbmlkmkfigolaaDoorW.PrintMore
set_option linter.unusedVariables false
set_option linter.unusedSimpArgs false

def greenwoodlaw09_fixed.f : Option Bool := some true
theorem unif_c (w : World) : Calls Tryd.prog 20 #[] w fun e w' => e = .returned (.agg #[.int .i64 0, .int .i64 3, .int .i64 2, .int .i64 0, .slice none 0 0, .slice none 0 0]) ∧ Below w.heap.size w w' := by
 go_enter Tryd.func20, Tryd.ntmps20
 go_wp2
 refine bodyPost_ret (results_cell_row rfl _ _ w.heap.size 25 #[.int .i64 0, .int .i64 3, .int .i64 2, .int .i64 0, .slice none 0 0, .slice none 0 0] (0, 0) _ rfl Array.getElem?_push_size Tryd.underlying25 rfl (by kernel_rfl)) rfl ?_
 ·exact ⟨rfl, (Below.refl _ _).alloc (Nat.le_refl _) _⟩
/-- rows of one element, out of their cells -/
theorem C_one {α : Type} {d : Kd α} {W : World} {b : Nat} {x : α} {v : Value} (hs : d.sz = 1) (hc : W.cell? ⟨b, 0, none⟩ = some v) (hk : d.K W x [v]) : Kd.C d W (some ⟨b, 0, none⟩) 1 [x] := by
 refine ⟨rfl, by omega, fun _ => ⟨_, rfl, fun j p hj => ?_⟩⟩
 cases j with
 | zero =>
  obtain rfl : x = p := by simpa using hj
  refine ⟨[v], by rw [hs]; rfl, hk, fun i u hu => ?_⟩
  cases i with
  | zero =>
   obtain rfl : v = u := by simpa using hu
   simpa [Addr.add] using hc
  | succ i => simp at hu
 | succ j => simp at hj
theorem C_two {W : World} {b : Nat} {x y : Int} (h0 : W.cell? ⟨b, 0, none⟩ = some (.int .i64 x)) (h1 : W.cell? ⟨b, 1, none⟩ = some (.int .i64 y)) : Kd.C (Kd.int .i64) W (some ⟨b, 0, none⟩) 2 [x, y] := by
 refine ⟨rfl, by omega, fun _ => ⟨_, rfl, fun j p hj => ?_⟩⟩
 have hz : (Kd.int .i64).sz = 1 := rfl
 match j, hj with
 | 0, hj =>
  obtain rfl : x = p := by simpa using hj
  refine ⟨[.int .i64 x], rfl, rfl, fun i u hu => ?_⟩
  cases i with
  | zero =>
   obtain rfl : Value.int .i64 x = u := by simpa using hu
   simpa [Addr.add] using h0
  | succ i => simp at hu
 | 1, hj =>
  obtain rfl : y = p := by simpa using hj
  refine ⟨[.int .i64 y], rfl, rfl, fun i u hu => ?_⟩
  cases i with
  | zero =>
   obtain rfl : Value.int .i64 y = u := by simpa using hu
   simpa [Addr.add, hz] using h1
  | succ i => simp at hu
 | j + 2, hj => simp at hj
theorem C_mat {W : World} {b : Nat} {m : Mtr} {A4 : Option Addr} {c4 : Nat} {A5 : Option Addr} {c5 : Nat} (hb : W.heap[b]? = some (.cells #[.int .i64 m.f0, .int .i64 m.f1, .int .i64 m.f2, .int .i64 m.f3, .slice A4 m.f4.length c4, .slice A5 m.f5.length c5] 25 (0, 0)))
 (l4 : m.f4.length ≤ c4) (g4 : Kd.C (Kd.slice 3 (Kd.int .i64)) W A4 m.f4.length m.f4) (l5 : m.f5.length ≤ c5) (g5 : k25.C W A5 m.f5.length m.f5) : k25.C W (some ⟨b, 0, none⟩) 1 [m] := by
 refine ⟨rfl, by omega, fun _ => ⟨_, rfl, fun j p hj => ?_⟩⟩
 cases j with
 | zero =>
  obtain rfl : m = p := by simpa using hj
  refine ⟨_, rfl, k25_mk W m l4 g4 l5 g5, fun i u hu => ?_⟩
  have e : (⟨b, 0, none⟩ : Addr).add (0 * k25.sz + i) = ⟨b, i, none⟩ := by
   simp [Addr.add]
   intro h; exact h.symm
  rw [e]
  unfold World.cell?
  simp only [hb]
  simpa using hu
 | succ j => simp at hj
theorem al2 (W : World) (o0 o1 : Obj) : ((W.alloc o0).alloc o1).heap[W.heap.size]? = some o0 ∧ ((W.alloc o0).alloc o1).heap[W.heap.size + 1]? = some o1 ∧ Below W.heap.size W ((W.alloc o0).alloc o1) ∧ ((W.alloc o0).alloc o1).heap.size = W.heap.size + 2 := by
 refine ⟨?_, ?_, ((Below.refl _ _).alloc (Nat.le_refl _) _).alloc (by rw [show (W.alloc o0).heap.size = W.heap.size + 1 from Array.size_push ..]; omega) _, ?_⟩
 ·show ((W.heap.push o0).push o1)[W.heap.size]? = some o0
  rw [Array.getElem?_push_lt (by simp)]
  simp
 ·show ((W.heap.push o0).push o1)[W.heap.size + 1]? = some o1
  rw [show W.heap.size + 1 = (W.heap.push o0).size from (Array.size_push ..).symm]
  exact Array.getElem?_push_size
 ·show ((W.heap.push o0).push o1).size = _
  simp
/-- a list of one list lies at b -/
def L1 (W : World) (b : Nat) (l : List (List Int)) : Prop := l.length = 1 ∧ Kd.C (Kd.slice 3 (Kd.int .i64)) W (some ⟨b, 0, none⟩) 1 l
theorem L1_two {W : World} {b0 b1 : Nat} {x y : Int} (h0 : W.heap[b0]? = some (.cells #[.int .i64 x, .int .i64 y] 3 (0, 0))) (h1 : W.heap[b1]? = some (.cells #[.slice (some ⟨b0, 0, none⟩) 2 2] 26 (0, 0))) : L1 W b1 [[x, y]] := by
 refine ⟨rfl, C_one rfl (v := .slice (some ⟨b0, 0, none⟩) 2 2) (by simp [World.cell?, h1]) ⟨some ⟨b0, 0, none⟩, 2, rfl, by simp, ?_⟩⟩
 exact C_two (by simp [World.cell?, h0]) (by simp [World.cell?, h0])
theorem L1_one {W : World} {b0 b1 : Nat} {x : Int} (h0 : W.heap[b0]? = some (.cells #[.int .i64 x] 3 (0, 0))) (h1 : W.heap[b1]? = some (.cells #[.slice (some ⟨b0, 0, none⟩) 1 1] 26 (0, 0))) : L1 W b1 [[x]] := by
 refine ⟨rfl, C_one rfl (v := .slice (some ⟨b0, 0, none⟩) 1 1) (by simp [World.cell?, h1]) ⟨some ⟨b0, 0, none⟩, 1, rfl, by simp, ?_⟩⟩
 exact C_one rfl (by simp [World.cell?, h0]) rfl
theorem C_U {W : World} {b : Nat} (h : W.heap[b]? = some (.cells #[.int .i64 0, .int .i64 3, .int .i64 2, .int .i64 0, .slice none 0 0, .slice none 0 0] 25 (0, 0))) : k25.C W (some ⟨b, 0, none⟩) 1 [mU] :=
 C_mat (m := mU) (A4 := none) (c4 := 0) (A5 := none) (c5 := 0) h (Nat.le_refl _) (Kd.C_nil _ _) (Nat.le_refl _) (Kd.C_nil _ _)
theorem L1.below {W W' : World} {b : Nat} {l : List (List Int)} (h : L1 W b l) (hb : Below W.heap.size W W') : L1 W' b l := ⟨h.1, Kd.C_below h.2 hb⟩
theorem set6 {W : World} {G : Nat} {v0 v1 v2 v3 v4 v5 : Value} {t : TypeId} (h : W.heap[G]? = some (.cells #[v0, v1, v2, v3, v4, v5] t (0, 0))) (u0 u1 u2 u3 u4 u5 : Value) :
 ((((((W.setCell ⟨G, 0, none⟩ u0).setCell ⟨G, 1, none⟩ u1).setCell ⟨G, 2, none⟩ u2).setCell ⟨G, 3, none⟩ u3).setCell ⟨G, 4, none⟩ u4).setCell ⟨G, 5, none⟩ u5).heap[G]? = some (.cells #[u0, u1, u2, u3, u4, u5] t (0, 0)) ∧
 (∀ k, k ≠ G → ((((((W.setCell ⟨G, 0, none⟩ u0).setCell ⟨G, 1, none⟩ u1).setCell ⟨G, 2, none⟩ u2).setCell ⟨G, 3, none⟩ u3).setCell ⟨G, 4, none⟩ u4).setCell ⟨G, 5, none⟩ u5).heap[k]? = W.heap[k]?) ∧
 ((((((W.setCell ⟨G, 0, none⟩ u0).setCell ⟨G, 1, none⟩ u1).setCell ⟨G, 2, none⟩ u2).setCell ⟨G, 3, none⟩ u3).setCell ⟨G, 4, none⟩ u4).setCell ⟨G, 5, none⟩ u5).heap.size = W.heap.size ∧
 (∀ {w : World}, Below G w W → Below G w ((((((W.setCell ⟨G, 0, none⟩ u0).setCell ⟨G, 1, none⟩ u1).setCell ⟨G, 2, none⟩ u2).setCell ⟨G, 3, none⟩ u3).setCell ⟨G, 4, none⟩ u4).setCell ⟨G, 5, none⟩ u5)) := by
 refine ⟨?_, fun k hk => ?_, ?_, fun hb => ?_⟩
 ·simp [World.setCell, Array.getElem?_modify, h]
 ·have e : ∀ (V : World) (j : Nat) (u : Value), (V.setCell ⟨G, j, none⟩ u).heap[k]? = V.heap[k]? := fun V j u => Below.heap_setCell _ _ _ _ hk
  rw [e, e, e, e, e, e]
 ·simp [World.setCell]
 ·exact (((((hb.setCell (p := ⟨G, 0, none⟩) (Nat.le_refl _) _).setCell (p := ⟨G, 1, none⟩) (Nat.le_refl _) _).setCell (p := ⟨G, 2, none⟩) (Nat.le_refl _) _).setCell (p := ⟨G, 3, none⟩) (Nat.le_refl _) _).setCell (p := ⟨G, 4, none⟩) (Nat.le_refl _) _).setCell (p := ⟨G, 5, none⟩) (Nat.le_refl _) _
/-- the nested dual lies at G; what is within lies further on -/
def HD (W3 : World) (G j : Nat) (W : World) : Prop := Below G W3 W ∧ ∃ A5 c5, W.heap[G]? = some (.cells #[.int .i64 (mD j).f0, .int .i64 (mD j).f1, .int .i64 (mD j).f2, .int .i64 (mD j).f3, .slice none 0 0, .slice A5 (mD j).f5.length c5] 25 (0, 0)) ∧ (mD j).f4 = [] ∧ (mD j).f5.length ≤ c5 ∧ (∀ W' : World, (∀ k, G < k → k < W.heap.size → W'.heap[k]? = W.heap[k]?) → k25.C W' A5 (mD j).f5.length (mD j).f5)
theorem HD.next {W3 wr : World} {G j : Nat} {m0 m1 m2 m3 : Int} {m5 : List Mtr} {A5 : Option Addr} {c5 : Nat} (hm : mD j = ⟨m0, m1, m2, m3, [], m5⟩) (hG : Below G W3 wr) (hb : wr.heap[G]? = some (.cells #[.int .i64 m0, .int .i64 m1, .int .i64 m2, .int .i64 m3, .slice none 0 0, .slice A5 m5.length c5] 25 (0, 0))) (hl5 : m5.length ≤ c5) (hF : ∀ W' : World, (∀ k, G < k → k < wr.heap.size → W'.heap[k]? = wr.heap[k]?) → k25.C W' A5 m5.length m5) :
 HD W3 G (j + 1) ((((((((wr.setCell ⟨G, 0, none⟩ (.int .i64 8)).setCell ⟨G, 1, none⟩ (.int .i64 3)).setCell ⟨G, 2, none⟩ (.int .i64 0)).setCell ⟨G, 3, none⟩ (.int .i64 0)).setCell ⟨G, 4, none⟩ (.slice none 0 0)).setCell ⟨G, 5, none⟩ (.slice (some ⟨wr.heap.size, 0, none⟩) 1 1)).alloc (.cells #[.int .i64 m0, .int .i64 m1, .int .i64 m2, .int .i64 m3, .slice none 0 0, .slice A5 m5.length c5] 25))) := by
 have hlt := box_lt hb
 obtain ⟨s1, s2, s3, s4⟩ := set6 hb (.int .i64 8) (.int .i64 3) (.int .i64 0) (.int .i64 0) (.slice none 0 0) (.slice (some ⟨wr.heap.size, 0, none⟩) 1 1)
 generalize ((((((wr.setCell ⟨G, 0, none⟩ (.int .i64 8)).setCell ⟨G, 1, none⟩ (.int .i64 3)).setCell ⟨G, 2, none⟩ (.int .i64 0)).setCell ⟨G, 3, none⟩ (.int .i64 0)).setCell ⟨G, 4, none⟩ (.slice none 0 0)).setCell ⟨G, 5, none⟩ (.slice (some ⟨wr.heap.size, 0, none⟩) 1 1)) = W6 at *
 have s4' := s4 hG
 have hbl : Below W6.heap.size W6 (W6.alloc (.cells #[.int .i64 m0, .int .i64 m1, .int .i64 m2, .int .i64 m3, .slice none 0 0, .slice A5 m5.length c5] 25)) := (Below.refl _ _).alloc (Nat.le_refl _) _
 have hnew : (W6.alloc (.cells #[.int .i64 m0, .int .i64 m1, .int .i64 m2, .int .i64 m3, .slice none 0 0, .slice A5 m5.length c5] 25)).heap[wr.heap.size]? = some (.cells #[.int .i64 m0, .int .i64 m1, .int .i64 m2, .int .i64 m3, .slice none 0 0, .slice A5 m5.length c5] 25 (0, 0)) := by rw [← s3]; exact Array.getElem?_push_size
 have hsz : (W6.alloc (.cells #[.int .i64 m0, .int .i64 m1, .int .i64 m2, .int .i64 m3, .slice none 0 0, .slice A5 m5.length c5] 25)).heap.size = wr.heap.size + 1 := by rw [← s3]; exact Array.size_push ..
 refine ⟨s4'.trans (hbl.mono (by omega)), some ⟨wr.heap.size, 0, none⟩, 1, (hbl.block G (by omega)).trans s1, rfl, Nat.le_refl _, fun W' hW' => ?_⟩
 show k25.C W' (some ⟨wr.heap.size, 0, none⟩) 1 [mD j]
 rw [hm]
 refine C_mat (A4 := none) (c4 := 0) ((hW' _ hlt (by omega)).trans hnew) (Nat.le_refl _) (Kd.C_nil _ _) hl5 (hF W' (fun k h1 h2 => ?_))
 rw [hW' k h1 (by omega), hbl.block k (by omega)]
 exact s2 k (by omega)
/-- what lies there behind the first two values -/
def St2 (s0 s1 : Nat) (W : World) : Prop := L1 W (s0 + 1) [[0, 2]] ∧ k25.C W (some ⟨s1, 0, none⟩) 1 [mU] ∧ W.heap[s1 + 1]? = some (.cells #[.int .i64 5, .int .i64 2, .int .i64 0, .int .i64 0, .slice (some ⟨s0 + 1, 0, none⟩) 1 1, .slice (some ⟨s1, 0, none⟩) 1 1] 25 (0, 0)) ∧ L1 W (s1 + 1 + 1 + 1) [[1]]
theorem St2.below {s0 s1 : Nat} {W W' : World} (h : St2 s0 s1 W) (hb : Below W.heap.size W W') : St2 s0 s1 W' :=
 ⟨h.1.below hb, Kd.C_below h.2.1 hb, (hb.block _ (box_lt h.2.2.1)).trans h.2.2.1, h.2.2.2.below hb⟩
def St3 (s0 s1 s2 : Nat) (W : World) : Prop := St2 s0 s1 W ∧ k25.C W (some ⟨s2, 0, none⟩) 1 [mU] ∧ W.heap[s2 + 1]? = some (.cells #[.int .i64 6, .int .i64 2, .int .i64 0, .int .i64 0, .slice (some ⟨s1 + 1 + 1 + 1, 0, none⟩) 1 1, .slice (some ⟨s2, 0, none⟩) 1 1] 25 (0, 0))
theorem St3.below {s0 s1 s2 : Nat} {W W' : World} (h : St3 s0 s1 s2 W) (hb : Below W.heap.size W W') : St3 s0 s1 s2 W' :=
 ⟨h.1.below hb, Kd.C_below h.2.1 hb, (hb.block _ (box_lt h.2.2)).trans h.2.2⟩
theorem St3.rbox {s0 s1 s2 : Nat} {W : World} (h : St3 s0 s1 s2 W) : W.heap[s1 + 1]? = some (.cells #[.int .i64 5, .int .i64 2, .int .i64 0, .int .i64 0, .slice (some ⟨s0 + 1, 0, none⟩) 1 1, .slice (some ⟨s1, 0, none⟩) 1 1] 25 (0, 0)) := h.1.2.2.1
theorem St3.cbox {s0 s1 s2 : Nat} {W : World} (h : St3 s0 s1 s2 W) : W.heap[s2 + 1]? = some (.cells #[.int .i64 6, .int .i64 2, .int .i64 0, .int .i64 0, .slice (some ⟨s1 + 1 + 1 + 1, 0, none⟩) 1 1, .slice (some ⟨s2, 0, none⟩) 1 1] 25 (0, 0)) := h.2.2
/-- all that the calls behind the loop need, at a world -/
structure Fin9 (w : World) (s0 s1 s2 G : Nat) (A5 : Option Addr) (c5 : Nat) (W : World) : Prop where
 bel : Below w.heap.size w W
 ev : EV W
 st : St3 s0 s1 s2 W
 d : W.heap[G]? = some (.cells #[.int .i64 8, .int .i64 3, .int .i64 0, .int .i64 0, .slice none 0 0, .slice A5 1 c5] 25 (0, 0))
 dl : 1 ≤ c5
 dc : k25.C W A5 1 [mD 3]
theorem Fin9.below {w W W' : World} {s0 s1 s2 G c5 : Nat} {A5 : Option Addr} (h : Fin9 w s0 s1 s2 G A5 c5 W) (hb : Below W.heap.size W W') : Fin9 w s0 s1 s2 G A5 c5 W' :=
 ⟨h.bel.trans (hb.mono h.bel.size), h.ev.below hb h.ev.pos, h.st.below hb, (hb.block _ (box_lt h.d)).trans h.d, h.dl, Kd.C_below h.dc hb⟩
theorem box6 {W : World} {b : Nat} {v0 v1 v2 v3 v4 v5 : Value} {t : TypeId} (h : W.heap[b]? = some (.cells #[v0, v1, v2, v3, v4, v5] t (0, 0))) : W.cell? ⟨b, 0, none⟩ = some v0 ∧ W.cell? ⟨b, 1, none⟩ = some v1 ∧ W.cell? ⟨b, 2, none⟩ = some v2 ∧ W.cell? ⟨b, 3, none⟩ = some v3 ∧ W.cell? ⟨b, 4, none⟩ = some v4 ∧ W.cell? ⟨b, 5, none⟩ = some v5 := by
 refine ⟨?_, ?_, ?_, ?_, ?_, ?_⟩ <;> simp [World.cell?, h]
/-- the call of Image at the first value -/
theorem call1 {w W : World} {s0 s1 s2 G c5 : Nat} {A5 : Option Addr} (h : Fin9 w s0 s1 s2 G A5 c5 W) : Calls Tryd.prog 10 #[.agg #[.int .i64 5, .int .i64 2, .int .i64 0, .int .i64 0, .slice (some ⟨s0 + 1, 0, none⟩) 1 1, .slice (some ⟨s1, 0, none⟩) 1 1], .slice (some ⟨W.heap.size, 0, none⟩) 1 1] (W.alloc (.cells #[.int .i64 1] 3)) fun e w' => ∃ A c, e = .returned (.tuple #[.slice A 1 c, .bool true]) ∧ Kd.C (Kd.int .i64) w' A 1 [2] ∧ 1 ≤ c ∧ Below W.heap.size W w' := by
 have hb : Below W.heap.size W (W.alloc (.cells #[.int .i64 1] 3)) := (Below.refl _ _).alloc (Nat.le_refl _) _
 have h' := h.below hb
 obtain ⟨k, hk⟩ := v_img1
 have hl : Kd.C (Kd.int .i64) (W.alloc (.cells #[.int .i64 1] 3)) (some ⟨W.heap.size, 0, none⟩) 1 [1] := C_one rfl (v := .int .i64 1) (by
  have : (W.alloc (.cells #[.int .i64 1] 3)).heap[W.heap.size]? = some (.cells #[.int .i64 1] 3 (0, 0)) := Array.getElem?_push_size
  simp only [World.cell?, this]
  rfl) rfl
 refine (matroid_Image.calls k 5 2 0 0 (some ⟨s0 + 1, 0, none⟩) 1 [[0, 2]] (some ⟨s1, 0, none⟩) 1 [mU] (some ⟨W.heap.size, 0, none⟩) 1 [1] [2] true _ h'.ev h'.st.1.1.2 (Nat.le_refl _) h'.st.1.2.1 (Nat.le_refl _) hl (Nat.le_refl _) hk).mono ?_
 rintro e w' ⟨v, rfl, hR, hb2⟩
 obtain ⟨A, c, rfl⟩ := Kd.R_slice hR
 exact ⟨A, c, rfl, (Kd.R_reads' hR).2.2, (Kd.R_reads' hR).2.1, hb.trans (hb2.mono hb.size)⟩
theorem call2 {w W : World} {s0 s1 s2 G c5 : Nat} {A5 : Option Addr} (h : Fin9 w s0 s1 s2 G A5 c5 W) : Calls Tryd.prog 10 #[.agg #[.int .i64 6, .int .i64 2, .int .i64 0, .int .i64 0, .slice (some ⟨s1 + 1 + 1 + 1, 0, none⟩) 1 1, .slice (some ⟨s2, 0, none⟩) 1 1], .slice (some ⟨W.heap.size, 0, none⟩) 2 2] (W.alloc (.cells #[.int .i64 0, .int .i64 1] 3)) fun e w' => ∃ A c, e = .returned (.tuple #[.slice A 2 c, .bool true]) ∧ Kd.C (Kd.int .i64) w' A 2 [0, 2] ∧ 2 ≤ c ∧ Below W.heap.size W w' := by
 have hb : Below W.heap.size W (W.alloc (.cells #[.int .i64 0, .int .i64 1] 3)) := (Below.refl _ _).alloc (Nat.le_refl _) _
 have h' := h.below hb
 obtain ⟨k, hk⟩ := v_img2
 have hnew : (W.alloc (.cells #[.int .i64 0, .int .i64 1] 3)).heap[W.heap.size]? = some (.cells #[.int .i64 0, .int .i64 1] 3 (0, 0)) := Array.getElem?_push_size
 have hl : Kd.C (Kd.int .i64) (W.alloc (.cells #[.int .i64 0, .int .i64 1] 3)) (some ⟨W.heap.size, 0, none⟩) 2 [0, 1] := C_two (by simp only [World.cell?, hnew]; rfl) (by simp only [World.cell?, hnew]; rfl)
 refine (matroid_Image.calls k 6 2 0 0 (some ⟨s1 + 1 + 1 + 1, 0, none⟩) 1 [[1]] (some ⟨s2, 0, none⟩) 1 [mU] (some ⟨W.heap.size, 0, none⟩) 2 [0, 1] [0, 2] true _ h'.ev h'.st.1.2.2.2.2 (Nat.le_refl _) h'.st.2.1 (Nat.le_refl _) hl (Nat.le_refl _) hk).mono ?_
 rintro e w' ⟨v, rfl, hR, hb2⟩
 obtain ⟨A, c, rfl⟩ := Kd.R_slice hR
 exact ⟨A, c, rfl, (Kd.R_reads' hR).2.2, (Kd.R_reads' hR).2.1, hb.trans (hb2.mono hb.size)⟩
theorem call4 {w W : World} {s0 s1 s2 G c5 : Nat} {A5 : Option Addr} (h : Fin9 w s0 s1 s2 G A5 c5 W) : Calls Tryd.prog 10 #[.agg #[.int .i64 0, .int .i64 3, .int .i64 2, .int .i64 0, .slice none 0 0, .slice none 0 0], .slice none 0 0] W fun e w' => ∃ A c, e = .returned (.tuple #[.slice A 0 c, .bool false]) ∧ Below W.heap.size W w' := by
 obtain ⟨k, hk⟩ := v_img3
 refine (matroid_Image.calls k 0 3 2 0 none 0 [] none 0 [] none 0 [] [] false _ h.ev (Kd.C_nil _ _) (Nat.le_refl _) (Kd.C_nil _ _) (Nat.le_refl _) (Kd.C_nil _ _) (Nat.le_refl _) hk).mono ?_
 rintro e w' ⟨v, rfl, hR, hb2⟩
 obtain ⟨A, c, rfl⟩ := Kd.R_slice hR
 exact ⟨A, c, rfl, hb2⟩
theorem call6 {w W : World} {s0 s1 s2 G c5 : Nat} {A5 : Option Addr} (h : Fin9 w s0 s1 s2 G A5 c5 W) : Calls Tryd.prog 12 #[.agg #[.int .i64 0, .int .i64 3, .int .i64 2, .int .i64 0, .slice none 0 0, .slice none 0 0]] W fun e w' => e = .returned (.int .i64 0) ∧ Below W.heap.size W w' := matroid_Check.calls 0 3 2 0 none 0 [] none 0 [] 0 W h.ev (Kd.C_nil _ _) (Nat.le_refl _) (Kd.C_nil _ _) (Nat.le_refl _) v_chk1
theorem call7 {w W : World} {s0 s1 s2 G c5 : Nat} {A5 : Option Addr} (h : Fin9 w s0 s1 s2 G A5 c5 W) : Calls Tryd.prog 12 #[.agg #[.int .i64 5, .int .i64 2, .int .i64 0, .int .i64 0, .slice (some ⟨s0 + 1, 0, none⟩) 1 1, .slice (some ⟨s1, 0, none⟩) 1 1]] W fun e w' => e = .returned (.int .i64 0) ∧ Below W.heap.size W w' := matroid_Check.calls 5 2 0 0 (some ⟨s0 + 1, 0, none⟩) 1 [[0, 2]] (some ⟨s1, 0, none⟩) 1 [mU] 0 W h.ev h.st.1.1.2 (Nat.le_refl _) h.st.1.2.1 (Nat.le_refl _) v_chk2
theorem call8 {w W : World} {s0 s1 s2 G c5 : Nat} {A5 : Option Addr} (h : Fin9 w s0 s1 s2 G A5 c5 W) : Calls Tryd.prog 12 #[.agg #[.int .i64 8, .int .i64 3, .int .i64 0, .int .i64 0, .slice none 0 0, .slice A5 1 c5]] W fun e w' => e = .returned (.int .i64 91) ∧ Below W.heap.size W w' := matroid_Check.calls 8 3 0 0 none 0 [] A5 c5 [mD 3] 91 W h.ev (Kd.C_nil _ _) (Nat.le_refl _) h.dc h.dl v_chk3
theorem call9 {w W : World} {s0 s1 s2 G c5 : Nat} {A5 : Option Addr} (h : Fin9 w s0 s1 s2 G A5 c5 W) : Calls Tryd.prog 14 #[.agg #[.int .i64 8, .int .i64 3, .int .i64 0, .int .i64 0, .slice none 0 0, .slice A5 1 c5]] W fun e w' => e = .returned (.int .i64 5) ∧ Below W.heap.size W w' := by
 obtain ⟨k, hk⟩ := v_deep1
 exact matroid_Deep.calls k 8 3 0 0 none 0 [] A5 c5 [mD 3] 5 W (Kd.C_nil _ _) (Nat.le_refl _) h.dc h.dl hk
theorem call10 {w W : World} {s0 s1 s2 G c5 : Nat} {A5 : Option Addr} (h : Fin9 w s0 s1 s2 G A5 c5 W) : Calls Tryd.prog 14 #[.agg #[.int .i64 5, .int .i64 2, .int .i64 0, .int .i64 0, .slice (some ⟨s0 + 1, 0, none⟩) 1 1, .slice (some ⟨s1, 0, none⟩) 1 1]] W fun e w' => e = .returned (.int .i64 2) ∧ Below W.heap.size W w' := by
 obtain ⟨k, hk⟩ := v_deep2
 exact matroid_Deep.calls k 5 2 0 0 (some ⟨s0 + 1, 0, none⟩) 1 [[0, 2]] (some ⟨s1, 0, none⟩) 1 [mU] 2 W h.st.1.1.2 (Nat.le_refl _) h.st.1.2.1 (Nat.le_refl _) hk
theorem call11 {w W : World} {s0 s1 s2 G c5 : Nat} {A5 : Option Addr} (h : Fin9 w s0 s1 s2 G A5 c5 W) : Calls Tryd.prog 12 #[.agg #[.int .i64 0, .int .i64 1, .int .i64 2, .int .i64 0, .slice none 0 0, .slice none 0 0]] W fun e w' => e = .returned (.int .i64 90) ∧ Below W.heap.size W w' := matroid_Check.calls 0 1 2 0 none 0 [] none 0 [] 90 W h.ev (Kd.C_nil _ _) (Nat.le_refl _) (Kd.C_nil _ _) (Nat.le_refl _) v_chk4
theorem call12 {w W : World} {s0 s1 s2 G c5 : Nat} {A5 : Option Addr} (h : Fin9 w s0 s1 s2 G A5 c5 W) : Calls Tryd.prog 12 #[.agg #[.int .i64 10, .int .i64 0, .int .i64 0, .int .i64 0, .slice none 0 0, .slice none 0 0]] W fun e w' => e = .returned (.int .i64 90) ∧ Below W.heap.size W w' := matroid_Check.calls 10 0 0 0 none 0 [] none 0 [] 90 W h.ev (Kd.C_nil _ _) (Nat.le_refl _) (Kd.C_nil _ _) (Nat.le_refl _) v_chk5
theorem callS1 {W : World} {A : Option Addr} {c : Nat} (hC : Kd.C (Kd.int .i64) W A 1 [2]) (hc : 1 ≤ c) : Calls Tryd.prog 16 #[.slice A 1 c, .slice (some ⟨W.heap.size, 0, none⟩) 1 1] (W.alloc (.cells #[.int .i64 2] 3)) fun e w' => e = .returned (.bool true) ∧ Below W.heap.size W w' := by
 have hb : Below W.heap.size W (W.alloc (.cells #[.int .i64 2] 3)) := (Below.refl _ _).alloc (Nat.le_refl _) _
 obtain ⟨k, hk⟩ := v_same1
 have hnew : (W.alloc (.cells #[.int .i64 2] 3)).heap[W.heap.size]? = some (.cells #[.int .i64 2] 3 (0, 0)) := Array.getElem?_push_size
 have hl : Kd.C (Kd.int .i64) (W.alloc (.cells #[.int .i64 2] 3)) (some ⟨W.heap.size, 0, none⟩) 1 [2] := C_one rfl (v := .int .i64 2) (by simp only [World.cell?, hnew]; rfl) rfl
 refine (greenwoodref01_Same.calls k A c [2] (some ⟨W.heap.size, 0, none⟩) 1 [2] true _ (Kd.C_below hC hb) hc hl (Nat.le_refl _) hk).mono ?_
 rintro e w' ⟨rfl, ⟨q, rfl⟩⟩
 exact ⟨rfl, pw_below_drewN hb q⟩
theorem callS2 {W : World} {A : Option Addr} {c : Nat} (hC : Kd.C (Kd.int .i64) W A 2 [0, 2]) (hc : 2 ≤ c) : Calls Tryd.prog 16 #[.slice A 2 c, .slice (some ⟨W.heap.size, 0, none⟩) 2 2] (W.alloc (.cells #[.int .i64 0, .int .i64 2] 3)) fun e w' => e = .returned (.bool true) ∧ Below W.heap.size W w' := by
 have hb : Below W.heap.size W (W.alloc (.cells #[.int .i64 0, .int .i64 2] 3)) := (Below.refl _ _).alloc (Nat.le_refl _) _
 obtain ⟨k, hk⟩ := v_same2
 have hnew : (W.alloc (.cells #[.int .i64 0, .int .i64 2] 3)).heap[W.heap.size]? = some (.cells #[.int .i64 0, .int .i64 2] 3 (0, 0)) := Array.getElem?_push_size
 have hl : Kd.C (Kd.int .i64) (W.alloc (.cells #[.int .i64 0, .int .i64 2] 3)) (some ⟨W.heap.size, 0, none⟩) 2 [0, 2] := C_two (by simp only [World.cell?, hnew]; rfl) (by simp only [World.cell?, hnew]; rfl)
 refine (greenwoodref01_Same.calls k A c [0, 2] (some ⟨W.heap.size, 0, none⟩) 2 [0, 2] true _ (Kd.C_below hC hb) hc hl (Nat.le_refl _) hk).mono ?_
 rintro e w' ⟨rfl, ⟨q, rfl⟩⟩
 exact ⟨rfl, pw_below_drewN hb q⟩
set_option maxHeartbeats 4000000 in
set_option maxRecDepth 100000 in
theorem greenwoodlaw09_fixed.calls (r : Bool) (w : World) (hEV : EV w) (h : greenwoodlaw09_fixed.f = some r) :
 Calls Tryd.prog 9 #[] w fun e w' => e = .returned (.bool r) ∧ Below w.heap.size w w' := by
 obtain rfl := Option.some.inj h
 clear h
 have HEV := Aside0.mk hEV
 have HB := Aside0.mk (Below.refl w.heap.size w)
 clear hEV
 go_enter Tryd.func9, Tryd.ntmps9
 go_wp2_with (first
  | (go_at_call 20; (have z := F2.out); clear z; refine (unif_c _).mono ?_; rintro e w3 ⟨rfl, hb⟩; (have ha := al2 w2 (.cells #[.int .i64 0, .int .i64 3, .int .i64 2, .int .i64 0, .slice none 0 0, .slice none 0 0] 25) (.cells #[.int .i64 6, .int .i64 2, .int .i64 0, .int .i64 0, .slice (some ⟨w1.heap.size + 1 + 1 + 1, 0, none⟩) 1 1, .slice (some ⟨w2.heap.size, 0, none⟩) 1 1] 25)); (have hbb := ha.2.2.1.trans (hb.mono (by rw [ha.2.2.2]; omega))); (have g0 := (hb.block w2.heap.size (by rw [ha.2.2.2]; omega)).trans ha.1); (have g1 := (hb.block (w2.heap.size + 1) (by rw [ha.2.2.2]; omega)).trans ha.2.1); have F3 : Aside0 (Below w.heap.size w w3 ∧ St3 w.heap.size w1.heap.size w2.heap.size w3) := ⟨F2.out.1.trans (hbb.mono F2.out.1.size), F2.out.2.below hbb, C_U g0, g1⟩; clear hb ha hbb g0 g1)
  | (go_at_call 20; (have z := F1.out); clear z; refine (unif_c _).mono ?_; rintro e w2 ⟨rfl, hb⟩; (have ha := al2 w1 (.cells #[.int .i64 0, .int .i64 3, .int .i64 2, .int .i64 0, .slice none 0 0, .slice none 0 0] 25) (.cells #[.int .i64 5, .int .i64 2, .int .i64 0, .int .i64 0, .slice (some ⟨w.heap.size + 1, 0, none⟩) 1 1, .slice (some ⟨w1.heap.size, 0, none⟩) 1 1] 25)); (obtain ⟨Wa, hWa⟩ : ∃ Wa, Wa = (w1.alloc (.cells #[.int .i64 0, .int .i64 3, .int .i64 2, .int .i64 0, .slice none 0 0, .slice none 0 0] 25)).alloc (.cells #[.int .i64 5, .int .i64 2, .int .i64 0, .int .i64 0, .slice (some ⟨w.heap.size + 1, 0, none⟩) 1 1, .slice (some ⟨w1.heap.size, 0, none⟩) 1 1] 25) := ⟨_, rfl⟩); rw [← hWa] at ha hb; (have hc := al2 Wa (.cells #[.int .i64 1] 3) (.cells #[.slice (some ⟨w1.heap.size + 1 + 1, 0, none⟩) 1 1] 26)); (have hbc := hc.2.2.1.trans (hb.mono (by rw [hc.2.2.2]; omega))); (have g0 := (hbc.block w1.heap.size (by rw [ha.2.2.2]; omega)).trans ha.1); (have g1 := (hbc.block (w1.heap.size + 1) (by rw [ha.2.2.2]; omega)).trans ha.2.1); (have g2 := (hb.block Wa.heap.size (by rw [hc.2.2.2]; omega)).trans hc.1); (have g3 := (hb.block (Wa.heap.size + 1) (by rw [hc.2.2.2]; omega)).trans hc.2.1); rw [ha.2.2.2] at g2 g3; (have hbb := ha.2.2.1.trans (hbc.mono (by rw [ha.2.2.2]; omega))); have F2 : Aside0 (Below w.heap.size w w2 ∧ St2 w.heap.size w1.heap.size w2) := ⟨F1.out.1.trans (hbb.mono F1.out.1.size), F1.out.2.below hbb, C_U g0, g1, L1_one g2 g3⟩; clear hb ha hbb g0 g1 g2 g3 hc hbc hWa)
  | (go_at_call 20; refine (unif_c _).mono ?_; rintro e w1 ⟨rfl, hb⟩; (have hal := al2 w (.cells #[.int .i64 0, .int .i64 2] 3) (.cells #[.slice (some ⟨w.heap.size, 0, none⟩) 2 2] 26)); have F1 : Aside0 (Below w.heap.size w w1 ∧ L1 w1 (w.heap.size + 1) [[0, 2]]) := ⟨hal.2.2.1.trans (hb.mono (by rw [hal.2.2.2]; omega)), L1_two ((hb.block _ (by rw [hal.2.2.2]; omega)).trans hal.1) ((hb.block _ (by rw [hal.2.2.2]; omega)).trans hal.2.1)⟩; clear hb hal))
 obtain ⟨G, hG⟩ : ∃ G, G = w3.heap.size := ⟨_, rfl⟩
 rw [← hG]
 have hU : (w3.alloc (.cells #[.int .i64 0, .int .i64 3, .int .i64 2, .int .i64 0, .slice none 0 0, .slice none 0 0] 25)).heap[G]? = some (.cells #[.int .i64 0, .int .i64 3, .int .i64 2, .int .i64 0, .slice none 0 0, .slice none 0 0] 25 (0, 0)) := by rw [hG]; exact Array.getElem?_push_size
 have hbU : Below G w3 (w3.alloc (.cells #[.int .i64 0, .int .i64 3, .int .i64 2, .int .i64 0, .slice none 0 0, .slice none 0 0] 25)) := by rw [hG]; exact (Below.refl _ _).alloc (Nat.le_refl _) _
 have HG := Aside0.mk hG
 clear hG
 go_loopw [4] (fun v4 wr => ∃ j : Nat, j ≤ 4 ∧ v4 = .int .i64 (j : Int) ∧ Aside0 (HD w3 G j wr)) (fun v4 _ => (4 - (RowKit.intOf v4).toNat))
 case atStart => exact ⟨0, by omega, rfl, ⟨hbU, none, 0, hU, rfl, Nat.le_refl _, fun _ _ => Kd.C_nil _ _⟩⟩
 case round =>
  clear hU hbU
  obtain ⟨j, hj, rfl, HJ⟩ := hrel
  by_cases hlt : j < 4
  ·obtain ⟨hB, A5, c5, hb, hl4, hl5, hF⟩ := HJ.out
   obtain ⟨m, hm⟩ : ∃ m, m = mD j := ⟨_, rfl⟩
   rw [← hm] at hb hl4 hl5 hF
   obtain ⟨m0, m1, m2, m3, m4, m5⟩ := m
   dsimp only at hb hl4 hl5 hF
   subst hl4
   have y0 : wr.cell? ⟨G, 0, none⟩ = some (.int .i64 m0) := by simp [World.cell?, hb]
   have y1 : wr.cell? ⟨G, 1, none⟩ = some (.int .i64 m1) := by simp [World.cell?, hb]
   have y2 : wr.cell? ⟨G, 2, none⟩ = some (.int .i64 m2) := by simp [World.cell?, hb]
   have y3 : wr.cell? ⟨G, 3, none⟩ = some (.int .i64 m3) := by simp [World.cell?, hb]
   have y4 : wr.cell? ⟨G, 4, none⟩ = some (.slice none 0 0) := by simp [World.cell?, hb]
   have y5 : wr.cell? ⟨G, 5, none⟩ = some (.slice A5 m5.length c5) := by simp [World.cell?, hb]
   have z0 : wr.frozen? ⟨G, 0, none⟩ = false := by simp [World.frozen?, hb]
   have z1 : wr.frozen? ⟨G, 1, none⟩ = false := by simp [World.frozen?, hb]
   have z2 : wr.frozen? ⟨G, 2, none⟩ = false := by simp [World.frozen?, hb]
   have z3 : wr.frozen? ⟨G, 3, none⟩ = false := by simp [World.frozen?, hb]
   have z4 : wr.frozen? ⟨G, 4, none⟩ = false := by simp [World.frozen?, hb]
   have z5 : wr.frozen? ⟨G, 5, none⟩ = false := by simp [World.frozen?, hb]
   have hGl : G < wr.heap.size := box_lt hb
   have hGn : ¬ G = wr.heap.size := by omega
   have hGm : ¬ wr.heap.size = G := by omega
   have HNX := Aside0.mk (HD.next hm.symm hB hb hl5 hF)
   clear hB hb hl5 hF HJ hm
   go_wp2
   go_roundw
   case rel => exact ⟨j + 1, by omega, by go_num, HNX⟩
   case measure => simp [RowKit.intOf]; omega
  ·have hj4 : j = 4 := by omega
   subst hj4
   clear hlt hj
   obtain ⟨hB, A5, c5, hb, _, hl5, hF⟩ := HJ.out
   have hb3 : Below w3.heap.size w3 wr := HG.out ▸ hB
   have FN : Aside0 (Fin9 w w.heap.size w1.heap.size w2.heap.size G A5 c5 wr) := ⟨⟨F3.out.1.trans (hb3.mono F3.out.1.size), HEV.out.below (F3.out.1.trans (hb3.mono F3.out.1.size)) HEV.out.pos, F3.out.2.below hb3, hb, hl5, hF wr (fun _ _ _ => rfl)⟩⟩
   clear hB hb hl5 hF hb3 HJ
   obtain ⟨r0, r1, r2, r3, r4, r5⟩ := box6 FN.out.st.rbox
   go_wp2_with (first
    | (go_at_call 16; (have z := FN13.out); clear z; with_reducible refine (callS2 K2.out.1 K2.out.2).mono ?_; rintro e w17 ⟨rfl, hb⟩; (have FN14 := Aside0.mk (FN13.out.below hb)); clear hb)
    | (go_at_call 16; (have z := FN12.out); clear z; with_reducible refine (callS1 K1.out.1 K1.out.2).mono ?_; rintro e w16 ⟨rfl, hb⟩; (have FN13 := Aside0.mk (FN12.out.below hb)); (have K2' := Aside0.mk (And.intro (Kd.C_below K2.out.1 hb) K2.out.2)); clear K2; (have K2 := K2'); clear K2'; clear hb)
    | (go_at_call 12; (have z := FN11.out); clear z; with_reducible refine (call12 FN11.out).mono ?_; rintro e w15 ⟨rfl, hb⟩; (have FN12 := Aside0.mk (FN11.out.below hb)); (have K1' := Aside0.mk (And.intro (Kd.C_below K1.out.1 hb) K1.out.2)); clear K1; (have K1 := K1'); clear K1'; (have K2' := Aside0.mk (And.intro (Kd.C_below K2.out.1 hb) K2.out.2)); clear K2; (have K2 := K2'); clear K2'; clear hb; obtain ⟨r0, r1, r2, r3, r4, r5⟩ := box6 FN12.out.st.rbox; obtain ⟨d0, d1, d2, d3, d4, d5⟩ := box6 FN12.out.d)
    | (go_at_call 12; (have z := FN10.out); clear z; with_reducible refine (call11 FN10.out).mono ?_; rintro e w14 ⟨rfl, hb⟩; (have FN11 := Aside0.mk (FN10.out.below hb)); (have K1' := Aside0.mk (And.intro (Kd.C_below K1.out.1 hb) K1.out.2)); clear K1; (have K1 := K1'); clear K1'; (have K2' := Aside0.mk (And.intro (Kd.C_below K2.out.1 hb) K2.out.2)); clear K2; (have K2 := K2'); clear K2'; clear hb; obtain ⟨r0, r1, r2, r3, r4, r5⟩ := box6 FN11.out.st.rbox; obtain ⟨d0, d1, d2, d3, d4, d5⟩ := box6 FN11.out.d)
    | (go_at_call 14; (have z := FN9.out); clear z; with_reducible refine (call10 FN9.out).mono ?_; rintro e w13 ⟨rfl, hb⟩; (have FN10 := Aside0.mk (FN9.out.below hb)); (have K1' := Aside0.mk (And.intro (Kd.C_below K1.out.1 hb) K1.out.2)); clear K1; (have K1 := K1'); clear K1'; (have K2' := Aside0.mk (And.intro (Kd.C_below K2.out.1 hb) K2.out.2)); clear K2; (have K2 := K2'); clear K2'; clear hb; obtain ⟨r0, r1, r2, r3, r4, r5⟩ := box6 FN10.out.st.rbox; obtain ⟨d0, d1, d2, d3, d4, d5⟩ := box6 FN10.out.d)
    | (go_at_call 14; (have z := FN8.out); clear z; with_reducible refine (call9 FN8.out).mono ?_; rintro e w12 ⟨rfl, hb⟩; (have FN9 := Aside0.mk (FN8.out.below hb)); (have K1' := Aside0.mk (And.intro (Kd.C_below K1.out.1 hb) K1.out.2)); clear K1; (have K1 := K1'); clear K1'; (have K2' := Aside0.mk (And.intro (Kd.C_below K2.out.1 hb) K2.out.2)); clear K2; (have K2 := K2'); clear K2'; clear hb; obtain ⟨r0, r1, r2, r3, r4, r5⟩ := box6 FN9.out.st.rbox; obtain ⟨d0, d1, d2, d3, d4, d5⟩ := box6 FN9.out.d)
    | (go_at_call 12; (have z := FN7.out); clear z; with_reducible refine (call8 FN7.out).mono ?_; rintro e w11 ⟨rfl, hb⟩; (have FN8 := Aside0.mk (FN7.out.below hb)); (have K1' := Aside0.mk (And.intro (Kd.C_below K1.out.1 hb) K1.out.2)); clear K1; (have K1 := K1'); clear K1'; (have K2' := Aside0.mk (And.intro (Kd.C_below K2.out.1 hb) K2.out.2)); clear K2; (have K2 := K2'); clear K2'; clear hb; obtain ⟨r0, r1, r2, r3, r4, r5⟩ := box6 FN8.out.st.rbox; obtain ⟨d0, d1, d2, d3, d4, d5⟩ := box6 FN8.out.d)
    | (go_at_call 12; (have z := FN6.out); clear z; with_reducible refine (call7 FN6.out).mono ?_; rintro e w10 ⟨rfl, hb⟩; (have FN7 := Aside0.mk (FN6.out.below hb)); (have K1' := Aside0.mk (And.intro (Kd.C_below K1.out.1 hb) K1.out.2)); clear K1; (have K1 := K1'); clear K1'; (have K2' := Aside0.mk (And.intro (Kd.C_below K2.out.1 hb) K2.out.2)); clear K2; (have K2 := K2'); clear K2'; clear hb; obtain ⟨r0, r1, r2, r3, r4, r5⟩ := box6 FN7.out.st.rbox; obtain ⟨d0, d1, d2, d3, d4, d5⟩ := box6 FN7.out.d)
    | (go_at_call 12; (have z := FN5.out); clear z; with_reducible refine (call6 FN5.out).mono ?_; rintro e w9 ⟨rfl, hb⟩; (have FN6 := Aside0.mk (FN5.out.below hb)); (have K1' := Aside0.mk (And.intro (Kd.C_below K1.out.1 hb) K1.out.2)); clear K1; (have K1 := K1'); clear K1'; (have K2' := Aside0.mk (And.intro (Kd.C_below K2.out.1 hb) K2.out.2)); clear K2; (have K2 := K2'); clear K2'; clear hb; obtain ⟨r0, r1, r2, r3, r4, r5⟩ := box6 FN6.out.st.rbox; obtain ⟨d0, d1, d2, d3, d4, d5⟩ := box6 FN6.out.d)
    | (go_at_call 20; (have z := FN4.out); clear z; refine (unif_c _).mono ?_; rintro e w8 ⟨rfl, hb⟩; (have FN5 := Aside0.mk (FN4.out.below hb)); (have K1' := Aside0.mk (And.intro (Kd.C_below K1.out.1 hb) K1.out.2)); clear K1; (have K1 := K1'); clear K1'; (have K2' := Aside0.mk (And.intro (Kd.C_below K2.out.1 hb) K2.out.2)); clear K2; (have K2 := K2'); clear K2'; clear hb)
    | (go_at_call 10; (have z := FN3.out); clear z; with_reducible refine (call4 FN3.out).mono ?_; rintro e w7 ⟨A8, c8, rfl, hb⟩; (have FN4 := Aside0.mk (FN3.out.below hb)); (have K1' := Aside0.mk (And.intro (Kd.C_below K1.out.1 hb) K1.out.2)); clear K1; (have K1 := K1'); clear K1'; (have K2' := Aside0.mk (And.intro (Kd.C_below K2.out.1 hb) K2.out.2)); clear K2; (have K2 := K2'); clear K2'; clear hb)
    | (go_at_call 20; (have z := FN2.out); clear z; refine (unif_c _).mono ?_; rintro e w6 ⟨rfl, hb⟩; (have FN3 := Aside0.mk (FN2.out.below hb)); (have K1' := Aside0.mk (And.intro (Kd.C_below K1.out.1 hb) K1.out.2)); clear K1; (have K1 := K1'); clear K1'; (have K2' := Aside0.mk (And.intro (Kd.C_below K2.out.1 hb) K2.out.2)); clear K2; (have K2 := K2'); clear K2'; clear hb)
    | (go_at_call 10; (have z := FN1.out); clear z; with_reducible refine (call2 FN1.out).mono ?_; rintro e w5 ⟨A7, c7, rfl, hC7, hc7, hb⟩; (have K2 := Aside0.mk (And.intro hC7 hc7)); (have FN2 := Aside0.mk (FN1.out.below hb)); (have K1' := Aside0.mk (And.intro (Kd.C_below K1.out.1 hb) K1.out.2)); clear K1; (have K1 := K1'); clear K1'; clear hb hC7 hc7)
    | (go_at_call 10; with_reducible refine (call1 FN.out).mono ?_; rintro e w4 ⟨A6, c6, rfl, hC6, hc6, hb⟩; have K1 := Aside0.mk (And.intro hC6 hc6); have FN1 := Aside0.mk (FN.out.below hb); clear hb hC6 hc6; obtain ⟨q0, q1, q2, q3, q4, q5⟩ := box6 FN1.out.st.cbox))
   go_ret
   exact ⟨rfl, FN14.out.bel⟩
end Go.Proofs.YtgbmlkmkfigolaaDoor.P
/- greenwoodref09.may, walked: what lies within. -/
namespace Go.Proofs.YtgbmlkmkfigolaaDoor.P
open Go.RowKit Go.Proofs.YtgbmlkmkfigolaaDoorW.PrintWords Go.Proofs.YtgbmlkmkfigolaaDoorW.PrintLast Go.Proofs.YtgbmlkmkfigolaaDoorW.PrintMore
set_option linter.unusedVariables false
set_option linter.unusedSimpArgs false

theorem beqd (a c : Int) : (a == c) = decide (a = c) := by by_cases h : a = c <;> simp [h]
end Go.Proofs.YtgbmlkmkfigolaaDoor.P
/- What the document's reference says of a matroid: the same words as the check's. -/
namespace Go.Proofs.YtgbmlkmkfigolaaDoor.P
open Go.RowKit Go.Proofs.YtgbmlkmkfigolaaDoorW.PrintWords Go.Proofs.YtgbmlkmkfigolaaDoorW.PrintLast Go.Proofs.YtgbmlkmkfigolaaDoorW.PrintMore NumTh
set_option linter.unusedVariables false
set_option linter.unusedSimpArgs false

theorem chk_n {j : Nat} {m : Mtr} (h : chkV j m = true) : 0 ≤ m.f1 ∧ m.f1 ≤ 64 := by
 cases j with
 | zero => cases h
 | succ j =>
  unfold chkV lclB inB at h
  simp only [Bool.and_eq_true, decide_eq_true_eq] at h
  exact h.1.1.1
theorem nests_iff {t : Int} : nestsB t = true ↔ 5 ≤ t ∧ t ≤ 9 := by unfold nestsB; rw [Bool.and_eq_true, decide_eq_true_eq, decide_eq_true_eq]
/-! ### Small: whatever it says -/
theorem size_ev : ∀ (j : Nat), j ≤ 100 → ∀ (m : Mtr), OkS m → ∃ v, Ev (fun k => greenwoodref09_size.f k m.f0 m.f1 m.f2 m.f3 m.f4 m.f5 (j : Int)) v := by
 intro j
 induction j with
 | zero =>
  intro hj m hm
  have h1 : ∀ (d i : Nat) (n : Int), m.f5.length - i = d → i ≤ m.f5.length → ∃ v, Ev (fun k => greenwoodref09_size.l1 k ((0 : Nat) : Int) n (i : Int) m.f0 m.f1 m.f2 m.f3 m.f4 m.f5) v := by
   intro d
   have hl5 := hm.l5
   induction d with
   | zero =>
    intro i n e1 e2
    exact ⟨n, Ev.step (fun k => by rw [greenwoodref09_size.l1]) (Ev.ifn (by omega) (Ev.step (fun k => by rw [greenwoodref09_size.j3]) (Ev.ifn (by decide) (Ev.val rfl))))⟩
   | succ d ihd =>
    intro i n e1 e2
    by_cases hn : n < 10000
    ·obtain ⟨v, hv⟩ := ihd (i + 1) (wrap64 (n + 10000)) (by omega) (by omega)
     refine ⟨v, Ev.step (fun k => by rw [greenwoodref09_size.l1]) (Ev.ifp (by omega) (Ev.step (fun k => by rw [greenwoodref09_size.j3]) (Ev.ifp (decide_eq_true hn) (Ev.ifn (by omega) ?_))))⟩
     rw [w1b (show i < m.f5.length by omega) hl5]
     exact hv
    ·exact ⟨n, Ev.step (fun k => by rw [greenwoodref09_size.l1]) (Ev.ifp (by omega) (Ev.step (fun k => by rw [greenwoodref09_size.j3]) (Ev.ifn (by simpa using hn) (Ev.val rfl))))⟩
  have h0 : ∀ (d i : Nat) (n : Int), m.f4.length - i = d → i ≤ m.f4.length → ∃ v, Ev (fun k => greenwoodref09_size.l0 k ((0 : Nat) : Int) n (i : Int) m.f0 m.f1 m.f2 m.f3 m.f4 m.f5) v := by
   intro d
   have hl4 := hm.l4
   have hj1 : ∀ n, ∃ v, Ev (fun k => greenwoodref09_size.j1 k ((0 : Nat) : Int) n m.f0 m.f1 m.f2 m.f3 m.f4 m.f5) v := fun n => by
    obtain ⟨v, hv⟩ := h1 m.f5.length 0 n rfl (Nat.zero_le _)
    exact ⟨v, Ev.step (fun k => by rw [greenwoodref09_size.j1]; rfl) hv⟩
   induction d with
   | zero =>
    intro i n e1 e2
    obtain ⟨v, hv⟩ := hj1 n
    exact ⟨v, Ev.step (fun k => by rw [greenwoodref09_size.l0]) (Ev.ifn (by omega) hv)⟩
   | succ d ihd =>
    intro i n e1 e2
    by_cases hn : n < 10000
    ·obtain ⟨v, hv⟩ := ihd (i + 1) (wrap64 (n + ((rd_L1 m.f4 (i : Int)).length : Int))) (by omega) (by omega)
     refine ⟨v, Ev.step (fun k => by rw [greenwoodref09_size.l0]) (Ev.ifp (by omega) (Ev.ifp hn (Ev.ifp (by omega) ?_)))⟩
     rw [w1b (show i < m.f4.length by omega) hl4]
     exact hv
    ·obtain ⟨v, hv⟩ := hj1 n
     exact ⟨v, Ev.step (fun k => by rw [greenwoodref09_size.l0]) (Ev.ifp (by omega) (Ev.ifn hn hv))⟩
  obtain ⟨v, hv⟩ := h0 m.f4.length 0 (wrap64 (1 + (m.f4.length : Int))) rfl (Nat.zero_le _)
  exact ⟨v, Ev.step (fun k => by rw [greenwoodref09_size.f]; rfl) hv⟩
 | succ j ih =>
  intro hj m hm
  have h1 : ∀ (d i : Nat) (n : Int), m.f5.length - i = d → i ≤ m.f5.length → ∃ v, Ev (fun k => greenwoodref09_size.l1 k ((j + 1 : Nat) : Int) n (i : Int) m.f0 m.f1 m.f2 m.f3 m.f4 m.f5) v := by
   intro d
   have hl5 := hm.l5
   induction d with
   | zero =>
    intro i n e1 e2
    exact ⟨n, Ev.step (fun k => by rw [greenwoodref09_size.l1]) (Ev.ifn (by omega) (Ev.step (fun k => by rw [greenwoodref09_size.j3]) (Ev.ifn (by decide) (Ev.val rfl))))⟩
   | succ d ihd =>
    intro i n e1 e2
    have hi : i < m.f5.length := by omega
    by_cases hn : n < 10000
    ·obtain ⟨t, ht⟩ := ih (by omega) m.f5[i] (hm.each _ (List.getElem_mem hi))
     obtain ⟨v, hv⟩ := ihd (i + 1) (wrap64 (n + t)) (by omega) (by omega)
     refine ⟨v, Ev.step (fun k => by rw [greenwoodref09_size.l1]) (Ev.ifp (by omega) (Ev.step (fun k => by rw [greenwoodref09_size.j3]) (Ev.ifp (decide_eq_true hn) (Ev.ifp (by omega) (Ev.ifp (by omega) (Ev.ifp (by omega) ?_))))))⟩
     have hw : wrap64 (((j + 1 : Nat) : Int) - 1) = (j : Int) := by unfold wrap64; omega
     rw [rd_T_at hi, hw]
     refine Ev.bind ht ?_
     rw [w1b hi hl5]
     exact hv
    ·exact ⟨n, Ev.step (fun k => by rw [greenwoodref09_size.l1]) (Ev.ifp (by omega) (Ev.step (fun k => by rw [greenwoodref09_size.j3]) (Ev.ifn (by simpa using hn) (Ev.val rfl))))⟩
  have h0 : ∀ (d i : Nat) (n : Int), m.f4.length - i = d → i ≤ m.f4.length → ∃ v, Ev (fun k => greenwoodref09_size.l0 k ((j + 1 : Nat) : Int) n (i : Int) m.f0 m.f1 m.f2 m.f3 m.f4 m.f5) v := by
   intro d
   have hl4 := hm.l4
   have hj1 : ∀ n, ∃ v, Ev (fun k => greenwoodref09_size.j1 k ((j + 1 : Nat) : Int) n m.f0 m.f1 m.f2 m.f3 m.f4 m.f5) v := fun n => by
    obtain ⟨v, hv⟩ := h1 m.f5.length 0 n rfl (Nat.zero_le _)
    exact ⟨v, Ev.step (fun k => by rw [greenwoodref09_size.j1]; rfl) hv⟩
   induction d with
   | zero =>
    intro i n e1 e2
    obtain ⟨v, hv⟩ := hj1 n
    exact ⟨v, Ev.step (fun k => by rw [greenwoodref09_size.l0]) (Ev.ifn (by omega) hv)⟩
   | succ d ihd =>
    intro i n e1 e2
    by_cases hn : n < 10000
    ·obtain ⟨v, hv⟩ := ihd (i + 1) (wrap64 (n + ((rd_L1 m.f4 (i : Int)).length : Int))) (by omega) (by omega)
     refine ⟨v, Ev.step (fun k => by rw [greenwoodref09_size.l0]) (Ev.ifp (by omega) (Ev.ifp hn (Ev.ifp (by omega) ?_)))⟩
     rw [w1b (show i < m.f4.length by omega) hl4]
     exact hv
    ·obtain ⟨v, hv⟩ := hj1 n
     exact ⟨v, Ev.step (fun k => by rw [greenwoodref09_size.l0]) (Ev.ifp (by omega) (Ev.ifn hn hv))⟩
  obtain ⟨v, hv⟩ := h0 m.f4.length 0 (wrap64 (1 + (m.f4.length : Int))) rfl (Nat.zero_le _)
  exact ⟨v, Ev.step (fun k => by rw [greenwoodref09_size.f]; rfl) hv⟩
theorem small_ev (m : Mtr) (hm : OkS m) : ∃ b, Ev (fun k => greenwoodref09_Small.f k m.f0 m.f1 m.f2 m.f3 m.f4 m.f5) b := by
 obtain ⟨v, hv⟩ := size_ev 8 (by omega) m hm
 unfold greenwoodref09_Small.f
 exact ⟨_, Ev.bind hv (Ev.now _)⟩
end Go.Proofs.YtgbmlkmkfigolaaDoor.P
/- How deep a matroid lies, and what may be: words that the laws of layer 9 stand on. -/
namespace Go.Proofs.YtgbmlkmkfigolaaDoor.P
open Go.RowKit Go.Proofs.YtgbmlkmkfigolaaDoorW.PrintWords Go.Proofs.YtgbmlkmkfigolaaDoorW.PrintLast Go.Proofs.YtgbmlkmkfigolaaDoorW.PrintMore NumTh
set_option linter.unusedVariables false
set_option linter.unusedSimpArgs false

theorem fold_max (f : Mtr → Int) : ∀ (l : List Mtr) (a : Int), a ≤ (l.map f).foldl max a ∧ (∀ x ∈ l, f x ≤ (l.map f).foldl max a) ∧ ∀ b, a ≤ b → (∀ x ∈ l, f x ≤ b) → (l.map f).foldl max a ≤ b := by
 intro l
 induction l with
 | nil => intro a; exact ⟨Int.le_refl _, ⟨fun x hx => absurd hx List.not_mem_nil, fun b h _ => h⟩⟩
 | cons y r ih =>
  intro a
  obtain ⟨h1, h2, h3⟩ := ih (max a (f y))
  refine ⟨by simp only [List.map_cons, List.foldl_cons]; omega, fun x hx => ?_, fun b hb hx => ?_⟩
  ·rcases List.mem_cons.1 hx with rfl | hx
   ·simp only [List.map_cons, List.foldl_cons]; omega
   ·exact h2 x hx
  ·have := hx y (List.mem_cons_self ..)
   exact h3 b (by omega) (fun x hx' => hx x (List.mem_cons_of_mem _ hx'))
theorem deepV_nests {j : Nat} {m : Mtr} (h : nestsB m.f0 = true) : deepV (j + 1) m = (m.f5.map (deepV j)).foldl max 0 + 1 := by
 show (if nestsB m.f0 = true then _ else _) = _
 rw [if_pos h]
theorem deepV_flat {j : Nat} {m : Mtr} (h : nestsB m.f0 = false) : deepV j m = 1 := by
 cases j with
 | zero => rfl
 | succ j =>
  show (if nestsB m.f0 = true then _ else _) = _
  rw [if_neg (by rw [h]; decide)]
theorem chkV_iff {j : Nat} {m : Mtr} : chkV (j + 1) m = true ↔ lclB m = true ∧ ∀ x ∈ m.f5, chkV j x = true := by
 show (lclB m && m.f5.all (chkV j)) = true ↔ _
 rw [Bool.and_eq_true, List.all_eq_true]
theorem chkV_deep : ∀ (j : Nat) (m : Mtr), chkV j m = true → deepV j m ≤ (j : Int) := by
 intro j
 induction j with
 | zero => intro m h; cases h
 | succ j ih =>
  intro m h
  cases hn : nestsB m.f0 with
  | false => rw [deepV_flat hn]; omega
  | true =>
   rw [deepV_nests hn]
   have := (fold_max (deepV j) m.f5 0).2.2 (j : Int) (by omega) (fun x hx => ih x ((chkV_iff.1 h).2 x hx))
   omega
theorem chkN_iff {m : Mtr} : chkN m = 0 ↔ chkV 4 m = true := by
 unfold chkN
 by_cases h : 4 < deepV 4 m
 ·rw [if_pos h]
  exact ⟨fun h => by omega, fun h' => by have := chkV_deep 4 m h'; omega⟩
 ·rw [if_neg h]
  cases chkV 4 m with
  | true => exact ⟨fun _ => rfl, fun _ => by rw [if_pos rfl]⟩
  | false => exact ⟨fun h => by rw [if_neg (by decide)] at h; omega, fun h => by cases h⟩
theorem chkN_lcl {m : Mtr} (h : chkN m = 0) : lclB m = true := (chkV_iff.1 (chkN_iff.1 h)).1
theorem chkN_n {m : Mtr} (h : chkN m = 0) : 0 ≤ m.f1 ∧ m.f1 ≤ 64 := chk_n (chkN_iff.1 h)
end Go.Proofs.YtgbmlkmkfigolaaDoor.P
/- How many lists, and how many matroids within, one has that may be. -/
namespace Go.Proofs.YtgbmlkmkfigolaaDoor.P
open Go.RowKit Go.Proofs.YtgbmlkmkfigolaaDoorW.PrintWords Go.Proofs.YtgbmlkmkfigolaaDoorW.PrintLast Go.Proofs.YtgbmlkmkfigolaaDoorW.PrintMore NumTh
set_option linter.unusedVariables false
set_option linter.unusedSimpArgs false

/-- how many lists a matroid that may be has -/
def len4 (m : Mtr) : Int := if m.f0 = 0 ∨ 7 ≤ m.f0 then 0 else if m.f0 = 2 then 2 else if m.f0 = 5 ∨ m.f0 = 6 then 1 else m.f1
theorem lcl_len4 {m : Mtr} (h : lclB m = true) : (m.f4.length : Int) = len4 m := by
 unfold lclB at h
 unfold len4
 rw [Bool.and_eq_true] at h
 have h := h.2
 cases hn : nestsB m.f0 with
 | true =>
  have hnn := nests_iff.1 hn
  rw [hn, if_pos rfl] at h
  unfold outerB at h
  by_cases c1 : m.f3 ≠ 0 ∨ (m.f0 ≠ 7 ∧ m.f2 ≠ 0) ∨ (7 ≤ m.f0 ∧ m.f4.length ≠ 0)
  ·rw [if_pos c1] at h; cases h
  rw [if_neg c1] at h
  by_cases c2 : 7 ≤ m.f0
  ·rw [if_pos (.inr c2)]; omega
  rw [if_neg (show ¬ (m.f0 = 0 ∨ 7 ≤ m.f0) by omega), if_neg (show ¬ m.f0 = 2 by omega), if_pos (show m.f0 = 5 ∨ m.f0 = 6 by omega)]
  rw [if_neg (show ¬ m.f0 = 9 by omega)] at h
  by_cases c3 : m.f5.length = 1
  ·rw [if_pos c3] at h
   by_cases c5 : m.f0 = 5
   ·rw [if_pos c5] at h
    simp only [Bool.and_eq_true, decide_eq_true_eq] at h; omega
   ·rw [if_neg c5, if_pos (show m.f0 = 6 by omega)] at h
    simp only [Bool.and_eq_true, decide_eq_true_eq] at h; omega
  ·rw [if_neg c3] at h; cases h
 | false =>
  have hnn : ¬ (5 ≤ m.f0 ∧ m.f0 ≤ 9) := fun e => by have := nests_iff.2 e; rw [hn] at this; cases this
  rw [hn, if_neg (by decide), Bool.and_eq_true] at h
  have h := h.2
  unfold plainB at h
  by_cases t0 : m.f0 = 0
  ·rw [if_pos t0] at h
   rw [if_pos (.inl t0)]
   simp only [Bool.and_eq_true, decide_eq_true_eq] at h; omega
  rw [if_neg t0] at h
  by_cases t1 : m.f0 = 1
  ·rw [if_pos t1] at h
   rw [if_neg (show ¬ (m.f0 = 0 ∨ 7 ≤ m.f0) by omega), if_neg (show ¬ m.f0 = 2 by omega), if_neg (show ¬ (m.f0 = 5 ∨ m.f0 = 6) by omega)]
   simp only [Bool.and_eq_true, decide_eq_true_eq] at h
   exact h.1.2
  rw [if_neg t1] at h
  by_cases t2 : m.f0 = 2
  ·rw [if_pos t2] at h
   rw [if_neg (show ¬ (m.f0 = 0 ∨ 7 ≤ m.f0) by omega), if_pos t2]
   simp only [Bool.and_eq_true, decide_eq_true_eq] at h
   have := h.1.1.2
   omega
  rw [if_neg t2] at h
  by_cases t3 : m.f0 = 3
  ·rw [if_pos t3] at h
   rw [if_neg (show ¬ (m.f0 = 0 ∨ 7 ≤ m.f0) by omega), if_neg (show ¬ m.f0 = 2 by omega), if_neg (show ¬ (m.f0 = 5 ∨ m.f0 = 6) by omega)]
   simp only [Bool.and_eq_true, decide_eq_true_eq] at h
   exact h.1.2
  rw [if_neg t3] at h
  by_cases t4 : m.f0 = 4
  ·rw [if_pos t4] at h
   rw [if_neg (show ¬ (m.f0 = 0 ∨ 7 ≤ m.f0) by omega), if_neg (show ¬ m.f0 = 2 by omega), if_neg (show ¬ (m.f0 = 5 ∨ m.f0 = 6) by omega)]
   simp only [Bool.and_eq_true, decide_eq_true_eq] at h
   exact h.1
  rw [if_neg t4] at h
  cases h
/-- what lies within a matroid that may be -/
theorem lcl_len5 {m : Mtr} (h : lclB m = true) : if m.f0 = 9 then sumV 0 m.f5 = some m.f1 ∧ m.f5.length ≤ 8 else if nestsB m.f0 = true then m.f5.length = 1 else m.f5.length = 0 := by
 unfold lclB at h
 rw [Bool.and_eq_true] at h
 have h := h.2
 cases hn : nestsB m.f0 with
 | true =>
  rw [hn, if_pos rfl] at h
  unfold outerB at h
  by_cases c1 : m.f3 ≠ 0 ∨ (m.f0 ≠ 7 ∧ m.f2 ≠ 0) ∨ (7 ≤ m.f0 ∧ m.f4.length ≠ 0)
  ·rw [if_pos c1] at h; cases h
  rw [if_neg c1] at h
  by_cases c9 : m.f0 = 9
  ·rw [if_pos c9] at h ⊢
   cases hs : sumV 0 m.f5 with
   | none => rw [hs] at h; cases h
   | some q =>
    rw [hs] at h
    simp only [Bool.and_eq_true, decide_eq_true_eq] at h
    exact ⟨by rw [h.2], h.1.2⟩
  ·rw [if_neg c9] at h ⊢
   rw [if_pos rfl]
   by_cases c3 : m.f5.length = 1
   ·exact c3
   ·rw [if_neg c3] at h; cases h
 | false =>
  rw [hn, if_neg (by decide), Bool.and_eq_true] at h
  have h := h.1
  have c9 : ¬ m.f0 = 9 := fun e => by rw [e] at hn; cases hn
  rw [if_neg c9, if_neg (by decide)]
  exact of_decide_eq_true h
theorem sumV_snoc (x : Mtr) : ∀ (l : List Mtr) (n : Int), sumV n (l ++ [x]) = (sumV n l).bind fun q => if inB x.f1 64 = true then some (wrap64 (q + x.f1)) else none := by
 intro l
 induction l with
 | nil => intro n; simp [sumV]
 | cons y r ih =>
  intro n
  rw [List.cons_append]
  unfold sumV
  split
  ·exact ih _
  ·rfl
theorem tag_no (m : Mtr) (t : Int) (h : t < 0 ∨ 9 < t) : chkN ⟨t, m.f1, m.f2, m.f3, m.f4, m.f5⟩ ≠ 0 := by
 intro e
 have hl := chkN_lcl e
 unfold lclB at hl
 have hn : nestsB t = false := by
  cases hq : nestsB t with
  | false => rfl
  | true => have := nests_iff.1 hq; omega
 rw [Bool.and_eq_true] at hl
 have hl := hl.2
 replace hl : (if nestsB t = true then outerB ⟨t, m.f1, m.f2, m.f3, m.f4, m.f5⟩ else decide (m.f5.length = 0) && plainB ⟨t, m.f1, m.f2, m.f3, m.f4, m.f5⟩) = true := hl
 rw [hn, if_neg (by decide), Bool.and_eq_true] at hl
 have hp := hl.2
 unfold plainB at hp
 rw [if_neg (show ¬ t = 0 by omega), if_neg (show ¬ t = 1 by omega), if_neg (show ¬ t = 2 by omega), if_neg (show ¬ t = 3 by omega), if_neg (show ¬ t = 4 by omega)] at hp
 cases hp
theorem list_no (m : Mtr) (h : chkN m = 0) : chkN ⟨m.f0, m.f1, m.f2, m.f3, m.f4 ++ [[], [], []], m.f5⟩ ≠ 0 := by
 intro e
 have h1 := lcl_len4 (chkN_lcl h)
 have h2 := lcl_len4 (chkN_lcl e)
 replace h2 : ((m.f4 ++ [[], [], []]).length : Int) = len4 m := h2
 rw [List.length_append] at h2
 simp only [List.length_cons, List.length_nil] at h2
 omega
theorem inner_no (m : Mtr) (h : chkN m = 0) (x : Mtr) (hx : x.f1 = 1) : chkN ⟨m.f0, m.f1, m.f2, m.f3, m.f4, m.f5 ++ [x]⟩ ≠ 0 := by
 intro e
 have hb := chkN_n h
 have h1 := lcl_len5 (chkN_lcl h)
 have h2 := lcl_len5 (chkN_lcl e)
 replace h2 : if m.f0 = 9 then sumV 0 (m.f5 ++ [x]) = some m.f1 ∧ (m.f5 ++ [x]).length ≤ 8 else if nestsB m.f0 = true then (m.f5 ++ [x]).length = 1 else (m.f5 ++ [x]).length = 0 := h2
 by_cases c9 : m.f0 = 9
 ·rw [if_pos c9] at h1 h2
  have h3 := h2.1
  rw [sumV_snoc, h1.1, Option.bind_some, hx, if_pos (by decide)] at h3
  have h4 := Option.some.inj h3
  revert h4
  unfold wrap64; omega
 ·rw [if_neg c9] at h1 h2
  rw [List.length_append, List.length_singleton] at h2
  by_cases hn : nestsB m.f0 = true
  ·rw [if_pos hn] at h1 h2; omega
  ·rw [if_neg hn] at h1 h2; omega
theorem lens {m : Mtr} (h : chkN m = 0) : m.f4.length ≤ 64 ∧ m.f5.length ≤ 8 := by
 have hb := chkN_n h
 have h1 := lcl_len4 (chkN_lcl h)
 have h2 := lcl_len5 (chkN_lcl h)
 constructor
 ·unfold len4 at h1
  split at h1
  ·omega
  ·split at h1
   ·omega
   ·split at h1 <;> omega
 ·split at h2
  ·exact h2.2
  ·split at h2 <;> omega
end Go.Proofs.YtgbmlkmkfigolaaDoor.P
