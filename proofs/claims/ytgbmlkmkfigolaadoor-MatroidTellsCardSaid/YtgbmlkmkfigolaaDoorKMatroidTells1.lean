/- Texts of this claim's own repository, merged by wip/tool/pack.py: MatMay, MatRm, Px7, Px8, Px2, Px3A, ElimMay, Px3. -/
import Derived.Outline
import Derived.Deep.RegionWith
import Derived.Test.YtgbmlkmkfigolaaDoorKMatroidTells0
set_option linter.unusedVariables false
set_option linter.unusedSimpArgs false
/- match.May, by hand: whether pairs of two sides may be. -/
namespace Go.Proofs.YtgbmlkmkfigolaaDoor.P
open Go.RowKit Go.Proofs.YtgbmlkmkfigolaaDoorW.PrintWords Go.Proofs.YtgbmlkmkfigolaaDoorW.PrintLast Go.Proofs.YtgbmlkmkfigolaaDoorW.PrintMore
set_option linter.unusedVariables false
set_option linter.unusedSimpArgs false

/-! ### set.May -/
def incB : Int → List Int → Bool
 | _, [] => true
 | m, x :: r => decide (m < x) && decide (x ≤ 1099511627776) && incB x r
def mayB (l : List Int) : Bool := incB (-1) l
theorem set_May_l0 (l : List Int) (hn : l.length ≤ 9223372036854775807) : ∀ (d i : Nat) (m : Int), l.length - i = d → i ≤ l.length → Ev (fun k => set_May.l0 k m l (l.length : Int) (i : Int)) (incB m (l.drop i)) := by
 intro d
 induction d with
 | zero =>
  intro i m h1 h2
  refine Ev.step (fun k => by rw [set_May.l0]) ?_
  refine Ev.ifn (by omega) (Ev.val ?_)
  rw [List.drop_of_length_le (by omega)]; rfl
 | succ d ih =>
  intro i m h1 h2
  have hi : i < l.length := by omega
  refine Ev.step (fun k => by rw [set_May.l0]) ?_
  refine Ev.ifp (by omega) (Ev.ifp (by omega) (Ev.ifp (by omega) ?_))
  rw [rd_at hi, List.drop_eq_getElem_cons hi]
  unfold incB
  by_cases h3 : l[i] ≤ m
  ·refine Ev.ifp h3 (Ev.val ?_)
   rw [decide_eq_false (show ¬ m < l[i] by omega)]; rfl
  refine Ev.ifn h3 ?_
  rw [decide_eq_true (show m < l[i] by omega)]
  by_cases h4 : l[i] > 1099511627776
  ·refine Ev.ifp h4 (Ev.val ?_)
   rw [decide_eq_false (show ¬ l[i] ≤ 1099511627776 by omega)]; rfl
  refine Ev.ifn h4 ?_
  rw [decide_eq_true (show l[i] ≤ 1099511627776 by omega)]
  have hw : wrap64 ((i : Int) + 1) = ((i + 1 : Nat) : Int) := by unfold wrap64; omega
  rw [hw]
  exact ih (i + 1) _ (by omega) (by omega)
theorem set_May_ev (l : List Int) (hn : l.length ≤ 9223372036854775807) : Ev (fun k => set_May.f k l) (mayB l) := set_May_l0 l hn l.length 0 (-1) rfl (Nat.zero_le _)
theorem set_May_now (A : Option Addr) (c : Nat) (l : List Int) (w : World) (hr : Kd.C (Kd.int .i64) w A l.length l) (hc : l.length ≤ c) (hn : l.length ≤ 9223372036854775807) :
 Calls Tryd.prog 21 #[.slice A l.length c] w fun e w' => e = .returned (.bool (mayB l)) ∧ Drawn0 w w' := by
 obtain ⟨k, hk⟩ := (set_May_ev l hn).rounds
 exact set_May.calls k A c l _ w hr hc hk

/-! ### match.May -/
def mbadB (right : Int) (l : List Int) : Bool := !mayB l || (decide (0 < (l.length : Int)) && decide (right ≤ rd l ((l.length : Int) - 1)))
def match_May.f (a0 : Int) (l1 : List (List Int)) : Option Bool := some (!decide (a0 < 0) && !decide (64 < a0) && !decide (64 < (l1.length : Int)) && !(l1.any (mbadB a0)))
set_option maxHeartbeats 2000000 in
set_option maxRecDepth 100000 in
theorem match_May.in1 (A : Option Addr) (c : Nat) (l : List Int) (p : Int) (hn : l.length ≤ 9223372036854775807) (B : Nat) (W : World) (hr : Kd.C (Kd.int .i64) W A l.length l) (hc : l.length ≤ c)
 (h1 : W.cell? ⟨B, 0, none⟩ = some (.int .i64 p)) :
 Calls Tryd.prog 62 #[.slice A l.length c, .pointer (some ⟨B, 0, none⟩)] W fun e w' => e = .returned (.bool (mbadB p l)) ∧ Drawn0 W w' := by
 have hcall := fun q => (set_May_now A c l (W.drewN q) (Kd.C_below hr (Drawn0.below ⟨⟨q, rfl⟩⟩)) hc hn).mono (fun e w' (h : e = .returned (.bool (mayB l)) ∧ Drawn0 (W.drewN q) w') => (show e = .returned (.bool (mayB l)) ∧ ∃ m, w' = (W.drewN q).drewN m from ⟨h.1, by obtain ⟨_, ⟨m, rfl⟩⟩ := h; exact ⟨m, rfl⟩⟩))
 have HE : ∀ b, mbadB p l = b → Aside0 (mbadB p l = b) := fun b h => ⟨h⟩
 cases hm : mayB l with
 | false =>
  have HB := HE true (by unfold mbadB; rw [hm]; rfl)
  rw [hm] at hcall
  have HCL := Aside0.mk hcall
  clear hm hr hc hcall HE hn
  go_enter Tryd.func62, Tryd.ntmps62
  go_wp2
  repeat (go_quiet (first | (go_at_call 21; refine Calls.quiet_of (HCL.out _))); try go_wp2)
  go_ret
  exact ⟨by rw [HB.out]; rfl, by repeat (first | exact Drawn0.refl _ | apply Drawn0.step)⟩
 | true =>
  rw [hm] at hcall
  by_cases h0 : 0 < (l.length : Int)
  ·have h0b : decide (0 < (l.length : Int)) = true := decide_eq_true h0
   have h0c : decide (0 < l.length) = true := decide_eq_true (by omega)
   have h0d : 0 < l.length := by omega
   obtain ⟨ad, rfl, hx⟩ := Kd.at_int hr ((l.length : Int) - 1) (by omega) (by omega)
   rw [show ((l.length : Int) - 1).toNat = l.length - 1 by omega] at hx
   have hlast : wrap64 ((l.length : Int) - 1) = (l.length : Int) - 1 := by unfold wrap64; omega
   have hi0 : (0 : Int) ≤ (l.length : Int) - 1 := by omega
   have hi1 : (l.length : Int) - 1 < (l.length : Int) := by omega
   have hb0 : (l.length : Int) ≤ 9223372036854775807 := by omega
   have hcases : (decide (p ≤ rd l ((l.length : Int) - 1)) = true ∧ mbadB p l = true) ∨ (decide (p ≤ rd l ((l.length : Int) - 1)) = false ∧ mbadB p l = false) := by
    unfold mbadB
    rw [hm, h0b]
    by_cases h2 : p ≤ rd l ((l.length : Int) - 1)
    ·exact .inl ⟨decide_eq_true h2, by rw [decide_eq_true h2]; rfl⟩
    ·exact .inr ⟨decide_eq_false h2, by rw [decide_eq_false h2]; rfl⟩
   generalize rd l ((l.length : Int) - 1) = y at *
   rcases hcases with ⟨h2, h3⟩ | ⟨h2, h3⟩
   ·have HB := HE _ h3
    clear h3 h0
    have HCL := Aside0.mk hcall
    clear hm hr hc hcall HE hn
    go_enter Tryd.func62, Tryd.ntmps62
    go_wp2
    repeat (go_quiet (first | (go_at_call 21; refine Calls.quiet_of (HCL.out _))); try go_wp2)
    go_ret
    exact ⟨by rw [HB.out]; rfl, by repeat (first | exact Drawn0.refl _ | apply Drawn0.step)⟩
   ·have HB := HE _ h3
    clear h3 h0
    have HCL := Aside0.mk hcall
    clear hm hr hc hcall HE hn
    go_enter Tryd.func62, Tryd.ntmps62
    go_wp2
    repeat (go_quiet (first | (go_at_call 21; refine Calls.quiet_of (HCL.out _))); try go_wp2)
    go_ret
    exact ⟨by rw [HB.out]; rfl, by repeat (first | exact Drawn0.refl _ | apply Drawn0.step)⟩
  ·have h0b : decide (0 < (l.length : Int)) = false := decide_eq_false h0
   have h0c : decide (0 < l.length) = false := decide_eq_false (by omega)
   have HB := HE false (by unfold mbadB; rw [hm, h0b]; rfl)
   clear h0
   have HCL := Aside0.mk hcall
   clear hm hr hc hcall HE hn
   go_enter Tryd.func62, Tryd.ntmps62
   go_wp2
   repeat (go_quiet (first | (go_at_call 21; refine Calls.quiet_of (HCL.out _))); try go_wp2)
   go_ret
   exact ⟨by rw [HB.out]; rfl, by repeat (first | exact Drawn0.refl _ | apply Drawn0.step)⟩
set_option maxHeartbeats 4000000 in
set_option maxRecDepth 100000 in
theorem match_May.calls (a0 : Int) (A1 : Option Addr) (c1 : Nat) (l1 : List (List Int)) (r : Bool) (w : World) (hr1 : Kd.C (Kd.slice 3 (Kd.int .i64)) w A1 l1.length l1) (hc1 : l1.length ≤ c1) (h : match_May.f a0 l1 = some r) :
 Calls Tryd.prog 51 #[.int .i64 a0, .slice A1 l1.length c1] w fun e w' => e = .returned (.bool r) ∧ Below w.heap.size w w' := by
 unfold match_May.f at h
 have hf := Option.some.inj h
 clear h
 have go : ∀ b, r = b → Aside0 (r = b) := fun b h => ⟨h⟩
 have hways : (decide (a0 < 0) = true ∧ r = false) ∨ (decide (a0 < 0) = false ∧ decide (64 < a0) = true ∧ r = false) ∨ (decide (a0 < 0) = false ∧ decide (64 < a0) = false ∧ decide (64 < (l1.length : Int)) = true ∧ decide (64 < l1.length) = true ∧ r = false) ∨ (decide (a0 < 0) = false ∧ decide (64 < a0) = false ∧ decide (64 < (l1.length : Int)) = false ∧ decide (64 < l1.length) = false ∧ l1.length ≤ 64 ∧ r = !(l1.any (mbadB a0))) := by
  by_cases h1 : a0 < 0
  ·exact .inl ⟨decide_eq_true h1, by rw [← hf, decide_eq_true h1]; rfl⟩
  by_cases h2 : 64 < a0
  ·exact .inr (.inl ⟨decide_eq_false h1, decide_eq_true h2, by rw [← hf, decide_eq_true h2]; simp⟩)
  by_cases h3 : 64 < (l1.length : Int)
  ·exact .inr (.inr (.inl ⟨decide_eq_false h1, decide_eq_false h2, decide_eq_true h3, decide_eq_true (by omega), by rw [← hf, decide_eq_true h3]; simp⟩))
  ·exact .inr (.inr (.inr ⟨decide_eq_false h1, decide_eq_false h2, decide_eq_false h3, decide_eq_false (by omega), by omega, by rw [← hf, decide_eq_false h1, decide_eq_false h2, decide_eq_false h3]; simp⟩))
 clear hf
 rcases hways with ⟨h1, h4⟩ | ⟨h1, h2, h4⟩ | ⟨h1, h2, h3, h3', h4⟩ | ⟨h1, h2, h3, h3', h5, h4⟩
 iterate 3
  ·have HF := go _ h4
   clear h4 go hr1 hc1
   go_enter Tryd.func51, Tryd.ntmps51
   go_wp2
   go_ret
   exact ⟨by rw [HF.out]; rfl, by repeat (first | exact Below.refl _ _ | exact Below.alloc (Below.refl _ _) (Nat.le_refl _) _ | (refine Below.alloc ?_ (by simp) _) | apply pw_below_drewN)⟩
 ·have HF := go _ h4
  have HR := Aside0.mk hr1
  have HC := Aside0.mk hc1
  have HW := Aside0.mk h5
  clear h4 go hr1 hc1 h5
  go_enter Tryd.func51, Tryd.ntmps51
  go_wp2_with (fail)
  have hbel : Below w.heap.size w (w.alloc (Obj.cells #[Value.int IntKind.i64 a0] 3)) := (Below.refl _ _).alloc (Nat.le_refl _) _
  have hb1 : (w.alloc (Obj.cells #[Value.int IntKind.i64 a0] 3)).cell? ⟨w.heap.size, 0, none⟩ = some (.int .i64 a0) := by go_simp
  generalize (w.alloc (Obj.cells #[Value.int IntKind.i64 a0] 3)) = W1 at hbel hb1 ⊢
  refine (hasRow_c A1 c1 l1 62 #[.pointer (some ⟨w.heap.size, 0, none⟩)] (mbadB a0) W1 (Kd.C_below HR.out hbel) HC.out (by have := HW.out; omega) (enters_of Tryd.func62 (by kernel_rfl) rfl)
   (fun n x A c _ hxl hx => match_May.in1 A c x a0 (hx.2.1) _ _ (Kd.C_below hx (Drawn0.below ⟨⟨n, rfl⟩⟩)) hxl (by simpa [World.cell?_drewN] using hb1))).mono ?_
  rintro e w' ⟨rfl, ⟨q', rfl⟩⟩
  have HB := Aside0.mk hbel
  clear hbel hb1
  generalize l1.any (mbadB a0) = b at *
  go_wp2_with (fail)
  go_ret
  exact ⟨by rw [HF.out]; rfl, pw_below_drewN HB.out _⟩
end Go.Proofs.YtgbmlkmkfigolaaDoor.P
/- greenwoodref06.May, by hand. -/
namespace Go.Proofs.YtgbmlkmkfigolaaDoor.P
open Go.RowKit Go.Proofs.YtgbmlkmkfigolaaDoorW.PrintWords Go.Proofs.YtgbmlkmkfigolaaDoorW.PrintLast Go.Proofs.YtgbmlkmkfigolaaDoorW.PrintMore
set_option linter.unusedVariables false
set_option linter.unusedSimpArgs false

/-- the last number so far, as set.May keeps it -/
def lastB (l : List Int) (i : Nat) : Int := if i = 0 then -1 else rd l ((i : Int) - 1)
theorem ref02_May_l0 (l : List Int) (hn : l.length ≤ 9223372036854775807) : ∀ (d i : Nat), l.length - i = d → i ≤ l.length → (0 < i → 0 ≤ rd l ((i : Int) - 1)) → Ev (fun k => greenwoodref02_May.l0 k l (i : Int)) (incB (lastB l i) (l.drop i)) := by
 intro d
 induction d with
 | zero =>
  intro i h1 h2 h3
  refine Ev.step (fun k => by rw [greenwoodref02_May.l0]) ?_
  refine Ev.ifn (by omega) (Ev.val ?_)
  rw [List.drop_of_length_le (by omega)]; rfl
 | succ d ih =>
  intro i h1 h2 h3
  have hi : i < l.length := by omega
  refine Ev.step (fun k => by rw [greenwoodref02_May.l0]) ?_
  refine Ev.ifp (by omega) (Ev.ifp (by omega) ?_)
  rw [rd_at hi, List.drop_eq_getElem_cons hi]
  unfold incB
  have hw : wrap64 ((i : Int) + 1) = ((i + 1 : Nat) : Int) := by unfold wrap64; omega
  have hl1 : lastB l (i + 1) = l[i] := by
   unfold lastB
   rw [if_neg (by omega), show ((i + 1 : Nat) : Int) - 1 = (i : Int) by omega, rd_at hi]
  by_cases h4 : l[i] < 0
  ·refine Ev.ifp h4 (Ev.val ?_)
   have : ¬ lastB l i < l[i] := by
    unfold lastB
    split
    ·omega
    ·have := h3 (by omega); omega
   rw [decide_eq_false this]; rfl
  refine Ev.ifn h4 ?_
  by_cases h5 : l[i] > 1099511627776
  ·refine Ev.ifp h5 (Ev.val ?_)
   rw [decide_eq_false (show ¬ l[i] ≤ 1099511627776 by omega)]; simp
  refine Ev.ifn h5 ?_
  rw [decide_eq_true (show l[i] ≤ 1099511627776 by omega), Bool.and_true]
  have hnext := ih (i + 1) (by omega) (by omega) (fun _ => by rw [show ((i + 1 : Nat) : Int) - 1 = (i : Int) by omega, rd_at hi]; omega)
  rw [hl1] at hnext
  by_cases h6 : (i : Int) > 0
  ·have hs : wrap64 ((i : Int) - 1) = (i : Int) - 1 := by unfold wrap64; omega
   rw [hs, hw]
   refine Ev.ifp h6 (Ev.ifp (by omega) (Ev.ifp (by omega) ?_))
   have hlast : lastB l i = rd l ((i : Int) - 1) := by unfold lastB; rw [if_neg (by omega)]
   rw [hlast]
   by_cases h7 : l[i] ≤ rd l ((i : Int) - 1)
   ·refine Ev.ifp h7 (Ev.val ?_)
    rw [decide_eq_false (show ¬ rd l ((i : Int) - 1) < l[i] by omega)]; rfl
   ·refine Ev.ifn h7 ?_
    rw [decide_eq_true (show rd l ((i : Int) - 1) < l[i] by omega), Bool.true_and]
    exact hnext
  ·rw [hw]
   refine Ev.ifn h6 ?_
   have hlast : lastB l i = -1 := by unfold lastB; rw [if_pos (by omega)]
   rw [hlast, decide_eq_true (show (-1 : Int) < l[i] by omega), Bool.true_and]
   exact hnext
theorem ref02_May_ev (l : List Int) (hn : l.length ≤ 9223372036854775807) : Ev (fun k => greenwoodref02_May.f k l) (mayB l) := ref02_May_l0 l hn l.length 0 rfl (Nat.zero_le _) (fun h => absurd h (Nat.lt_irrefl 0))
theorem ref02_May_now (A : Option Addr) (c : Nat) (l : List Int) (w : World) (hr : Kd.C (Kd.int .i64) w A l.length l) (hc : l.length ≤ c) (hn : l.length ≤ 9223372036854775807) :
 Calls Tryd.prog 32 #[.slice A l.length c] w fun e w' => e = .returned (.bool (mayB l)) ∧ ∃ m, w' = w.drewN m := by
 obtain ⟨k, hk⟩ := (ref02_May_ev l hn).rounds
 exact (greenwoodref02_May.calls k A c l _ w hr hc hk).mono (fun e w' (h : e = .returned (.bool (mayB l)) ∧ Drawn0 w w') => (show e = .returned (.bool (mayB l)) ∧ ∃ m, w' = w.drewN m from ⟨h.1, by obtain ⟨_, ⟨m, rfl⟩⟩ := h; exact ⟨m, rfl⟩⟩))

def refMatchB (a0 : Int) (l1 : List (List Int)) : Bool := !(l1.any (mbadB a0)) && (decide (0 ≤ a0) && decide (a0 ≤ 64) && decide (l1.length ≤ 64))
def greenwoodref06_May.f (a0 : Int) (l1 : List (List Int)) : Option Bool := some (refMatchB a0 l1)
set_option maxHeartbeats 4000000 in
set_option maxRecDepth 100000 in
theorem greenwoodref06_May.calls (a0 : Int) (A1 : Option Addr) (c1 : Nat) (l1 : List (List Int)) (r : Bool) (w : World) (hr1 : Kd.C (Kd.slice 3 (Kd.int .i64)) w A1 l1.length l1) (hc1 : l1.length ≤ c1) (h : greenwoodref06_May.f a0 l1 = some r) :
 Calls Tryd.prog 57 #[.int .i64 a0, .slice A1 l1.length c1] w fun e w' => e = .returned (.bool r) ∧ Drawn0 w w' := by
 have hf := Option.some.inj h
 clear h
 have HF := Aside0.mk hf
 have HR := Aside0.mk hr1
 have hlen : l1.length ≤ 9223372036854775807 := hr1.2.1
 have hlen2 : (l1.length : Int) ≤ 9223372036854775807 := by omega
 clear hf hr1 hc1
 go_enter Tryd.func57, Tryd.ntmps57
 go_wp2
 go_loopw [5] (fun v5 wr => ∃ i : Nat, i ≤ l1.length ∧ v5 = .int .i64 (i : Int) ∧ Drawn0 w wr ∧ Aside0 ((l1.take i).any (mbadB a0) = false)) (fun v5 _ => (l1.length - (RowKit.intOf v5).toNat))
 case atStart => exact ⟨0, Nat.zero_le _, rfl, Drawn0.refl _, ⟨rfl⟩⟩
 case round =>
  obtain ⟨i, hi, rfl, hD, HT⟩ := hrel
  have HD := Aside0.mk hD
  by_cases hlt : i < l1.length
  ·obtain ⟨ad, A0, c0, hA, hx, hl0, hR0⟩ := at_L1 HR.out (i : Int) (by omega) (by omega)
   rw [Int.toNat_natCast] at hx
   have hstep : (l1.take (i + 1)).any (mbadB a0) = ((l1.take i).any (mbadB a0) || mbadB a0 (rd_L1 l1 (i : Int))) := by
    rw [List.take_add_one, List.any_append]
    simp [rd_L1, List.getElem?_eq_getElem hlt]
   have hrest : mbadB a0 (rd_L1 l1 (i : Int)) = true → l1.any (mbadB a0) = true := by
    intro h
    refine List.any_eq_true.mpr ⟨_, ?_, h⟩
    have : rd_L1 l1 (i : Int) = l1[i] := by simp [rd_L1, List.getD_eq_getElem?_getD, List.getElem?_eq_getElem hlt]
    rw [this]; exact List.getElem_mem hlt
   have HST := Aside0.mk hstep
   have HRS := Aside0.mk hrest
   clear hstep hrest
   generalize rd_L1 l1 (i : Int) = x at *
   subst hA
   have hxl := hR0.2.1
   have hR1 := Kd.C_below hR0 (Drawn0.below hD)
   replace hx := ((Drawn0.below hD).cell (World.block_lt_of_cell? w _ hx)).trans hx
   clear hD hR0
   have hcall := fun n => ref02_May_now A0 c0 x (wr.drewN n) (Kd.C_below hR1 (Drawn0.below ⟨⟨n, rfl⟩⟩)) hl0 hxl
   have hE : ∀ b, mbadB a0 x = b → Aside0 (mbadB a0 x = b) := fun b h => ⟨h⟩
   cases hm : mayB x with
   | false =>
    rw [hm] at hcall
    have HB := hE true (by unfold mbadB; rw [hm]; rfl)
    have HCL := Aside0.mk hcall
    clear hm hcall hE hR1 hl0 hxl
    go_wp2
    repeat (go_quiet (first | (go_at_call 32; refine Calls.quiet_of (HCL.out _))); try go_wp2)
    go_ret
    exact ⟨by rw [← HF.out]; unfold refMatchB; rw [HRS.out HB.out]; rfl, by repeat (first | exact HD.out | exact Drawn0.refl _ | apply Drawn0.step)⟩
   | true =>
    rw [hm] at hcall
    have HCL := Aside0.mk hcall
    by_cases h0 : 0 < (x.length : Int)
    ·have h0b : decide (0 < (x.length : Int)) = true := decide_eq_true h0
     have h0c : decide (0 < x.length) = true := decide_eq_true (by omega)
     have h0d : 0 < x.length := by omega
     obtain ⟨ad2, hA2, hy⟩ := Kd.at_int hR1 ((x.length : Int) - 1) (by omega) (by omega)
     rw [show ((x.length : Int) - 1).toNat = x.length - 1 by omega] at hy
     have hlast : wrap64 ((x.length : Int) - 1) = (x.length : Int) - 1 := by unfold wrap64; omega
     have hi0 : (0 : Int) ≤ (x.length : Int) - 1 := by omega
     have hi1 : (x.length : Int) - 1 < (x.length : Int) := by omega
     have hb0 : (x.length : Int) ≤ 9223372036854775807 := by omega
     have hcases : (decide (a0 ≤ rd x ((x.length : Int) - 1)) = true ∧ mbadB a0 x = true) ∨ (decide (a0 ≤ rd x ((x.length : Int) - 1)) = false ∧ mbadB a0 x = false) := by
      unfold mbadB
      rw [hm, h0b]
      by_cases h2 : a0 ≤ rd x ((x.length : Int) - 1)
      ·exact .inl ⟨decide_eq_true h2, by rw [decide_eq_true h2]; rfl⟩
      ·exact .inr ⟨decide_eq_false h2, by rw [decide_eq_false h2]; rfl⟩
     generalize rd x ((x.length : Int) - 1) = y at *
     subst hA2
     clear hm hcall hR1 hl0 hxl h0
     rcases hcases with ⟨h2, h3⟩ | ⟨h2, h3⟩
     ·have HB := hE _ h3
      clear h3 hE
      go_wp2
      repeat (go_quiet (first | (go_at_call 32; refine Calls.quiet_of (HCL.out _))); try go_wp2)
      go_ret
      exact ⟨by rw [← HF.out]; unfold refMatchB; rw [HRS.out HB.out]; rfl, by repeat (first | exact HD.out | exact Drawn0.refl _ | apply Drawn0.step)⟩
     ·have HB := hE _ h3
      clear h3 hE
      go_wp2
      repeat (go_quiet (first | (go_at_call 32; refine Calls.quiet_of (HCL.out _))); try go_wp2)
      go_roundw
      case rel => exact ⟨i + 1, by omega, by go_num, by repeat (first | exact HD.out | exact Drawn0.refl _ | apply Drawn0.step), ⟨by rw [HST.out, HT.out, HB.out]; rfl⟩⟩
      case measure => simp [RowKit.intOf]; omega
    ·have h0b : decide (0 < (x.length : Int)) = false := decide_eq_false h0
     have h0c : decide (0 < x.length) = false := decide_eq_false (by omega)
     have HB := hE false (by unfold mbadB; rw [hm, h0b]; rfl)
     clear hm hcall hR1 hl0 hxl h0 hE
     go_wp2
     repeat (go_quiet (first | (go_at_call 32; refine Calls.quiet_of (HCL.out _))); try go_wp2)
     go_roundw
     case rel => exact ⟨i + 1, by omega, by go_num, by repeat (first | exact HD.out | exact Drawn0.refl _ | apply Drawn0.step), ⟨by rw [HST.out, HT.out, HB.out]; rfl⟩⟩
     case measure => simp [RowKit.intOf]; omega
  ·have hie : i = l1.length := by omega
   subst hie
   have hno : l1.any (mbadB a0) = false := by have := HT.out; rwa [List.take_length] at this
   have hways : ∃ b, r = b ∧ ((decide (0 ≤ a0) = false ∧ b = false) ∨ (decide (0 ≤ a0) = true ∧ decide (a0 ≤ 64) = false ∧ b = false) ∨ (decide (0 ≤ a0) = true ∧ decide (a0 ≤ 64) = true ∧ decide (l1.length ≤ 64) = b ∧ decide ((l1.length : Int) ≤ 64) = b)) := by
    refine ⟨_, rfl, ?_⟩
    rw [← HF.out]
    unfold refMatchB
    rw [hno]
    by_cases h1 : 0 ≤ a0
    ·by_cases h2 : a0 ≤ 64
     ·refine .inr (.inr ⟨decide_eq_true h1, decide_eq_true h2, ?_, ?_⟩)
      ·rw [decide_eq_true h1, decide_eq_true h2]; simp
      ·rw [decide_eq_true h1, decide_eq_true h2]
       by_cases h3 : l1.length ≤ 64
       ·rw [decide_eq_true h3, decide_eq_true (by omega)]; rfl
       ·rw [decide_eq_false h3, decide_eq_false (by omega)]; rfl
     ·exact .inr (.inl ⟨decide_eq_true h1, decide_eq_false h2, by rw [decide_eq_false h2]; simp⟩)
    ·exact .inl ⟨decide_eq_false h1, by rw [decide_eq_false h1]; simp⟩
   obtain ⟨b, rfl, hways⟩ := hways
   clear hno hlt hi HF hD HT
   rcases hways with ⟨h1, rfl⟩ | ⟨h1, h2, rfl⟩ | ⟨h1, h2, h3, h4⟩
   all_goals
    go_wp2
    go_ret
    exact ⟨by simp [*], by repeat (first | exact HD.out | exact Drawn0.refl _ | apply Drawn0.step)⟩
end Go.Proofs.YtgbmlkmkfigolaaDoor.P
namespace Go.Proofs.YtgbmlkmkfigolaaDoor.P
open Go.RowKit Go.Proofs.YtgbmlkmkfigolaaDoorW.PrintWords Go.Proofs.YtgbmlkmkfigolaaDoorW.PrintLast Go.Proofs.YtgbmlkmkfigolaaDoorW.PrintMore
attribute [local go_sem] max2_int min2_int max_two min_two max_three min_three max_four min_four   -- for this text's walks alone
set_option linter.unusedVariables false
set_option linter.unusedSimpArgs false

/-! ### greenwoodref04_Prime: function 66 -/
mutual
def greenwoodref04_Prime.j0 : Nat → Int → Bool → Option (Bool)
 | 0, _, _ => none
 | k + 1, x0, x9 => if x9 = true then (some false) else (greenwoodref04_Prime.l0 k x0 2)
def greenwoodref04_Prime.l0 : Nat → Int → Int → Option (Bool)
 | 0, _, _ => none
 | k + 1, x0, x3 => if (wrap64 (x3 * x3)) ≤ x0 then (if x3 = 0 then (none) else (if (Int.tmod x0 x3) = 0 then (some false) else (greenwoodref04_Prime.l0 k x0 (wrap64 (x3 + 1))))) else (some true)
end
def greenwoodref04_Prime.f (k : Nat) (a0 : Int) : Option (Bool) := if a0 < 2 then (greenwoodref04_Prime.j0 k a0 true) else (greenwoodref04_Prime.j0 k a0 (decide (a0 > 2147483647)))
theorem greenwoodref04_Prime.mono_l : ∀ k, (∀ y0 y1, LeO (greenwoodref04_Prime.j0 k y0 y1) (greenwoodref04_Prime.j0 (k + 1) y0 y1)) ∧ (∀ y0 y1, LeO (greenwoodref04_Prime.l0 k y0 y1) (greenwoodref04_Prime.l0 (k + 1) y0 y1))
 | 0 => ⟨fun _ _ r h => by simp [greenwoodref04_Prime.j0] at h, fun _ _ r h => by simp [greenwoodref04_Prime.l0] at h⟩
 | k + 1 => by
  obtain ⟨ih0, ih1⟩ := greenwoodref04_Prime.mono_l k
  refine ⟨?_, ?_⟩
  ·intro y0 y1
   unfold greenwoodref04_Prime.j0
   repeat' first
   | (with_reducible exact ih0 _ _)
   | (with_reducible exact ih1 _ _)
   | (with_reducible exact LeO.refl _)
   | (with_reducible exact LeO.none _)
   | (with_reducible refine LeO.ite ?_ ?_)
   | (with_reducible refine LeO.bind ?_ (fun _ => ?_))
   | exact ih0 _ _
   | exact ih1 _ _
   | exact LeO.none _
   | refine LeO.ite ?_ ?_
   | refine LeO.bind ?_ (fun _ => ?_)
  ·intro y0 y1
   unfold greenwoodref04_Prime.l0
   repeat' first
   | (with_reducible exact ih0 _ _)
   | (with_reducible exact ih1 _ _)
   | (with_reducible exact LeO.refl _)
   | (with_reducible exact LeO.none _)
   | (with_reducible refine LeO.ite ?_ ?_)
   | (with_reducible refine LeO.bind ?_ (fun _ => ?_))
   | exact ih0 _ _
   | exact ih1 _ _
   | exact LeO.none _
   | refine LeO.ite ?_ ?_
   | refine LeO.bind ?_ (fun _ => ?_)
theorem greenwoodref04_Prime.mono : ∀ a0 k, LeO (greenwoodref04_Prime.f k a0) (greenwoodref04_Prime.f (k + 1) a0) := by
 intro a0 k
 obtain ⟨ih0, ih1⟩ := greenwoodref04_Prime.mono_l k
 unfold greenwoodref04_Prime.f
 repeat' first
  | (with_reducible exact ih0 _ _)
  | (with_reducible exact ih1 _ _)
  | (with_reducible exact LeO.refl _)
  | (with_reducible exact LeO.none _)
  | (with_reducible refine LeO.ite ?_ ?_)
  | (with_reducible refine LeO.bind ?_ (fun _ => ?_))
  | exact ih0 _ _
  | exact ih1 _ _
  | exact LeO.none _
  | refine LeO.ite ?_ ?_
  | refine LeO.bind ?_ (fun _ => ?_)
set_option maxHeartbeats 8000000 in
set_option maxRecDepth 100000 in
theorem greenwoodref04_Prime.calls (k : Nat) (a0 : Int) (r : Bool) (w : World) (h : greenwoodref04_Prime.f k a0 = some r) :
 Calls Tryd.prog 66 #[.int .i64 a0] w fun e w' => e = .returned (.bool r) ∧ Drawn0 w w' := by
 have H : (if a0 < 2 then (greenwoodref04_Prime.j0 k a0 true) else (greenwoodref04_Prime.j0 k a0 (decide (a0 > 2147483647)))) = some r := h
 clear h
 have HC2 := Aside0.mk H
 clear H
 go_enter Tryd.func66, Tryd.ntmps66
 go_upto_region 1 with (fail)
 go_cut [9] (fun v9 wc => ∃ (kq : Nat) (x9_1 : Bool), v9 = .bool x9_1 ∧ Aside0 (greenwoodref04_Prime.j0 kq a0 x9_1 = some r) ∧ Aside0 (kq ≤ k) ∧ Drawn0 w wc)
 case first =>
  have H := HC2.out
  clear HC2
  by_cases c3 : a0 < 2
  ·rw [if_pos c3] at H
   have c3b0 : decide (a0 < 2) = true := decide_eq_true c3
   clear c3
   (first | rw [c3b0] | (simp only [i64_w, i32_w]; rw [c3b0]) | skip)
   have H' := Aside0.mk H
   clear H
   go_wp2
   go_meet
   case rel => exact ⟨_, (true), (by first | rfl | (simp; done) | (simp [*]; done)), H', ⟨by first | omega | exact Nat.le_refl _⟩, by repeat (first | exact Drawn0.refl _ | apply Drawn0.step)⟩
  ·rw [if_neg c3] at H
   have c3b0 : decide (a0 < 2) = false := decide_eq_false c3
   clear c3
   (first | rw [c3b0] | (simp only [i64_w, i32_w]; rw [c3b0]) | skip)
   have H' := Aside0.mk H
   clear H
   go_wp2
   go_meet
   case rel => exact ⟨_, (decide (a0 > 2147483647)), (by first | rfl | (simp; done) | (simp [*]; done)), H', ⟨by first | omega | exact Nat.le_refl _⟩, by repeat (first | exact Drawn0.refl _ | apply Drawn0.step)⟩
 case rest =>
  clear HC2
  try clear p2
  try clear c3
  try clear c3b0
  obtain ⟨kq, x9_1, rfl, HA, HJ1, ⟨mc1, rfl⟩⟩ := hcut
  cases kq with
  | zero => exact absurd HA.out (by simp [greenwoodref04_Prime.j0])
  | succ kj1 =>
   have H := HA.out
   clear HA
   simp only [greenwoodref04_Prime.j0] at H
   by_cases c4 : x9_1 = true
   ·subst c4
    have H1 : (some false) = some r := by rw [if_pos rfl] at H; exact H
    clear H
    have H := H1
    clear H1
    obtain rfl := Option.some.inj H
    go_wp2
    go_ret
    exact ⟨by first | rfl | (simp; done) | (simp [*]; done), by repeat (first | exact Drawn0.refl _ | apply Drawn0.step)⟩
   ·replace c4 := Bool.eq_false_iff.mpr c4
    subst c4
    have H1 : (greenwoodref04_Prime.l0 kj1 a0 2) = some r := by rw [if_neg (show ¬ (false = true) by decide)] at H; exact H
    clear H
    have H := H1
    clear H1
    have H' := Aside0.mk H
    clear H
    go_wp2
    go_loopg [3] kj1 (fun kq v3 w' => ∃ (x3_2 : Int), v3 = .int .i64 x3_2 ∧ Aside0 (greenwoodref04_Prime.l0 kq a0 x3_2 = some r) ∧ Aside0 (kq ≤ kj1) ∧ Drawn0 w w')
    case atStart => exact ⟨(2), (by first | rfl | (simp; done) | (simp [*]; done)), H', ⟨Nat.le_refl _⟩, by repeat (first | exact Drawn0.refl _ | apply Drawn0.step)⟩
    case round =>
     clear H'
     try clear c1
     try clear p2
     try clear c3
     try clear c3b0
     try clear c4
     try clear p2
     obtain ⟨x3_2, rfl, HA, HK2, ⟨m2, rfl⟩⟩ := hrel
     cases gk with
     | zero => exact absurd HA.out (by simp [greenwoodref04_Prime.l0])
     | succ k2 =>
      have H := HA.out
      clear HA
      simp only [greenwoodref04_Prime.l0] at H
      by_cases c5 : (wrap64 (x3_2 * x3_2)) ≤ a0
      ·rw [if_pos c5] at H
       have c5b0 : decide ((wrap64 (x3_2 * x3_2)) ≤ a0) = true := decide_eq_true c5
       clear c5
       by_cases c6 : x3_2 = 0
       ·rw [if_pos c6] at H
        exact absurd H (by simp)
       ·rw [if_neg c6] at H
        have c6b0 : (x3_2 == 0) = false := beq_eq_false_iff_ne.mpr c6
        have c6b1 : (x3_2 != 0) = true := bne_iff_ne.mpr c6
        by_cases c7 : (Int.tmod a0 x3_2) = 0
        ·rw [if_pos c7] at H
         have c7b0 : ((Int.tmod a0 x3_2) == 0) = true := beq_iff_eq.mpr c7
         have c7b1 : ((Int.tmod a0 x3_2) != 0) = false := bne_eq_false_iff_eq.mpr c7
         clear c7
         obtain rfl := Option.some.inj H
         go_wp2
         go_ret
         exact ⟨by first | rfl | (simp; done) | (simp [*]; done), by repeat (first | exact Drawn0.refl _ | apply Drawn0.step)⟩
        ·rw [if_neg c7] at H
         have c7b0 : ((Int.tmod a0 x3_2) == 0) = false := beq_eq_false_iff_ne.mpr c7
         have c7b1 : ((Int.tmod a0 x3_2) != 0) = true := bne_iff_ne.mpr c7
         have H' := Aside0.mk H
         clear H
         go_wp2
         go_roundg k2
         case measure => have := HJ1.out; have := HK2.out; omega
         case rel => exact ⟨(wrap64 (x3_2 + 1)), (by first | rfl | (simp; done) | (simp [*]; done)), H', ⟨by have := HJ1.out; have := HK2.out; omega⟩, by repeat (first | exact Drawn0.refl _ | apply Drawn0.step)⟩
      ·rw [if_neg c5] at H
       have c5b0 : decide ((wrap64 (x3_2 * x3_2)) ≤ a0) = false := decide_eq_false c5
       clear c5
       obtain rfl := Option.some.inj H
       go_wp2
       go_ret
       exact ⟨by first | rfl | (simp; done) | (simp [*]; done), by repeat (first | exact Drawn0.refl _ | apply Drawn0.step)⟩
end Go.Proofs.YtgbmlkmkfigolaaDoor.P
namespace Go.Proofs.YtgbmlkmkfigolaaDoor.P
open Go.RowKit Go.Proofs.YtgbmlkmkfigolaaDoorW.PrintWords Go.Proofs.YtgbmlkmkfigolaaDoorW.PrintLast Go.Proofs.YtgbmlkmkfigolaaDoorW.PrintMore
attribute [local go_sem] max2_int min2_int max_two min_two max_three min_three max_four min_four   -- for this text's walks alone
set_option linter.unusedVariables false
set_option linter.unusedSimpArgs false

/-! ### greenwoodref05_May: function 58 -/
mutual
def greenwoodref05_May.j0 : Nat → Int → Int → List (List Int) → Bool → Option (Bool)
 | 0, _, _, _, _ => none
 | k + 1, x0, x1, x2, x24 => if x24 = true then (some false) else (greenwoodref05_May.l0 k x0 x1 x2 0)
def greenwoodref05_May.l0 : Nat → Int → Int → List (List Int) → Int → Option (Bool)
 | 0, _, _, _, _ => none
 | k + 1, x0, x1, x2, x7 => if x7 < (x2.length : Int) then (if 0 ≤ x7 then (if ((rd_L1 x2 x7).length : Int) = x1 then (greenwoodref05_May.l1 k x0 x1 x2 x7 0) else (some false)) else (none)) else (some true)
def greenwoodref05_May.l1 : Nat → Int → Int → List (List Int) → Int → Int → Option (Bool)
 | 0, _, _, _, _, _ => none
 | k + 1, x0, x1, x2, x7, x8 => if x8 < x1 then (if 0 ≤ x7 then (if x7 < (x2.length : Int) then (if 0 ≤ x8 then (if x8 < ((rd_L1 x2 x7).length : Int) then (if (rd (rd_L1 x2 x7) x8) < 0 then (some false) else (if (rd (rd_L1 x2 x7) x8) ≥ x0 then (some false) else (greenwoodref05_May.l1 k x0 x1 x2 x7 (wrap64 (x8 + 1))))) else (none)) else (none)) else (none)) else (none)) else (greenwoodref05_May.l0 k x0 x1 x2 (wrap64 (x7 + 1)))
end
def greenwoodref05_May.f (k : Nat) (a0 : Int) (a1 : Int) (l2 : List (List Int)) : Option (Bool) := (greenwoodref04_Prime.f k a0).bind fun t210 => (if t210 = true then (if a1 < 0 then (greenwoodref05_May.j0 k a0 a1 l2 true) else (if a1 > 64 then (greenwoodref05_May.j0 k a0 a1 l2 true) else (greenwoodref05_May.j0 k a0 a1 l2 (decide ((l2.length : Int) > 64))))) else (greenwoodref05_May.j0 k a0 a1 l2 true))
set_option maxHeartbeats 8000000 in
set_option maxRecDepth 100000 in
theorem greenwoodref05_May.calls (k : Nat) (a0 : Int) (a1 : Int) (A2 : Option Addr) (c2 : Nat) (l2 : List (List Int)) (r : Bool) (w : World) (hr2 : Kd.C (Kd.slice 3 (Kd.int .i64)) w A2 l2.length l2) (hc2 : l2.length ≤ c2) (h : greenwoodref05_May.f k a0 a1 l2 = some r) :
 Calls Tryd.prog 58 #[.int .i64 a0, .int .i64 a1, .slice A2 l2.length c2] w fun e w' => e = .returned (.bool r) ∧ Drawn0 w w' := by
 have HR2 := Aside0.mk hr2
 have HC2 := Aside0.mk hc2
 clear hr2 hc2
 have H : ((greenwoodref04_Prime.f k a0).bind fun t210 => (if t210 = true then (if a1 < 0 then (greenwoodref05_May.j0 k a0 a1 l2 true) else (if a1 > 64 then (greenwoodref05_May.j0 k a0 a1 l2 true) else (greenwoodref05_May.j0 k a0 a1 l2 (decide ((l2.length : Int) > 64))))) else (greenwoodref05_May.j0 k a0 a1 l2 true))) = some r := h
 clear h
 have HC4 := Aside0.mk H
 clear H
 go_enter Tryd.func58, Tryd.ntmps58
 go_upto_region 1 with (fail)
 go_cut [24] (fun v24 wc => ∃ (kq : Nat) (x24_3 : Bool), v24 = .bool x24_3 ∧ Aside0 (greenwoodref05_May.j0 kq a0 a1 l2 x24_3 = some r) ∧ Aside0 (kq ≤ k) ∧ Drawn0 w wc)
 case first =>
  have H := HC4.out
  clear HC4
  replace H := Option.bind_eq_some_iff.mp H
  obtain ⟨t210, A50, H⟩ := H
  replace H : (if t210 = true then (if a1 < 0 then (greenwoodref05_May.j0 k a0 a1 l2 true) else (if a1 > 64 then (greenwoodref05_May.j0 k a0 a1 l2 true) else (greenwoodref05_May.j0 k a0 a1 l2 (decide ((l2.length : Int) > 64))))) else (greenwoodref05_May.j0 k a0 a1 l2 true)) = some r := H
  have A5 := Aside0.mk A50
  clear A50
  by_cases c6 : t210 = true
  ·subst c6
   have H1 : (if a1 < 0 then (greenwoodref05_May.j0 k a0 a1 l2 true) else (if a1 > 64 then (greenwoodref05_May.j0 k a0 a1 l2 true) else (greenwoodref05_May.j0 k a0 a1 l2 (decide ((l2.length : Int) > 64))))) = some r := by rw [if_pos rfl] at H; exact H
   clear H
   have H := H1
   clear H1
   by_cases c7 : a1 < 0
   ·rw [if_pos c7] at H
    have c7b0 : decide (a1 < 0) = true := decide_eq_true c7
    clear c7
    (first | rw [c7b0] | (simp only [i64_w, i32_w]; rw [c7b0]) | skip)
    have H' := Aside0.mk H
    clear H
    go_wp2_with (first | ((with_reducible refine gate_callee (f := 66) rfl ?_); refine goesL_ (some 10) rfl rfl Tryd.func66 (by kernel_rfl) rfl #[.int .i64 a0] rfl (by (try simp only [List.map_toArray, List.map_cons, List.map_nil]); first | done | rfl | (simp only [List.length_drop, List.length_take]; rfl)) ?_; (with_reducible refine (greenwoodref04_Prime.calls k a0 true _ A5.out).mono ?_); rintro e w' ⟨rfl, ⟨nd, rfl⟩⟩; refine ⟨_, rfl, ?_⟩))
    go_meet
    case rel => exact ⟨_, (true), (by first | rfl | (simp; done) | (simp [*]; done)), H', ⟨by first | omega | exact Nat.le_refl _⟩, by repeat (first | exact Drawn0.refl _ | apply Drawn0.step)⟩
   ·rw [if_neg c7] at H
    have c7b0 : decide (a1 < 0) = false := decide_eq_false c7
    clear c7
    (first | rw [c7b0] | (simp only [i64_w, i32_w]; rw [c7b0]) | skip)
    by_cases c8 : a1 > 64
    ·rw [if_pos c8] at H
     have c8b0 : decide (64 < a1) = true := decide_eq_true c8
     clear c8
     have H' := Aside0.mk H
     clear H
     go_wp2_with (first | ((with_reducible refine gate_callee (f := 66) rfl ?_); refine goesL_ (some 10) rfl rfl Tryd.func66 (by kernel_rfl) rfl #[.int .i64 a0] rfl (by (try simp only [List.map_toArray, List.map_cons, List.map_nil]); first | done | rfl | (simp only [List.length_drop, List.length_take]; rfl)) ?_; (with_reducible refine (greenwoodref04_Prime.calls k a0 true _ A5.out).mono ?_); rintro e w' ⟨rfl, ⟨nd, rfl⟩⟩; refine ⟨_, rfl, ?_⟩))
     go_meet
     case rel => exact ⟨_, (true), (by first | rfl | (simp; done) | (simp [*]; done)), H', ⟨by first | omega | exact Nat.le_refl _⟩, by repeat (first | exact Drawn0.refl _ | apply Drawn0.step)⟩
    ·rw [if_neg c8] at H
     have c8b0 : decide (64 < a1) = false := decide_eq_false c8
     clear c8
     have H' := Aside0.mk H
     clear H
     go_wp2_with (first | ((with_reducible refine gate_callee (f := 66) rfl ?_); refine goesL_ (some 10) rfl rfl Tryd.func66 (by kernel_rfl) rfl #[.int .i64 a0] rfl (by (try simp only [List.map_toArray, List.map_cons, List.map_nil]); first | done | rfl | (simp only [List.length_drop, List.length_take]; rfl)) ?_; (with_reducible refine (greenwoodref04_Prime.calls k a0 true _ A5.out).mono ?_); rintro e w' ⟨rfl, ⟨nd, rfl⟩⟩; refine ⟨_, rfl, ?_⟩))
     go_meet
     case rel => exact ⟨_, (decide ((l2.length : Int) > 64)), (by first | rfl | (simp; done) | (simp [*]; done)), H', ⟨by first | omega | exact Nat.le_refl _⟩, by repeat (first | exact Drawn0.refl _ | apply Drawn0.step)⟩
  ·replace c6 := Bool.eq_false_iff.mpr c6
   subst c6
   have H1 : (greenwoodref05_May.j0 k a0 a1 l2 true) = some r := by rw [if_neg (show ¬ (false = true) by decide)] at H; exact H
   clear H
   have H := H1
   clear H1
   have H' := Aside0.mk H
   clear H
   go_wp2_with (first | ((with_reducible refine gate_callee (f := 66) rfl ?_); refine goesL_ (some 10) rfl rfl Tryd.func66 (by kernel_rfl) rfl #[.int .i64 a0] rfl (by (try simp only [List.map_toArray, List.map_cons, List.map_nil]); first | done | rfl | (simp only [List.length_drop, List.length_take]; rfl)) ?_; (with_reducible refine (greenwoodref04_Prime.calls k a0 false _ A5.out).mono ?_); rintro e w' ⟨rfl, ⟨nd, rfl⟩⟩; refine ⟨_, rfl, ?_⟩))
   go_meet
   case rel => exact ⟨_, (true), (by first | rfl | (simp; done) | (simp [*]; done)), H', ⟨by first | omega | exact Nat.le_refl _⟩, by repeat (first | exact Drawn0.refl _ | apply Drawn0.step)⟩
 case rest =>
  clear HC4
  try clear c2
  try clear p2
  try clear c5
  try clear c6
  try clear c7
  try clear c7b0
  try clear c8
  try clear c8b0
  obtain ⟨kq, x24_3, rfl, HA, HJ3, ⟨mc3, rfl⟩⟩ := hcut
  cases kq with
  | zero => exact absurd HA.out (by simp [greenwoodref05_May.j0])
  | succ kj3 =>
   have H := HA.out
   clear HA
   simp only [greenwoodref05_May.j0] at H
   by_cases c9 : x24_3 = true
   ·subst c9
    have H1 : (some false) = some r := by rw [if_pos rfl] at H; exact H
    clear H
    have H := H1
    clear H1
    obtain rfl := Option.some.inj H
    go_wp2
    go_ret
    exact ⟨by first | rfl | (simp; done) | (simp [*]; done), by repeat (first | exact Drawn0.refl _ | apply Drawn0.step)⟩
   ·replace c9 := Bool.eq_false_iff.mpr c9
    subst c9
    have H1 : (greenwoodref05_May.l0 kj3 a0 a1 l2 0) = some r := by rw [if_neg (show ¬ (false = true) by decide)] at H; exact H
    clear H
    have H := H1
    clear H1
    have H' := Aside0.mk H
    clear H
    go_wp2
    go_loopg [7] kj3 (fun kq v7 w' => ∃ (x7_2 : Int), v7 = .int .i64 x7_2 ∧ Aside0 (greenwoodref05_May.l0 kq a0 a1 l2 x7_2 = some r) ∧ Aside0 (kq ≤ kj3) ∧ Drawn0 w w')
    case atStart => exact ⟨(0), (by first | rfl | (simp; done) | (simp [*]; done)), H', ⟨Nat.le_refl _⟩, by repeat (first | exact Drawn0.refl _ | apply Drawn0.step)⟩
    case round =>
     clear H'
     try clear c2
     try clear p2
     try clear c3
     try clear c5
     try clear c6
     try clear c7
     try clear c7b0
     try clear c8
     try clear c8b0
     try clear c9
     try clear p2
     obtain ⟨x7_2, rfl, HA, HK2, ⟨m2, rfl⟩⟩ := hrel
     cases gk with
     | zero => exact absurd HA.out (by simp [greenwoodref05_May.l0])
     | succ k2 =>
      have H := HA.out
      clear HA
      simp only [greenwoodref05_May.l0] at H
      by_cases c10 : x7_2 < (l2.length : Int)
      ·rw [if_pos c10] at H
       have c10b0 : decide (x7_2 < (l2.length : Int)) = true := decide_eq_true c10
       clear c10
       by_cases c11 : 0 ≤ x7_2
       ·rw [if_pos c11] at H
        have c11b0 : decide (0 ≤ x7_2) = true := decide_eq_true c11
        clear c11
        by_cases c12 : ((rd_L1 l2 x7_2).length : Int) = a1
        ·rw [if_pos c12] at H
         have c12b0 : (((rd_L1 l2 x7_2).length : Int) == a1) = true := beq_iff_eq.mpr c12
         have c12b1 : (((rd_L1 l2 x7_2).length : Int) != a1) = false := bne_eq_false_iff_eq.mpr c12
         clear c12
         have H' := Aside0.mk H
         clear H
         have p211 : 0 ≤ (x7_2 : Int) := of_decide_eq_true (by first | (with_reducible assumption) | assumption)
         have q211 : x7_2 < (l2.length : Int) := of_decide_eq_true (by first | (with_reducible assumption) | assumption)
         obtain ⟨ad211, A211_0, c211_0, e211, hx211_0, hl211_0, hi211_0⟩ := at_L1 HR2.out x7_2 p211 q211
         cases e211
         have HR211_0 := Aside0.mk hi211_0
         have HC211_0 := Aside0.mk hl211_0
         clear hi211_0 hl211_0
         replace p211 := eq_true p211
         replace q211 := eq_true q211
         go_wp2
         go_loopg [8] k2 (fun kq v8 w' => ∃ (x8_3 : Int), v8 = .int .i64 x8_3 ∧ Aside0 (greenwoodref05_May.l1 kq a0 a1 l2 x7_2 x8_3 = some r) ∧ Aside0 (kq ≤ k2) ∧ Drawn0 w w')
         case atStart => exact ⟨(0), (by first | rfl | (simp; done) | (simp [*]; done)), H', ⟨Nat.le_refl _⟩, by repeat (first | exact Drawn0.refl _ | apply Drawn0.step)⟩
         case round =>
          clear H'
          try clear c1
          try clear c2
          try clear p2
          try clear q2
          try clear hx2
          try clear c3
          try clear c5
          try clear c6
          try clear c7
          try clear c7b0
          try clear c8
          try clear c8b0
          try clear c9
          try clear c10
          try clear c10b0
          try clear c11
          try clear c11b0
          try clear c12
          try clear c12b0
          try clear c12b1
          try clear hx211_0
          try clear p2
          try clear p211
          try clear q211
          obtain ⟨x8_3, rfl, HA, HK3, ⟨m3, rfl⟩⟩ := hrel
          cases gk with
          | zero => exact absurd HA.out (by simp [greenwoodref05_May.l1])
          | succ k3 =>
           have H := HA.out
           clear HA
           simp only [greenwoodref05_May.l1] at H
           by_cases c13 : x8_3 < a1
           ·rw [if_pos c13] at H
            have c13b0 : decide (x8_3 < a1) = true := decide_eq_true c13
            clear c13
            by_cases c14 : 0 ≤ x7_2
            ·rw [if_pos c14] at H
             have c14b0 : decide (0 ≤ x7_2) = true := decide_eq_true c14
             clear c14
             by_cases c15 : x7_2 < (l2.length : Int)
             ·rw [if_pos c15] at H
              have c15b0 : decide (x7_2 < (l2.length : Int)) = true := decide_eq_true c15
              clear c15
              by_cases c16 : 0 ≤ x8_3
              ·rw [if_pos c16] at H
               have c16b0 : decide (0 ≤ x8_3) = true := decide_eq_true c16
               clear c16
               by_cases c17 : x8_3 < ((rd_L1 l2 x7_2).length : Int)
               ·rw [if_pos c17] at H
                have c17b0 : decide (x8_3 < ((rd_L1 l2 x7_2).length : Int)) = true := decide_eq_true c17
                clear c17
                by_cases c18 : (rd (rd_L1 l2 x7_2) x8_3) < 0
                ·rw [if_pos c18] at H
                 have c18b0 : decide ((rd (rd_L1 l2 x7_2) x8_3) < 0) = true := decide_eq_true c18
                 clear c18
                 obtain rfl := Option.some.inj H
                 have p212 : 0 ≤ (x7_2 : Int) := of_decide_eq_true (by first | (with_reducible assumption) | assumption)
                 have q212 : x7_2 < (l2.length : Int) := of_decide_eq_true (by first | (with_reducible assumption) | assumption)
                 obtain ⟨ad212, A212_0, c212_0, e212, hx212_0, hl212_0, hi212_0⟩ := at_L1 HR2.out x7_2 p212 q212
                 obtain rfl : ad211 = ad212 := (by injection e212)
                 have HR212_0 := Aside0.mk hi212_0
                 have HC212_0 := Aside0.mk hl212_0
                 clear hi212_0 hl212_0
                 replace p212 := eq_true p212
                 replace q212 := eq_true q212
                 have p213 : 0 ≤ (x8_3 : Int) := of_decide_eq_true (by first | (with_reducible assumption) | assumption)
                 have q213 : x8_3 < ((rd_L1 l2 x7_2).length : Int) := of_decide_eq_true (by first | (with_reducible assumption) | assumption)
                 obtain ⟨ad213, e213, hx213_0⟩ := Kd.at_int HR212_0.out x8_3 p213 q213
                 cases e213
                 replace p213 := eq_true p213
                 replace q213 := eq_true q213
                 go_wp2
                 go_ret
                 exact ⟨by first | rfl | (simp; done) | (simp [*]; done), by repeat (first | exact Drawn0.refl _ | apply Drawn0.step)⟩
                ·rw [if_neg c18] at H
                 have c18b0 : decide ((rd (rd_L1 l2 x7_2) x8_3) < 0) = false := decide_eq_false c18
                 clear c18
                 by_cases c19 : (rd (rd_L1 l2 x7_2) x8_3) ≥ a0
                 ·rw [if_pos c19] at H
                  have c19b0 : decide (a0 ≤ (rd (rd_L1 l2 x7_2) x8_3)) = true := decide_eq_true c19
                  clear c19
                  obtain rfl := Option.some.inj H
                  have p212 : 0 ≤ (x7_2 : Int) := of_decide_eq_true (by first | (with_reducible assumption) | assumption)
                  have q212 : x7_2 < (l2.length : Int) := of_decide_eq_true (by first | (with_reducible assumption) | assumption)
                  obtain ⟨ad212, A212_0, c212_0, e212, hx212_0, hl212_0, hi212_0⟩ := at_L1 HR2.out x7_2 p212 q212
                  obtain rfl : ad211 = ad212 := (by injection e212)
                  have HR212_0 := Aside0.mk hi212_0
                  have HC212_0 := Aside0.mk hl212_0
                  clear hi212_0 hl212_0
                  replace p212 := eq_true p212
                  replace q212 := eq_true q212
                  have p213 : 0 ≤ (x8_3 : Int) := of_decide_eq_true (by first | (with_reducible assumption) | assumption)
                  have q213 : x8_3 < ((rd_L1 l2 x7_2).length : Int) := of_decide_eq_true (by first | (with_reducible assumption) | assumption)
                  obtain ⟨ad213, e213, hx213_0⟩ := Kd.at_int HR212_0.out x8_3 p213 q213
                  cases e213
                  replace p213 := eq_true p213
                  replace q213 := eq_true q213
                  have p214 : 0 ≤ (x7_2 : Int) := of_decide_eq_true (by first | (with_reducible assumption) | assumption)
                  have q214 : x7_2 < (l2.length : Int) := of_decide_eq_true (by first | (with_reducible assumption) | assumption)
                  obtain ⟨ad214, A214_0, c214_0, e214, hx214_0, hl214_0, hi214_0⟩ := at_L1 HR2.out x7_2 p214 q214
                  obtain rfl : ad211 = ad214 := (by injection e214)
                  have HR214_0 := Aside0.mk hi214_0
                  have HC214_0 := Aside0.mk hl214_0
                  clear hi214_0 hl214_0
                  replace p214 := eq_true p214
                  replace q214 := eq_true q214
                  have ea_ := Option.some.inj (hx212_0.symm.trans hx214_0)
                  injection ea_ with ea_ en_ ec_
                  subst ea_
                  subst ec_
                  clear en_
                  have p215 : 0 ≤ (x8_3 : Int) := of_decide_eq_true (by first | (with_reducible assumption) | assumption)
                  have q215 : x8_3 < ((rd_L1 l2 x7_2).length : Int) := of_decide_eq_true (by first | (with_reducible assumption) | assumption)
                  obtain ⟨ad215, e215, hx215_0⟩ := Kd.at_int HR214_0.out x8_3 p215 q215
                  cases e215
                  replace p215 := eq_true p215
                  replace q215 := eq_true q215
                  go_wp2
                  go_ret
                  exact ⟨by first | rfl | (simp; done) | (simp [*]; done), by repeat (first | exact Drawn0.refl _ | apply Drawn0.step)⟩
                 ·rw [if_neg c19] at H
                  have c19b0 : decide (a0 ≤ (rd (rd_L1 l2 x7_2) x8_3)) = false := decide_eq_false c19
                  clear c19
                  have H' := Aside0.mk H
                  clear H
                  have p212 : 0 ≤ (x7_2 : Int) := of_decide_eq_true (by first | (with_reducible assumption) | assumption)
                  have q212 : x7_2 < (l2.length : Int) := of_decide_eq_true (by first | (with_reducible assumption) | assumption)
                  obtain ⟨ad212, A212_0, c212_0, e212, hx212_0, hl212_0, hi212_0⟩ := at_L1 HR2.out x7_2 p212 q212
                  obtain rfl : ad211 = ad212 := (by injection e212)
                  have HR212_0 := Aside0.mk hi212_0
                  have HC212_0 := Aside0.mk hl212_0
                  clear hi212_0 hl212_0
                  replace p212 := eq_true p212
                  replace q212 := eq_true q212
                  have p213 : 0 ≤ (x8_3 : Int) := of_decide_eq_true (by first | (with_reducible assumption) | assumption)
                  have q213 : x8_3 < ((rd_L1 l2 x7_2).length : Int) := of_decide_eq_true (by first | (with_reducible assumption) | assumption)
                  obtain ⟨ad213, e213, hx213_0⟩ := Kd.at_int HR212_0.out x8_3 p213 q213
                  cases e213
                  replace p213 := eq_true p213
                  replace q213 := eq_true q213
                  have p214 : 0 ≤ (x7_2 : Int) := of_decide_eq_true (by first | (with_reducible assumption) | assumption)
                  have q214 : x7_2 < (l2.length : Int) := of_decide_eq_true (by first | (with_reducible assumption) | assumption)
                  obtain ⟨ad214, A214_0, c214_0, e214, hx214_0, hl214_0, hi214_0⟩ := at_L1 HR2.out x7_2 p214 q214
                  obtain rfl : ad211 = ad214 := (by injection e214)
                  have HR214_0 := Aside0.mk hi214_0
                  have HC214_0 := Aside0.mk hl214_0
                  clear hi214_0 hl214_0
                  replace p214 := eq_true p214
                  replace q214 := eq_true q214
                  have ea_ := Option.some.inj (hx212_0.symm.trans hx214_0)
                  injection ea_ with ea_ en_ ec_
                  subst ea_
                  subst ec_
                  clear en_
                  have p215 : 0 ≤ (x8_3 : Int) := of_decide_eq_true (by first | (with_reducible assumption) | assumption)
                  have q215 : x8_3 < ((rd_L1 l2 x7_2).length : Int) := of_decide_eq_true (by first | (with_reducible assumption) | assumption)
                  obtain ⟨ad215, e215, hx215_0⟩ := Kd.at_int HR214_0.out x8_3 p215 q215
                  cases e215
                  replace p215 := eq_true p215
                  replace q215 := eq_true q215
                  go_wp2
                  go_roundg k3
                  case measure => have := HJ3.out; have := HK2.out; have := HK3.out; omega
                  case rel => exact ⟨(wrap64 (x8_3 + 1)), (by first | rfl | (simp; done) | (simp [*]; done)), H', ⟨by have := HJ3.out; have := HK2.out; have := HK3.out; omega⟩, by repeat (first | exact Drawn0.refl _ | apply Drawn0.step)⟩
               ·rw [if_neg c17] at H
                exact absurd H (by simp)
              ·rw [if_neg c16] at H
               exact absurd H (by simp)
             ·rw [if_neg c15] at H
              exact absurd H (by simp)
            ·rw [if_neg c14] at H
             exact absurd H (by simp)
           ·rw [if_neg c13] at H
            have c13b0 : decide (x8_3 < a1) = false := decide_eq_false c13
            clear c13
            have H' := Aside0.mk H
            clear H
            go_wp2
            go_roundg k3
            case measure => have := HJ3.out; have := HK2.out; have := HK3.out; omega
            case rel => exact ⟨(wrap64 (x7_2 + 1)), (by first | rfl | (simp; done) | (simp [*]; done)), H', ⟨by have := HJ3.out; have := HK2.out; have := HK3.out; omega⟩, by repeat (first | exact Drawn0.refl _ | apply Drawn0.step)⟩
        ·rw [if_neg c12] at H
         have c12b0 : (((rd_L1 l2 x7_2).length : Int) == a1) = false := beq_eq_false_iff_ne.mpr c12
         have c12b1 : (((rd_L1 l2 x7_2).length : Int) != a1) = true := bne_iff_ne.mpr c12
         obtain rfl := Option.some.inj H
         have p211 : 0 ≤ (x7_2 : Int) := of_decide_eq_true (by first | (with_reducible assumption) | assumption)
         have q211 : x7_2 < (l2.length : Int) := of_decide_eq_true (by first | (with_reducible assumption) | assumption)
         obtain ⟨ad211, A211_0, c211_0, e211, hx211_0, hl211_0, hi211_0⟩ := at_L1 HR2.out x7_2 p211 q211
         cases e211
         have HR211_0 := Aside0.mk hi211_0
         have HC211_0 := Aside0.mk hl211_0
         clear hi211_0 hl211_0
         replace p211 := eq_true p211
         replace q211 := eq_true q211
         go_wp2
         go_ret
         exact ⟨by first | rfl | (simp; done) | (simp [*]; done), by repeat (first | exact Drawn0.refl _ | apply Drawn0.step)⟩
       ·rw [if_neg c11] at H
        exact absurd H (by simp)
      ·rw [if_neg c10] at H
       have c10b0 : decide (x7_2 < (l2.length : Int)) = false := decide_eq_false c10
       clear c10
       obtain rfl := Option.some.inj H
       go_wp2
       go_ret
       exact ⟨by first | rfl | (simp; done) | (simp [*]; done), by repeat (first | exact Drawn0.refl _ | apply Drawn0.step)⟩

end Go.Proofs.YtgbmlkmkfigolaaDoor.P
namespace Go.Proofs.YtgbmlkmkfigolaaDoor.P
open Go.RowKit Go.Proofs.YtgbmlkmkfigolaaDoorW.PrintWords Go.Proofs.YtgbmlkmkfigolaaDoorW.PrintLast Go.Proofs.YtgbmlkmkfigolaaDoorW.PrintMore
attribute [local go_sem] max2_int min2_int max_two min_two max_three min_three max_four min_four   -- for this text's walks alone
set_option linter.unusedVariables false
set_option linter.unusedSimpArgs false

/-! ### modp_may: function 70 -/
def modp_may.f (a0 : Int) : Option (Bool) := if a0 ≥ 1 then (some (decide (a0 ≤ 2147483647))) else (some false)
set_option maxHeartbeats 8000000 in
set_option maxRecDepth 100000 in
theorem modp_may.calls (a0 : Int) (r : Bool) (w : World) (h : modp_may.f a0 = some r) :
 Calls Tryd.prog 70 #[.int .i64 a0] w fun e w' => e = .returned (.bool r) ∧ Drawn0 w w' := by
 have H : (if a0 ≥ 1 then (some (decide (a0 ≤ 2147483647))) else (some false)) = some r := h
 clear h
 by_cases c2 : a0 ≥ 1
 ·rw [if_pos c2] at H
  have c2b0 : decide (1 ≤ a0) = true := decide_eq_true c2
  clear c2
  obtain rfl := Option.some.inj H
  go_enter Tryd.func70, Tryd.ntmps70
  go_wp2
  go_ret
  exact ⟨by first | rfl | (simp; done) | (simp [*]; done), by repeat (first | exact Drawn0.refl _ | apply Drawn0.step)⟩
 ·rw [if_neg c2] at H
  have c2b0 : decide (1 ≤ a0) = false := decide_eq_false c2
  clear c2
  obtain rfl := Option.some.inj H
  go_enter Tryd.func70, Tryd.ntmps70
  go_wp2
  go_ret
  exact ⟨by first | rfl | (simp; done) | (simp [*]; done), by repeat (first | exact Drawn0.refl _ | apply Drawn0.step)⟩

/-! ### modp_Mod: function 71 -/
def modp_Mod.f (a0 : Int) (a1 : Int) : Option (Int) := (modp_may.f a1).bind fun t115 => (if t115 = true then (if a1 = 0 then (none) else (if (Int.tmod a0 a1) < 0 then (some (wrap64 ((Int.tmod a0 a1) + a1))) else (some (Int.tmod a0 a1)))) else (some 0))
set_option maxHeartbeats 8000000 in
set_option maxRecDepth 100000 in
theorem modp_Mod.calls (a0 : Int) (a1 : Int) (r : Int) (w : World) (h : modp_Mod.f a0 a1 = some r) :
 Calls Tryd.prog 71 #[.int .i64 a0, .int .i64 a1] w fun e w' => e = .returned (.int .i64 r) ∧ Drawn0 w w' := by
 have H : ((modp_may.f a1).bind fun t115 => (if t115 = true then (if a1 = 0 then (none) else (if (Int.tmod a0 a1) < 0 then (some (wrap64 ((Int.tmod a0 a1) + a1))) else (some (Int.tmod a0 a1)))) else (some 0))) = some r := h
 clear h
 replace H := Option.bind_eq_some_iff.mp H
 obtain ⟨t115, A30, H⟩ := H
 replace H : (if t115 = true then (if a1 = 0 then (none) else (if (Int.tmod a0 a1) < 0 then (some (wrap64 ((Int.tmod a0 a1) + a1))) else (some (Int.tmod a0 a1)))) else (some 0)) = some r := H
 have A3 := Aside0.mk A30
 clear A30
 by_cases c4 : t115 = true
 ·subst c4
  have H1 : (if a1 = 0 then (none) else (if (Int.tmod a0 a1) < 0 then (some (wrap64 ((Int.tmod a0 a1) + a1))) else (some (Int.tmod a0 a1)))) = some r := by rw [if_pos rfl] at H; exact H
  clear H
  have H := H1
  clear H1
  by_cases c5 : a1 = 0
  ·rw [if_pos c5] at H
   exact absurd H (by simp)
  ·rw [if_neg c5] at H
   have c5b0 : (a1 == 0) = false := beq_eq_false_iff_ne.mpr c5
   have c5b1 : (a1 != 0) = true := bne_iff_ne.mpr c5
   by_cases c6 : (Int.tmod a0 a1) < 0
   ·rw [if_pos c6] at H
    have c6b0 : decide ((Int.tmod a0 a1) < 0) = true := decide_eq_true c6
    clear c6
    obtain rfl := Option.some.inj H
    go_enter Tryd.func71, Tryd.ntmps71
    go_wp2_with (first | ((with_reducible refine gate_callee (f := 70) rfl ?_); refine goesL_ (some 6) rfl rfl Tryd.func70 (by kernel_rfl) rfl #[.int .i64 a1] rfl (by (try simp only [List.map_toArray, List.map_cons, List.map_nil]); first | done | rfl | (simp only [List.length_drop, List.length_take]; rfl)) ?_; (with_reducible refine (modp_may.calls a1 true _ A3.out).mono ?_); rintro e w' ⟨rfl, ⟨nd, rfl⟩⟩; refine ⟨_, rfl, ?_⟩))
    go_ret
    exact ⟨by first | rfl | (simp; done) | (simp [*]; done), by repeat (first | exact Drawn0.refl _ | apply Drawn0.step)⟩
   ·rw [if_neg c6] at H
    have c6b0 : decide ((Int.tmod a0 a1) < 0) = false := decide_eq_false c6
    clear c6
    obtain rfl := Option.some.inj H
    go_enter Tryd.func71, Tryd.ntmps71
    go_wp2_with (first | ((with_reducible refine gate_callee (f := 70) rfl ?_); refine goesL_ (some 6) rfl rfl Tryd.func70 (by kernel_rfl) rfl #[.int .i64 a1] rfl (by (try simp only [List.map_toArray, List.map_cons, List.map_nil]); first | done | rfl | (simp only [List.length_drop, List.length_take]; rfl)) ?_; (with_reducible refine (modp_may.calls a1 true _ A3.out).mono ?_); rintro e w' ⟨rfl, ⟨nd, rfl⟩⟩; refine ⟨_, rfl, ?_⟩))
    go_ret
    exact ⟨by first | rfl | (simp; done) | (simp [*]; done), by repeat (first | exact Drawn0.refl _ | apply Drawn0.step)⟩
 ·replace c4 := Bool.eq_false_iff.mpr c4
  subst c4
  have H1 : (some 0) = some r := by rw [if_neg (show ¬ (false = true) by decide)] at H; exact H
  clear H
  have H := H1
  clear H1
  obtain rfl := Option.some.inj H
  go_enter Tryd.func71, Tryd.ntmps71
  go_wp2_with (first | ((with_reducible refine gate_callee (f := 70) rfl ?_); refine goesL_ (some 6) rfl rfl Tryd.func70 (by kernel_rfl) rfl #[.int .i64 a1] rfl (by (try simp only [List.map_toArray, List.map_cons, List.map_nil]); first | done | rfl | (simp only [List.length_drop, List.length_take]; rfl)) ?_; (with_reducible refine (modp_may.calls a1 false _ A3.out).mono ?_); rintro e w' ⟨rfl, ⟨nd, rfl⟩⟩; refine ⟨_, rfl, ?_⟩))
  go_ret
  exact ⟨by first | rfl | (simp; done) | (simp [*]; done), by repeat (first | exact Drawn0.refl _ | apply Drawn0.step)⟩

/-! ### modp_Pow: function 69 -/
mutual
def modp_Pow.j0 : Nat → Int → Int → Int → Bool → Option (Int)
 | 0, _, _, _, _ => none
 | k + 1, x0, x1, x2, x14 => if x14 = true then (some 0) else ((modp_Mod.f x0 x2).bind fun t117 => ((modp_Mod.f 1 x2).bind fun t118 => (modp_Pow.l0 k t117 x1 x2 t118)))
def modp_Pow.l0 : Nat → Int → Int → Int → Int → Option (Int)
 | 0, _, _, _, _ => none
 | k + 1, x0, x1, x2, x7 => if x1 > 0 then (if (Go.bits .and .i64 x1 1) = 1 then (if x2 = 0 then (none) else (modp_Pow.l0 k (Int.tmod (wrap64 (x0 * x0)) x2) (x1 / 2) x2 (Int.tmod (wrap64 (x7 * x0)) x2))) else (if x2 = 0 then (none) else (modp_Pow.l0 k (Int.tmod (wrap64 (x0 * x0)) x2) (x1 / 2) x2 x7))) else (some x7)
end
def modp_Pow.f (k : Nat) (a0 : Int) (a1 : Int) (a2 : Int) : Option (Int) := (modp_may.f a2).bind fun t116 => (if t116 = true then (modp_Pow.j0 k a0 a1 a2 (decide (a1 < 0))) else (modp_Pow.j0 k a0 a1 a2 true))
theorem modp_Pow.mono_l : ∀ k, (∀ y0 y1 y2 y3, LeO (modp_Pow.j0 k y0 y1 y2 y3) (modp_Pow.j0 (k + 1) y0 y1 y2 y3)) ∧ (∀ y0 y1 y2 y3, LeO (modp_Pow.l0 k y0 y1 y2 y3) (modp_Pow.l0 (k + 1) y0 y1 y2 y3))
 | 0 => ⟨fun _ _ _ _ r h => by simp [modp_Pow.j0] at h, fun _ _ _ _ r h => by simp [modp_Pow.l0] at h⟩
 | k + 1 => by
  obtain ⟨ih0, ih1⟩ := modp_Pow.mono_l k
  refine ⟨?_, ?_⟩
  ·intro y0 y1 y2 y3
   unfold modp_Pow.j0
   repeat' first
   | (with_reducible exact ih0 _ _ _ _)
   | (with_reducible exact ih1 _ _ _ _)
   | (with_reducible exact LeO.refl _)
   | (with_reducible exact LeO.none _)
   | (with_reducible refine LeO.ite ?_ ?_)
   | (with_reducible refine LeO.bind ?_ (fun _ => ?_))
   | exact ih0 _ _ _ _
   | exact ih1 _ _ _ _
   | exact LeO.none _
   | refine LeO.ite ?_ ?_
   | refine LeO.bind ?_ (fun _ => ?_)
  ·intro y0 y1 y2 y3
   unfold modp_Pow.l0
   repeat' first
   | (with_reducible exact ih0 _ _ _ _)
   | (with_reducible exact ih1 _ _ _ _)
   | (with_reducible exact LeO.refl _)
   | (with_reducible exact LeO.none _)
   | (with_reducible refine LeO.ite ?_ ?_)
   | (with_reducible refine LeO.bind ?_ (fun _ => ?_))
   | exact ih0 _ _ _ _
   | exact ih1 _ _ _ _
   | exact LeO.none _
   | refine LeO.ite ?_ ?_
   | refine LeO.bind ?_ (fun _ => ?_)
theorem modp_Pow.mono : ∀ a0 a1 a2 k, LeO (modp_Pow.f k a0 a1 a2) (modp_Pow.f (k + 1) a0 a1 a2) := by
 intro a0 a1 a2 k
 obtain ⟨ih0, ih1⟩ := modp_Pow.mono_l k
 unfold modp_Pow.f
 repeat' first
  | (with_reducible exact ih0 _ _ _ _)
  | (with_reducible exact ih1 _ _ _ _)
  | (with_reducible exact LeO.refl _)
  | (with_reducible exact LeO.none _)
  | (with_reducible refine LeO.ite ?_ ?_)
  | (with_reducible refine LeO.bind ?_ (fun _ => ?_))
  | exact ih0 _ _ _ _
  | exact ih1 _ _ _ _
  | exact LeO.none _
  | refine LeO.ite ?_ ?_
  | refine LeO.bind ?_ (fun _ => ?_)
set_option maxHeartbeats 8000000 in
set_option maxRecDepth 100000 in
theorem modp_Pow.calls (k : Nat) (a0 : Int) (a1 : Int) (a2 : Int) (r : Int) (w : World) (h : modp_Pow.f k a0 a1 a2 = some r) :
 Calls Tryd.prog 69 #[.int .i64 a0, .int .i64 a1, .int .i64 a2] w fun e w' => e = .returned (.int .i64 r) ∧ Drawn0 w w' := by
 have H : ((modp_may.f a2).bind fun t116 => (if t116 = true then (modp_Pow.j0 k a0 a1 a2 (decide (a1 < 0))) else (modp_Pow.j0 k a0 a1 a2 true))) = some r := h
 clear h
 have HC4 := Aside0.mk H
 clear H
 go_enter Tryd.func69, Tryd.ntmps69
 go_upto_region 1 with (fail)
 go_cut [14] (fun v14 wc => ∃ (kq : Nat) (x14_3 : Bool), v14 = .bool x14_3 ∧ Aside0 (modp_Pow.j0 kq a0 a1 a2 x14_3 = some r) ∧ Aside0 (kq ≤ k) ∧ Drawn0 w wc)
 case first =>
  have H := HC4.out
  clear HC4
  replace H := Option.bind_eq_some_iff.mp H
  obtain ⟨t116, A50, H⟩ := H
  replace H : (if t116 = true then (modp_Pow.j0 k a0 a1 a2 (decide (a1 < 0))) else (modp_Pow.j0 k a0 a1 a2 true)) = some r := H
  have A5 := Aside0.mk A50
  clear A50
  by_cases c6 : t116 = true
  ·subst c6
   have H1 : (modp_Pow.j0 k a0 a1 a2 (decide (a1 < 0))) = some r := by rw [if_pos rfl] at H; exact H
   clear H
   have H := H1
   clear H1
   have H' := Aside0.mk H
   clear H
   go_wp2_with (first | ((with_reducible refine gate_callee (f := 70) rfl ?_); refine goesL_ (some 9) rfl rfl Tryd.func70 (by kernel_rfl) rfl #[.int .i64 a2] rfl (by (try simp only [List.map_toArray, List.map_cons, List.map_nil]); first | done | rfl | (simp only [List.length_drop, List.length_take]; rfl)) ?_; (with_reducible refine (modp_may.calls a2 true _ A5.out).mono ?_); rintro e w' ⟨rfl, ⟨nd, rfl⟩⟩; refine ⟨_, rfl, ?_⟩))
   go_meet
   case rel => exact ⟨_, (decide (a1 < 0)), (by first | rfl | (simp; done) | (simp [*]; done)), H', ⟨by first | omega | exact Nat.le_refl _⟩, by repeat (first | exact Drawn0.refl _ | apply Drawn0.step)⟩
  ·replace c6 := Bool.eq_false_iff.mpr c6
   subst c6
   have H1 : (modp_Pow.j0 k a0 a1 a2 true) = some r := by rw [if_neg (show ¬ (false = true) by decide)] at H; exact H
   clear H
   have H := H1
   clear H1
   have H' := Aside0.mk H
   clear H
   go_wp2_with (first | ((with_reducible refine gate_callee (f := 70) rfl ?_); refine goesL_ (some 9) rfl rfl Tryd.func70 (by kernel_rfl) rfl #[.int .i64 a2] rfl (by (try simp only [List.map_toArray, List.map_cons, List.map_nil]); first | done | rfl | (simp only [List.length_drop, List.length_take]; rfl)) ?_; (with_reducible refine (modp_may.calls a2 false _ A5.out).mono ?_); rintro e w' ⟨rfl, ⟨nd, rfl⟩⟩; refine ⟨_, rfl, ?_⟩))
   go_meet
   case rel => exact ⟨_, (true), (by first | rfl | (simp; done) | (simp [*]; done)), H', ⟨by first | omega | exact Nat.le_refl _⟩, by repeat (first | exact Drawn0.refl _ | apply Drawn0.step)⟩
 case rest =>
  clear HC4
  try clear p2
  try clear c6
  obtain ⟨kq, x14_3, rfl, HA, HJ3, ⟨mc3, rfl⟩⟩ := hcut
  cases kq with
  | zero => exact absurd HA.out (by simp [modp_Pow.j0])
  | succ kj3 =>
   have H := HA.out
   clear HA
   simp only [modp_Pow.j0] at H
   by_cases c7 : x14_3 = true
   ·subst c7
    have H1 : (some 0) = some r := by rw [if_pos rfl] at H; exact H
    clear H
    have H := H1
    clear H1
    obtain rfl := Option.some.inj H
    go_wp2
    go_ret
    exact ⟨by first | rfl | (simp; done) | (simp [*]; done), by repeat (first | exact Drawn0.refl _ | apply Drawn0.step)⟩
   ·replace c7 := Bool.eq_false_iff.mpr c7
    subst c7
    have H1 : ((modp_Mod.f a0 a2).bind fun t117 => ((modp_Mod.f 1 a2).bind fun t118 => (modp_Pow.l0 kj3 t117 a1 a2 t118))) = some r := by rw [if_neg (show ¬ (false = true) by decide)] at H; exact H
    clear H
    have H := H1
    clear H1
    replace H := Option.bind_eq_some_iff.mp H
    obtain ⟨t117, A80, H⟩ := H
    replace H : ((modp_Mod.f 1 a2).bind fun t118 => (modp_Pow.l0 kj3 t117 a1 a2 t118)) = some r := H
    have A8 := Aside0.mk A80
    clear A80
    replace H := Option.bind_eq_some_iff.mp H
    obtain ⟨t118, A90, H⟩ := H
    replace H : (modp_Pow.l0 kj3 t117 a1 a2 t118) = some r := H
    have A9 := Aside0.mk A90
    clear A90
    have H' := Aside0.mk H
    clear H
    go_wp2_with (first | ((with_reducible refine gate_callee (f := 71) rfl ?_); refine goesL_ (some 17) rfl rfl Tryd.func71 (by kernel_rfl) rfl #[.int .i64 a0, .int .i64 a2] rfl (by (try simp only [List.map_toArray, List.map_cons, List.map_nil]); first | done | rfl | (simp only [List.length_drop, List.length_take]; rfl)) ?_; (with_reducible refine (modp_Mod.calls a0 a2 t117 _ A8.out).mono ?_); rintro e w' ⟨rfl, ⟨nd, rfl⟩⟩; refine ⟨_, rfl, ?_⟩) | ((with_reducible refine gate_callee (f := 71) rfl ?_); refine goesL_ (some 19) rfl rfl Tryd.func71 (by kernel_rfl) rfl #[.int .i64 1, .int .i64 a2] rfl (by (try simp only [List.map_toArray, List.map_cons, List.map_nil]); first | done | rfl | (simp only [List.length_drop, List.length_take]; rfl)) ?_; (with_reducible refine (modp_Mod.calls 1 a2 t118 _ A9.out).mono ?_); rintro e w' ⟨rfl, ⟨nd, rfl⟩⟩; refine ⟨_, rfl, ?_⟩))
    go_loopg [0, 1, 7] kj3 (fun kq v0 v1 v7 w' => ∃ (x0_2 : Int) (x1_2 : Int) (x7_2 : Int), v0 = .int .i64 x0_2 ∧ v1 = .int .i64 x1_2 ∧ v7 = .int .i64 x7_2 ∧ Aside0 (modp_Pow.l0 kq x0_2 x1_2 a2 x7_2 = some r) ∧ Aside0 (kq ≤ kj3) ∧ Drawn0 w w')
    case atStart => exact ⟨(t117), (a1), (t118), (by first | rfl | (simp; done) | (simp [*]; done)), (by first | rfl | (simp; done) | (simp [*]; done)), (by first | rfl | (simp; done) | (simp [*]; done)), H', ⟨Nat.le_refl _⟩, by repeat (first | exact Drawn0.refl _ | apply Drawn0.step)⟩
    case round =>
     clear H'
     try clear p2
     try clear c3
     try clear c6
     try clear c7
     try clear p2
     obtain ⟨x0_2, x1_2, x7_2, rfl, rfl, rfl, HA, HK2, ⟨m2, rfl⟩⟩ := hrel
     cases gk with
     | zero => exact absurd HA.out (by simp [modp_Pow.l0])
     | succ k2 =>
      have H := HA.out
      clear HA
      simp only [modp_Pow.l0] at H
      by_cases c10 : x1_2 > 0
      ·rw [if_pos c10] at H
       have c10b0 : decide (0 < x1_2) = true := decide_eq_true c10
       clear c10
       by_cases c11 : (Go.bits .and .i64 x1_2 1) = 1
       ·rw [if_pos c11] at H
        have c11b0 : ((Go.bits .and .i64 x1_2 1) == 1) = true := beq_iff_eq.mpr c11
        have c11b1 : ((Go.bits .and .i64 x1_2 1) != 1) = false := bne_eq_false_iff_eq.mpr c11
        clear c11
        by_cases c12 : a2 = 0
        ·rw [if_pos c12] at H
         exact absurd H (by simp)
        ·rw [if_neg c12] at H
         have c12b0 : (a2 == 0) = false := beq_eq_false_iff_ne.mpr c12
         have c12b1 : (a2 != 0) = true := bne_iff_ne.mpr c12
         have H' := Aside0.mk H
         clear H
         go_wp2
         go_roundg k2
         case measure => have := HJ3.out; have := HK2.out; omega
         case rel => exact ⟨(Int.tmod (wrap64 (x0_2 * x0_2)) a2), (x1_2 / 2), (Int.tmod (wrap64 (x7_2 * x0_2)) a2), (by first | rfl | (simp; done) | (simp [*]; done)), (by first | rfl | (simp; done) | (simp [*]; done)), (by first | rfl | (simp; done) | (simp [*]; done)), H', ⟨by have := HJ3.out; have := HK2.out; omega⟩, by repeat (first | exact Drawn0.refl _ | apply Drawn0.step)⟩
       ·rw [if_neg c11] at H
        have c11b0 : ((Go.bits .and .i64 x1_2 1) == 1) = false := beq_eq_false_iff_ne.mpr c11
        have c11b1 : ((Go.bits .and .i64 x1_2 1) != 1) = true := bne_iff_ne.mpr c11
        by_cases c13 : a2 = 0
        ·rw [if_pos c13] at H
         exact absurd H (by simp)
        ·rw [if_neg c13] at H
         have c13b0 : (a2 == 0) = false := beq_eq_false_iff_ne.mpr c13
         have c13b1 : (a2 != 0) = true := bne_iff_ne.mpr c13
         have H' := Aside0.mk H
         clear H
         go_wp2
         go_roundg k2
         case measure => have := HJ3.out; have := HK2.out; omega
         case rel => exact ⟨(Int.tmod (wrap64 (x0_2 * x0_2)) a2), (x1_2 / 2), (x7_2), (by first | rfl | (simp; done) | (simp [*]; done)), (by first | rfl | (simp; done) | (simp [*]; done)), (by first | rfl | (simp; done) | (simp [*]; done)), H', ⟨by have := HJ3.out; have := HK2.out; omega⟩, by repeat (first | exact Drawn0.refl _ | apply Drawn0.step)⟩
      ·rw [if_neg c10] at H
       have c10b0 : decide (0 < x1_2) = false := decide_eq_false c10
       clear c10
       obtain rfl := Option.some.inj H
       go_wp2
       go_ret
       exact ⟨by first | rfl | (simp; done) | (simp [*]; done), by repeat (first | exact Drawn0.refl _ | apply Drawn0.step)⟩
end Go.Proofs.YtgbmlkmkfigolaaDoor.P
namespace Go.Proofs.YtgbmlkmkfigolaaDoor.P
open Go.RowKit Go.Proofs.YtgbmlkmkfigolaaDoorW.PrintWords Go.Proofs.YtgbmlkmkfigolaaDoorW.PrintLast Go.Proofs.YtgbmlkmkfigolaaDoorW.PrintMore
attribute [local go_sem] max2_int min2_int max_two min_two max_three min_three max_four min_four   -- for this text's walks alone
set_option linter.unusedVariables false
set_option linter.unusedSimpArgs false

/-! ### modp_witness: function 68 -/
mutual
def modp_witness.j0 : Nat → Int → Int → Int → Bool → Option (Bool)
 | 0, _, _, _, _ => none
 | k + 1, x2, x3, x9, x25 => if x25 = true then (some false) else (modp_witness.l0 k x3 x9 (wrap64 (x2 - 1)) 0)
def modp_witness.l0 : Nat → Int → Int → Int → Int → Option (Bool)
 | 0, _, _, _, _ => none
 | k + 1, x3, x9, x27, x28 => if x28 < x27 then (if x3 = 0 then (none) else (if (Int.tmod (wrap64 (x9 * x9)) x3) = (wrap64 (x3 - 1)) then (some false) else (modp_witness.l0 k x3 (Int.tmod (wrap64 (x9 * x9)) x3) x27 (wrap64 (x28 + 1))))) else (some true)
end
def modp_witness.f (k : Nat) (a0 : Int) (a1 : Int) (a2 : Int) (a3 : Int) : Option (Bool) := (modp_Pow.f k a0 a1 a3).bind fun t119 => (if t119 = 1 then (modp_witness.j0 k a2 a3 t119 true) else (if t119 = (wrap64 (a3 - 1)) then (modp_witness.j0 k a2 a3 t119 true) else (modp_witness.j0 k a2 a3 t119 (t119 == 0))))
theorem modp_witness.mono_l : ∀ k, (∀ y0 y1 y2 y3, LeO (modp_witness.j0 k y0 y1 y2 y3) (modp_witness.j0 (k + 1) y0 y1 y2 y3)) ∧ (∀ y0 y1 y2 y3, LeO (modp_witness.l0 k y0 y1 y2 y3) (modp_witness.l0 (k + 1) y0 y1 y2 y3))
 | 0 => ⟨fun _ _ _ _ r h => by simp [modp_witness.j0] at h, fun _ _ _ _ r h => by simp [modp_witness.l0] at h⟩
 | k + 1 => by
  obtain ⟨ih0, ih1⟩ := modp_witness.mono_l k
  refine ⟨?_, ?_⟩
  ·intro y0 y1 y2 y3
   unfold modp_witness.j0
   repeat' first
   | (with_reducible exact ih0 _ _ _ _)
   | (with_reducible exact ih1 _ _ _ _)
   | (with_reducible exact modp_Pow.mono _ _ _ _)
   | (with_reducible exact LeO.refl _)
   | (with_reducible exact LeO.none _)
   | (with_reducible refine LeO.ite ?_ ?_)
   | (with_reducible refine LeO.bind ?_ (fun _ => ?_))
   | exact ih0 _ _ _ _
   | exact ih1 _ _ _ _
   | exact modp_Pow.mono _ _ _ _
   | exact LeO.none _
   | refine LeO.ite ?_ ?_
   | refine LeO.bind ?_ (fun _ => ?_)
  ·intro y0 y1 y2 y3
   unfold modp_witness.l0
   repeat' first
   | (with_reducible exact ih0 _ _ _ _)
   | (with_reducible exact ih1 _ _ _ _)
   | (with_reducible exact modp_Pow.mono _ _ _ _)
   | (with_reducible exact LeO.refl _)
   | (with_reducible exact LeO.none _)
   | (with_reducible refine LeO.ite ?_ ?_)
   | (with_reducible refine LeO.bind ?_ (fun _ => ?_))
   | exact ih0 _ _ _ _
   | exact ih1 _ _ _ _
   | exact modp_Pow.mono _ _ _ _
   | exact LeO.none _
   | refine LeO.ite ?_ ?_
   | refine LeO.bind ?_ (fun _ => ?_)
theorem modp_witness.mono : ∀ a0 a1 a2 a3 k, LeO (modp_witness.f k a0 a1 a2 a3) (modp_witness.f (k + 1) a0 a1 a2 a3) := by
 intro a0 a1 a2 a3 k
 obtain ⟨ih0, ih1⟩ := modp_witness.mono_l k
 unfold modp_witness.f
 repeat' first
  | (with_reducible exact ih0 _ _ _ _)
  | (with_reducible exact ih1 _ _ _ _)
  | (with_reducible exact modp_Pow.mono _ _ _ _)
  | (with_reducible exact LeO.refl _)
  | (with_reducible exact LeO.none _)
  | (with_reducible refine LeO.ite ?_ ?_)
  | (with_reducible refine LeO.bind ?_ (fun _ => ?_))
  | exact ih0 _ _ _ _
  | exact ih1 _ _ _ _
  | exact modp_Pow.mono _ _ _ _
  | exact LeO.none _
  | refine LeO.ite ?_ ?_
  | refine LeO.bind ?_ (fun _ => ?_)
set_option maxHeartbeats 8000000 in
set_option maxRecDepth 100000 in
theorem modp_witness.calls (k : Nat) (a0 : Int) (a1 : Int) (a2 : Int) (a3 : Int) (r : Bool) (w : World) (h : modp_witness.f k a0 a1 a2 a3 = some r) :
 Calls Tryd.prog 68 #[.int .i64 a0, .int .i64 a1, .int .i64 a2, .int .i64 a3] w fun e w' => e = .returned (.bool r) ∧ Drawn0 w w' := by
 have H : ((modp_Pow.f k a0 a1 a3).bind fun t119 => (if t119 = 1 then (modp_witness.j0 k a2 a3 t119 true) else (if t119 = (wrap64 (a3 - 1)) then (modp_witness.j0 k a2 a3 t119 true) else (modp_witness.j0 k a2 a3 t119 (t119 == 0))))) = some r := h
 clear h
 replace H := Option.bind_eq_some_iff.mp H
 obtain ⟨t119, A50, H⟩ := H
 replace H : (if t119 = 1 then (modp_witness.j0 k a2 a3 t119 true) else (if t119 = (wrap64 (a3 - 1)) then (modp_witness.j0 k a2 a3 t119 true) else (modp_witness.j0 k a2 a3 t119 (t119 == 0)))) = some r := H
 have A5 := Aside0.mk A50
 clear A50
 have HC6 := Aside0.mk H
 clear H
 go_enter Tryd.func68, Tryd.ntmps68
 go_upto_region 2 with (first | ((with_reducible refine gate_callee (f := 69) rfl ?_); refine goesL_ (some 13) rfl rfl Tryd.func69 (by kernel_rfl) rfl #[.int .i64 a0, .int .i64 a1, .int .i64 a3] rfl (by (try simp only [List.map_toArray, List.map_cons, List.map_nil]); first | done | rfl | (simp only [List.length_drop, List.length_take]; rfl)) ?_; (with_reducible refine (modp_Pow.calls k a0 a1 a3 t119 _ A5.out).mono ?_); rintro e w' ⟨rfl, ⟨nd, rfl⟩⟩; refine ⟨_, rfl, ?_⟩))
 (try simp only [Act.put, List.setIfInBounds_toArray, List.set_cons_zero, List.set_cons_succ])
 go_cut [25] (fun v25 wc => ∃ (kq : Nat) (x25_5 : Bool), v25 = .bool x25_5 ∧ Aside0 (modp_witness.j0 kq a2 a3 t119 x25_5 = some r) ∧ Aside0 (kq ≤ k) ∧ Drawn0 w wc)
 case first =>
  have H := HC6.out
  clear HC6
  by_cases c7 : t119 = 1
  ·rw [if_pos c7] at H
   have c7b0 : (t119 == 1) = true := beq_iff_eq.mpr c7
   have c7b1 : (t119 != 1) = false := bne_eq_false_iff_eq.mpr c7
   clear c7
   (first | rw [c7b0] | (simp only [i64_w, i32_w]; rw [c7b0]) | skip)
   have H' := Aside0.mk H
   clear H
   go_wp2
   go_meet
   case rel => exact ⟨_, (true), (by first | rfl | (simp; done) | (simp [*]; done)), H', ⟨by first | omega | exact Nat.le_refl _⟩, by repeat (first | exact Drawn0.refl _ | apply Drawn0.step)⟩
  ·rw [if_neg c7] at H
   have c7b0 : (t119 == 1) = false := beq_eq_false_iff_ne.mpr c7
   have c7b1 : (t119 != 1) = true := bne_iff_ne.mpr c7
   (first | rw [c7b0] | (simp only [i64_w, i32_w]; rw [c7b0]) | skip)
   by_cases c8 : t119 = (wrap64 (a3 - 1))
   ·rw [if_pos c8] at H
    have c8b0 : (t119 == (wrap64 (a3 - 1))) = true := beq_iff_eq.mpr c8
    have c8b1 : (t119 != (wrap64 (a3 - 1))) = false := bne_eq_false_iff_eq.mpr c8
    clear c8
    have H' := Aside0.mk H
    clear H
    go_wp2
    go_meet
    case rel => exact ⟨_, (true), (by first | rfl | (simp; done) | (simp [*]; done)), H', ⟨by first | omega | exact Nat.le_refl _⟩, by repeat (first | exact Drawn0.refl _ | apply Drawn0.step)⟩
   ·rw [if_neg c8] at H
    have c8b0 : (t119 == (wrap64 (a3 - 1))) = false := beq_eq_false_iff_ne.mpr c8
    have c8b1 : (t119 != (wrap64 (a3 - 1))) = true := bne_iff_ne.mpr c8
    have H' := Aside0.mk H
    clear H
    go_wp2
    go_meet
    case rel => exact ⟨_, ((t119 == 0)), (by first | rfl | (simp; done) | (simp [*]; done)), H', ⟨by first | omega | exact Nat.le_refl _⟩, by repeat (first | exact Drawn0.refl _ | apply Drawn0.step)⟩
 case rest =>
  clear HC6
  try clear p2
  try clear c6
  try clear p6
  try clear c7
  try clear c7b0
  try clear c7b1
  try clear c8
  try clear c8b0
  try clear c8b1
  obtain ⟨kq, x25_5, rfl, HA, HJ5, ⟨mc5, rfl⟩⟩ := hcut
  cases kq with
  | zero => exact absurd HA.out (by simp [modp_witness.j0])
  | succ kj5 =>
   have H := HA.out
   clear HA
   simp only [modp_witness.j0] at H
   by_cases c9 : x25_5 = true
   ·subst c9
    have H1 : (some false) = some r := by rw [if_pos rfl] at H; exact H
    clear H
    have H := H1
    clear H1
    obtain rfl := Option.some.inj H
    go_wp2
    go_ret
    exact ⟨by first | rfl | (simp; done) | (simp [*]; done), by repeat (first | exact Drawn0.refl _ | apply Drawn0.step)⟩
   ·replace c9 := Bool.eq_false_iff.mpr c9
    subst c9
    have H1 : (modp_witness.l0 kj5 a3 t119 (wrap64 (a2 - 1)) 0) = some r := by rw [if_neg (show ¬ (false = true) by decide)] at H; exact H
    clear H
    have H := H1
    clear H1
    have H' := Aside0.mk H
    clear H
    go_wp2
    go_loopg [9, 28] kj5 (fun kq v9 v28 w' => ∃ (x9_2 : Int) (x28_2 : Int), v9 = .int .i64 x9_2 ∧ v28 = .int .i64 x28_2 ∧ Aside0 (modp_witness.l0 kq a3 x9_2 (wrap64 (a2 - 1)) x28_2 = some r) ∧ Aside0 (kq ≤ kj5) ∧ Drawn0 w w')
    case atStart => exact ⟨(t119), (0), (by first | rfl | (simp; done) | (simp [*]; done)), (by first | rfl | (simp; done) | (simp [*]; done)), H', ⟨Nat.le_refl _⟩, by repeat (first | exact Drawn0.refl _ | apply Drawn0.step)⟩
    case round =>
     clear H'
     try clear p2
     try clear c5
     try clear c6
     try clear p6
     try clear c7
     try clear c7b0
     try clear c7b1
     try clear c8
     try clear c8b0
     try clear c8b1
     try clear c9
     try clear p2
     try clear p6
     obtain ⟨x9_2, x28_2, rfl, rfl, HA, HK2, ⟨m2, rfl⟩⟩ := hrel
     cases gk with
     | zero => exact absurd HA.out (by simp [modp_witness.l0])
     | succ k2 =>
      have H := HA.out
      clear HA
      simp only [modp_witness.l0] at H
      by_cases c10 : x28_2 < (wrap64 (a2 - 1))
      ·rw [if_pos c10] at H
       have c10b0 : decide (x28_2 < (wrap64 (a2 - 1))) = true := decide_eq_true c10
       clear c10
       by_cases c11 : a3 = 0
       ·rw [if_pos c11] at H
        exact absurd H (by simp)
       ·rw [if_neg c11] at H
        have c11b0 : (a3 == 0) = false := beq_eq_false_iff_ne.mpr c11
        have c11b1 : (a3 != 0) = true := bne_iff_ne.mpr c11
        by_cases c12 : (Int.tmod (wrap64 (x9_2 * x9_2)) a3) = (wrap64 (a3 - 1))
        ·rw [if_pos c12] at H
         have c12b0 : ((Int.tmod (wrap64 (x9_2 * x9_2)) a3) == (wrap64 (a3 - 1))) = true := beq_iff_eq.mpr c12
         have c12b1 : ((Int.tmod (wrap64 (x9_2 * x9_2)) a3) != (wrap64 (a3 - 1))) = false := bne_eq_false_iff_eq.mpr c12
         clear c12
         obtain rfl := Option.some.inj H
         go_wp2
         go_ret
         exact ⟨by first | rfl | (simp; done) | (simp [*]; done), by repeat (first | exact Drawn0.refl _ | apply Drawn0.step)⟩
        ·rw [if_neg c12] at H
         have c12b0 : ((Int.tmod (wrap64 (x9_2 * x9_2)) a3) == (wrap64 (a3 - 1))) = false := beq_eq_false_iff_ne.mpr c12
         have c12b1 : ((Int.tmod (wrap64 (x9_2 * x9_2)) a3) != (wrap64 (a3 - 1))) = true := bne_iff_ne.mpr c12
         have H' := Aside0.mk H
         clear H
         go_wp2
         go_roundg k2
         case measure => have := HJ5.out; have := HK2.out; omega
         case rel => exact ⟨(Int.tmod (wrap64 (x9_2 * x9_2)) a3), (wrap64 (x28_2 + 1)), (by first | rfl | (simp; done) | (simp [*]; done)), (by first | rfl | (simp; done) | (simp [*]; done)), H', ⟨by have := HJ5.out; have := HK2.out; omega⟩, by repeat (first | exact Drawn0.refl _ | apply Drawn0.step)⟩
      ·rw [if_neg c10] at H
       have c10b0 : decide (x28_2 < (wrap64 (a2 - 1))) = false := decide_eq_false c10
       clear c10
       obtain rfl := Option.some.inj H
       go_wp2
       go_ret
       exact ⟨by first | rfl | (simp; done) | (simp [*]; done), by repeat (first | exact Drawn0.refl _ | apply Drawn0.step)⟩

/-! ### modp_Prime: function 63 -/
def modp_Prime.at4 (k : Nat) (a0 d tw : Int) : List Int → Option Bool
 | [] => some true
 | q :: r => if a0 = q then some true else if (Int.tmod a0 q) = 0 then some false else (modp_witness.f k q d tw a0).bind fun t => if t = true then some false else modp_Prime.at4 k a0 d tw r
def modp_Prime.l0 : Nat → Int → Int → Int → Option Bool
 | 0, _, _, _ => none
 | k + 1, a0, d, tw => if (Int.tmod d 2) = 0 then modp_Prime.l0 k a0 (wrap64 (Int.tdiv d 2)) (wrap64 (tw + 1)) else modp_Prime.at4 k a0 d tw [2, 3, 5, 7]
def modp_Prime.f (k : Nat) (a0 : Int) : Option Bool :=
 if a0 < 2 then some (a0 == 2) else if a0 > 2147483647 then some (a0 == 2) else if (Int.tmod a0 2) = 0 then some (a0 == 2) else modp_Prime.l0 k a0 (wrap64 (a0 - 1)) 0
theorem modp_Prime.at4.mono (k : Nat) (a0 d tw : Int) : ∀ l, LeO (modp_Prime.at4 k a0 d tw l) (modp_Prime.at4 (k + 1) a0 d tw l) := by
 intro l
 induction l with
 | nil => exact LeO.refl _
 | cons q l ih =>
  unfold modp_Prime.at4
  exact LeO.ite (LeO.refl _) (LeO.ite (LeO.refl _) (LeO.bind (modp_witness.mono _ _ _ _ _) (fun _ => LeO.ite (LeO.refl _) ih)))
theorem modp_Prime.at4.mono_to (k : Nat) : ∀ k' : Nat, k ≤ k' → ∀ (a0 d tw : Int) l r, modp_Prime.at4 k a0 d tw l = some r → modp_Prime.at4 k' a0 d tw l = some r := by
 intro k' h
 induction h with
 | refl => intro a0 d tw l r h; exact h
 | step _ ih => intro a0 d tw l r h; exact modp_Prime.at4.mono _ a0 d tw l _ (ih a0 d tw l r h)
set_option maxHeartbeats 8000000 in
set_option maxRecDepth 100000 in
theorem modp_Prime.calls (k : Nat) (a0 : Int) (r : Bool) (w : World) (h : modp_Prime.f k a0 = some r) :
 Calls Tryd.prog 63 #[.int .i64 a0] w fun e w' => e = .returned (.bool r) ∧ Drawn0 w w' := by
 have H := h
 clear h
 unfold modp_Prime.f at H
 by_cases c1 : a0 < 2
 ·rw [if_pos c1] at H
  have c1b : decide (a0 < 2) = true := decide_eq_true c1
  clear c1
  obtain rfl := Option.some.inj H
  go_enter Tryd.func63, Tryd.ntmps63
  go_wp2
  go_ret
  exact ⟨by first | rfl | (simp; done) | (simp [*]; done), by repeat (first | exact Drawn0.refl _ | apply Drawn0.step)⟩
 rw [if_neg c1] at H
 have c1b : decide (a0 < 2) = false := decide_eq_false c1
 clear c1
 by_cases c2 : a0 > 2147483647
 ·rw [if_pos c2] at H
  have c2b : decide (2147483647 < a0) = true := decide_eq_true c2
  clear c2
  obtain rfl := Option.some.inj H
  go_enter Tryd.func63, Tryd.ntmps63
  go_wp2
  go_ret
  exact ⟨by first | rfl | (simp; done) | (simp [*]; done), by repeat (first | exact Drawn0.refl _ | apply Drawn0.step)⟩
 rw [if_neg c2] at H
 have c2b : decide (2147483647 < a0) = false := decide_eq_false c2
 clear c2
 by_cases c3 : (Int.tmod a0 2) = 0
 ·rw [if_pos c3] at H
  have c3b : ((Int.tmod a0 2) == 0) = true := beq_iff_eq.mpr c3
  clear c3
  obtain rfl := Option.some.inj H
  go_enter Tryd.func63, Tryd.ntmps63
  go_wp2
  go_ret
  exact ⟨by first | rfl | (simp; done) | (simp [*]; done), by repeat (first | exact Drawn0.refl _ | apply Drawn0.step)⟩
 rw [if_neg c3] at H
 have c3b : ((Int.tmod a0 2) == 0) = false := beq_eq_false_iff_ne.mpr c3
 clear c3
 have H' := Aside0.mk H
 clear H
 have ix0 : ∀ w, (Instr.index 94 (.agg #[.int .i64 2, .int .i64 3, .int .i64 5, .int .i64 7]) (.int .i64 0)).run Tryd.prog w = .ok (.int .i64 2) w := fun _ => by kernel_rfl
 have ix1 : ∀ w, (Instr.index 94 (.agg #[.int .i64 2, .int .i64 3, .int .i64 5, .int .i64 7]) (.int .i64 1)).run Tryd.prog w = .ok (.int .i64 3) w := fun _ => by kernel_rfl
 have ix2 : ∀ w, (Instr.index 94 (.agg #[.int .i64 2, .int .i64 3, .int .i64 5, .int .i64 7]) (.int .i64 2)).run Tryd.prog w = .ok (.int .i64 5) w := fun _ => by kernel_rfl
 have ix3 : ∀ w, (Instr.index 94 (.agg #[.int .i64 2, .int .i64 3, .int .i64 5, .int .i64 7]) (.int .i64 3)).run Tryd.prog w = .ok (.int .i64 7) w := fun _ => by kernel_rfl
 go_enter Tryd.func63, Tryd.ntmps63
 go_wp2
 go_loopg [3, 4] k (fun kq v3 v4 w' => ∃ (d tw : Int), v3 = .int .i64 d ∧ v4 = .int .i64 tw ∧ Aside0 (modp_Prime.l0 kq a0 d tw = some r) ∧ Aside0 (kq ≤ k) ∧ Drawn0 w w')
 case atStart => exact ⟨_, _, (by first | rfl | (simp; done) | (simp [*]; done)), (by first | rfl | (simp; done) | (simp [*]; done)), H', ⟨Nat.le_refl _⟩, by repeat (first | exact Drawn0.refl _ | apply Drawn0.step)⟩
 case round =>
  clear H'
  obtain ⟨d, tw, rfl, rfl, HA, HK, ⟨m, rfl⟩⟩ := hrel
  cases gk with
  | zero => exact absurd HA.out (by simp [modp_Prime.l0])
  | succ k2 =>
   have H := HA.out
   clear HA
   simp only [modp_Prime.l0] at H
   by_cases c4 : (Int.tmod d 2) = 0
   ·rw [if_pos c4] at H
    have c4b : ((Int.tmod d 2) == 0) = true := beq_iff_eq.mpr c4
    clear c4
    have H' := Aside0.mk H
    clear H
    go_wp2
    go_roundg k2
    case measure => have := HK.out; omega
    case rel => exact ⟨_, _, (by first | rfl | (simp; done) | (simp [*]; done)), (by first | rfl | (simp; done) | (simp [*]; done)), H', ⟨by have := HK.out; omega⟩, by repeat (first | exact Drawn0.refl _ | apply Drawn0.step)⟩
   ·rw [if_neg c4] at H
    have c4b : ((Int.tmod d 2) == 0) = false := beq_eq_false_iff_ne.mpr c4
    clear c4
    have H' := Aside0.mk H
    clear H
    go_wp2
    clear c4b
    have Hz : Aside0 (modp_Prime.at4 k a0 d tw (([2, 3, 5, 7] : List Int).drop 0) = some r) := ⟨(modp_Prime.at4.mono_to k2 k (by have := HK.out; omega) _ _ _ _ _ H'.out)⟩
    clear H' HK
    go_loopg [30] 4 (fun kq v30 w' => ∃ (j : Nat), kq + j = 4 ∧ j ≤ 4 ∧ v30 = .int .i64 (j : Int) ∧ Aside0 (modp_Prime.at4 k a0 d tw (([2, 3, 5, 7] : List Int).drop j) = some r) ∧ Drawn0 w w')
    case atStart => exact ⟨0, by omega, by omega, (by first | rfl | (simp; done) | (simp [*]; done)), Hz, by repeat (first | exact Drawn0.refl _ | apply Drawn0.step)⟩
    case round =>
     clear Hz
     obtain ⟨j, hkj, hj, rfl, HA, ⟨m2, rfl⟩⟩ := hrel
     obtain rfl | rfl | rfl | rfl | rfl : j = 0 ∨ j = 1 ∨ j = 2 ∨ j = 3 ∨ j = 4 := by omega
     ·have H : modp_Prime.at4 k a0 d tw [2, 3, 5, 7] = some r := HA.out
      clear HA
      rw [modp_Prime.at4] at H
      by_cases e1 : a0 = 2
      ·rw [if_pos e1] at H
       have e1b : (a0 == 2) = true := beq_iff_eq.mpr e1
       clear e1
       obtain rfl := Option.some.inj H
       go_wp2
       go_ret
       exact ⟨by first | rfl | (simp; done) | (simp [*]; done), by repeat (first | exact Drawn0.refl _ | apply Drawn0.step)⟩
      rw [if_neg e1] at H
      have e1b : (a0 == 2) = false := beq_eq_false_iff_ne.mpr e1
      clear e1
      rw [if_neg (show ¬ Int.tmod a0 2 = 0 by simpa using c3b)] at H
      replace H := Option.bind_eq_some_iff.mp H
      obtain ⟨t, A50, H⟩ := H
      have A5 := Aside0.mk A50
      clear A50
      by_cases e3 : t = true
      ·subst e3
       have H1 : some false = some r := by rw [if_pos rfl] at H; exact H
       clear H
       obtain rfl := Option.some.inj H1
       go_wp2_with (go_at_call 68; refine (modp_witness.calls k 2 d tw a0 true _ A5.out).mono ?_; rintro e w' ⟨rfl, ⟨nd, rfl⟩⟩)
       go_ret
       exact ⟨by first | rfl | (simp; done) | (simp [*]; done), by repeat (first | exact Drawn0.refl _ | apply Drawn0.step)⟩
      replace e3 := Bool.eq_false_iff.mpr e3
      subst e3
      have H1 : modp_Prime.at4 k a0 d tw (([2, 3, 5, 7] : List Int).drop 1) = some r := by rw [if_neg (show ¬ (false = true) by decide)] at H; exact H
      clear H
      have H' := Aside0.mk H1
      clear H1
      go_wp2_with (go_at_call 68; refine (modp_witness.calls k 2 d tw a0 false _ A5.out).mono ?_; rintro e w' ⟨rfl, ⟨nd, rfl⟩⟩)
      go_roundg 3
      case measure => omega
      case rel => exact ⟨1, by omega, by omega, (by first | rfl | (simp; done) | (simp [*]; done)), H', by repeat (first | exact Drawn0.refl _ | apply Drawn0.step)⟩
     ·have H : modp_Prime.at4 k a0 d tw [3, 5, 7] = some r := HA.out
      clear HA
      rw [modp_Prime.at4] at H
      by_cases e1 : a0 = 3
      ·rw [if_pos e1] at H
       have e1b : (a0 == 3) = true := beq_iff_eq.mpr e1
       clear e1
       obtain rfl := Option.some.inj H
       go_wp2
       go_ret
       exact ⟨by first | rfl | (simp; done) | (simp [*]; done), by repeat (first | exact Drawn0.refl _ | apply Drawn0.step)⟩
      rw [if_neg e1] at H
      have e1b : (a0 == 3) = false := beq_eq_false_iff_ne.mpr e1
      clear e1
      by_cases e2 : Int.tmod a0 3 = 0
      ·rw [if_pos e2] at H
       have e2b : (Int.tmod a0 3 == 0) = true := beq_iff_eq.mpr e2
       clear e2
       obtain rfl := Option.some.inj H
       go_wp2
       go_ret
       exact ⟨by first | rfl | (simp; done) | (simp [*]; done), by repeat (first | exact Drawn0.refl _ | apply Drawn0.step)⟩
      rw [if_neg e2] at H
      have e2b : (Int.tmod a0 3 == 0) = false := beq_eq_false_iff_ne.mpr e2
      clear e2
      replace H := Option.bind_eq_some_iff.mp H
      obtain ⟨t, A50, H⟩ := H
      have A5 := Aside0.mk A50
      clear A50
      by_cases e3 : t = true
      ·subst e3
       have H1 : some false = some r := by rw [if_pos rfl] at H; exact H
       clear H
       obtain rfl := Option.some.inj H1
       go_wp2_with (go_at_call 68; refine (modp_witness.calls k 3 d tw a0 true _ A5.out).mono ?_; rintro e w' ⟨rfl, ⟨nd, rfl⟩⟩)
       go_ret
       exact ⟨by first | rfl | (simp; done) | (simp [*]; done), by repeat (first | exact Drawn0.refl _ | apply Drawn0.step)⟩
      replace e3 := Bool.eq_false_iff.mpr e3
      subst e3
      have H1 : modp_Prime.at4 k a0 d tw (([2, 3, 5, 7] : List Int).drop 2) = some r := by rw [if_neg (show ¬ (false = true) by decide)] at H; exact H
      clear H
      have H' := Aside0.mk H1
      clear H1
      go_wp2_with (go_at_call 68; refine (modp_witness.calls k 3 d tw a0 false _ A5.out).mono ?_; rintro e w' ⟨rfl, ⟨nd, rfl⟩⟩)
      go_roundg 2
      case measure => omega
      case rel => exact ⟨2, by omega, by omega, (by first | rfl | (simp; done) | (simp [*]; done)), H', by repeat (first | exact Drawn0.refl _ | apply Drawn0.step)⟩
     ·have H : modp_Prime.at4 k a0 d tw [5, 7] = some r := HA.out
      clear HA
      rw [modp_Prime.at4] at H
      by_cases e1 : a0 = 5
      ·rw [if_pos e1] at H
       have e1b : (a0 == 5) = true := beq_iff_eq.mpr e1
       clear e1
       obtain rfl := Option.some.inj H
       go_wp2
       go_ret
       exact ⟨by first | rfl | (simp; done) | (simp [*]; done), by repeat (first | exact Drawn0.refl _ | apply Drawn0.step)⟩
      rw [if_neg e1] at H
      have e1b : (a0 == 5) = false := beq_eq_false_iff_ne.mpr e1
      clear e1
      by_cases e2 : Int.tmod a0 5 = 0
      ·rw [if_pos e2] at H
       have e2b : (Int.tmod a0 5 == 0) = true := beq_iff_eq.mpr e2
       clear e2
       obtain rfl := Option.some.inj H
       go_wp2
       go_ret
       exact ⟨by first | rfl | (simp; done) | (simp [*]; done), by repeat (first | exact Drawn0.refl _ | apply Drawn0.step)⟩
      rw [if_neg e2] at H
      have e2b : (Int.tmod a0 5 == 0) = false := beq_eq_false_iff_ne.mpr e2
      clear e2
      replace H := Option.bind_eq_some_iff.mp H
      obtain ⟨t, A50, H⟩ := H
      have A5 := Aside0.mk A50
      clear A50
      by_cases e3 : t = true
      ·subst e3
       have H1 : some false = some r := by rw [if_pos rfl] at H; exact H
       clear H
       obtain rfl := Option.some.inj H1
       go_wp2_with (go_at_call 68; refine (modp_witness.calls k 5 d tw a0 true _ A5.out).mono ?_; rintro e w' ⟨rfl, ⟨nd, rfl⟩⟩)
       go_ret
       exact ⟨by first | rfl | (simp; done) | (simp [*]; done), by repeat (first | exact Drawn0.refl _ | apply Drawn0.step)⟩
      replace e3 := Bool.eq_false_iff.mpr e3
      subst e3
      have H1 : modp_Prime.at4 k a0 d tw (([2, 3, 5, 7] : List Int).drop 3) = some r := by rw [if_neg (show ¬ (false = true) by decide)] at H; exact H
      clear H
      have H' := Aside0.mk H1
      clear H1
      go_wp2_with (go_at_call 68; refine (modp_witness.calls k 5 d tw a0 false _ A5.out).mono ?_; rintro e w' ⟨rfl, ⟨nd, rfl⟩⟩)
      go_roundg 1
      case measure => omega
      case rel => exact ⟨3, by omega, by omega, (by first | rfl | (simp; done) | (simp [*]; done)), H', by repeat (first | exact Drawn0.refl _ | apply Drawn0.step)⟩
     ·have H : modp_Prime.at4 k a0 d tw [7] = some r := HA.out
      clear HA
      rw [modp_Prime.at4] at H
      by_cases e1 : a0 = 7
      ·rw [if_pos e1] at H
       have e1b : (a0 == 7) = true := beq_iff_eq.mpr e1
       clear e1
       obtain rfl := Option.some.inj H
       go_wp2
       go_ret
       exact ⟨by first | rfl | (simp; done) | (simp [*]; done), by repeat (first | exact Drawn0.refl _ | apply Drawn0.step)⟩
      rw [if_neg e1] at H
      have e1b : (a0 == 7) = false := beq_eq_false_iff_ne.mpr e1
      clear e1
      by_cases e2 : Int.tmod a0 7 = 0
      ·rw [if_pos e2] at H
       have e2b : (Int.tmod a0 7 == 0) = true := beq_iff_eq.mpr e2
       clear e2
       obtain rfl := Option.some.inj H
       go_wp2
       go_ret
       exact ⟨by first | rfl | (simp; done) | (simp [*]; done), by repeat (first | exact Drawn0.refl _ | apply Drawn0.step)⟩
      rw [if_neg e2] at H
      have e2b : (Int.tmod a0 7 == 0) = false := beq_eq_false_iff_ne.mpr e2
      clear e2
      replace H := Option.bind_eq_some_iff.mp H
      obtain ⟨t, A50, H⟩ := H
      have A5 := Aside0.mk A50
      clear A50
      by_cases e3 : t = true
      ·subst e3
       have H1 : some false = some r := by rw [if_pos rfl] at H; exact H
       clear H
       obtain rfl := Option.some.inj H1
       go_wp2_with (go_at_call 68; refine (modp_witness.calls k 7 d tw a0 true _ A5.out).mono ?_; rintro e w' ⟨rfl, ⟨nd, rfl⟩⟩)
       go_ret
       exact ⟨by first | rfl | (simp; done) | (simp [*]; done), by repeat (first | exact Drawn0.refl _ | apply Drawn0.step)⟩
      replace e3 := Bool.eq_false_iff.mpr e3
      subst e3
      have H1 : modp_Prime.at4 k a0 d tw (([2, 3, 5, 7] : List Int).drop 4) = some r := by rw [if_neg (show ¬ (false = true) by decide)] at H; exact H
      clear H
      have H' := Aside0.mk H1
      clear H1
      go_wp2_with (go_at_call 68; refine (modp_witness.calls k 7 d tw a0 false _ A5.out).mono ?_; rintro e w' ⟨rfl, ⟨nd, rfl⟩⟩)
      go_roundg 0
      case measure => omega
      case rel => exact ⟨4, by omega, by omega, (by first | rfl | (simp; done) | (simp [*]; done)), H', by repeat (first | exact Drawn0.refl _ | apply Drawn0.step)⟩
     ·-- behind the last
      have H : modp_Prime.at4 k a0 d tw [] = some r := HA.out
      clear HA
      rw [modp_Prime.at4] at H
      obtain rfl := Option.some.inj H
      go_wp2
      go_ret
      exact ⟨by first | rfl | (simp; done) | (simp [*]; done), by repeat (first | exact Drawn0.refl _ | apply Drawn0.step)⟩

/-! ### elim_May: function 52 -/
end Go.Proofs.YtgbmlkmkfigolaaDoor.P
/- elim.May, by hand: whether columns may be. -/
namespace Go.Proofs.YtgbmlkmkfigolaaDoor.P
open Go.RowKit Go.Proofs.YtgbmlkmkfigolaaDoorW.PrintWords Go.Proofs.YtgbmlkmkfigolaaDoorW.PrintLast Go.Proofs.YtgbmlkmkfigolaaDoorW.PrintMore
set_option linter.unusedVariables false
set_option linter.unusedSimpArgs false

theorem below_drewN {B : Nat} {a w : World} (h : Below B a w) (n : Nat) : Below B a (w.drewN n) := ⟨h.os, h.tape, h.output, h.size, h.block⟩
def elim_May.out (p x : Int) : Bool := decide (x < 0) || decide (p ≤ x)
def elim_May.bad (p rows : Int) (c : List Int) : Bool := ((c.length : Int) != rows) || c.any (elim_May.out p)
def elim_May.f (k : Nat) (a0 a1 : Int) (l2 : List (List Int)) : Option Bool :=
 (modp_Prime.f k a0).bind fun t => some (t && !decide (a1 < 0) && !decide (64 < a1) && !decide (64 < (l2.length : Int)) && !(l2.any (elim_May.bad a0 a1)))
set_option maxHeartbeats 2000000 in
set_option maxRecDepth 100000 in
theorem elim_May.in2 (x p : Int) (B o : Nat) (W : World) (hc : W.cell? ⟨B, o, none⟩ = some (.int .i64 p)) :
 Calls Tryd.prog 65 #[.int .i64 x, .pointer (some ⟨B, o, none⟩)] W fun e w' => e = .returned (.bool (elim_May.out p x)) ∧ Drawn0 W w' := by
 have HE : ∀ b, elim_May.out p x = b → Aside0 (elim_May.out p x = b) := fun b h => ⟨h⟩
 by_cases h1 : x < 0
 ·have h1b : decide (x < 0) = true := decide_eq_true h1
  have H1 := HE true (by unfold elim_May.out; rw [h1b]; rfl)
  clear h1 HE
  go_enter Tryd.func65, Tryd.ntmps65
  go_wp2
  repeat (go_quiet (fail); try go_wp2)
  go_ret
  exact ⟨by rw [H1.out]; rfl, by repeat (first | exact Drawn0.refl _ | apply Drawn0.step)⟩
 ·have h1b : decide (x < 0) = false := decide_eq_false h1
  by_cases h2 : p ≤ x
  ·have h2b : decide (p ≤ x) = true := decide_eq_true h2
   have H1 := HE true (by unfold elim_May.out; rw [h1b, h2b]; rfl)
   clear h1 h2 HE
   go_enter Tryd.func65, Tryd.ntmps65
   go_wp2
   repeat (go_quiet (fail); try go_wp2)
   go_ret
   exact ⟨by rw [H1.out]; rfl, by repeat (first | exact Drawn0.refl _ | apply Drawn0.step)⟩
  ·have h2b : decide (p ≤ x) = false := decide_eq_false h2
   have H1 := HE false (by unfold elim_May.out; rw [h1b, h2b]; rfl)
   clear h1 h2 HE
   go_enter Tryd.func65, Tryd.ntmps65
   go_wp2
   repeat (go_quiet (fail); try go_wp2)
   go_ret
   exact ⟨by rw [H1.out]; rfl, by repeat (first | exact Drawn0.refl _ | apply Drawn0.step)⟩
set_option maxHeartbeats 2000000 in
set_option maxRecDepth 100000 in
theorem elim_May.in1 (A : Option Addr) (c : Nat) (l : List Int) (p rows : Int) (hrow : rows ≤ 64) (B1 B2 : Nat) (W : World) (hr : Kd.C (Kd.int .i64) W A l.length l) (hc : l.length ≤ c)
 (h1 : W.cell? ⟨B1, 0, none⟩ = some (.int .i64 rows)) (h2 : W.cell? ⟨B2, 0, none⟩ = some (.int .i64 p)) :
 Calls Tryd.prog 64 #[.slice A l.length c, .pointer (some ⟨B1, 0, none⟩), .pointer (some ⟨B2, 0, none⟩)] W fun e w' => e = .returned (.bool (elim_May.bad p rows l)) ∧ Drawn0 W w' := by
 by_cases hl : (l.length : Int) = rows
 ·have hlb : ((l.length : Int) != rows) = false := by rw [hl]; exact bne_self_eq_false _
  have hlb2 : ((l.length : Int) == rows) = true := by rw [hl]; exact beq_self_eq_true _
  have hcall := fun n => hasInt_c A c l 65 #[.pointer (some ⟨B2, 0, none⟩)] (elim_May.out p) (W.drewN n) (Kd.C_below hr (Drawn0.below ⟨⟨n, rfl⟩⟩)) hc (by omega) (enters_of Tryd.func65 (by kernel_rfl) rfl)
   (fun m x _ => elim_May.in2 x p B2 0 _ (by simpa [World.cell?_drewN] using h2))
  have HB : Aside0 (elim_May.bad p rows l = l.any (elim_May.out p)) := ⟨by unfold elim_May.bad; rw [hlb]; rfl⟩
  clear hl hr hc
  generalize l.any (elim_May.out p) = b at *
  go_enter Tryd.func64, Tryd.ntmps64
  go_wp2_with (go_at_call 60; refine (hcall 0).mono ?_; rintro e w' ⟨rfl, ⟨q, rfl⟩⟩)
  go_ret
  exact ⟨by rw [HB.out]; rfl, by repeat (first | exact Drawn0.refl _ | apply Drawn0.step)⟩
 ·have hlb : ((l.length : Int) != rows) = true := bne_iff_ne.mpr hl
  have hlb2 : ((l.length : Int) == rows) = false := beq_eq_false_iff_ne.mpr hl
  have HB : Aside0 (elim_May.bad p rows l = true) := ⟨by unfold elim_May.bad; rw [hlb]; rfl⟩
  clear hl hr hc
  go_enter Tryd.func64, Tryd.ntmps64
  go_wp2
  repeat (go_quiet (fail); try go_wp2)
  go_ret
  exact ⟨by rw [HB.out]; rfl, by repeat (first | exact Drawn0.refl _ | apply Drawn0.step)⟩
set_option maxHeartbeats 4000000 in
set_option maxRecDepth 100000 in
theorem elim_May.calls (k : Nat) (a0 a1 : Int) (A2 : Option Addr) (c2 : Nat) (l2 : List (List Int)) (r : Bool) (w : World) (hr2 : Kd.C (Kd.slice 3 (Kd.int .i64)) w A2 l2.length l2) (hc2 : l2.length ≤ c2) (h : elim_May.f k a0 a1 l2 = some r) :
 Calls Tryd.prog 52 #[.int .i64 a0, .int .i64 a1, .slice A2 l2.length c2] w fun e w' => e = .returned (.bool r) ∧ Below w.heap.size w w' := by
 unfold elim_May.f at h
 obtain ⟨t, hP, hf⟩ := Option.bind_eq_some_iff.mp h
 replace hf := Option.some.inj hf
 clear h
 have HP := Aside0.mk hP
 clear hP
 have go : ∀ b, r = b → Aside0 (r = b) := fun b h => ⟨h⟩
 cases t with
 | false =>
  have HF := go false (by rw [← hf]; rfl)
  clear hf hr2 hc2 go
  go_enter Tryd.func52, Tryd.ntmps52
  go_wp2_with (go_at_call 63; refine (modp_Prime.calls k a0 false _ HP.out).mono ?_; rintro e w' ⟨rfl, ⟨q, rfl⟩⟩)
  go_ret
  exact ⟨by rw [HF.out]; rfl, by repeat (first | exact Below.refl _ _ | exact Below.alloc (Below.refl _ _) (Nat.le_refl _) _ | (refine Below.alloc ?_ (by simp) _) | apply below_drewN)⟩
 | true =>
  by_cases c1 : a1 < 0
  ·have c1b : decide (a1 < 0) = true := decide_eq_true c1
   have HF := go false (by rw [← hf, c1b]; rfl)
   clear hf hr2 hc2 go c1
   go_enter Tryd.func52, Tryd.ntmps52
   go_wp2_with (go_at_call 63; refine (modp_Prime.calls k a0 true _ HP.out).mono ?_; rintro e w' ⟨rfl, ⟨q, rfl⟩⟩)
   go_ret
   exact ⟨by rw [HF.out]; rfl, by repeat (first | exact Below.refl _ _ | exact Below.alloc (Below.refl _ _) (Nat.le_refl _) _ | (refine Below.alloc ?_ (by simp) _) | apply below_drewN)⟩
  have c1b : decide (a1 < 0) = false := decide_eq_false c1
  by_cases c2' : 64 < a1
  ·have c2b : decide (64 < a1) = true := decide_eq_true c2'
   have HF := go false (by rw [← hf, c1b, c2b]; rfl)
   clear hf hr2 hc2 go c1 c2'
   go_enter Tryd.func52, Tryd.ntmps52
   go_wp2_with (go_at_call 63; refine (modp_Prime.calls k a0 true _ HP.out).mono ?_; rintro e w' ⟨rfl, ⟨q, rfl⟩⟩)
   go_ret
   exact ⟨by rw [HF.out]; rfl, by repeat (first | exact Below.refl _ _ | exact Below.alloc (Below.refl _ _) (Nat.le_refl _) _ | (refine Below.alloc ?_ (by simp) _) | apply below_drewN)⟩
  have c2b : decide (64 < a1) = false := decide_eq_false c2'
  by_cases c3 : 64 < (l2.length : Int)
  ·have c3b : decide (64 < (l2.length : Int)) = true := decide_eq_true c3
   have c3c : decide (64 < l2.length) = true := decide_eq_true (by omega)
   have HF := go false (by rw [← hf, c1b, c2b, c3b]; rfl)
   clear hf hr2 hc2 go c1 c2' c3
   go_enter Tryd.func52, Tryd.ntmps52
   go_wp2_with (go_at_call 63; refine (modp_Prime.calls k a0 true _ HP.out).mono ?_; rintro e w' ⟨rfl, ⟨q, rfl⟩⟩)
   go_ret
   exact ⟨by rw [HF.out]; rfl, by repeat (first | exact Below.refl _ _ | exact Below.alloc (Below.refl _ _) (Nat.le_refl _) _ | (refine Below.alloc ?_ (by simp) _) | apply below_drewN)⟩
  have c3b : decide (64 < (l2.length : Int)) = false := decide_eq_false c3
  have c3c : decide (64 < l2.length) = false := decide_eq_false (by omega)
  have HF : Aside0 (r = !(l2.any (elim_May.bad a0 a1))) := ⟨by rw [← hf, c1b, c2b, c3b]; simp⟩
  have HR := Aside0.mk hr2
  have HC := Aside0.mk hc2
  have HW : Aside0 (a1 ≤ 64 ∧ l2.length ≤ 64) := ⟨by omega⟩
  clear hf hr2 hc2 go c1 c2' c3
  go_enter Tryd.func52, Tryd.ntmps52
  go_wp2_with (go_at_call 63; refine (modp_Prime.calls k a0 true _ HP.out).mono ?_; rintro e w' ⟨rfl, ⟨q, rfl⟩⟩)
  have hbel : Below w.heap.size w (((w.alloc (Obj.cells #[Value.int IntKind.i64 a0] 3)).alloc (Obj.cells #[Value.int IntKind.i64 a1] 3)).drewN q) :=
   below_drewN (((Below.refl _ _).alloc (Nat.le_refl _) _).alloc (by simp) _) q
  have hb1 : (((w.alloc (Obj.cells #[Value.int IntKind.i64 a0] 3)).alloc (Obj.cells #[Value.int IntKind.i64 a1] 3)).drewN q).cell? ⟨w.heap.size + 1, 0, none⟩ = some (.int .i64 a1) := by go_simp
  have hb2 : (((w.alloc (Obj.cells #[Value.int IntKind.i64 a0] 3)).alloc (Obj.cells #[Value.int IntKind.i64 a1] 3)).drewN q).cell? ⟨w.heap.size, 0, none⟩ = some (.int .i64 a0) := by go_simp
  generalize (((w.alloc (Obj.cells #[Value.int IntKind.i64 a0] 3)).alloc (Obj.cells #[Value.int IntKind.i64 a1] 3)).drewN q) = W1 at hbel hb1 hb2 ⊢
  refine (hasRow_c A2 c2 l2 64 #[.pointer (some ⟨w.heap.size + 1, 0, none⟩), .pointer (some ⟨w.heap.size, 0, none⟩)] (elim_May.bad a0 a1) W1 (Kd.C_below HR.out hbel) HC.out (by have := HW.out; omega) (enters_of Tryd.func64 (by kernel_rfl) rfl)
   (fun n x A c _ hxl hx => elim_May.in1 A c x a0 a1 (by have := HW.out; omega) _ _ _ (Kd.C_below hx (Drawn0.below ⟨⟨n, rfl⟩⟩)) hxl (by simpa [World.cell?_drewN] using hb1) (by simpa [World.cell?_drewN] using hb2))).mono ?_
  rintro e w' ⟨rfl, ⟨q', rfl⟩⟩
  have HB := Aside0.mk hbel
  clear hbel hb1 hb2
  generalize l2.any (elim_May.bad a0 a1) = b at *
  go_wp2_with (fail)
  go_ret
  exact ⟨by rw [HF.out]; rfl, below_drewN HB.out _⟩
end Go.Proofs.YtgbmlkmkfigolaaDoor.P
namespace Go.Proofs.YtgbmlkmkfigolaaDoor.P
open Go.RowKit Go.Proofs.YtgbmlkmkfigolaaDoorW.PrintWords Go.Proofs.YtgbmlkmkfigolaaDoorW.PrintLast Go.Proofs.YtgbmlkmkfigolaaDoorW.PrintMore
attribute [local go_sem] max2_int min2_int max_two min_two max_three min_three max_four min_four   -- for this text's walks alone
set_option linter.unusedVariables false
set_option linter.unusedSimpArgs false


/-! ### matroid_part: function 53 -/
def matroid_part.f (k : Nat) (a0_0 : Int) (a0_1 : Int) (a0_2 : Int) (a0_3 : Int) (l0_4 : List (List Int)) (l0_5 : List (S25)) : Option (List Int × Bool) := if (l0_4.length : Int) = 1 then (if (l0_5.length : Int) = 1 then (if 0 < (l0_4.length : Int) then ((set_May.f k (rd_L1 l0_4 0)).bind fun t123 => (if t123 = true then (if ((rd_L1 l0_4 0).length : Int) = 0 then (some (rd_L1 l0_4 0, true)) else (if 0 ≤ (wrap64 (((rd_L1 l0_4 0).length : Int) - 1)) then (if (wrap64 (((rd_L1 l0_4 0).length : Int) - 1)) < ((rd_L1 l0_4 0).length : Int) then (if 0 < (l0_5.length : Int) then (some (rd_L1 l0_4 0, decide ((rd (rd_L1 l0_4 0) (wrap64 (((rd_L1 l0_4 0).length : Int) - 1))) < ((rd_T25 l0_5 0).f1)))) else (none)) else (none)) else (none))) else (some (rd_L1 l0_4 0, false)))) else (none)) else (some (([] : List Int), false))) else (some (([] : List Int), false))
set_option maxHeartbeats 8000000 in
set_option maxRecDepth 100000 in
theorem matroid_part.calls (k : Nat) (a0_0 : Int) (a0_1 : Int) (a0_2 : Int) (a0_3 : Int) (P0_4_ : Nat → Prop) (A0_4 : Option Addr) (c0_4 : Nat) (l0_4 : List (List Int)) (A0_5 : Option Addr) (c0_5 : Nat) (l0_5 : List (S25)) (r1 : List Int) (r2 : Bool) (w : World) (hs0_4 : Kd.V (Kd.slice 3 (Kd.int .i64)) 26 w w.heap.size (fun k_ => P0_4_ k_) (.slice A0_4 l0_4.length c0_4) l0_4) (hr0_5 : Kd.C k25 w A0_5 l0_5.length l0_5) (hc0_5 : l0_5.length ≤ c0_5) (h : matroid_part.f k a0_0 a0_1 a0_2 a0_3 l0_4 l0_5 = some (r1, r2)) :
 Calls Tryd.prog 53 #[.agg #[.int .i64 a0_0, .int .i64 a0_1, .int .i64 a0_2, .int .i64 a0_3, .slice A0_4 l0_4.length c0_4, .slice A0_5 l0_5.length c0_5]] w fun e w' => ∃ v0_ : Value, e = .returned (.tuple #[v0_, .bool r2]) ∧ Kd.V (Kd.int .i64) 3 w' w.heap.size (fun k_ => (P0_4_ k_ ∨ w.heap.size ≤ k_)) v0_ r1 ∧ Below w.heap.size w w' := by
 have hu25 := Tryd.underlying25
 have HO0_4 := Aside0.mk (show Kd.V (Kd.slice 3 (Kd.int .i64)) 26 w w.heap.size (fun k_ => (P0_4_ k_ ∨ w.heap.size ≤ k_)) (.slice A0_4 l0_4.length c0_4) l0_4 from Kd.V_mono hs0_4 (fun k_ hk => .inl hk))
 have HR0_5 := Aside0.mk hr0_5
 have HC0_5 := Aside0.mk hc0_5
 clear hr0_5 hc0_5
 have HB := Aside0.mk (Below.refl w.heap.size w)
 have H : (if (l0_4.length : Int) = 1 then (if (l0_5.length : Int) = 1 then (if 0 < (l0_4.length : Int) then ((set_May.f k (rd_L1 l0_4 0)).bind fun t123 => (if t123 = true then (if ((rd_L1 l0_4 0).length : Int) = 0 then (some (rd_L1 l0_4 0, true)) else (if 0 ≤ (wrap64 (((rd_L1 l0_4 0).length : Int) - 1)) then (if (wrap64 (((rd_L1 l0_4 0).length : Int) - 1)) < ((rd_L1 l0_4 0).length : Int) then (if 0 < (l0_5.length : Int) then (some (rd_L1 l0_4 0, decide ((rd (rd_L1 l0_4 0) (wrap64 (((rd_L1 l0_4 0).length : Int) - 1))) < ((rd_T25 l0_5 0).f1)))) else (none)) else (none)) else (none))) else (some (rd_L1 l0_4 0, false)))) else (none)) else (some (([] : List Int), false))) else (some (([] : List Int), false))) = some (r1, r2) := h
 clear h
 by_cases c2 : (l0_4.length : Int) = 1
 ·rw [if_pos c2] at H
  have c2b0 : ((l0_4.length : Int) == 1) = true := beq_iff_eq.mpr c2
  have c2b1 : ((l0_4.length : Int) != 1) = false := bne_eq_false_iff_eq.mpr c2
  clear c2
  by_cases c3 : (l0_5.length : Int) = 1
  ·rw [if_pos c3] at H
   have c3b0 : ((l0_5.length : Int) == 1) = true := beq_iff_eq.mpr c3
   have c3b1 : ((l0_5.length : Int) != 1) = false := bne_eq_false_iff_eq.mpr c3
   clear c3
   by_cases c4 : 0 < (l0_4.length : Int)
   ·rw [if_pos c4] at H
    have c4b0 : decide (0 < (l0_4.length : Int)) = true := decide_eq_true c4
    have c4b1 : decide (0 < l0_4.length) = true := decide_eq_true (by omega)
    clear c4
    replace H := Option.bind_eq_some_iff.mp H
    obtain ⟨t123, A50, H⟩ := H
    replace H : (if t123 = true then (if ((rd_L1 l0_4 0).length : Int) = 0 then (some (rd_L1 l0_4 0, true)) else (if 0 ≤ (wrap64 (((rd_L1 l0_4 0).length : Int) - 1)) then (if (wrap64 (((rd_L1 l0_4 0).length : Int) - 1)) < ((rd_L1 l0_4 0).length : Int) then (if 0 < (l0_5.length : Int) then (some (rd_L1 l0_4 0, decide ((rd (rd_L1 l0_4 0) (wrap64 (((rd_L1 l0_4 0).length : Int) - 1))) < ((rd_T25 l0_5 0).f1)))) else (none)) else (none)) else (none))) else (some (rd_L1 l0_4 0, false))) = some (r1, r2) := H
    have A5 := Aside0.mk A50
    clear A50
    by_cases c6 : t123 = true
    ·subst c6
     have H1 : (if ((rd_L1 l0_4 0).length : Int) = 0 then (some (rd_L1 l0_4 0, true)) else (if 0 ≤ (wrap64 (((rd_L1 l0_4 0).length : Int) - 1)) then (if (wrap64 (((rd_L1 l0_4 0).length : Int) - 1)) < ((rd_L1 l0_4 0).length : Int) then (if 0 < (l0_5.length : Int) then (some (rd_L1 l0_4 0, decide ((rd (rd_L1 l0_4 0) (wrap64 (((rd_L1 l0_4 0).length : Int) - 1))) < ((rd_T25 l0_5 0).f1)))) else (none)) else (none)) else (none))) = some (r1, r2) := by rw [if_pos rfl] at H; exact H
     clear H
     have H := H1
     clear H1
     by_cases c7 : ((rd_L1 l0_4 0).length : Int) = 0
     ·rw [if_pos c7] at H
      have c7b0 : (((rd_L1 l0_4 0).length : Int) == 0) = true := beq_iff_eq.mpr c7
      have c7b1 : (((rd_L1 l0_4 0).length : Int) != 0) = false := bne_eq_false_iff_eq.mpr c7
      clear c7
      simp only [Option.some.injEq, Prod.mk.injEq] at H
      obtain ⟨rfl, rfl⟩ := H
      go_enter Tryd.func53, Tryd.ntmps53
      go_wp2_with (first | ((with_reducible refine gate_dst (N := 1) rfl ?_); (try (refine gate_guard (by rfl) ?_; dsimp only)); refine box_event ?hg (N := 1) ?hd (cs := #[.int .i64 a0_0, .int .i64 a0_1, .int .i64 a0_2, .int .i64 a0_3, .slice A0_4 l0_4.length c0_4, .slice A0_5 l0_5.length c0_5]) (t := 25) ?hr ?_; (case hd => rfl); (case hg => rfl); (case hr => first | (go_simp; done) | (go_simp; rfl)); intro gb121 hg w8 hbox hb; have n0_ := Aside0.mk (Kd.V_below (Kd.V_elderB (by (with_reducible repeat (first | apply Kd.V_alloc | apply Kd.V_drewN | apply Kd.V_drew)); exact HO0_4.out) gb121 (Nat.le_of_eq hg.symm)) hb); have n1_ := Aside0.mk (below_step (by repeat (first | (with_reducible first | exact HB.out | apply below_alloc | apply pw_below_drewN | apply below_drew1) | exact HB.out)) hb); have n2_ := Aside0.mk (hbox); have n3_ := Aside0.mk ((by rw [hg]; exact (below_size (by repeat (first | (with_reducible first | exact HB.out | apply below_alloc | apply pw_below_drewN | apply below_drew1) | exact HB.out))) : w.heap.size ≤ gb121)); have n4_ := Aside0.mk ((by rw [hg]; exact (below_size (by repeat (first | (with_reducible first | exact HB.out | apply below_alloc | apply pw_below_drewN | apply below_drew1) | exact HB.out))) : w.heap.size ≤ gb121)); clear HO0_4; clear HB; have HO0_4 := n0_; have HB := n1_; have BK121 := n2_; have GW121 := n3_; have GE121 := n4_; clear n0_ n1_ n2_ n3_ n4_; clear hb hbox hg; have hcz9_0 : w8.cell? ⟨gb121, 0, none⟩ = some (.int .i64 a0_0) := (blk_cell BK121.out 0).trans rfl; have hcz9_1 : w8.cell? ⟨gb121, 1, none⟩ = some (.int .i64 a0_1) := (blk_cell BK121.out 1).trans rfl; have hcz9_2 : w8.cell? ⟨gb121, 2, none⟩ = some (.int .i64 a0_2) := (blk_cell BK121.out 2).trans rfl; have hcz9_3 : w8.cell? ⟨gb121, 3, none⟩ = some (.int .i64 a0_3) := (blk_cell BK121.out 3).trans rfl; have hcz9_4 : w8.cell? ⟨gb121, 4, none⟩ = some (.slice A0_4 l0_4.length c0_4) := (blk_cell BK121.out 4).trans rfl; have hcz9_5 : w8.cell? ⟨gb121, 5, none⟩ = some (.slice A0_5 l0_5.length c0_5) := (blk_cell BK121.out 5).trans rfl; have hfz9_0 := blk_frozen BK121.out 0; have hfz9_1 := blk_frozen BK121.out 1; have hfz9_2 := blk_frozen BK121.out 2; have hfz9_3 := blk_frozen BK121.out 3; have hfz9_4 := blk_frozen BK121.out 4; have hfz9_5 := blk_frozen BK121.out 5; have p122 : 0 ≤ (0 : Int) := (by omega); have q122 : 0 < (l0_4.length : Int) := of_decide_eq_true (by first | (with_reducible assumption) | assumption); obtain ⟨ad122, A122_0, c122_0, e122, hx122_0, hl122_0, hi122_0⟩ := at_L1 (Kd.V_reads' HO0_4.out).2.2 0 p122 q122; cases e122; obtain ⟨ce122, hce122, hMe122, hcc122⟩ := Kd.V_get HO0_4.out [] 0 p122 (by first | exact q122 | exact of_decide_eq_true (by first | (with_reducible assumption) | assumption) | (have e_ := (Kd.V_reads' HO0_4.out).1; omega)); obtain ⟨ua122_0, uc122_0, rfl, ul122_0, ge122_0⟩ := Kd.FK_slice_open hMe122; have hv122_0 := hcc122 0 _ rfl; rw [Nat.add_zero, show ((Kd.slice 3 (Kd.int .i64))).sz = 1 from rfl, Nat.mul_one] at hv122_0; replace hv122_0 := Option.some.inj (hv122_0.symm.trans hx122_0); injection hv122_0 with hva_ hvn_ hvc_; rw [hva_] at ge122_0; rw [hvc_] at ul122_0; have HL122_0 := Aside0.mk (show Kd.V (Kd.int .i64) 3 _ w.heap.size _ _ (rd_L1 l0_4 0) from Kd.V_mk ul122_0 ge122_0); clear hva_ hvn_ hvc_ ge122_0 ul122_0; clear hcc122 hce122; have qi122 : (0 < l0_4.length) = True := eq_true (by omega); (try rw [show ((0 : Int)).toNat = 0 from rfl] at hx122_0); (try rw [Addr.add_zero'] at hx122_0); have HR122_0 := Aside0.mk hi122_0; have HC122_0 := Aside0.mk hl122_0; clear hi122_0 hl122_0; replace p122 := eq_true p122; replace q122 := eq_true q122) | (go_at_call 21; (with_reducible refine (set_May.calls k _ _ (rd_L1 l0_4 0) true _ ?side1 ?side2 A5.out).mono ?_); (case side1 => repeat (first | exact (by repeat (first | (with_reducible exact HR122_0.out) | (with_reducible refine Kd.C_alloc ?_ _) | (with_reducible refine Kd.C_drewN ?_ _) | (with_reducible refine Kd.C_drew ?_) | exact HR122_0.out)) | (with_reducible refine Kd.C_alloc ?_ _) | (with_reducible refine Kd.C_drewN ?_ _) | (with_reducible refine Kd.C_drew ?_))); (case side2 => exact HC122_0.out); rintro e w' ⟨rfl, ⟨nd, rfl⟩⟩; (try first | exact ⟨rfl, _, World.drewN_drewN _ _ _⟩ | exact ⟨rfl, _, Eq.trans (World.drewN_drewN _ _ _) (congrArg (World.drewN _) (Nat.add_assoc _ _ _))⟩)))
      repeat (go_quiet (first | ((with_reducible refine gate_dst (N := 1) rfl ?_); (try (refine gate_guard (by rfl) ?_; dsimp only)); refine box_event ?hg (N := 1) ?hd (cs := #[.int .i64 a0_0, .int .i64 a0_1, .int .i64 a0_2, .int .i64 a0_3, .slice A0_4 l0_4.length c0_4, .slice A0_5 l0_5.length c0_5]) (t := 25) ?hr ?_; (case hd => rfl); (case hg => rfl); (case hr => first | (go_simp; done) | (go_simp; rfl)); intro gb121 hg w8 hbox hb; have n0_ := Aside0.mk (Kd.V_below (Kd.V_elderB (by (with_reducible repeat (first | apply Kd.V_alloc | apply Kd.V_drewN | apply Kd.V_drew)); exact HO0_4.out) gb121 (Nat.le_of_eq hg.symm)) hb); have n1_ := Aside0.mk (below_step (by repeat (first | (with_reducible first | exact HB.out | apply below_alloc | apply pw_below_drewN | apply below_drew1) | exact HB.out)) hb); have n2_ := Aside0.mk (hbox); have n3_ := Aside0.mk ((by rw [hg]; exact (below_size (by repeat (first | (with_reducible first | exact HB.out | apply below_alloc | apply pw_below_drewN | apply below_drew1) | exact HB.out))) : w.heap.size ≤ gb121)); have n4_ := Aside0.mk ((by rw [hg]; exact (below_size (by repeat (first | (with_reducible first | exact HB.out | apply below_alloc | apply pw_below_drewN | apply below_drew1) | exact HB.out))) : w.heap.size ≤ gb121)); clear HO0_4; clear HB; have HO0_4 := n0_; have HB := n1_; have BK121 := n2_; have GW121 := n3_; have GE121 := n4_; clear n0_ n1_ n2_ n3_ n4_; clear hb hbox hg; have hcz9_0 : w8.cell? ⟨gb121, 0, none⟩ = some (.int .i64 a0_0) := (blk_cell BK121.out 0).trans rfl; have hcz9_1 : w8.cell? ⟨gb121, 1, none⟩ = some (.int .i64 a0_1) := (blk_cell BK121.out 1).trans rfl; have hcz9_2 : w8.cell? ⟨gb121, 2, none⟩ = some (.int .i64 a0_2) := (blk_cell BK121.out 2).trans rfl; have hcz9_3 : w8.cell? ⟨gb121, 3, none⟩ = some (.int .i64 a0_3) := (blk_cell BK121.out 3).trans rfl; have hcz9_4 : w8.cell? ⟨gb121, 4, none⟩ = some (.slice A0_4 l0_4.length c0_4) := (blk_cell BK121.out 4).trans rfl; have hcz9_5 : w8.cell? ⟨gb121, 5, none⟩ = some (.slice A0_5 l0_5.length c0_5) := (blk_cell BK121.out 5).trans rfl; have hfz9_0 := blk_frozen BK121.out 0; have hfz9_1 := blk_frozen BK121.out 1; have hfz9_2 := blk_frozen BK121.out 2; have hfz9_3 := blk_frozen BK121.out 3; have hfz9_4 := blk_frozen BK121.out 4; have hfz9_5 := blk_frozen BK121.out 5; have p122 : 0 ≤ (0 : Int) := (by omega); have q122 : 0 < (l0_4.length : Int) := of_decide_eq_true (by first | (with_reducible assumption) | assumption); obtain ⟨ad122, A122_0, c122_0, e122, hx122_0, hl122_0, hi122_0⟩ := at_L1 (Kd.V_reads' HO0_4.out).2.2 0 p122 q122; cases e122; obtain ⟨ce122, hce122, hMe122, hcc122⟩ := Kd.V_get HO0_4.out [] 0 p122 (by first | exact q122 | exact of_decide_eq_true (by first | (with_reducible assumption) | assumption) | (have e_ := (Kd.V_reads' HO0_4.out).1; omega)); obtain ⟨ua122_0, uc122_0, rfl, ul122_0, ge122_0⟩ := Kd.FK_slice_open hMe122; have hv122_0 := hcc122 0 _ rfl; rw [Nat.add_zero, show ((Kd.slice 3 (Kd.int .i64))).sz = 1 from rfl, Nat.mul_one] at hv122_0; replace hv122_0 := Option.some.inj (hv122_0.symm.trans hx122_0); injection hv122_0 with hva_ hvn_ hvc_; rw [hva_] at ge122_0; rw [hvc_] at ul122_0; have HL122_0 := Aside0.mk (show Kd.V (Kd.int .i64) 3 _ w.heap.size _ _ (rd_L1 l0_4 0) from Kd.V_mk ul122_0 ge122_0); clear hva_ hvn_ hvc_ ge122_0 ul122_0; clear hcc122 hce122; have qi122 : (0 < l0_4.length) = True := eq_true (by omega); (try rw [show ((0 : Int)).toNat = 0 from rfl] at hx122_0); (try rw [Addr.add_zero'] at hx122_0); have HR122_0 := Aside0.mk hi122_0; have HC122_0 := Aside0.mk hl122_0; clear hi122_0 hl122_0; replace p122 := eq_true p122; replace q122 := eq_true q122) | (go_at_call 21; (with_reducible refine (set_May.calls k _ _ (rd_L1 l0_4 0) true _ ?side1 ?side2 A5.out).mono ?_); (case side1 => repeat (first | exact (by repeat (first | (with_reducible exact HR122_0.out) | (with_reducible refine Kd.C_alloc ?_ _) | (with_reducible refine Kd.C_drewN ?_ _) | (with_reducible refine Kd.C_drew ?_) | exact HR122_0.out)) | (with_reducible refine Kd.C_alloc ?_ _) | (with_reducible refine Kd.C_drewN ?_ _) | (with_reducible refine Kd.C_drew ?_))); (case side2 => exact HC122_0.out); rintro e w' ⟨rfl, ⟨nd, rfl⟩⟩; (try first | exact ⟨rfl, _, World.drewN_drewN _ _ _⟩ | exact ⟨rfl, _, Eq.trans (World.drewN_drewN _ _ _) (congrArg (World.drewN _) (Nat.add_assoc _ _ _))⟩))); try go_wp2_with (first | ((with_reducible refine gate_dst (N := 1) rfl ?_); (try (refine gate_guard (by rfl) ?_; dsimp only)); refine box_event ?hg (N := 1) ?hd (cs := #[.int .i64 a0_0, .int .i64 a0_1, .int .i64 a0_2, .int .i64 a0_3, .slice A0_4 l0_4.length c0_4, .slice A0_5 l0_5.length c0_5]) (t := 25) ?hr ?_; (case hd => rfl); (case hg => rfl); (case hr => first | (go_simp; done) | (go_simp; rfl)); intro gb121 hg w8 hbox hb; have n0_ := Aside0.mk (Kd.V_below (Kd.V_elderB (by (with_reducible repeat (first | apply Kd.V_alloc | apply Kd.V_drewN | apply Kd.V_drew)); exact HO0_4.out) gb121 (Nat.le_of_eq hg.symm)) hb); have n1_ := Aside0.mk (below_step (by repeat (first | (with_reducible first | exact HB.out | apply below_alloc | apply pw_below_drewN | apply below_drew1) | exact HB.out)) hb); have n2_ := Aside0.mk (hbox); have n3_ := Aside0.mk ((by rw [hg]; exact (below_size (by repeat (first | (with_reducible first | exact HB.out | apply below_alloc | apply pw_below_drewN | apply below_drew1) | exact HB.out))) : w.heap.size ≤ gb121)); have n4_ := Aside0.mk ((by rw [hg]; exact (below_size (by repeat (first | (with_reducible first | exact HB.out | apply below_alloc | apply pw_below_drewN | apply below_drew1) | exact HB.out))) : w.heap.size ≤ gb121)); clear HO0_4; clear HB; have HO0_4 := n0_; have HB := n1_; have BK121 := n2_; have GW121 := n3_; have GE121 := n4_; clear n0_ n1_ n2_ n3_ n4_; clear hb hbox hg; have hcz9_0 : w8.cell? ⟨gb121, 0, none⟩ = some (.int .i64 a0_0) := (blk_cell BK121.out 0).trans rfl; have hcz9_1 : w8.cell? ⟨gb121, 1, none⟩ = some (.int .i64 a0_1) := (blk_cell BK121.out 1).trans rfl; have hcz9_2 : w8.cell? ⟨gb121, 2, none⟩ = some (.int .i64 a0_2) := (blk_cell BK121.out 2).trans rfl; have hcz9_3 : w8.cell? ⟨gb121, 3, none⟩ = some (.int .i64 a0_3) := (blk_cell BK121.out 3).trans rfl; have hcz9_4 : w8.cell? ⟨gb121, 4, none⟩ = some (.slice A0_4 l0_4.length c0_4) := (blk_cell BK121.out 4).trans rfl; have hcz9_5 : w8.cell? ⟨gb121, 5, none⟩ = some (.slice A0_5 l0_5.length c0_5) := (blk_cell BK121.out 5).trans rfl; have hfz9_0 := blk_frozen BK121.out 0; have hfz9_1 := blk_frozen BK121.out 1; have hfz9_2 := blk_frozen BK121.out 2; have hfz9_3 := blk_frozen BK121.out 3; have hfz9_4 := blk_frozen BK121.out 4; have hfz9_5 := blk_frozen BK121.out 5; have p122 : 0 ≤ (0 : Int) := (by omega); have q122 : 0 < (l0_4.length : Int) := of_decide_eq_true (by first | (with_reducible assumption) | assumption); obtain ⟨ad122, A122_0, c122_0, e122, hx122_0, hl122_0, hi122_0⟩ := at_L1 (Kd.V_reads' HO0_4.out).2.2 0 p122 q122; cases e122; obtain ⟨ce122, hce122, hMe122, hcc122⟩ := Kd.V_get HO0_4.out [] 0 p122 (by first | exact q122 | exact of_decide_eq_true (by first | (with_reducible assumption) | assumption) | (have e_ := (Kd.V_reads' HO0_4.out).1; omega)); obtain ⟨ua122_0, uc122_0, rfl, ul122_0, ge122_0⟩ := Kd.FK_slice_open hMe122; have hv122_0 := hcc122 0 _ rfl; rw [Nat.add_zero, show ((Kd.slice 3 (Kd.int .i64))).sz = 1 from rfl, Nat.mul_one] at hv122_0; replace hv122_0 := Option.some.inj (hv122_0.symm.trans hx122_0); injection hv122_0 with hva_ hvn_ hvc_; rw [hva_] at ge122_0; rw [hvc_] at ul122_0; have HL122_0 := Aside0.mk (show Kd.V (Kd.int .i64) 3 _ w.heap.size _ _ (rd_L1 l0_4 0) from Kd.V_mk ul122_0 ge122_0); clear hva_ hvn_ hvc_ ge122_0 ul122_0; clear hcc122 hce122; have qi122 : (0 < l0_4.length) = True := eq_true (by omega); (try rw [show ((0 : Int)).toNat = 0 from rfl] at hx122_0); (try rw [Addr.add_zero'] at hx122_0); have HR122_0 := Aside0.mk hi122_0; have HC122_0 := Aside0.mk hl122_0; clear hi122_0 hl122_0; replace p122 := eq_true p122; replace q122 := eq_true q122) | (go_at_call 21; (with_reducible refine (set_May.calls k _ _ (rd_L1 l0_4 0) true _ ?side1 ?side2 A5.out).mono ?_); (case side1 => repeat (first | exact (by repeat (first | (with_reducible exact HR122_0.out) | (with_reducible refine Kd.C_alloc ?_ _) | (with_reducible refine Kd.C_drewN ?_ _) | (with_reducible refine Kd.C_drew ?_) | exact HR122_0.out)) | (with_reducible refine Kd.C_alloc ?_ _) | (with_reducible refine Kd.C_drewN ?_ _) | (with_reducible refine Kd.C_drew ?_))); (case side2 => exact HC122_0.out); rintro e w' ⟨rfl, ⟨nd, rfl⟩⟩; (try first | exact ⟨rfl, _, World.drewN_drewN _ _ _⟩ | exact ⟨rfl, _, Eq.trans (World.drewN_drewN _ _ _) (congrArg (World.drewN _) (Nat.add_assoc _ _ _))⟩))))
      go_ret2
      exact ⟨_, by first | rfl | (simp [errW_none, errW_some] <;> rfl) | (simp [*, errW_none, errW_some] <;> rfl), by (with_reducible repeat (first | apply Kd.V_alloc | apply Kd.V_drewN | apply Kd.V_drew)); exact Kd.V_mono HL122_0.out (fun _ hk => hk.1), by repeat (first | (with_reducible first | exact HB.out | apply below_alloc | apply pw_below_drewN | apply below_drew1 | refine below_set ?_ GE121.out) | exact HB.out)⟩
     ·rw [if_neg c7] at H
      have c7b0 : (((rd_L1 l0_4 0).length : Int) == 0) = false := beq_eq_false_iff_ne.mpr c7
      have c7b1 : (((rd_L1 l0_4 0).length : Int) != 0) = true := bne_iff_ne.mpr c7
      have c7b2 : ¬ ((rd_L1 l0_4 0) = []) := fun h_ => c7 (by rw [h_]; rfl)
      obtain ⟨ji10, hji10⟩ : ∃ j_ : Int, (wrap64 (((rd_L1 l0_4 0).length : Int) - 1)) = j_ := ⟨_, rfl⟩
      replace H : (if 0 ≤ (ji10) then (if (ji10) < ((rd_L1 l0_4 0).length : Int) then (if 0 < (l0_5.length : Int) then (some (rd_L1 l0_4 0, decide ((rd (rd_L1 l0_4 0) (ji10)) < ((rd_T25 l0_5 0).f1)))) else (none)) else (none)) else (none)) = some (r1, r2) := by first | (rw [hji10] at H; exact H) | (simp only [hji10] at H ⊢; exact H)
      (try rw [hji10] at A5)
      have hji10w : (IntKind.i64.wrap (((rd_L1 l0_4 0).length : Int) - 1)) = ji10 := (i64_w _).trans hji10
      by_cases c11 : 0 ≤ (ji10)
      ·rw [if_pos c11] at H
       have c11b0 : decide (0 ≤ (ji10)) = true := decide_eq_true c11
       clear c11
       by_cases c12 : (ji10) < ((rd_L1 l0_4 0).length : Int)
       ·rw [if_pos c12] at H
        have c12b0 : decide ((ji10) < ((rd_L1 l0_4 0).length : Int)) = true := decide_eq_true c12
        clear c12
        by_cases c13 : 0 < (l0_5.length : Int)
        ·rw [if_pos c13] at H
         have c13b0 : decide (0 < (l0_5.length : Int)) = true := decide_eq_true c13
         have c13b1 : decide (0 < l0_5.length) = true := decide_eq_true (by omega)
         clear c13
         simp only [Option.some.injEq, Prod.mk.injEq] at H
         obtain ⟨rfl, rfl⟩ := H
         go_enter Tryd.func53, Tryd.ntmps53
         go_wp2_with (first | ((with_reducible refine gate_dst (N := 1) rfl ?_); (try (refine gate_guard (by rfl) ?_; dsimp only)); refine box_event ?hg (N := 1) ?hd (cs := #[.int .i64 a0_0, .int .i64 a0_1, .int .i64 a0_2, .int .i64 a0_3, .slice A0_4 l0_4.length c0_4, .slice A0_5 l0_5.length c0_5]) (t := 25) ?hr ?_; (case hd => rfl); (case hg => rfl); (case hr => first | (go_simp; done) | (go_simp; rfl)); intro gb121 hg w14 hbox hb; have n0_ := Aside0.mk (Kd.V_below (Kd.V_elderB (by (with_reducible repeat (first | apply Kd.V_alloc | apply Kd.V_drewN | apply Kd.V_drew)); exact HO0_4.out) gb121 (Nat.le_of_eq hg.symm)) hb); have n1_ := Aside0.mk (below_step (by repeat (first | (with_reducible first | exact HB.out | apply below_alloc | apply pw_below_drewN | apply below_drew1) | exact HB.out)) hb); have n2_ := Aside0.mk (hbox); have n3_ := Aside0.mk ((by rw [hg]; exact (below_size (by repeat (first | (with_reducible first | exact HB.out | apply below_alloc | apply pw_below_drewN | apply below_drew1) | exact HB.out))) : w.heap.size ≤ gb121)); have n4_ := Aside0.mk ((by rw [hg]; exact (below_size (by repeat (first | (with_reducible first | exact HB.out | apply below_alloc | apply pw_below_drewN | apply below_drew1) | exact HB.out))) : w.heap.size ≤ gb121)); clear HO0_4; clear HB; have HO0_4 := n0_; have HB := n1_; have BK121 := n2_; have GW121 := n3_; have GE121 := n4_; clear n0_ n1_ n2_ n3_ n4_; clear hb hbox hg; have hcz15_0 : w14.cell? ⟨gb121, 0, none⟩ = some (.int .i64 a0_0) := (blk_cell BK121.out 0).trans rfl; have hcz15_1 : w14.cell? ⟨gb121, 1, none⟩ = some (.int .i64 a0_1) := (blk_cell BK121.out 1).trans rfl; have hcz15_2 : w14.cell? ⟨gb121, 2, none⟩ = some (.int .i64 a0_2) := (blk_cell BK121.out 2).trans rfl; have hcz15_3 : w14.cell? ⟨gb121, 3, none⟩ = some (.int .i64 a0_3) := (blk_cell BK121.out 3).trans rfl; have hcz15_4 : w14.cell? ⟨gb121, 4, none⟩ = some (.slice A0_4 l0_4.length c0_4) := (blk_cell BK121.out 4).trans rfl; have hcz15_5 : w14.cell? ⟨gb121, 5, none⟩ = some (.slice A0_5 l0_5.length c0_5) := (blk_cell BK121.out 5).trans rfl; have hfz15_0 := blk_frozen BK121.out 0; have hfz15_1 := blk_frozen BK121.out 1; have hfz15_2 := blk_frozen BK121.out 2; have hfz15_3 := blk_frozen BK121.out 3; have hfz15_4 := blk_frozen BK121.out 4; have hfz15_5 := blk_frozen BK121.out 5; have p122 : 0 ≤ (0 : Int) := (by omega); have q122 : 0 < (l0_4.length : Int) := of_decide_eq_true (by first | (with_reducible assumption) | assumption); obtain ⟨ad122, A122_0, c122_0, e122, hx122_0, hl122_0, hi122_0⟩ := at_L1 (Kd.V_reads' HO0_4.out).2.2 0 p122 q122; cases e122; obtain ⟨ce122, hce122, hMe122, hcc122⟩ := Kd.V_get HO0_4.out [] 0 p122 (by first | exact q122 | exact of_decide_eq_true (by first | (with_reducible assumption) | assumption) | (have e_ := (Kd.V_reads' HO0_4.out).1; omega)); obtain ⟨ua122_0, uc122_0, rfl, ul122_0, ge122_0⟩ := Kd.FK_slice_open hMe122; have hv122_0 := hcc122 0 _ rfl; rw [Nat.add_zero, show ((Kd.slice 3 (Kd.int .i64))).sz = 1 from rfl, Nat.mul_one] at hv122_0; replace hv122_0 := Option.some.inj (hv122_0.symm.trans hx122_0); injection hv122_0 with hva_ hvn_ hvc_; rw [hva_] at ge122_0; rw [hvc_] at ul122_0; have HL122_0 := Aside0.mk (show Kd.V (Kd.int .i64) 3 _ w.heap.size _ _ (rd_L1 l0_4 0) from Kd.V_mk ul122_0 ge122_0); clear hva_ hvn_ hvc_ ge122_0 ul122_0; clear hcc122 hce122; have qi122 : (0 < l0_4.length) = True := eq_true (by omega); (try rw [show ((0 : Int)).toNat = 0 from rfl] at hx122_0); (try rw [Addr.add_zero'] at hx122_0); have HR122_0 := Aside0.mk hi122_0; have HC122_0 := Aside0.mk hl122_0; clear hi122_0 hl122_0; replace p122 := eq_true p122; replace q122 := eq_true q122) | (go_at_call 21; (with_reducible refine (set_May.calls k _ _ (rd_L1 l0_4 0) true _ ?side1 ?side2 A5.out).mono ?_); (case side1 => repeat (first | exact (by repeat (first | (with_reducible exact HR122_0.out) | (with_reducible refine Kd.C_alloc ?_ _) | (with_reducible refine Kd.C_drewN ?_ _) | (with_reducible refine Kd.C_drew ?_) | exact HR122_0.out)) | (with_reducible refine Kd.C_alloc ?_ _) | (with_reducible refine Kd.C_drewN ?_ _) | (with_reducible refine Kd.C_drew ?_))); (case side2 => exact HC122_0.out); rintro e w' ⟨rfl, ⟨nd, rfl⟩⟩; (try first | exact ⟨rfl, _, World.drewN_drewN _ _ _⟩ | exact ⟨rfl, _, Eq.trans (World.drewN_drewN _ _ _) (congrArg (World.drewN _) (Nat.add_assoc _ _ _))⟩); have p124 : 0 ≤ ((ji10) : Int) := of_decide_eq_true (by first | (with_reducible assumption) | assumption); have q124 : (ji10) < ((rd_L1 l0_4 0).length : Int) := of_decide_eq_true (by first | (with_reducible assumption) | assumption); obtain ⟨ad124, e124, hx124_0⟩ := Kd.at_int (by repeat (first | (with_reducible exact HR122_0.out) | (with_reducible refine Kd.C_alloc ?_ _) | (with_reducible refine Kd.C_drewN ?_ _) | (with_reducible refine Kd.C_drew ?_) | exact HR122_0.out)) (ji10) p124 q124; cases e124; replace p124 := eq_true p124; replace q124 := eq_true q124; have p125 : 0 ≤ (0 : Int) := (by omega); have q125 : 0 < (l0_5.length : Int) := of_decide_eq_true (by first | (with_reducible assumption) | assumption); obtain ⟨ad125, A125_4, c125_4, A125_5, c125_5, e125, hx125_0, hx125_1, hx125_2, hx125_3, hx125_4, hx125_5, hl125_4, hi125_4, hl125_5, hi125_5⟩ := at_T25 HR0_5.out 0 p125 q125; cases e125; have qi125 : (0 < l0_5.length) = True := eq_true (by omega); (try rw [show ((0 : Int)).toNat = 0 from rfl] at hx125_0); (try rw [show 0 * 6 = 0 from rfl] at hx125_0); (try rw [Addr.add_zero'] at hx125_0); (try rw [show ((0 : Int)).toNat = 0 from rfl] at hx125_1); (try rw [show 0 * 6 = 0 from rfl] at hx125_1); (try rw [Addr.add_zero'] at hx125_1); (try rw [show ((0 : Int)).toNat = 0 from rfl] at hx125_2); (try rw [show 0 * 6 = 0 from rfl] at hx125_2); (try rw [Addr.add_zero'] at hx125_2); (try rw [show ((0 : Int)).toNat = 0 from rfl] at hx125_3); (try rw [show 0 * 6 = 0 from rfl] at hx125_3); (try rw [Addr.add_zero'] at hx125_3); (try rw [show ((0 : Int)).toNat = 0 from rfl] at hx125_4); (try rw [show 0 * 6 = 0 from rfl] at hx125_4); (try rw [Addr.add_zero'] at hx125_4); (try rw [show ((0 : Int)).toNat = 0 from rfl] at hx125_5); (try rw [show 0 * 6 = 0 from rfl] at hx125_5); (try rw [Addr.add_zero'] at hx125_5); replace hx125_0 := (HB.out.cell (World.block_lt_of_cell? w _ hx125_0)).trans hx125_0; replace hx125_1 := (HB.out.cell (World.block_lt_of_cell? w _ hx125_1)).trans hx125_1; replace hx125_2 := (HB.out.cell (World.block_lt_of_cell? w _ hx125_2)).trans hx125_2; replace hx125_3 := (HB.out.cell (World.block_lt_of_cell? w _ hx125_3)).trans hx125_3; replace hx125_4 := (HB.out.cell (World.block_lt_of_cell? w _ hx125_4)).trans hx125_4; replace hx125_5 := (HB.out.cell (World.block_lt_of_cell? w _ hx125_5)).trans hx125_5; have HR125_4 := Aside0.mk hi125_4; have HC125_4 := Aside0.mk hl125_4; clear hi125_4 hl125_4; have HR125_5 := Aside0.mk hi125_5; have HC125_5 := Aside0.mk hl125_5; clear hi125_5 hl125_5; replace p125 := eq_true p125; replace q125 := eq_true q125))
         repeat (go_quiet (first | ((with_reducible refine gate_dst (N := 1) rfl ?_); (try (refine gate_guard (by rfl) ?_; dsimp only)); refine box_event ?hg (N := 1) ?hd (cs := #[.int .i64 a0_0, .int .i64 a0_1, .int .i64 a0_2, .int .i64 a0_3, .slice A0_4 l0_4.length c0_4, .slice A0_5 l0_5.length c0_5]) (t := 25) ?hr ?_; (case hd => rfl); (case hg => rfl); (case hr => first | (go_simp; done) | (go_simp; rfl)); intro gb121 hg w14 hbox hb; have n0_ := Aside0.mk (Kd.V_below (Kd.V_elderB (by (with_reducible repeat (first | apply Kd.V_alloc | apply Kd.V_drewN | apply Kd.V_drew)); exact HO0_4.out) gb121 (Nat.le_of_eq hg.symm)) hb); have n1_ := Aside0.mk (below_step (by repeat (first | (with_reducible first | exact HB.out | apply below_alloc | apply pw_below_drewN | apply below_drew1) | exact HB.out)) hb); have n2_ := Aside0.mk (hbox); have n3_ := Aside0.mk ((by rw [hg]; exact (below_size (by repeat (first | (with_reducible first | exact HB.out | apply below_alloc | apply pw_below_drewN | apply below_drew1) | exact HB.out))) : w.heap.size ≤ gb121)); have n4_ := Aside0.mk ((by rw [hg]; exact (below_size (by repeat (first | (with_reducible first | exact HB.out | apply below_alloc | apply pw_below_drewN | apply below_drew1) | exact HB.out))) : w.heap.size ≤ gb121)); clear HO0_4; clear HB; have HO0_4 := n0_; have HB := n1_; have BK121 := n2_; have GW121 := n3_; have GE121 := n4_; clear n0_ n1_ n2_ n3_ n4_; clear hb hbox hg; have hcz15_0 : w14.cell? ⟨gb121, 0, none⟩ = some (.int .i64 a0_0) := (blk_cell BK121.out 0).trans rfl; have hcz15_1 : w14.cell? ⟨gb121, 1, none⟩ = some (.int .i64 a0_1) := (blk_cell BK121.out 1).trans rfl; have hcz15_2 : w14.cell? ⟨gb121, 2, none⟩ = some (.int .i64 a0_2) := (blk_cell BK121.out 2).trans rfl; have hcz15_3 : w14.cell? ⟨gb121, 3, none⟩ = some (.int .i64 a0_3) := (blk_cell BK121.out 3).trans rfl; have hcz15_4 : w14.cell? ⟨gb121, 4, none⟩ = some (.slice A0_4 l0_4.length c0_4) := (blk_cell BK121.out 4).trans rfl; have hcz15_5 : w14.cell? ⟨gb121, 5, none⟩ = some (.slice A0_5 l0_5.length c0_5) := (blk_cell BK121.out 5).trans rfl; have hfz15_0 := blk_frozen BK121.out 0; have hfz15_1 := blk_frozen BK121.out 1; have hfz15_2 := blk_frozen BK121.out 2; have hfz15_3 := blk_frozen BK121.out 3; have hfz15_4 := blk_frozen BK121.out 4; have hfz15_5 := blk_frozen BK121.out 5; have p122 : 0 ≤ (0 : Int) := (by omega); have q122 : 0 < (l0_4.length : Int) := of_decide_eq_true (by first | (with_reducible assumption) | assumption); obtain ⟨ad122, A122_0, c122_0, e122, hx122_0, hl122_0, hi122_0⟩ := at_L1 (Kd.V_reads' HO0_4.out).2.2 0 p122 q122; cases e122; obtain ⟨ce122, hce122, hMe122, hcc122⟩ := Kd.V_get HO0_4.out [] 0 p122 (by first | exact q122 | exact of_decide_eq_true (by first | (with_reducible assumption) | assumption) | (have e_ := (Kd.V_reads' HO0_4.out).1; omega)); obtain ⟨ua122_0, uc122_0, rfl, ul122_0, ge122_0⟩ := Kd.FK_slice_open hMe122; have hv122_0 := hcc122 0 _ rfl; rw [Nat.add_zero, show ((Kd.slice 3 (Kd.int .i64))).sz = 1 from rfl, Nat.mul_one] at hv122_0; replace hv122_0 := Option.some.inj (hv122_0.symm.trans hx122_0); injection hv122_0 with hva_ hvn_ hvc_; rw [hva_] at ge122_0; rw [hvc_] at ul122_0; have HL122_0 := Aside0.mk (show Kd.V (Kd.int .i64) 3 _ w.heap.size _ _ (rd_L1 l0_4 0) from Kd.V_mk ul122_0 ge122_0); clear hva_ hvn_ hvc_ ge122_0 ul122_0; clear hcc122 hce122; have qi122 : (0 < l0_4.length) = True := eq_true (by omega); (try rw [show ((0 : Int)).toNat = 0 from rfl] at hx122_0); (try rw [Addr.add_zero'] at hx122_0); have HR122_0 := Aside0.mk hi122_0; have HC122_0 := Aside0.mk hl122_0; clear hi122_0 hl122_0; replace p122 := eq_true p122; replace q122 := eq_true q122) | (go_at_call 21; (with_reducible refine (set_May.calls k _ _ (rd_L1 l0_4 0) true _ ?side1 ?side2 A5.out).mono ?_); (case side1 => repeat (first | exact (by repeat (first | (with_reducible exact HR122_0.out) | (with_reducible refine Kd.C_alloc ?_ _) | (with_reducible refine Kd.C_drewN ?_ _) | (with_reducible refine Kd.C_drew ?_) | exact HR122_0.out)) | (with_reducible refine Kd.C_alloc ?_ _) | (with_reducible refine Kd.C_drewN ?_ _) | (with_reducible refine Kd.C_drew ?_))); (case side2 => exact HC122_0.out); rintro e w' ⟨rfl, ⟨nd, rfl⟩⟩; (try first | exact ⟨rfl, _, World.drewN_drewN _ _ _⟩ | exact ⟨rfl, _, Eq.trans (World.drewN_drewN _ _ _) (congrArg (World.drewN _) (Nat.add_assoc _ _ _))⟩); have p124 : 0 ≤ ((ji10) : Int) := of_decide_eq_true (by first | (with_reducible assumption) | assumption); have q124 : (ji10) < ((rd_L1 l0_4 0).length : Int) := of_decide_eq_true (by first | (with_reducible assumption) | assumption); obtain ⟨ad124, e124, hx124_0⟩ := Kd.at_int (by repeat (first | (with_reducible exact HR122_0.out) | (with_reducible refine Kd.C_alloc ?_ _) | (with_reducible refine Kd.C_drewN ?_ _) | (with_reducible refine Kd.C_drew ?_) | exact HR122_0.out)) (ji10) p124 q124; cases e124; replace p124 := eq_true p124; replace q124 := eq_true q124; have p125 : 0 ≤ (0 : Int) := (by omega); have q125 : 0 < (l0_5.length : Int) := of_decide_eq_true (by first | (with_reducible assumption) | assumption); obtain ⟨ad125, A125_4, c125_4, A125_5, c125_5, e125, hx125_0, hx125_1, hx125_2, hx125_3, hx125_4, hx125_5, hl125_4, hi125_4, hl125_5, hi125_5⟩ := at_T25 HR0_5.out 0 p125 q125; cases e125; have qi125 : (0 < l0_5.length) = True := eq_true (by omega); (try rw [show ((0 : Int)).toNat = 0 from rfl] at hx125_0); (try rw [show 0 * 6 = 0 from rfl] at hx125_0); (try rw [Addr.add_zero'] at hx125_0); (try rw [show ((0 : Int)).toNat = 0 from rfl] at hx125_1); (try rw [show 0 * 6 = 0 from rfl] at hx125_1); (try rw [Addr.add_zero'] at hx125_1); (try rw [show ((0 : Int)).toNat = 0 from rfl] at hx125_2); (try rw [show 0 * 6 = 0 from rfl] at hx125_2); (try rw [Addr.add_zero'] at hx125_2); (try rw [show ((0 : Int)).toNat = 0 from rfl] at hx125_3); (try rw [show 0 * 6 = 0 from rfl] at hx125_3); (try rw [Addr.add_zero'] at hx125_3); (try rw [show ((0 : Int)).toNat = 0 from rfl] at hx125_4); (try rw [show 0 * 6 = 0 from rfl] at hx125_4); (try rw [Addr.add_zero'] at hx125_4); (try rw [show ((0 : Int)).toNat = 0 from rfl] at hx125_5); (try rw [show 0 * 6 = 0 from rfl] at hx125_5); (try rw [Addr.add_zero'] at hx125_5); replace hx125_0 := (HB.out.cell (World.block_lt_of_cell? w _ hx125_0)).trans hx125_0; replace hx125_1 := (HB.out.cell (World.block_lt_of_cell? w _ hx125_1)).trans hx125_1; replace hx125_2 := (HB.out.cell (World.block_lt_of_cell? w _ hx125_2)).trans hx125_2; replace hx125_3 := (HB.out.cell (World.block_lt_of_cell? w _ hx125_3)).trans hx125_3; replace hx125_4 := (HB.out.cell (World.block_lt_of_cell? w _ hx125_4)).trans hx125_4; replace hx125_5 := (HB.out.cell (World.block_lt_of_cell? w _ hx125_5)).trans hx125_5; have HR125_4 := Aside0.mk hi125_4; have HC125_4 := Aside0.mk hl125_4; clear hi125_4 hl125_4; have HR125_5 := Aside0.mk hi125_5; have HC125_5 := Aside0.mk hl125_5; clear hi125_5 hl125_5; replace p125 := eq_true p125; replace q125 := eq_true q125)); try go_wp2_with (first | ((with_reducible refine gate_dst (N := 1) rfl ?_); (try (refine gate_guard (by rfl) ?_; dsimp only)); refine box_event ?hg (N := 1) ?hd (cs := #[.int .i64 a0_0, .int .i64 a0_1, .int .i64 a0_2, .int .i64 a0_3, .slice A0_4 l0_4.length c0_4, .slice A0_5 l0_5.length c0_5]) (t := 25) ?hr ?_; (case hd => rfl); (case hg => rfl); (case hr => first | (go_simp; done) | (go_simp; rfl)); intro gb121 hg w14 hbox hb; have n0_ := Aside0.mk (Kd.V_below (Kd.V_elderB (by (with_reducible repeat (first | apply Kd.V_alloc | apply Kd.V_drewN | apply Kd.V_drew)); exact HO0_4.out) gb121 (Nat.le_of_eq hg.symm)) hb); have n1_ := Aside0.mk (below_step (by repeat (first | (with_reducible first | exact HB.out | apply below_alloc | apply pw_below_drewN | apply below_drew1) | exact HB.out)) hb); have n2_ := Aside0.mk (hbox); have n3_ := Aside0.mk ((by rw [hg]; exact (below_size (by repeat (first | (with_reducible first | exact HB.out | apply below_alloc | apply pw_below_drewN | apply below_drew1) | exact HB.out))) : w.heap.size ≤ gb121)); have n4_ := Aside0.mk ((by rw [hg]; exact (below_size (by repeat (first | (with_reducible first | exact HB.out | apply below_alloc | apply pw_below_drewN | apply below_drew1) | exact HB.out))) : w.heap.size ≤ gb121)); clear HO0_4; clear HB; have HO0_4 := n0_; have HB := n1_; have BK121 := n2_; have GW121 := n3_; have GE121 := n4_; clear n0_ n1_ n2_ n3_ n4_; clear hb hbox hg; have hcz15_0 : w14.cell? ⟨gb121, 0, none⟩ = some (.int .i64 a0_0) := (blk_cell BK121.out 0).trans rfl; have hcz15_1 : w14.cell? ⟨gb121, 1, none⟩ = some (.int .i64 a0_1) := (blk_cell BK121.out 1).trans rfl; have hcz15_2 : w14.cell? ⟨gb121, 2, none⟩ = some (.int .i64 a0_2) := (blk_cell BK121.out 2).trans rfl; have hcz15_3 : w14.cell? ⟨gb121, 3, none⟩ = some (.int .i64 a0_3) := (blk_cell BK121.out 3).trans rfl; have hcz15_4 : w14.cell? ⟨gb121, 4, none⟩ = some (.slice A0_4 l0_4.length c0_4) := (blk_cell BK121.out 4).trans rfl; have hcz15_5 : w14.cell? ⟨gb121, 5, none⟩ = some (.slice A0_5 l0_5.length c0_5) := (blk_cell BK121.out 5).trans rfl; have hfz15_0 := blk_frozen BK121.out 0; have hfz15_1 := blk_frozen BK121.out 1; have hfz15_2 := blk_frozen BK121.out 2; have hfz15_3 := blk_frozen BK121.out 3; have hfz15_4 := blk_frozen BK121.out 4; have hfz15_5 := blk_frozen BK121.out 5; have p122 : 0 ≤ (0 : Int) := (by omega); have q122 : 0 < (l0_4.length : Int) := of_decide_eq_true (by first | (with_reducible assumption) | assumption); obtain ⟨ad122, A122_0, c122_0, e122, hx122_0, hl122_0, hi122_0⟩ := at_L1 (Kd.V_reads' HO0_4.out).2.2 0 p122 q122; cases e122; obtain ⟨ce122, hce122, hMe122, hcc122⟩ := Kd.V_get HO0_4.out [] 0 p122 (by first | exact q122 | exact of_decide_eq_true (by first | (with_reducible assumption) | assumption) | (have e_ := (Kd.V_reads' HO0_4.out).1; omega)); obtain ⟨ua122_0, uc122_0, rfl, ul122_0, ge122_0⟩ := Kd.FK_slice_open hMe122; have hv122_0 := hcc122 0 _ rfl; rw [Nat.add_zero, show ((Kd.slice 3 (Kd.int .i64))).sz = 1 from rfl, Nat.mul_one] at hv122_0; replace hv122_0 := Option.some.inj (hv122_0.symm.trans hx122_0); injection hv122_0 with hva_ hvn_ hvc_; rw [hva_] at ge122_0; rw [hvc_] at ul122_0; have HL122_0 := Aside0.mk (show Kd.V (Kd.int .i64) 3 _ w.heap.size _ _ (rd_L1 l0_4 0) from Kd.V_mk ul122_0 ge122_0); clear hva_ hvn_ hvc_ ge122_0 ul122_0; clear hcc122 hce122; have qi122 : (0 < l0_4.length) = True := eq_true (by omega); (try rw [show ((0 : Int)).toNat = 0 from rfl] at hx122_0); (try rw [Addr.add_zero'] at hx122_0); have HR122_0 := Aside0.mk hi122_0; have HC122_0 := Aside0.mk hl122_0; clear hi122_0 hl122_0; replace p122 := eq_true p122; replace q122 := eq_true q122) | (go_at_call 21; (with_reducible refine (set_May.calls k _ _ (rd_L1 l0_4 0) true _ ?side1 ?side2 A5.out).mono ?_); (case side1 => repeat (first | exact (by repeat (first | (with_reducible exact HR122_0.out) | (with_reducible refine Kd.C_alloc ?_ _) | (with_reducible refine Kd.C_drewN ?_ _) | (with_reducible refine Kd.C_drew ?_) | exact HR122_0.out)) | (with_reducible refine Kd.C_alloc ?_ _) | (with_reducible refine Kd.C_drewN ?_ _) | (with_reducible refine Kd.C_drew ?_))); (case side2 => exact HC122_0.out); rintro e w' ⟨rfl, ⟨nd, rfl⟩⟩; (try first | exact ⟨rfl, _, World.drewN_drewN _ _ _⟩ | exact ⟨rfl, _, Eq.trans (World.drewN_drewN _ _ _) (congrArg (World.drewN _) (Nat.add_assoc _ _ _))⟩); have p124 : 0 ≤ ((ji10) : Int) := of_decide_eq_true (by first | (with_reducible assumption) | assumption); have q124 : (ji10) < ((rd_L1 l0_4 0).length : Int) := of_decide_eq_true (by first | (with_reducible assumption) | assumption); obtain ⟨ad124, e124, hx124_0⟩ := Kd.at_int (by repeat (first | (with_reducible exact HR122_0.out) | (with_reducible refine Kd.C_alloc ?_ _) | (with_reducible refine Kd.C_drewN ?_ _) | (with_reducible refine Kd.C_drew ?_) | exact HR122_0.out)) (ji10) p124 q124; cases e124; replace p124 := eq_true p124; replace q124 := eq_true q124; have p125 : 0 ≤ (0 : Int) := (by omega); have q125 : 0 < (l0_5.length : Int) := of_decide_eq_true (by first | (with_reducible assumption) | assumption); obtain ⟨ad125, A125_4, c125_4, A125_5, c125_5, e125, hx125_0, hx125_1, hx125_2, hx125_3, hx125_4, hx125_5, hl125_4, hi125_4, hl125_5, hi125_5⟩ := at_T25 HR0_5.out 0 p125 q125; cases e125; have qi125 : (0 < l0_5.length) = True := eq_true (by omega); (try rw [show ((0 : Int)).toNat = 0 from rfl] at hx125_0); (try rw [show 0 * 6 = 0 from rfl] at hx125_0); (try rw [Addr.add_zero'] at hx125_0); (try rw [show ((0 : Int)).toNat = 0 from rfl] at hx125_1); (try rw [show 0 * 6 = 0 from rfl] at hx125_1); (try rw [Addr.add_zero'] at hx125_1); (try rw [show ((0 : Int)).toNat = 0 from rfl] at hx125_2); (try rw [show 0 * 6 = 0 from rfl] at hx125_2); (try rw [Addr.add_zero'] at hx125_2); (try rw [show ((0 : Int)).toNat = 0 from rfl] at hx125_3); (try rw [show 0 * 6 = 0 from rfl] at hx125_3); (try rw [Addr.add_zero'] at hx125_3); (try rw [show ((0 : Int)).toNat = 0 from rfl] at hx125_4); (try rw [show 0 * 6 = 0 from rfl] at hx125_4); (try rw [Addr.add_zero'] at hx125_4); (try rw [show ((0 : Int)).toNat = 0 from rfl] at hx125_5); (try rw [show 0 * 6 = 0 from rfl] at hx125_5); (try rw [Addr.add_zero'] at hx125_5); replace hx125_0 := (HB.out.cell (World.block_lt_of_cell? w _ hx125_0)).trans hx125_0; replace hx125_1 := (HB.out.cell (World.block_lt_of_cell? w _ hx125_1)).trans hx125_1; replace hx125_2 := (HB.out.cell (World.block_lt_of_cell? w _ hx125_2)).trans hx125_2; replace hx125_3 := (HB.out.cell (World.block_lt_of_cell? w _ hx125_3)).trans hx125_3; replace hx125_4 := (HB.out.cell (World.block_lt_of_cell? w _ hx125_4)).trans hx125_4; replace hx125_5 := (HB.out.cell (World.block_lt_of_cell? w _ hx125_5)).trans hx125_5; have HR125_4 := Aside0.mk hi125_4; have HC125_4 := Aside0.mk hl125_4; clear hi125_4 hl125_4; have HR125_5 := Aside0.mk hi125_5; have HC125_5 := Aside0.mk hl125_5; clear hi125_5 hl125_5; replace p125 := eq_true p125; replace q125 := eq_true q125)))
         go_ret2
         exact ⟨_, by first | rfl | (simp [errW_none, errW_some] <;> rfl) | (simp only [← hji10]; first | rfl | (simp [errW_none, errW_some] <;> rfl)) | (simp [*, errW_none, errW_some] <;> rfl), by (with_reducible repeat (first | apply Kd.V_alloc | apply Kd.V_drewN | apply Kd.V_drew)); exact Kd.V_mono HL122_0.out (fun _ hk => hk.1), by repeat (first | (with_reducible first | exact HB.out | apply below_alloc | apply pw_below_drewN | apply below_drew1 | refine below_set ?_ GE121.out) | exact HB.out)⟩
        ·rw [if_neg c13] at H
         exact absurd H (by simp)
       ·rw [if_neg c12] at H
        exact absurd H (by simp)
      ·rw [if_neg c11] at H
       exact absurd H (by simp)
    ·replace c6 := Bool.eq_false_iff.mpr c6
     subst c6
     have H1 : (some (rd_L1 l0_4 0, false)) = some (r1, r2) := by rw [if_neg (show ¬ (false = true) by decide)] at H; exact H
     clear H
     have H := H1
     clear H1
     simp only [Option.some.injEq, Prod.mk.injEq] at H
     obtain ⟨rfl, rfl⟩ := H
     go_enter Tryd.func53, Tryd.ntmps53
     go_wp2_with (first | ((with_reducible refine gate_dst (N := 1) rfl ?_); (try (refine gate_guard (by rfl) ?_; dsimp only)); refine box_event ?hg (N := 1) ?hd (cs := #[.int .i64 a0_0, .int .i64 a0_1, .int .i64 a0_2, .int .i64 a0_3, .slice A0_4 l0_4.length c0_4, .slice A0_5 l0_5.length c0_5]) (t := 25) ?hr ?_; (case hd => rfl); (case hg => rfl); (case hr => first | (go_simp; done) | (go_simp; rfl)); intro gb121 hg w16 hbox hb; have n0_ := Aside0.mk (Kd.V_below (Kd.V_elderB (by (with_reducible repeat (first | apply Kd.V_alloc | apply Kd.V_drewN | apply Kd.V_drew)); exact HO0_4.out) gb121 (Nat.le_of_eq hg.symm)) hb); have n1_ := Aside0.mk (below_step (by repeat (first | (with_reducible first | exact HB.out | apply below_alloc | apply pw_below_drewN | apply below_drew1) | exact HB.out)) hb); have n2_ := Aside0.mk (hbox); have n3_ := Aside0.mk ((by rw [hg]; exact (below_size (by repeat (first | (with_reducible first | exact HB.out | apply below_alloc | apply pw_below_drewN | apply below_drew1) | exact HB.out))) : w.heap.size ≤ gb121)); have n4_ := Aside0.mk ((by rw [hg]; exact (below_size (by repeat (first | (with_reducible first | exact HB.out | apply below_alloc | apply pw_below_drewN | apply below_drew1) | exact HB.out))) : w.heap.size ≤ gb121)); clear HO0_4; clear HB; have HO0_4 := n0_; have HB := n1_; have BK121 := n2_; have GW121 := n3_; have GE121 := n4_; clear n0_ n1_ n2_ n3_ n4_; clear hb hbox hg; have hcz17_0 : w16.cell? ⟨gb121, 0, none⟩ = some (.int .i64 a0_0) := (blk_cell BK121.out 0).trans rfl; have hcz17_1 : w16.cell? ⟨gb121, 1, none⟩ = some (.int .i64 a0_1) := (blk_cell BK121.out 1).trans rfl; have hcz17_2 : w16.cell? ⟨gb121, 2, none⟩ = some (.int .i64 a0_2) := (blk_cell BK121.out 2).trans rfl; have hcz17_3 : w16.cell? ⟨gb121, 3, none⟩ = some (.int .i64 a0_3) := (blk_cell BK121.out 3).trans rfl; have hcz17_4 : w16.cell? ⟨gb121, 4, none⟩ = some (.slice A0_4 l0_4.length c0_4) := (blk_cell BK121.out 4).trans rfl; have hcz17_5 : w16.cell? ⟨gb121, 5, none⟩ = some (.slice A0_5 l0_5.length c0_5) := (blk_cell BK121.out 5).trans rfl; have hfz17_0 := blk_frozen BK121.out 0; have hfz17_1 := blk_frozen BK121.out 1; have hfz17_2 := blk_frozen BK121.out 2; have hfz17_3 := blk_frozen BK121.out 3; have hfz17_4 := blk_frozen BK121.out 4; have hfz17_5 := blk_frozen BK121.out 5; have p122 : 0 ≤ (0 : Int) := (by omega); have q122 : 0 < (l0_4.length : Int) := of_decide_eq_true (by first | (with_reducible assumption) | assumption); obtain ⟨ad122, A122_0, c122_0, e122, hx122_0, hl122_0, hi122_0⟩ := at_L1 (Kd.V_reads' HO0_4.out).2.2 0 p122 q122; cases e122; obtain ⟨ce122, hce122, hMe122, hcc122⟩ := Kd.V_get HO0_4.out [] 0 p122 (by first | exact q122 | exact of_decide_eq_true (by first | (with_reducible assumption) | assumption) | (have e_ := (Kd.V_reads' HO0_4.out).1; omega)); obtain ⟨ua122_0, uc122_0, rfl, ul122_0, ge122_0⟩ := Kd.FK_slice_open hMe122; have hv122_0 := hcc122 0 _ rfl; rw [Nat.add_zero, show ((Kd.slice 3 (Kd.int .i64))).sz = 1 from rfl, Nat.mul_one] at hv122_0; replace hv122_0 := Option.some.inj (hv122_0.symm.trans hx122_0); injection hv122_0 with hva_ hvn_ hvc_; rw [hva_] at ge122_0; rw [hvc_] at ul122_0; have HL122_0 := Aside0.mk (show Kd.V (Kd.int .i64) 3 _ w.heap.size _ _ (rd_L1 l0_4 0) from Kd.V_mk ul122_0 ge122_0); clear hva_ hvn_ hvc_ ge122_0 ul122_0; clear hcc122 hce122; have qi122 : (0 < l0_4.length) = True := eq_true (by omega); (try rw [show ((0 : Int)).toNat = 0 from rfl] at hx122_0); (try rw [Addr.add_zero'] at hx122_0); have HR122_0 := Aside0.mk hi122_0; have HC122_0 := Aside0.mk hl122_0; clear hi122_0 hl122_0; replace p122 := eq_true p122; replace q122 := eq_true q122) | (go_at_call 21; (with_reducible refine (set_May.calls k _ _ (rd_L1 l0_4 0) false _ ?side1 ?side2 A5.out).mono ?_); (case side1 => repeat (first | exact (by repeat (first | (with_reducible exact HR122_0.out) | (with_reducible refine Kd.C_alloc ?_ _) | (with_reducible refine Kd.C_drewN ?_ _) | (with_reducible refine Kd.C_drew ?_) | exact HR122_0.out)) | (with_reducible refine Kd.C_alloc ?_ _) | (with_reducible refine Kd.C_drewN ?_ _) | (with_reducible refine Kd.C_drew ?_))); (case side2 => exact HC122_0.out); rintro e w' ⟨rfl, ⟨nd, rfl⟩⟩; (try first | exact ⟨rfl, _, World.drewN_drewN _ _ _⟩ | exact ⟨rfl, _, Eq.trans (World.drewN_drewN _ _ _) (congrArg (World.drewN _) (Nat.add_assoc _ _ _))⟩)))
     repeat (go_quiet (first | ((with_reducible refine gate_dst (N := 1) rfl ?_); (try (refine gate_guard (by rfl) ?_; dsimp only)); refine box_event ?hg (N := 1) ?hd (cs := #[.int .i64 a0_0, .int .i64 a0_1, .int .i64 a0_2, .int .i64 a0_3, .slice A0_4 l0_4.length c0_4, .slice A0_5 l0_5.length c0_5]) (t := 25) ?hr ?_; (case hd => rfl); (case hg => rfl); (case hr => first | (go_simp; done) | (go_simp; rfl)); intro gb121 hg w16 hbox hb; have n0_ := Aside0.mk (Kd.V_below (Kd.V_elderB (by (with_reducible repeat (first | apply Kd.V_alloc | apply Kd.V_drewN | apply Kd.V_drew)); exact HO0_4.out) gb121 (Nat.le_of_eq hg.symm)) hb); have n1_ := Aside0.mk (below_step (by repeat (first | (with_reducible first | exact HB.out | apply below_alloc | apply pw_below_drewN | apply below_drew1) | exact HB.out)) hb); have n2_ := Aside0.mk (hbox); have n3_ := Aside0.mk ((by rw [hg]; exact (below_size (by repeat (first | (with_reducible first | exact HB.out | apply below_alloc | apply pw_below_drewN | apply below_drew1) | exact HB.out))) : w.heap.size ≤ gb121)); have n4_ := Aside0.mk ((by rw [hg]; exact (below_size (by repeat (first | (with_reducible first | exact HB.out | apply below_alloc | apply pw_below_drewN | apply below_drew1) | exact HB.out))) : w.heap.size ≤ gb121)); clear HO0_4; clear HB; have HO0_4 := n0_; have HB := n1_; have BK121 := n2_; have GW121 := n3_; have GE121 := n4_; clear n0_ n1_ n2_ n3_ n4_; clear hb hbox hg; have hcz17_0 : w16.cell? ⟨gb121, 0, none⟩ = some (.int .i64 a0_0) := (blk_cell BK121.out 0).trans rfl; have hcz17_1 : w16.cell? ⟨gb121, 1, none⟩ = some (.int .i64 a0_1) := (blk_cell BK121.out 1).trans rfl; have hcz17_2 : w16.cell? ⟨gb121, 2, none⟩ = some (.int .i64 a0_2) := (blk_cell BK121.out 2).trans rfl; have hcz17_3 : w16.cell? ⟨gb121, 3, none⟩ = some (.int .i64 a0_3) := (blk_cell BK121.out 3).trans rfl; have hcz17_4 : w16.cell? ⟨gb121, 4, none⟩ = some (.slice A0_4 l0_4.length c0_4) := (blk_cell BK121.out 4).trans rfl; have hcz17_5 : w16.cell? ⟨gb121, 5, none⟩ = some (.slice A0_5 l0_5.length c0_5) := (blk_cell BK121.out 5).trans rfl; have hfz17_0 := blk_frozen BK121.out 0; have hfz17_1 := blk_frozen BK121.out 1; have hfz17_2 := blk_frozen BK121.out 2; have hfz17_3 := blk_frozen BK121.out 3; have hfz17_4 := blk_frozen BK121.out 4; have hfz17_5 := blk_frozen BK121.out 5; have p122 : 0 ≤ (0 : Int) := (by omega); have q122 : 0 < (l0_4.length : Int) := of_decide_eq_true (by first | (with_reducible assumption) | assumption); obtain ⟨ad122, A122_0, c122_0, e122, hx122_0, hl122_0, hi122_0⟩ := at_L1 (Kd.V_reads' HO0_4.out).2.2 0 p122 q122; cases e122; obtain ⟨ce122, hce122, hMe122, hcc122⟩ := Kd.V_get HO0_4.out [] 0 p122 (by first | exact q122 | exact of_decide_eq_true (by first | (with_reducible assumption) | assumption) | (have e_ := (Kd.V_reads' HO0_4.out).1; omega)); obtain ⟨ua122_0, uc122_0, rfl, ul122_0, ge122_0⟩ := Kd.FK_slice_open hMe122; have hv122_0 := hcc122 0 _ rfl; rw [Nat.add_zero, show ((Kd.slice 3 (Kd.int .i64))).sz = 1 from rfl, Nat.mul_one] at hv122_0; replace hv122_0 := Option.some.inj (hv122_0.symm.trans hx122_0); injection hv122_0 with hva_ hvn_ hvc_; rw [hva_] at ge122_0; rw [hvc_] at ul122_0; have HL122_0 := Aside0.mk (show Kd.V (Kd.int .i64) 3 _ w.heap.size _ _ (rd_L1 l0_4 0) from Kd.V_mk ul122_0 ge122_0); clear hva_ hvn_ hvc_ ge122_0 ul122_0; clear hcc122 hce122; have qi122 : (0 < l0_4.length) = True := eq_true (by omega); (try rw [show ((0 : Int)).toNat = 0 from rfl] at hx122_0); (try rw [Addr.add_zero'] at hx122_0); have HR122_0 := Aside0.mk hi122_0; have HC122_0 := Aside0.mk hl122_0; clear hi122_0 hl122_0; replace p122 := eq_true p122; replace q122 := eq_true q122) | (go_at_call 21; (with_reducible refine (set_May.calls k _ _ (rd_L1 l0_4 0) false _ ?side1 ?side2 A5.out).mono ?_); (case side1 => repeat (first | exact (by repeat (first | (with_reducible exact HR122_0.out) | (with_reducible refine Kd.C_alloc ?_ _) | (with_reducible refine Kd.C_drewN ?_ _) | (with_reducible refine Kd.C_drew ?_) | exact HR122_0.out)) | (with_reducible refine Kd.C_alloc ?_ _) | (with_reducible refine Kd.C_drewN ?_ _) | (with_reducible refine Kd.C_drew ?_))); (case side2 => exact HC122_0.out); rintro e w' ⟨rfl, ⟨nd, rfl⟩⟩; (try first | exact ⟨rfl, _, World.drewN_drewN _ _ _⟩ | exact ⟨rfl, _, Eq.trans (World.drewN_drewN _ _ _) (congrArg (World.drewN _) (Nat.add_assoc _ _ _))⟩))); try go_wp2_with (first | ((with_reducible refine gate_dst (N := 1) rfl ?_); (try (refine gate_guard (by rfl) ?_; dsimp only)); refine box_event ?hg (N := 1) ?hd (cs := #[.int .i64 a0_0, .int .i64 a0_1, .int .i64 a0_2, .int .i64 a0_3, .slice A0_4 l0_4.length c0_4, .slice A0_5 l0_5.length c0_5]) (t := 25) ?hr ?_; (case hd => rfl); (case hg => rfl); (case hr => first | (go_simp; done) | (go_simp; rfl)); intro gb121 hg w16 hbox hb; have n0_ := Aside0.mk (Kd.V_below (Kd.V_elderB (by (with_reducible repeat (first | apply Kd.V_alloc | apply Kd.V_drewN | apply Kd.V_drew)); exact HO0_4.out) gb121 (Nat.le_of_eq hg.symm)) hb); have n1_ := Aside0.mk (below_step (by repeat (first | (with_reducible first | exact HB.out | apply below_alloc | apply pw_below_drewN | apply below_drew1) | exact HB.out)) hb); have n2_ := Aside0.mk (hbox); have n3_ := Aside0.mk ((by rw [hg]; exact (below_size (by repeat (first | (with_reducible first | exact HB.out | apply below_alloc | apply pw_below_drewN | apply below_drew1) | exact HB.out))) : w.heap.size ≤ gb121)); have n4_ := Aside0.mk ((by rw [hg]; exact (below_size (by repeat (first | (with_reducible first | exact HB.out | apply below_alloc | apply pw_below_drewN | apply below_drew1) | exact HB.out))) : w.heap.size ≤ gb121)); clear HO0_4; clear HB; have HO0_4 := n0_; have HB := n1_; have BK121 := n2_; have GW121 := n3_; have GE121 := n4_; clear n0_ n1_ n2_ n3_ n4_; clear hb hbox hg; have hcz17_0 : w16.cell? ⟨gb121, 0, none⟩ = some (.int .i64 a0_0) := (blk_cell BK121.out 0).trans rfl; have hcz17_1 : w16.cell? ⟨gb121, 1, none⟩ = some (.int .i64 a0_1) := (blk_cell BK121.out 1).trans rfl; have hcz17_2 : w16.cell? ⟨gb121, 2, none⟩ = some (.int .i64 a0_2) := (blk_cell BK121.out 2).trans rfl; have hcz17_3 : w16.cell? ⟨gb121, 3, none⟩ = some (.int .i64 a0_3) := (blk_cell BK121.out 3).trans rfl; have hcz17_4 : w16.cell? ⟨gb121, 4, none⟩ = some (.slice A0_4 l0_4.length c0_4) := (blk_cell BK121.out 4).trans rfl; have hcz17_5 : w16.cell? ⟨gb121, 5, none⟩ = some (.slice A0_5 l0_5.length c0_5) := (blk_cell BK121.out 5).trans rfl; have hfz17_0 := blk_frozen BK121.out 0; have hfz17_1 := blk_frozen BK121.out 1; have hfz17_2 := blk_frozen BK121.out 2; have hfz17_3 := blk_frozen BK121.out 3; have hfz17_4 := blk_frozen BK121.out 4; have hfz17_5 := blk_frozen BK121.out 5; have p122 : 0 ≤ (0 : Int) := (by omega); have q122 : 0 < (l0_4.length : Int) := of_decide_eq_true (by first | (with_reducible assumption) | assumption); obtain ⟨ad122, A122_0, c122_0, e122, hx122_0, hl122_0, hi122_0⟩ := at_L1 (Kd.V_reads' HO0_4.out).2.2 0 p122 q122; cases e122; obtain ⟨ce122, hce122, hMe122, hcc122⟩ := Kd.V_get HO0_4.out [] 0 p122 (by first | exact q122 | exact of_decide_eq_true (by first | (with_reducible assumption) | assumption) | (have e_ := (Kd.V_reads' HO0_4.out).1; omega)); obtain ⟨ua122_0, uc122_0, rfl, ul122_0, ge122_0⟩ := Kd.FK_slice_open hMe122; have hv122_0 := hcc122 0 _ rfl; rw [Nat.add_zero, show ((Kd.slice 3 (Kd.int .i64))).sz = 1 from rfl, Nat.mul_one] at hv122_0; replace hv122_0 := Option.some.inj (hv122_0.symm.trans hx122_0); injection hv122_0 with hva_ hvn_ hvc_; rw [hva_] at ge122_0; rw [hvc_] at ul122_0; have HL122_0 := Aside0.mk (show Kd.V (Kd.int .i64) 3 _ w.heap.size _ _ (rd_L1 l0_4 0) from Kd.V_mk ul122_0 ge122_0); clear hva_ hvn_ hvc_ ge122_0 ul122_0; clear hcc122 hce122; have qi122 : (0 < l0_4.length) = True := eq_true (by omega); (try rw [show ((0 : Int)).toNat = 0 from rfl] at hx122_0); (try rw [Addr.add_zero'] at hx122_0); have HR122_0 := Aside0.mk hi122_0; have HC122_0 := Aside0.mk hl122_0; clear hi122_0 hl122_0; replace p122 := eq_true p122; replace q122 := eq_true q122) | (go_at_call 21; (with_reducible refine (set_May.calls k _ _ (rd_L1 l0_4 0) false _ ?side1 ?side2 A5.out).mono ?_); (case side1 => repeat (first | exact (by repeat (first | (with_reducible exact HR122_0.out) | (with_reducible refine Kd.C_alloc ?_ _) | (with_reducible refine Kd.C_drewN ?_ _) | (with_reducible refine Kd.C_drew ?_) | exact HR122_0.out)) | (with_reducible refine Kd.C_alloc ?_ _) | (with_reducible refine Kd.C_drewN ?_ _) | (with_reducible refine Kd.C_drew ?_))); (case side2 => exact HC122_0.out); rintro e w' ⟨rfl, ⟨nd, rfl⟩⟩; (try first | exact ⟨rfl, _, World.drewN_drewN _ _ _⟩ | exact ⟨rfl, _, Eq.trans (World.drewN_drewN _ _ _) (congrArg (World.drewN _) (Nat.add_assoc _ _ _))⟩))))
     go_ret2
     exact ⟨_, by first | rfl | (simp [errW_none, errW_some] <;> rfl) | (simp [*, errW_none, errW_some] <;> rfl), by (with_reducible repeat (first | apply Kd.V_alloc | apply Kd.V_drewN | apply Kd.V_drew)); exact Kd.V_mono HL122_0.out (fun _ hk => hk.1), by repeat (first | (with_reducible first | exact HB.out | apply below_alloc | apply pw_below_drewN | apply below_drew1 | refine below_set ?_ GE121.out) | exact HB.out)⟩
   ·rw [if_neg c4] at H
    exact absurd H (by simp)
  ·rw [if_neg c3] at H
   have c3b0 : ((l0_5.length : Int) == 1) = false := beq_eq_false_iff_ne.mpr c3
   have c3b1 : ((l0_5.length : Int) != 1) = true := bne_iff_ne.mpr c3
   simp only [Option.some.injEq, Prod.mk.injEq] at H
   obtain ⟨rfl, rfl⟩ := H
   go_enter Tryd.func53, Tryd.ntmps53
   go_wp2_with (first | ((with_reducible refine gate_dst (N := 1) rfl ?_); (try (refine gate_guard (by rfl) ?_; dsimp only)); refine box_event ?hg (N := 1) ?hd (cs := #[.int .i64 a0_0, .int .i64 a0_1, .int .i64 a0_2, .int .i64 a0_3, .slice A0_4 l0_4.length c0_4, .slice A0_5 l0_5.length c0_5]) (t := 25) ?hr ?_; (case hd => rfl); (case hg => rfl); (case hr => first | (go_simp; done) | (go_simp; rfl)); intro gb121 hg w18 hbox hb; have n0_ := Aside0.mk (Kd.V_below (Kd.V_elderB (by (with_reducible repeat (first | apply Kd.V_alloc | apply Kd.V_drewN | apply Kd.V_drew)); exact HO0_4.out) gb121 (Nat.le_of_eq hg.symm)) hb); have n1_ := Aside0.mk (below_step (by repeat (first | (with_reducible first | exact HB.out | apply below_alloc | apply pw_below_drewN | apply below_drew1) | exact HB.out)) hb); have n2_ := Aside0.mk (hbox); have n3_ := Aside0.mk ((by rw [hg]; exact (below_size (by repeat (first | (with_reducible first | exact HB.out | apply below_alloc | apply pw_below_drewN | apply below_drew1) | exact HB.out))) : w.heap.size ≤ gb121)); have n4_ := Aside0.mk ((by rw [hg]; exact (below_size (by repeat (first | (with_reducible first | exact HB.out | apply below_alloc | apply pw_below_drewN | apply below_drew1) | exact HB.out))) : w.heap.size ≤ gb121)); clear HO0_4; clear HB; have HO0_4 := n0_; have HB := n1_; have BK121 := n2_; have GW121 := n3_; have GE121 := n4_; clear n0_ n1_ n2_ n3_ n4_; clear hb hbox hg; have hcz19_0 : w18.cell? ⟨gb121, 0, none⟩ = some (.int .i64 a0_0) := (blk_cell BK121.out 0).trans rfl; have hcz19_1 : w18.cell? ⟨gb121, 1, none⟩ = some (.int .i64 a0_1) := (blk_cell BK121.out 1).trans rfl; have hcz19_2 : w18.cell? ⟨gb121, 2, none⟩ = some (.int .i64 a0_2) := (blk_cell BK121.out 2).trans rfl; have hcz19_3 : w18.cell? ⟨gb121, 3, none⟩ = some (.int .i64 a0_3) := (blk_cell BK121.out 3).trans rfl; have hcz19_4 : w18.cell? ⟨gb121, 4, none⟩ = some (.slice A0_4 l0_4.length c0_4) := (blk_cell BK121.out 4).trans rfl; have hcz19_5 : w18.cell? ⟨gb121, 5, none⟩ = some (.slice A0_5 l0_5.length c0_5) := (blk_cell BK121.out 5).trans rfl; have hfz19_0 := blk_frozen BK121.out 0; have hfz19_1 := blk_frozen BK121.out 1; have hfz19_2 := blk_frozen BK121.out 2; have hfz19_3 := blk_frozen BK121.out 3; have hfz19_4 := blk_frozen BK121.out 4; have hfz19_5 := blk_frozen BK121.out 5))
   repeat (go_quiet (first | ((with_reducible refine gate_dst (N := 1) rfl ?_); (try (refine gate_guard (by rfl) ?_; dsimp only)); refine box_event ?hg (N := 1) ?hd (cs := #[.int .i64 a0_0, .int .i64 a0_1, .int .i64 a0_2, .int .i64 a0_3, .slice A0_4 l0_4.length c0_4, .slice A0_5 l0_5.length c0_5]) (t := 25) ?hr ?_; (case hd => rfl); (case hg => rfl); (case hr => first | (go_simp; done) | (go_simp; rfl)); intro gb121 hg w18 hbox hb; have n0_ := Aside0.mk (Kd.V_below (Kd.V_elderB (by (with_reducible repeat (first | apply Kd.V_alloc | apply Kd.V_drewN | apply Kd.V_drew)); exact HO0_4.out) gb121 (Nat.le_of_eq hg.symm)) hb); have n1_ := Aside0.mk (below_step (by repeat (first | (with_reducible first | exact HB.out | apply below_alloc | apply pw_below_drewN | apply below_drew1) | exact HB.out)) hb); have n2_ := Aside0.mk (hbox); have n3_ := Aside0.mk ((by rw [hg]; exact (below_size (by repeat (first | (with_reducible first | exact HB.out | apply below_alloc | apply pw_below_drewN | apply below_drew1) | exact HB.out))) : w.heap.size ≤ gb121)); have n4_ := Aside0.mk ((by rw [hg]; exact (below_size (by repeat (first | (with_reducible first | exact HB.out | apply below_alloc | apply pw_below_drewN | apply below_drew1) | exact HB.out))) : w.heap.size ≤ gb121)); clear HO0_4; clear HB; have HO0_4 := n0_; have HB := n1_; have BK121 := n2_; have GW121 := n3_; have GE121 := n4_; clear n0_ n1_ n2_ n3_ n4_; clear hb hbox hg; have hcz19_0 : w18.cell? ⟨gb121, 0, none⟩ = some (.int .i64 a0_0) := (blk_cell BK121.out 0).trans rfl; have hcz19_1 : w18.cell? ⟨gb121, 1, none⟩ = some (.int .i64 a0_1) := (blk_cell BK121.out 1).trans rfl; have hcz19_2 : w18.cell? ⟨gb121, 2, none⟩ = some (.int .i64 a0_2) := (blk_cell BK121.out 2).trans rfl; have hcz19_3 : w18.cell? ⟨gb121, 3, none⟩ = some (.int .i64 a0_3) := (blk_cell BK121.out 3).trans rfl; have hcz19_4 : w18.cell? ⟨gb121, 4, none⟩ = some (.slice A0_4 l0_4.length c0_4) := (blk_cell BK121.out 4).trans rfl; have hcz19_5 : w18.cell? ⟨gb121, 5, none⟩ = some (.slice A0_5 l0_5.length c0_5) := (blk_cell BK121.out 5).trans rfl; have hfz19_0 := blk_frozen BK121.out 0; have hfz19_1 := blk_frozen BK121.out 1; have hfz19_2 := blk_frozen BK121.out 2; have hfz19_3 := blk_frozen BK121.out 3; have hfz19_4 := blk_frozen BK121.out 4; have hfz19_5 := blk_frozen BK121.out 5)); try go_wp2_with (first | ((with_reducible refine gate_dst (N := 1) rfl ?_); (try (refine gate_guard (by rfl) ?_; dsimp only)); refine box_event ?hg (N := 1) ?hd (cs := #[.int .i64 a0_0, .int .i64 a0_1, .int .i64 a0_2, .int .i64 a0_3, .slice A0_4 l0_4.length c0_4, .slice A0_5 l0_5.length c0_5]) (t := 25) ?hr ?_; (case hd => rfl); (case hg => rfl); (case hr => first | (go_simp; done) | (go_simp; rfl)); intro gb121 hg w18 hbox hb; have n0_ := Aside0.mk (Kd.V_below (Kd.V_elderB (by (with_reducible repeat (first | apply Kd.V_alloc | apply Kd.V_drewN | apply Kd.V_drew)); exact HO0_4.out) gb121 (Nat.le_of_eq hg.symm)) hb); have n1_ := Aside0.mk (below_step (by repeat (first | (with_reducible first | exact HB.out | apply below_alloc | apply pw_below_drewN | apply below_drew1) | exact HB.out)) hb); have n2_ := Aside0.mk (hbox); have n3_ := Aside0.mk ((by rw [hg]; exact (below_size (by repeat (first | (with_reducible first | exact HB.out | apply below_alloc | apply pw_below_drewN | apply below_drew1) | exact HB.out))) : w.heap.size ≤ gb121)); have n4_ := Aside0.mk ((by rw [hg]; exact (below_size (by repeat (first | (with_reducible first | exact HB.out | apply below_alloc | apply pw_below_drewN | apply below_drew1) | exact HB.out))) : w.heap.size ≤ gb121)); clear HO0_4; clear HB; have HO0_4 := n0_; have HB := n1_; have BK121 := n2_; have GW121 := n3_; have GE121 := n4_; clear n0_ n1_ n2_ n3_ n4_; clear hb hbox hg; have hcz19_0 : w18.cell? ⟨gb121, 0, none⟩ = some (.int .i64 a0_0) := (blk_cell BK121.out 0).trans rfl; have hcz19_1 : w18.cell? ⟨gb121, 1, none⟩ = some (.int .i64 a0_1) := (blk_cell BK121.out 1).trans rfl; have hcz19_2 : w18.cell? ⟨gb121, 2, none⟩ = some (.int .i64 a0_2) := (blk_cell BK121.out 2).trans rfl; have hcz19_3 : w18.cell? ⟨gb121, 3, none⟩ = some (.int .i64 a0_3) := (blk_cell BK121.out 3).trans rfl; have hcz19_4 : w18.cell? ⟨gb121, 4, none⟩ = some (.slice A0_4 l0_4.length c0_4) := (blk_cell BK121.out 4).trans rfl; have hcz19_5 : w18.cell? ⟨gb121, 5, none⟩ = some (.slice A0_5 l0_5.length c0_5) := (blk_cell BK121.out 5).trans rfl; have hfz19_0 := blk_frozen BK121.out 0; have hfz19_1 := blk_frozen BK121.out 1; have hfz19_2 := blk_frozen BK121.out 2; have hfz19_3 := blk_frozen BK121.out 3; have hfz19_4 := blk_frozen BK121.out 4; have hfz19_5 := blk_frozen BK121.out 5)))
   go_ret2
   exact ⟨_, by first | rfl | (simp [errW_none, errW_some] <;> rfl) | (simp [*, errW_none, errW_some] <;> rfl), (by first | exact Kd.V_nil _ _ _ _ _ | exact Kd.V_mono (Kd.R_V (by first | exact Kd.R_nil _ _ _ _ _ | exact Kd.N_nil _ _ _ _ _ | exact Kd.V_nil _ _ _ _ _ | exact Kd.Q_nil _ _ _ _ _ | exact Kd.S_nil _ _ _ _ _)) (fun k_ hk => by first | exact ⟨(.inr (hk.1)), hk.2⟩ | exact (.inr (hk)))), by repeat (first | (with_reducible first | exact HB.out | apply below_alloc | apply pw_below_drewN | apply below_drew1 | refine below_set ?_ GE121.out) | exact HB.out)⟩
 ·rw [if_neg c2] at H
  have c2b0 : ((l0_4.length : Int) == 1) = false := beq_eq_false_iff_ne.mpr c2
  have c2b1 : ((l0_4.length : Int) != 1) = true := bne_iff_ne.mpr c2
  simp only [Option.some.injEq, Prod.mk.injEq] at H
  obtain ⟨rfl, rfl⟩ := H
  go_enter Tryd.func53, Tryd.ntmps53
  go_wp2_with (first | ((with_reducible refine gate_dst (N := 1) rfl ?_); (try (refine gate_guard (by rfl) ?_; dsimp only)); refine box_event ?hg (N := 1) ?hd (cs := #[.int .i64 a0_0, .int .i64 a0_1, .int .i64 a0_2, .int .i64 a0_3, .slice A0_4 l0_4.length c0_4, .slice A0_5 l0_5.length c0_5]) (t := 25) ?hr ?_; (case hd => rfl); (case hg => rfl); (case hr => first | (go_simp; done) | (go_simp; rfl)); intro gb121 hg w20 hbox hb; have n0_ := Aside0.mk (Kd.V_below (Kd.V_elderB (by (with_reducible repeat (first | apply Kd.V_alloc | apply Kd.V_drewN | apply Kd.V_drew)); exact HO0_4.out) gb121 (Nat.le_of_eq hg.symm)) hb); have n1_ := Aside0.mk (below_step (by repeat (first | (with_reducible first | exact HB.out | apply below_alloc | apply pw_below_drewN | apply below_drew1) | exact HB.out)) hb); have n2_ := Aside0.mk (hbox); have n3_ := Aside0.mk ((by rw [hg]; exact (below_size (by repeat (first | (with_reducible first | exact HB.out | apply below_alloc | apply pw_below_drewN | apply below_drew1) | exact HB.out))) : w.heap.size ≤ gb121)); have n4_ := Aside0.mk ((by rw [hg]; exact (below_size (by repeat (first | (with_reducible first | exact HB.out | apply below_alloc | apply pw_below_drewN | apply below_drew1) | exact HB.out))) : w.heap.size ≤ gb121)); clear HO0_4; clear HB; have HO0_4 := n0_; have HB := n1_; have BK121 := n2_; have GW121 := n3_; have GE121 := n4_; clear n0_ n1_ n2_ n3_ n4_; clear hb hbox hg; have hcz21_0 : w20.cell? ⟨gb121, 0, none⟩ = some (.int .i64 a0_0) := (blk_cell BK121.out 0).trans rfl; have hcz21_1 : w20.cell? ⟨gb121, 1, none⟩ = some (.int .i64 a0_1) := (blk_cell BK121.out 1).trans rfl; have hcz21_2 : w20.cell? ⟨gb121, 2, none⟩ = some (.int .i64 a0_2) := (blk_cell BK121.out 2).trans rfl; have hcz21_3 : w20.cell? ⟨gb121, 3, none⟩ = some (.int .i64 a0_3) := (blk_cell BK121.out 3).trans rfl; have hcz21_4 : w20.cell? ⟨gb121, 4, none⟩ = some (.slice A0_4 l0_4.length c0_4) := (blk_cell BK121.out 4).trans rfl; have hcz21_5 : w20.cell? ⟨gb121, 5, none⟩ = some (.slice A0_5 l0_5.length c0_5) := (blk_cell BK121.out 5).trans rfl; have hfz21_0 := blk_frozen BK121.out 0; have hfz21_1 := blk_frozen BK121.out 1; have hfz21_2 := blk_frozen BK121.out 2; have hfz21_3 := blk_frozen BK121.out 3; have hfz21_4 := blk_frozen BK121.out 4; have hfz21_5 := blk_frozen BK121.out 5))
  repeat (go_quiet (first | ((with_reducible refine gate_dst (N := 1) rfl ?_); (try (refine gate_guard (by rfl) ?_; dsimp only)); refine box_event ?hg (N := 1) ?hd (cs := #[.int .i64 a0_0, .int .i64 a0_1, .int .i64 a0_2, .int .i64 a0_3, .slice A0_4 l0_4.length c0_4, .slice A0_5 l0_5.length c0_5]) (t := 25) ?hr ?_; (case hd => rfl); (case hg => rfl); (case hr => first | (go_simp; done) | (go_simp; rfl)); intro gb121 hg w20 hbox hb; have n0_ := Aside0.mk (Kd.V_below (Kd.V_elderB (by (with_reducible repeat (first | apply Kd.V_alloc | apply Kd.V_drewN | apply Kd.V_drew)); exact HO0_4.out) gb121 (Nat.le_of_eq hg.symm)) hb); have n1_ := Aside0.mk (below_step (by repeat (first | (with_reducible first | exact HB.out | apply below_alloc | apply pw_below_drewN | apply below_drew1) | exact HB.out)) hb); have n2_ := Aside0.mk (hbox); have n3_ := Aside0.mk ((by rw [hg]; exact (below_size (by repeat (first | (with_reducible first | exact HB.out | apply below_alloc | apply pw_below_drewN | apply below_drew1) | exact HB.out))) : w.heap.size ≤ gb121)); have n4_ := Aside0.mk ((by rw [hg]; exact (below_size (by repeat (first | (with_reducible first | exact HB.out | apply below_alloc | apply pw_below_drewN | apply below_drew1) | exact HB.out))) : w.heap.size ≤ gb121)); clear HO0_4; clear HB; have HO0_4 := n0_; have HB := n1_; have BK121 := n2_; have GW121 := n3_; have GE121 := n4_; clear n0_ n1_ n2_ n3_ n4_; clear hb hbox hg; have hcz21_0 : w20.cell? ⟨gb121, 0, none⟩ = some (.int .i64 a0_0) := (blk_cell BK121.out 0).trans rfl; have hcz21_1 : w20.cell? ⟨gb121, 1, none⟩ = some (.int .i64 a0_1) := (blk_cell BK121.out 1).trans rfl; have hcz21_2 : w20.cell? ⟨gb121, 2, none⟩ = some (.int .i64 a0_2) := (blk_cell BK121.out 2).trans rfl; have hcz21_3 : w20.cell? ⟨gb121, 3, none⟩ = some (.int .i64 a0_3) := (blk_cell BK121.out 3).trans rfl; have hcz21_4 : w20.cell? ⟨gb121, 4, none⟩ = some (.slice A0_4 l0_4.length c0_4) := (blk_cell BK121.out 4).trans rfl; have hcz21_5 : w20.cell? ⟨gb121, 5, none⟩ = some (.slice A0_5 l0_5.length c0_5) := (blk_cell BK121.out 5).trans rfl; have hfz21_0 := blk_frozen BK121.out 0; have hfz21_1 := blk_frozen BK121.out 1; have hfz21_2 := blk_frozen BK121.out 2; have hfz21_3 := blk_frozen BK121.out 3; have hfz21_4 := blk_frozen BK121.out 4; have hfz21_5 := blk_frozen BK121.out 5)); try go_wp2_with (first | ((with_reducible refine gate_dst (N := 1) rfl ?_); (try (refine gate_guard (by rfl) ?_; dsimp only)); refine box_event ?hg (N := 1) ?hd (cs := #[.int .i64 a0_0, .int .i64 a0_1, .int .i64 a0_2, .int .i64 a0_3, .slice A0_4 l0_4.length c0_4, .slice A0_5 l0_5.length c0_5]) (t := 25) ?hr ?_; (case hd => rfl); (case hg => rfl); (case hr => first | (go_simp; done) | (go_simp; rfl)); intro gb121 hg w20 hbox hb; have n0_ := Aside0.mk (Kd.V_below (Kd.V_elderB (by (with_reducible repeat (first | apply Kd.V_alloc | apply Kd.V_drewN | apply Kd.V_drew)); exact HO0_4.out) gb121 (Nat.le_of_eq hg.symm)) hb); have n1_ := Aside0.mk (below_step (by repeat (first | (with_reducible first | exact HB.out | apply below_alloc | apply pw_below_drewN | apply below_drew1) | exact HB.out)) hb); have n2_ := Aside0.mk (hbox); have n3_ := Aside0.mk ((by rw [hg]; exact (below_size (by repeat (first | (with_reducible first | exact HB.out | apply below_alloc | apply pw_below_drewN | apply below_drew1) | exact HB.out))) : w.heap.size ≤ gb121)); have n4_ := Aside0.mk ((by rw [hg]; exact (below_size (by repeat (first | (with_reducible first | exact HB.out | apply below_alloc | apply pw_below_drewN | apply below_drew1) | exact HB.out))) : w.heap.size ≤ gb121)); clear HO0_4; clear HB; have HO0_4 := n0_; have HB := n1_; have BK121 := n2_; have GW121 := n3_; have GE121 := n4_; clear n0_ n1_ n2_ n3_ n4_; clear hb hbox hg; have hcz21_0 : w20.cell? ⟨gb121, 0, none⟩ = some (.int .i64 a0_0) := (blk_cell BK121.out 0).trans rfl; have hcz21_1 : w20.cell? ⟨gb121, 1, none⟩ = some (.int .i64 a0_1) := (blk_cell BK121.out 1).trans rfl; have hcz21_2 : w20.cell? ⟨gb121, 2, none⟩ = some (.int .i64 a0_2) := (blk_cell BK121.out 2).trans rfl; have hcz21_3 : w20.cell? ⟨gb121, 3, none⟩ = some (.int .i64 a0_3) := (blk_cell BK121.out 3).trans rfl; have hcz21_4 : w20.cell? ⟨gb121, 4, none⟩ = some (.slice A0_4 l0_4.length c0_4) := (blk_cell BK121.out 4).trans rfl; have hcz21_5 : w20.cell? ⟨gb121, 5, none⟩ = some (.slice A0_5 l0_5.length c0_5) := (blk_cell BK121.out 5).trans rfl; have hfz21_0 := blk_frozen BK121.out 0; have hfz21_1 := blk_frozen BK121.out 1; have hfz21_2 := blk_frozen BK121.out 2; have hfz21_3 := blk_frozen BK121.out 3; have hfz21_4 := blk_frozen BK121.out 4; have hfz21_5 := blk_frozen BK121.out 5)))
  go_ret2
  exact ⟨_, by first | rfl | (simp [errW_none, errW_some] <;> rfl) | (simp [*, errW_none, errW_some] <;> rfl), (by first | exact Kd.V_nil _ _ _ _ _ | exact Kd.V_mono (Kd.R_V (by first | exact Kd.R_nil _ _ _ _ _ | exact Kd.N_nil _ _ _ _ _ | exact Kd.V_nil _ _ _ _ _ | exact Kd.Q_nil _ _ _ _ _ | exact Kd.S_nil _ _ _ _ _)) (fun k_ hk => by first | exact ⟨(.inr (hk.1)), hk.2⟩ | exact (.inr (hk)))), by repeat (first | (with_reducible first | exact HB.out | apply below_alloc | apply pw_below_drewN | apply below_drew1 | refine below_set ?_ GE121.out) | exact HB.out)⟩
end Go.Proofs.YtgbmlkmkfigolaaDoor.P
