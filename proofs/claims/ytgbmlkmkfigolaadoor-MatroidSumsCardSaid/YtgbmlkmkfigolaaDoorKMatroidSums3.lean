/- Texts of this claim's own repository, merged by wip/tool/pack.py: MatImA, MatImg, Px6B, MatFv, MatFix, MatRh, MatTb, MatD, Px13, MatSm. -/
import Derived.Deep.RegionHeld
import Derived.Test.YtgbmlkmkfigolaaDoorKMatroidSums2
set_option linter.unusedVariables false
set_option linter.unusedSimpArgs false
/- matroid.Image, by hand. -/
namespace Go.Proofs.YtgbmlkmkfigolaaDoor.P
open Go.RowKit Go.Proofs.YtgbmlkmkfigolaaDoorW.PrintWords Go.Proofs.YtgbmlkmkfigolaaDoorW.PrintLast Go.Proofs.YtgbmlkmkfigolaaDoorW.PrintMore
set_option linter.unusedVariables false
set_option linter.unusedSimpArgs false

def imgO (l : List Int) : List Int → List Int → Option (List Int)
 | acc, [] => some acc
 | acc, x :: r => if 0 ≤ x then (if x < (l.length : Int) then (if acc.length < 17592186044416 then imgO l (acc ++ [rd l x]) r else none) else none) else none
def matroid_Image.f (k : Nat) (a0 a1 a2 a3 : Int) (l4 : List (List Int)) (l5 : List Mtr) (l1 : List Int) : Option (List Int × Bool) :=
 if chkN ⟨a0, a1, a2, a3, l4, l5⟩ ≠ 0 ∨ (a0 ≠ 5 ∧ a0 ≠ 6) then some ([], false)
 else if mayB l1 = false ∨ (0 < l1.length ∧ a1 ≤ rd l1 ((l1.length : Int) - 1)) then some ([], false)
 else if l4.length = 0 then none
 else if a0 = 6 then (if l5.length = 0 then none else (set_All.f k (rd_T25 l5 0).f1).bind fun a => (set_Minus.f k a (rd_L1 l4 0)).bind fun l => (imgO l [] l1).bind fun o => some (o, true))
 else (imgO (rd_L1 l4 0) [] l1).bind fun o => some (o, true)
theorem held_below {W1 w3 w4 : World} (h : Aside0 (Below W1.heap.size W1 w3)) (hb : Below w3.heap.size w3 w4) : Aside0 (Below W1.heap.size W1 w4) := ⟨h.out.trans (hb.mono h.out.size)⟩
set_option maxHeartbeats 4000000 in
set_option maxRecDepth 100000 in
theorem img_no (c : Int) (a0 a1 a2 a3 : Int) (A4 : Option Addr) (c4 : Nat) (l4 : List (List Int)) (A5 : Option Addr) (c5 : Nat) (l5 : List Mtr) (A1 : Option Addr) (c1 : Nat) (l1 : List Int) (w : World) (hEV : EV w) (hr4 : Kd.C (Kd.slice 3 (Kd.int .i64)) w A4 l4.length l4) (hc4 : l4.length ≤ c4) (hr5 : Kd.C k25 w A5 l5.length l5) (hc5 : l5.length ≤ c5) (hr1 : Kd.C (Kd.int .i64) w A1 l1.length l1) (hc1 : l1.length ≤ c1) (hck : chkN ⟨a0, a1, a2, a3, l4, l5⟩ = c) (b : Bool) (hm : mayB l1 = b)
 (hb : (c != 0) = true ∨ ((c != 0) = false ∧ (a0 != 5) = true ∧ (a0 != 6) = true) ∨ (c = 0 ∧ a0 = 5 ∧ b = false) ∨ (c = 0 ∧ a0 = 6 ∧ b = false)) :
 Calls Tryd.prog 10 #[.agg #[.int .i64 a0, .int .i64 a1, .int .i64 a2, .int .i64 a3, .slice A4 l4.length c4, .slice A5 l5.length c5], .slice A1 l1.length c1] w fun e w' => ∃ v0_ : Value, e = .returned (.tuple #[v0_, .bool false]) ∧ Kd.R (Kd.int .i64) 3 w' w.heap.size (fun _ => True) v0_ [] ∧ Below w.heap.size w w' := by
 obtain ⟨W1, hW1⟩ : ∃ W1, W1 = w.alloc (Obj.cells #[.int .i64 a0, .int .i64 a1, .int .i64 a2, .int .i64 a3, .slice A4 l4.length c4, .slice A5 l5.length c5] 25) := ⟨_, rfl⟩
 have hB1 : Below w.heap.size w W1 := by subst hW1; exact (Below.refl _ _).alloc (Nat.le_refl _) _
 have hbx := mbox w 25 (.int .i64 a0) (.int .i64 a1) (.int .i64 a2) (.int .i64 a3) (.slice A4 l4.length c4) (.slice A5 l5.length c5)
 have hsz : w.heap.size < W1.heap.size := by
  subst hW1
  rw [show (w.alloc (Obj.cells #[.int .i64 a0, .int .i64 a1, .int .i64 a2, .int .i64 a3, .slice A4 l4.length c4, .slice A5 l5.length c5] 25)).heap.size = w.heap.size + 1 from Array.size_push ..]; omega
 rw [← hW1] at hbx
 have HB1 := Aside0.mk (And.intro hB1 (And.intro hbx hsz))
 have HW1 := Aside0.mk hW1
 have HCK := Aside0.mk (fun (w' : World) (hw : Aside0 (Below W1.heap.size W1 w')) => matroid_Check.calls a0 a1 a2 a3 A4 c4 l4 A5 c5 l5 c w' (hEV.below (hB1.trans (hw.out.mono hB1.size)) hEV.pos) (Kd.C_below hr4 (hB1.trans (hw.out.mono hB1.size))) hc4 (Kd.C_below hr5 (hB1.trans (hw.out.mono hB1.size))) hc5 (by rw [← hck]; rfl))
 have HMAY := Aside0.mk (fun (w' : World) (hw : Aside0 (Below W1.heap.size W1 w')) => set_May_now A1 c1 l1 w' (Kd.C_below hr1 (hB1.trans (hw.out.mono hB1.size))) hc1 hr1.2.1)
 have HC : Aside0 (∀ w', Aside0 (Below W1.heap.size W1 w') → w'.cell? ⟨w.heap.size, 0, none⟩ = some (.int .i64 a0) ∧ w'.cell? ⟨w.heap.size, 1, none⟩ = some (.int .i64 a1) ∧ w'.cell? ⟨w.heap.size, 2, none⟩ = some (.int .i64 a2) ∧ w'.cell? ⟨w.heap.size, 3, none⟩ = some (.int .i64 a3) ∧ w'.cell? ⟨w.heap.size, 4, none⟩ = some (.slice A4 l4.length c4) ∧ w'.cell? ⟨w.heap.size, 5, none⟩ = some (.slice A5 l5.length c5)) :=
  ⟨fun w' hw => ⟨(hw.out.cell (p := ⟨w.heap.size, 0, none⟩) hsz).trans hbx.1, (hw.out.cell (p := ⟨w.heap.size, 1, none⟩) hsz).trans hbx.2.1, (hw.out.cell (p := ⟨w.heap.size, 2, none⟩) hsz).trans hbx.2.2.1, (hw.out.cell (p := ⟨w.heap.size, 3, none⟩) hsz).trans hbx.2.2.2.1, (hw.out.cell (p := ⟨w.heap.size, 4, none⟩) hsz).trans hbx.2.2.2.2.1, (hw.out.cell (p := ⟨w.heap.size, 5, none⟩) hsz).trans hbx.2.2.2.2.2⟩⟩
 rw [hm] at HMAY
 clear hB1 hbx hsz hr4 hc4 hr5 hc5 hr1 hc1 hck hEV hW1 hm
 rcases hb with g1 | ⟨g1, g2, g3⟩ | ⟨rfl, rfl, rfl⟩ | ⟨rfl, rfl, rfl⟩
 ·go_enter Tryd.func10, Tryd.ntmps10
  go_wp2
  rw [← HW1.out]
  refine wp_region_held_drew (S := fun w' => Aside0 (Below W1.heap.size W1 w')) (by kernel_rfl) (⟨(Below.refl _ _).drew⟩) (fun hHeld => ?_)
  (refine wpAnyH_take (i := 0) (v := ?_) rfl (by kernel_rfl) (by kernel_rfl) (by kernel_rfl) (fun _ _ _ h => h) (Or.inl ⟨by rfl, ?_⟩) hHeld ?_; rotate_left; focus (intro w_ hSw_; obtain ⟨z0, z1, z2, z3, z4, z5⟩ := HC.out w_ hSw_; go_simp; try with_reducible rfl)); (try simp only [Act.put, zA, zB, zC, zD, zE, zF])
  refine wpAnyH_ready (rs := [1]) (by kernel_rfl) (by simp) ?_; refine AllReadyH.cons rfl (fun K hK => ?_) AllReadyH.nil; rw [if_pos (by rfl)]; (go_simp); (go_at_call 12; refine (HCK.out _ hHeld).mono ?_; rintro e w3 ⟨rfl, hb⟩; (have HB' := held_below hHeld hb); clear hb); (first | skip); refine hK.out _ _ (HB') (fun hHeld => ?_); clear hK K; (try simp only [Act.put, zA, zB, zC, zD, zE, zF])
  (refine wpAnyH_take (i := 2) (v := ?_) rfl (by kernel_rfl) (by kernel_rfl) (by kernel_rfl) (fun _ _ _ h => h) (Or.inl ⟨by rfl, ?_⟩) hHeld ?_; rotate_left; focus (intro w_ hSw_; obtain ⟨z0, z1, z2, z3, z4, z5⟩ := HC.out w_ hSw_; go_simp; try with_reducible rfl)); (try simp only [Act.put, zA, zB, zC, zD, zE, zF])
  (refine wpAnyH_take (i := 3) (v := ?_) rfl (by kernel_rfl) (by kernel_rfl) (by kernel_rfl) (fun _ _ _ h => h) (Or.inl ⟨by rfl, ?_⟩) hHeld ?_; rotate_left; focus (intro w_ hSw_; obtain ⟨z0, z1, z2, z3, z4, z5⟩ := HC.out w_ hSw_; go_simp; try with_reducible rfl)); (try simp only [Act.put, zA, zB, zC, zD, zE, zF])
  (refine wpAnyH_take (i := 4) (v := _) rfl (by kernel_rfl) (by kernel_rfl) (by kernel_rfl) (fun _ _ _ h => h) (Or.inr ⟨by rfl, rfl⟩) hHeld ?_); (try simp only [Act.put, zA, zB, zC, zD, zE, zF])
  (refine wpAnyH_take (i := 5) (v := _) rfl (by kernel_rfl) (by kernel_rfl) (by kernel_rfl) (fun _ _ _ h => h) (Or.inr ⟨by rfl, rfl⟩) hHeld ?_); (try simp only [Act.put, zA, zB, zC, zD, zE, zF])
  (refine wpAnyH_take (i := 6) (v := _) rfl (by kernel_rfl) (by kernel_rfl) (by kernel_rfl) (fun _ _ _ h => h) (Or.inr ⟨by rfl, rfl⟩) hHeld ?_); (try simp only [Act.put, zA, zB, zC, zD, zE, zF])
  (refine wpAnyH_take (i := 7) (v := _) rfl (by kernel_rfl) (by kernel_rfl) (by kernel_rfl) (fun _ _ _ h => h) (Or.inr ⟨by rfl, rfl⟩) hHeld ?_); (try simp only [Act.put, zA, zB, zC, zD, zE, zF])
  (refine wpAnyH_take (i := 8) (v := _) rfl (by kernel_rfl) (by kernel_rfl) (by kernel_rfl) (fun _ _ _ h => h) (Or.inr ⟨by rfl, rfl⟩) hHeld ?_); (try simp only [Act.put, zA, zB, zC, zD, zE, zF])
  (refine wpAnyH_take (i := 9) (v := _) rfl (by kernel_rfl) (by kernel_rfl) (by kernel_rfl) (fun _ _ _ h => h) (Or.inr ⟨by rfl, rfl⟩) hHeld ?_); (try simp only [Act.put, zA, zB, zC, zD, zE, zF])
  (refine wpAnyH_take (i := 10) (v := _) rfl (by kernel_rfl) (by kernel_rfl) (by kernel_rfl) (fun _ _ _ h => h) (Or.inr ⟨by rfl, rfl⟩) hHeld ?_); (try simp only [Act.put, zA, zB, zC, zD, zE, zF])
  (refine wpAnyH_take (i := 11) (v := _) rfl (by kernel_rfl) (by kernel_rfl) (by kernel_rfl) (fun _ _ _ h => h) (Or.inr ⟨by rfl, rfl⟩) hHeld ?_); (try simp only [Act.put, zA, zB, zC, zD, zE, zF])
  (refine wpAnyH_take (i := 12) (v := ?_) rfl (by kernel_rfl) (by kernel_rfl) (by kernel_rfl) (fun _ _ _ h => h) (Or.inl ⟨by rfl, ?_⟩) hHeld ?_; rotate_left; focus (intro w_ hSw_; obtain ⟨z0, z1, z2, z3, z4, z5⟩ := HC.out w_ hSw_; go_simp; try with_reducible rfl)); (try simp only [Act.put, zA, zB, zC, zD, zE, zF])
  (refine wpAnyH_take (i := 13) (v := ?_) rfl (by kernel_rfl) (by kernel_rfl) (by kernel_rfl) (fun _ _ _ h => h) (Or.inl ⟨by rfl, ?_⟩) hHeld ?_; rotate_left; focus (intro w_ hSw_; obtain ⟨z0, z1, z2, z3, z4, z5⟩ := HC.out w_ hSw_; go_simp; try with_reducible rfl)); (try simp only [Act.put, zA, zB, zC, zD, zE, zF])
  (refine wpAnyH_take (i := 14) (v := _) rfl (by kernel_rfl) (by kernel_rfl) (by kernel_rfl) (fun _ _ _ h => h) (Or.inr ⟨by rfl, rfl⟩) hHeld ?_); (try simp only [Act.put, zA, zB, zC, zD, zE, zF])
  (refine wpAnyH_take (i := 15) (v := _) rfl (by kernel_rfl) (by kernel_rfl) (by kernel_rfl) (fun _ _ _ h => h) (Or.inr ⟨by rfl, rfl⟩) hHeld ?_); (try simp only [Act.put, zA, zB, zC, zD, zE, zF])
  (refine wpAnyH_take (i := 16) (v := _) rfl (by kernel_rfl) (by kernel_rfl) (by kernel_rfl) (fun _ _ _ h => h) (Or.inr ⟨by rfl, rfl⟩) hHeld ?_); (try simp only [Act.put, zA, zB, zC, zD, zE, zF])
  (refine wpAnyH_take (i := 17) (v := ?_) rfl (by kernel_rfl) (by kernel_rfl) (by kernel_rfl) (fun _ _ _ h => h) (Or.inl ⟨by rfl, ?_⟩) hHeld ?_; rotate_left; focus (intro w_ hSw_; obtain ⟨z0, z1, z2, z3, z4, z5⟩ := HC.out w_ hSw_; go_simp; try with_reducible rfl)); (try simp only [Act.put, zA, zB, zC, zD, zE, zF])
  (refine wpAnyH_take (i := 18) (v := ?_) rfl (by kernel_rfl) (by kernel_rfl) (by kernel_rfl) (fun _ _ _ h => h) (Or.inl ⟨by rfl, ?_⟩) hHeld ?_; rotate_left; focus (intro w_ hSw_; obtain ⟨z0, z1, z2, z3, z4, z5⟩ := HC.out w_ hSw_; go_simp; try with_reducible rfl)); (try simp only [Act.put, zA, zB, zC, zD, zE, zF])
  (refine wpAnyH_take (i := 19) (v := _) rfl (by kernel_rfl) (by kernel_rfl) (by kernel_rfl) (fun _ _ _ h => h) (Or.inr ⟨by rfl, rfl⟩) hHeld ?_); (try simp only [Act.put, zA, zB, zC, zD, zE, zF])
  (refine wpAnyH_take (i := 20) (v := _) rfl (by kernel_rfl) (by kernel_rfl) (by kernel_rfl) (fun _ _ _ h => h) (Or.inr ⟨by rfl, rfl⟩) hHeld ?_); (try simp only [Act.put, zA, zB, zC, zD, zE, zF])
  (refine wpAnyH_take (i := 21) (v := _) rfl (by kernel_rfl) (by kernel_rfl) (by kernel_rfl) (fun _ _ _ h => h) (Or.inr ⟨by rfl, rfl⟩) hHeld ?_); (try simp only [Act.put, zA, zB, zC, zD, zE, zF])
  (refine wpAnyH_take (i := 22) (v := _) rfl (by kernel_rfl) (by kernel_rfl) (by kernel_rfl) (fun _ _ _ h => h) (Or.inr ⟨by rfl, rfl⟩) hHeld ?_); (try simp only [Act.put, zA, zB, zC, zD, zE, zF])
  (refine wpAnyH_take (i := 23) (v := _) rfl (by kernel_rfl) (by kernel_rfl) (by kernel_rfl) (fun _ _ _ h => h) (Or.inr ⟨by rfl, rfl⟩) hHeld ?_); (try simp only [Act.put, zA, zB, zC, zD, zE, zF])
  (refine wpAnyH_take (i := 24) (v := _) rfl (by kernel_rfl) (by kernel_rfl) (by kernel_rfl) (fun _ _ _ h => h) (Or.inr ⟨by rfl, rfl⟩) hHeld ?_); (try simp only [Act.put, zA, zB, zC, zD, zE, zF])
  (refine wpAnyH_take (i := 25) (v := _) rfl (by kernel_rfl) (by kernel_rfl) (by kernel_rfl) (fun _ _ _ h => h) (Or.inr ⟨by rfl, rfl⟩) hHeld ?_); (try simp only [Act.put, zA, zB, zC, zD, zE, zF])
  (refine wpAnyH_take (i := 26) (v := _) rfl (by kernel_rfl) (by kernel_rfl) (by kernel_rfl) (fun _ _ _ h => h) (Or.inr ⟨by rfl, rfl⟩) hHeld ?_); (try simp only [Act.put, zA, zB, zC, zD, zE, zF])
  (refine wpAnyH_take (i := 27) (v := _) rfl (by kernel_rfl) (by kernel_rfl) (by kernel_rfl) (fun _ _ _ h => h) (Or.inr ⟨by rfl, rfl⟩) hHeld ?_); (try simp only [Act.put, zA, zB, zC, zD, zE, zF])
  (refine wpAnyH_take (i := 28) (v := _) rfl (by kernel_rfl) (by kernel_rfl) (by kernel_rfl) (fun _ _ _ h => h) (Or.inr ⟨by rfl, rfl⟩) hHeld ?_); (try simp only [Act.put, zA, zB, zC, zD, zE, zF])
  (refine wpAnyH_take (i := 29) (v := _) rfl (by kernel_rfl) (by kernel_rfl) (by kernel_rfl) (fun _ _ _ h => h) (Or.inr ⟨by rfl, rfl⟩) hHeld ?_); (try simp only [Act.put, zA, zB, zC, zD, zE, zF])
  (refine wpAnyH_take (i := 30) (v := _) rfl (by kernel_rfl) (by kernel_rfl) (by kernel_rfl) (fun _ _ _ h => h) (Or.inr ⟨by rfl, rfl⟩) hHeld ?_); (try simp only [Act.put, zA, zB, zC, zD, zE, zF])
  (refine wpAnyH_take (i := 31) (v := _) rfl (by kernel_rfl) (by kernel_rfl) (by kernel_rfl) (fun _ _ _ h => h) (Or.inr ⟨by rfl, rfl⟩) hHeld ?_); (try simp only [Act.put, zA, zB, zC, zD, zE, zF])
  (refine wpAnyH_take (i := 32) (v := _) rfl (by kernel_rfl) (by kernel_rfl) (by kernel_rfl) (fun _ _ _ h => h) (Or.inr ⟨by rfl, rfl⟩) hHeld ?_); (try simp only [Act.put, zA, zB, zC, zD, zE, zF])
  (refine wpAnyH_take (i := 33) (v := ?_) rfl (by kernel_rfl) (by kernel_rfl) (by kernel_rfl) (fun _ _ _ h => h) (Or.inl ⟨by rfl, ?_⟩) hHeld ?_; rotate_left; focus (intro w_ hSw_; obtain ⟨z0, z1, z2, z3, z4, z5⟩ := HC.out w_ hSw_; go_simp; try with_reducible rfl)); (try simp only [Act.put, zA, zB, zC, zD, zE, zF])
  refine wpAnyH_done (by kernel_rfl) ?_ _
  go_wp2
  go_ret2
  exact ⟨_, rfl, Kd.R_nil _ _ _ _ _, by repeat (first | exact HB1.out.1.trans (hHeld.out.mono HB1.out.1.size) | apply pw_below_drewN)⟩
 ·go_enter Tryd.func10, Tryd.ntmps10
  go_wp2
  rw [← HW1.out]
  refine wp_region_held_drew (S := fun w' => Aside0 (Below W1.heap.size W1 w')) (by kernel_rfl) (⟨(Below.refl _ _).drew⟩) (fun hHeld => ?_)
  (refine wpAnyH_take (i := 0) (v := ?_) rfl (by kernel_rfl) (by kernel_rfl) (by kernel_rfl) (fun _ _ _ h => h) (Or.inl ⟨by rfl, ?_⟩) hHeld ?_; rotate_left; focus (intro w_ hSw_; obtain ⟨z0, z1, z2, z3, z4, z5⟩ := HC.out w_ hSw_; go_simp; try with_reducible rfl)); (try simp only [Act.put, zA, zB, zC, zD, zE, zF])
  refine wpAnyH_ready (rs := [1]) (by kernel_rfl) (by simp) ?_; refine AllReadyH.cons rfl (fun K hK => ?_) AllReadyH.nil; rw [if_pos (by rfl)]; (go_simp); (go_at_call 12; refine (HCK.out _ hHeld).mono ?_; rintro e w3 ⟨rfl, hb⟩; (have HB' := held_below hHeld hb); clear hb); (first | skip); refine hK.out _ _ (HB') (fun hHeld => ?_); clear hK K; (try simp only [Act.put, zA, zB, zC, zD, zE, zF])
  (refine wpAnyH_take (i := 2) (v := ?_) rfl (by kernel_rfl) (by kernel_rfl) (by kernel_rfl) (fun _ _ _ h => h) (Or.inl ⟨by rfl, ?_⟩) hHeld ?_; rotate_left; focus (intro w_ hSw_; obtain ⟨z0, z1, z2, z3, z4, z5⟩ := HC.out w_ hSw_; go_simp; try with_reducible rfl)); (try simp only [Act.put, zA, zB, zC, zD, zE, zF])
  (refine wpAnyH_take (i := 3) (v := ?_) rfl (by kernel_rfl) (by kernel_rfl) (by kernel_rfl) (fun _ _ _ h => h) (Or.inl ⟨by rfl, ?_⟩) hHeld ?_; rotate_left; focus (intro w_ hSw_; obtain ⟨z0, z1, z2, z3, z4, z5⟩ := HC.out w_ hSw_; go_simp; try with_reducible rfl)); (try simp only [Act.put, zA, zB, zC, zD, zE, zF])
  (refine wpAnyH_take (i := 4) (v := ?_) rfl (by kernel_rfl) (by kernel_rfl) (by kernel_rfl) (fun _ _ _ h => h) (Or.inl ⟨by rfl, ?_⟩) hHeld ?_; rotate_left; focus (intro w_ hSw_; obtain ⟨z0, z1, z2, z3, z4, z5⟩ := HC.out w_ hSw_; go_simp; try with_reducible rfl)); (try simp only [Act.put, zA, zB, zC, zD, zE, zF])
  (refine wpAnyH_take (i := 5) (v := ?_) rfl (by kernel_rfl) (by kernel_rfl) (by kernel_rfl) (fun _ _ _ h => h) (Or.inl ⟨by rfl, ?_⟩) hHeld ?_; rotate_left; focus (intro w_ hSw_; obtain ⟨z0, z1, z2, z3, z4, z5⟩ := HC.out w_ hSw_; go_simp; try with_reducible rfl)); (try simp only [Act.put, zA, zB, zC, zD, zE, zF])
  (refine wpAnyH_take (i := 6) (v := ?_) rfl (by kernel_rfl) (by kernel_rfl) (by kernel_rfl) (fun _ _ _ h => h) (Or.inl ⟨by rfl, ?_⟩) hHeld ?_; rotate_left; focus (intro w_ hSw_; obtain ⟨z0, z1, z2, z3, z4, z5⟩ := HC.out w_ hSw_; go_simp; try with_reducible rfl)); (try simp only [Act.put, zA, zB, zC, zD, zE, zF])
  (refine wpAnyH_take (i := 7) (v := ?_) rfl (by kernel_rfl) (by kernel_rfl) (by kernel_rfl) (fun _ _ _ h => h) (Or.inl ⟨by rfl, ?_⟩) hHeld ?_; rotate_left; focus (intro w_ hSw_; obtain ⟨z0, z1, z2, z3, z4, z5⟩ := HC.out w_ hSw_; go_simp; try with_reducible rfl)); (try simp only [Act.put, zA, zB, zC, zD, zE, zF])
  (refine wpAnyH_take (i := 8) (v := ?_) rfl (by kernel_rfl) (by kernel_rfl) (by kernel_rfl) (fun _ _ _ h => h) (Or.inl ⟨by rfl, ?_⟩) hHeld ?_; rotate_left; focus (intro w_ hSw_; obtain ⟨z0, z1, z2, z3, z4, z5⟩ := HC.out w_ hSw_; go_simp; try with_reducible rfl)); (try simp only [Act.put, zA, zB, zC, zD, zE, zF])
  (refine wpAnyH_take (i := 9) (v := ?_) rfl (by kernel_rfl) (by kernel_rfl) (by kernel_rfl) (fun _ _ _ h => h) (Or.inl ⟨by rfl, ?_⟩) hHeld ?_; rotate_left; focus (intro w_ hSw_; obtain ⟨z0, z1, z2, z3, z4, z5⟩ := HC.out w_ hSw_; go_simp; try with_reducible rfl)); (try simp only [Act.put, zA, zB, zC, zD, zE, zF])
  (refine wpAnyH_take (i := 10) (v := ?_) rfl (by kernel_rfl) (by kernel_rfl) (by kernel_rfl) (fun _ _ _ h => h) (Or.inl ⟨by rfl, ?_⟩) hHeld ?_; rotate_left; focus (intro w_ hSw_; obtain ⟨z0, z1, z2, z3, z4, z5⟩ := HC.out w_ hSw_; go_simp; try with_reducible rfl)); (try simp only [Act.put, zA, zB, zC, zD, zE, zF])
  (refine wpAnyH_take (i := 11) (v := ?_) rfl (by kernel_rfl) (by kernel_rfl) (by kernel_rfl) (fun _ _ _ h => h) (Or.inl ⟨by rfl, ?_⟩) hHeld ?_; rotate_left; focus (intro w_ hSw_; obtain ⟨z0, z1, z2, z3, z4, z5⟩ := HC.out w_ hSw_; go_simp; try with_reducible rfl)); (try simp only [Act.put, zA, zB, zC, zD, zE, zF])
  (refine wpAnyH_take (i := 12) (v := ?_) rfl (by kernel_rfl) (by kernel_rfl) (by kernel_rfl) (fun _ _ _ h => h) (Or.inl ⟨by rfl, ?_⟩) hHeld ?_; rotate_left; focus (intro w_ hSw_; obtain ⟨z0, z1, z2, z3, z4, z5⟩ := HC.out w_ hSw_; go_simp; try with_reducible rfl)); (try simp only [Act.put, zA, zB, zC, zD, zE, zF])
  (refine wpAnyH_take (i := 13) (v := ?_) rfl (by kernel_rfl) (by kernel_rfl) (by kernel_rfl) (fun _ _ _ h => h) (Or.inl ⟨by rfl, ?_⟩) hHeld ?_; rotate_left; focus (intro w_ hSw_; obtain ⟨z0, z1, z2, z3, z4, z5⟩ := HC.out w_ hSw_; go_simp; try with_reducible rfl)); (try simp only [Act.put, zA, zB, zC, zD, zE, zF])
  (refine wpAnyH_take (i := 14) (v := _) rfl (by kernel_rfl) (by kernel_rfl) (by kernel_rfl) (fun _ _ _ h => h) (Or.inr ⟨by rfl, rfl⟩) hHeld ?_); (try simp only [Act.put, zA, zB, zC, zD, zE, zF])
  (refine wpAnyH_take (i := 15) (v := _) rfl (by kernel_rfl) (by kernel_rfl) (by kernel_rfl) (fun _ _ _ h => h) (Or.inr ⟨by rfl, rfl⟩) hHeld ?_); (try simp only [Act.put, zA, zB, zC, zD, zE, zF])
  (refine wpAnyH_take (i := 16) (v := _) rfl (by kernel_rfl) (by kernel_rfl) (by kernel_rfl) (fun _ _ _ h => h) (Or.inr ⟨by rfl, rfl⟩) hHeld ?_); (try simp only [Act.put, zA, zB, zC, zD, zE, zF])
  (refine wpAnyH_take (i := 17) (v := ?_) rfl (by kernel_rfl) (by kernel_rfl) (by kernel_rfl) (fun _ _ _ h => h) (Or.inl ⟨by rfl, ?_⟩) hHeld ?_; rotate_left; focus (intro w_ hSw_; obtain ⟨z0, z1, z2, z3, z4, z5⟩ := HC.out w_ hSw_; go_simp; try with_reducible rfl)); (try simp only [Act.put, zA, zB, zC, zD, zE, zF])
  (refine wpAnyH_take (i := 18) (v := ?_) rfl (by kernel_rfl) (by kernel_rfl) (by kernel_rfl) (fun _ _ _ h => h) (Or.inl ⟨by rfl, ?_⟩) hHeld ?_; rotate_left; focus (intro w_ hSw_; obtain ⟨z0, z1, z2, z3, z4, z5⟩ := HC.out w_ hSw_; go_simp; try with_reducible rfl)); (try simp only [Act.put, zA, zB, zC, zD, zE, zF])
  (refine wpAnyH_take (i := 19) (v := _) rfl (by kernel_rfl) (by kernel_rfl) (by kernel_rfl) (fun _ _ _ h => h) (Or.inr ⟨by rfl, rfl⟩) hHeld ?_); (try simp only [Act.put, zA, zB, zC, zD, zE, zF])
  (refine wpAnyH_take (i := 20) (v := _) rfl (by kernel_rfl) (by kernel_rfl) (by kernel_rfl) (fun _ _ _ h => h) (Or.inr ⟨by rfl, rfl⟩) hHeld ?_); (try simp only [Act.put, zA, zB, zC, zD, zE, zF])
  (refine wpAnyH_take (i := 21) (v := _) rfl (by kernel_rfl) (by kernel_rfl) (by kernel_rfl) (fun _ _ _ h => h) (Or.inr ⟨by rfl, rfl⟩) hHeld ?_); (try simp only [Act.put, zA, zB, zC, zD, zE, zF])
  (refine wpAnyH_take (i := 22) (v := _) rfl (by kernel_rfl) (by kernel_rfl) (by kernel_rfl) (fun _ _ _ h => h) (Or.inr ⟨by rfl, rfl⟩) hHeld ?_); (try simp only [Act.put, zA, zB, zC, zD, zE, zF])
  (refine wpAnyH_take (i := 23) (v := _) rfl (by kernel_rfl) (by kernel_rfl) (by kernel_rfl) (fun _ _ _ h => h) (Or.inr ⟨by rfl, rfl⟩) hHeld ?_); (try simp only [Act.put, zA, zB, zC, zD, zE, zF])
  (refine wpAnyH_take (i := 24) (v := _) rfl (by kernel_rfl) (by kernel_rfl) (by kernel_rfl) (fun _ _ _ h => h) (Or.inr ⟨by rfl, rfl⟩) hHeld ?_); (try simp only [Act.put, zA, zB, zC, zD, zE, zF])
  (refine wpAnyH_take (i := 25) (v := _) rfl (by kernel_rfl) (by kernel_rfl) (by kernel_rfl) (fun _ _ _ h => h) (Or.inr ⟨by rfl, rfl⟩) hHeld ?_); (try simp only [Act.put, zA, zB, zC, zD, zE, zF])
  (refine wpAnyH_take (i := 26) (v := _) rfl (by kernel_rfl) (by kernel_rfl) (by kernel_rfl) (fun _ _ _ h => h) (Or.inr ⟨by rfl, rfl⟩) hHeld ?_); (try simp only [Act.put, zA, zB, zC, zD, zE, zF])
  (refine wpAnyH_take (i := 27) (v := _) rfl (by kernel_rfl) (by kernel_rfl) (by kernel_rfl) (fun _ _ _ h => h) (Or.inr ⟨by rfl, rfl⟩) hHeld ?_); (try simp only [Act.put, zA, zB, zC, zD, zE, zF])
  (refine wpAnyH_take (i := 28) (v := _) rfl (by kernel_rfl) (by kernel_rfl) (by kernel_rfl) (fun _ _ _ h => h) (Or.inr ⟨by rfl, rfl⟩) hHeld ?_); (try simp only [Act.put, zA, zB, zC, zD, zE, zF])
  (refine wpAnyH_take (i := 29) (v := _) rfl (by kernel_rfl) (by kernel_rfl) (by kernel_rfl) (fun _ _ _ h => h) (Or.inr ⟨by rfl, rfl⟩) hHeld ?_); (try simp only [Act.put, zA, zB, zC, zD, zE, zF])
  (refine wpAnyH_take (i := 30) (v := _) rfl (by kernel_rfl) (by kernel_rfl) (by kernel_rfl) (fun _ _ _ h => h) (Or.inr ⟨by rfl, rfl⟩) hHeld ?_); (try simp only [Act.put, zA, zB, zC, zD, zE, zF])
  (refine wpAnyH_take (i := 31) (v := _) rfl (by kernel_rfl) (by kernel_rfl) (by kernel_rfl) (fun _ _ _ h => h) (Or.inr ⟨by rfl, rfl⟩) hHeld ?_); (try simp only [Act.put, zA, zB, zC, zD, zE, zF])
  (refine wpAnyH_take (i := 32) (v := _) rfl (by kernel_rfl) (by kernel_rfl) (by kernel_rfl) (fun _ _ _ h => h) (Or.inr ⟨by rfl, rfl⟩) hHeld ?_); (try simp only [Act.put, zA, zB, zC, zD, zE, zF])
  (refine wpAnyH_take (i := 33) (v := ?_) rfl (by kernel_rfl) (by kernel_rfl) (by kernel_rfl) (fun _ _ _ h => h) (Or.inl ⟨by rfl, ?_⟩) hHeld ?_; rotate_left; focus (intro w_ hSw_; obtain ⟨z0, z1, z2, z3, z4, z5⟩ := HC.out w_ hSw_; go_simp; try with_reducible rfl)); (try simp only [Act.put, zA, zB, zC, zD, zE, zF])
  refine wpAnyH_done (by kernel_rfl) ?_ _
  go_wp2
  go_ret2
  exact ⟨_, rfl, Kd.R_nil _ _ _ _ _, by repeat (first | exact HB1.out.1.trans (hHeld.out.mono HB1.out.1.size) | apply pw_below_drewN)⟩
 ·go_enter Tryd.func10, Tryd.ntmps10
  go_wp2
  rw [← HW1.out]
  refine wp_region_held_drew (S := fun w' => Aside0 (Below W1.heap.size W1 w')) (by kernel_rfl) (⟨(Below.refl _ _).drew⟩) (fun hHeld => ?_)
  (refine wpAnyH_take (i := 0) (v := ?_) rfl (by kernel_rfl) (by kernel_rfl) (by kernel_rfl) (fun _ _ _ h => h) (Or.inl ⟨by rfl, ?_⟩) hHeld ?_; rotate_left; focus (intro w_ hSw_; obtain ⟨z0, z1, z2, z3, z4, z5⟩ := HC.out w_ hSw_; go_simp; try with_reducible rfl)); (try simp only [Act.put, zA, zB, zC, zD, zE, zF])
  refine wpAnyH_ready (rs := [1]) (by kernel_rfl) (by simp) ?_; refine AllReadyH.cons rfl (fun K hK => ?_) AllReadyH.nil; rw [if_pos (by rfl)]; (go_simp); (go_at_call 12; refine (HCK.out _ hHeld).mono ?_; rintro e w3 ⟨rfl, hb⟩; (have HB' := held_below hHeld hb); clear hb); (first | skip); refine hK.out _ _ (HB') (fun hHeld => ?_); clear hK K; (try simp only [Act.put, zA, zB, zC, zD, zE, zF])
  (refine wpAnyH_take (i := 2) (v := ?_) rfl (by kernel_rfl) (by kernel_rfl) (by kernel_rfl) (fun _ _ _ h => h) (Or.inl ⟨by rfl, ?_⟩) hHeld ?_; rotate_left; focus (intro w_ hSw_; obtain ⟨z0, z1, z2, z3, z4, z5⟩ := HC.out w_ hSw_; go_simp; try with_reducible rfl)); (try simp only [Act.put, zA, zB, zC, zD, zE, zF])
  (refine wpAnyH_take (i := 3) (v := ?_) rfl (by kernel_rfl) (by kernel_rfl) (by kernel_rfl) (fun _ _ _ h => h) (Or.inl ⟨by rfl, ?_⟩) hHeld ?_; rotate_left; focus (intro w_ hSw_; obtain ⟨z0, z1, z2, z3, z4, z5⟩ := HC.out w_ hSw_; go_simp; try with_reducible rfl)); (try simp only [Act.put, zA, zB, zC, zD, zE, zF])
  (refine wpAnyH_take (i := 4) (v := ?_) rfl (by kernel_rfl) (by kernel_rfl) (by kernel_rfl) (fun _ _ _ h => h) (Or.inl ⟨by rfl, ?_⟩) hHeld ?_; rotate_left; focus (intro w_ hSw_; obtain ⟨z0, z1, z2, z3, z4, z5⟩ := HC.out w_ hSw_; go_simp; try with_reducible rfl)); (try simp only [Act.put, zA, zB, zC, zD, zE, zF])
  (refine wpAnyH_take (i := 5) (v := ?_) rfl (by kernel_rfl) (by kernel_rfl) (by kernel_rfl) (fun _ _ _ h => h) (Or.inl ⟨by rfl, ?_⟩) hHeld ?_; rotate_left; focus (intro w_ hSw_; obtain ⟨z0, z1, z2, z3, z4, z5⟩ := HC.out w_ hSw_; go_simp; try with_reducible rfl)); (try simp only [Act.put, zA, zB, zC, zD, zE, zF])
  (refine wpAnyH_take (i := 6) (v := ?_) rfl (by kernel_rfl) (by kernel_rfl) (by kernel_rfl) (fun _ _ _ h => h) (Or.inl ⟨by rfl, ?_⟩) hHeld ?_; rotate_left; focus (intro w_ hSw_; obtain ⟨z0, z1, z2, z3, z4, z5⟩ := HC.out w_ hSw_; go_simp; try with_reducible rfl)); (try simp only [Act.put, zA, zB, zC, zD, zE, zF])
  (refine wpAnyH_take (i := 7) (v := ?_) rfl (by kernel_rfl) (by kernel_rfl) (by kernel_rfl) (fun _ _ _ h => h) (Or.inl ⟨by rfl, ?_⟩) hHeld ?_; rotate_left; focus (intro w_ hSw_; obtain ⟨z0, z1, z2, z3, z4, z5⟩ := HC.out w_ hSw_; go_simp; try with_reducible rfl)); (try simp only [Act.put, zA, zB, zC, zD, zE, zF])
  (refine wpAnyH_take (i := 8) (v := _) rfl (by kernel_rfl) (by kernel_rfl) (by kernel_rfl) (fun _ _ _ h => h) (Or.inr ⟨by rfl, rfl⟩) hHeld ?_); (try simp only [Act.put, zA, zB, zC, zD, zE, zF])
  (refine wpAnyH_take (i := 9) (v := _) rfl (by kernel_rfl) (by kernel_rfl) (by kernel_rfl) (fun _ _ _ h => h) (Or.inr ⟨by rfl, rfl⟩) hHeld ?_); (try simp only [Act.put, zA, zB, zC, zD, zE, zF])
  (refine wpAnyH_take (i := 10) (v := _) rfl (by kernel_rfl) (by kernel_rfl) (by kernel_rfl) (fun _ _ _ h => h) (Or.inr ⟨by rfl, rfl⟩) hHeld ?_); (try simp only [Act.put, zA, zB, zC, zD, zE, zF])
  (refine wpAnyH_take (i := 11) (v := ?_) rfl (by kernel_rfl) (by kernel_rfl) (by kernel_rfl) (fun _ _ _ h => h) (Or.inl ⟨by rfl, ?_⟩) hHeld ?_; rotate_left; focus (intro w_ hSw_; obtain ⟨z0, z1, z2, z3, z4, z5⟩ := HC.out w_ hSw_; go_simp; try with_reducible rfl)); (try simp only [Act.put, zA, zB, zC, zD, zE, zF])
  (refine wpAnyH_take (i := 12) (v := ?_) rfl (by kernel_rfl) (by kernel_rfl) (by kernel_rfl) (fun _ _ _ h => h) (Or.inl ⟨by rfl, ?_⟩) hHeld ?_; rotate_left; focus (intro w_ hSw_; obtain ⟨z0, z1, z2, z3, z4, z5⟩ := HC.out w_ hSw_; go_simp; try with_reducible rfl)); (try simp only [Act.put, zA, zB, zC, zD, zE, zF])
  (refine wpAnyH_take (i := 13) (v := ?_) rfl (by kernel_rfl) (by kernel_rfl) (by kernel_rfl) (fun _ _ _ h => h) (Or.inl ⟨by rfl, ?_⟩) hHeld ?_; rotate_left; focus (intro w_ hSw_; obtain ⟨z0, z1, z2, z3, z4, z5⟩ := HC.out w_ hSw_; go_simp; try with_reducible rfl)); (try simp only [Act.put, zA, zB, zC, zD, zE, zF])
  (refine wpAnyH_take (i := 14) (v := ?_) rfl (by kernel_rfl) (by kernel_rfl) (by kernel_rfl) (fun _ _ _ h => h) (Or.inl ⟨by rfl, ?_⟩) hHeld ?_; rotate_left; focus (intro w_ hSw_; obtain ⟨z0, z1, z2, z3, z4, z5⟩ := HC.out w_ hSw_; go_simp; try with_reducible rfl)); (try simp only [Act.put, zA, zB, zC, zD, zE, zF])
  refine wpAnyH_ready (rs := [15]) (by kernel_rfl) (by simp) ?_; refine AllReadyH.cons rfl (fun K hK => ?_) AllReadyH.nil; rw [if_pos (by rfl)]; (go_simp); (go_at_call 21; refine (HMAY.out _ hHeld).mono ?_; rintro e w4 ⟨rfl, ⟨q4, rfl⟩⟩; (have HB' := held_below hHeld (pw_below_drewN (Below.refl _ _) q4))); (first | skip); refine hK.out _ _ (HB') (fun hHeld => ?_); clear hK K; (try simp only [Act.put, zA, zB, zC, zD, zE, zF])
  (refine wpAnyH_take (i := 16) (v := ?_) rfl (by kernel_rfl) (by kernel_rfl) (by kernel_rfl) (fun _ _ _ h => h) (Or.inl ⟨by rfl, ?_⟩) hHeld ?_; rotate_left; focus (intro w_ hSw_; obtain ⟨z0, z1, z2, z3, z4, z5⟩ := HC.out w_ hSw_; go_simp; try with_reducible rfl)); (try simp only [Act.put, zA, zB, zC, zD, zE, zF])
  (refine wpAnyH_take (i := 17) (v := ?_) rfl (by kernel_rfl) (by kernel_rfl) (by kernel_rfl) (fun _ _ _ h => h) (Or.inl ⟨by rfl, ?_⟩) hHeld ?_; rotate_left; focus (intro w_ hSw_; obtain ⟨z0, z1, z2, z3, z4, z5⟩ := HC.out w_ hSw_; go_simp; try with_reducible rfl)); (try simp only [Act.put, zA, zB, zC, zD, zE, zF])
  (refine wpAnyH_take (i := 18) (v := ?_) rfl (by kernel_rfl) (by kernel_rfl) (by kernel_rfl) (fun _ _ _ h => h) (Or.inl ⟨by rfl, ?_⟩) hHeld ?_; rotate_left; focus (intro w_ hSw_; obtain ⟨z0, z1, z2, z3, z4, z5⟩ := HC.out w_ hSw_; go_simp; try with_reducible rfl)); (try simp only [Act.put, zA, zB, zC, zD, zE, zF])
  (refine wpAnyH_take (i := 19) (v := _) rfl (by kernel_rfl) (by kernel_rfl) (by kernel_rfl) (fun _ _ _ h => h) (Or.inr ⟨by rfl, rfl⟩) hHeld ?_); (try simp only [Act.put, zA, zB, zC, zD, zE, zF])
  (refine wpAnyH_take (i := 20) (v := _) rfl (by kernel_rfl) (by kernel_rfl) (by kernel_rfl) (fun _ _ _ h => h) (Or.inr ⟨by rfl, rfl⟩) hHeld ?_); (try simp only [Act.put, zA, zB, zC, zD, zE, zF])
  (refine wpAnyH_take (i := 21) (v := _) rfl (by kernel_rfl) (by kernel_rfl) (by kernel_rfl) (fun _ _ _ h => h) (Or.inr ⟨by rfl, rfl⟩) hHeld ?_); (try simp only [Act.put, zA, zB, zC, zD, zE, zF])
  (refine wpAnyH_take (i := 22) (v := _) rfl (by kernel_rfl) (by kernel_rfl) (by kernel_rfl) (fun _ _ _ h => h) (Or.inr ⟨by rfl, rfl⟩) hHeld ?_); (try simp only [Act.put, zA, zB, zC, zD, zE, zF])
  (refine wpAnyH_take (i := 23) (v := _) rfl (by kernel_rfl) (by kernel_rfl) (by kernel_rfl) (fun _ _ _ h => h) (Or.inr ⟨by rfl, rfl⟩) hHeld ?_); (try simp only [Act.put, zA, zB, zC, zD, zE, zF])
  (refine wpAnyH_take (i := 24) (v := _) rfl (by kernel_rfl) (by kernel_rfl) (by kernel_rfl) (fun _ _ _ h => h) (Or.inr ⟨by rfl, rfl⟩) hHeld ?_); (try simp only [Act.put, zA, zB, zC, zD, zE, zF])
  (refine wpAnyH_take (i := 25) (v := _) rfl (by kernel_rfl) (by kernel_rfl) (by kernel_rfl) (fun _ _ _ h => h) (Or.inr ⟨by rfl, rfl⟩) hHeld ?_); (try simp only [Act.put, zA, zB, zC, zD, zE, zF])
  (refine wpAnyH_take (i := 26) (v := _) rfl (by kernel_rfl) (by kernel_rfl) (by kernel_rfl) (fun _ _ _ h => h) (Or.inr ⟨by rfl, rfl⟩) hHeld ?_); (try simp only [Act.put, zA, zB, zC, zD, zE, zF])
  (refine wpAnyH_take (i := 27) (v := _) rfl (by kernel_rfl) (by kernel_rfl) (by kernel_rfl) (fun _ _ _ h => h) (Or.inr ⟨by rfl, rfl⟩) hHeld ?_); (try simp only [Act.put, zA, zB, zC, zD, zE, zF])
  (refine wpAnyH_take (i := 28) (v := _) rfl (by kernel_rfl) (by kernel_rfl) (by kernel_rfl) (fun _ _ _ h => h) (Or.inr ⟨by rfl, rfl⟩) hHeld ?_); (try simp only [Act.put, zA, zB, zC, zD, zE, zF])
  (refine wpAnyH_take (i := 29) (v := _) rfl (by kernel_rfl) (by kernel_rfl) (by kernel_rfl) (fun _ _ _ h => h) (Or.inr ⟨by rfl, rfl⟩) hHeld ?_); (try simp only [Act.put, zA, zB, zC, zD, zE, zF])
  (refine wpAnyH_take (i := 30) (v := _) rfl (by kernel_rfl) (by kernel_rfl) (by kernel_rfl) (fun _ _ _ h => h) (Or.inr ⟨by rfl, rfl⟩) hHeld ?_); (try simp only [Act.put, zA, zB, zC, zD, zE, zF])
  (refine wpAnyH_take (i := 31) (v := _) rfl (by kernel_rfl) (by kernel_rfl) (by kernel_rfl) (fun _ _ _ h => h) (Or.inr ⟨by rfl, rfl⟩) hHeld ?_); (try simp only [Act.put, zA, zB, zC, zD, zE, zF])
  (refine wpAnyH_take (i := 32) (v := _) rfl (by kernel_rfl) (by kernel_rfl) (by kernel_rfl) (fun _ _ _ h => h) (Or.inr ⟨by rfl, rfl⟩) hHeld ?_); (try simp only [Act.put, zA, zB, zC, zD, zE, zF])
  (refine wpAnyH_take (i := 33) (v := ?_) rfl (by kernel_rfl) (by kernel_rfl) (by kernel_rfl) (fun _ _ _ h => h) (Or.inl ⟨by rfl, ?_⟩) hHeld ?_; rotate_left; focus (intro w_ hSw_; obtain ⟨z0, z1, z2, z3, z4, z5⟩ := HC.out w_ hSw_; go_simp; try with_reducible rfl)); (try simp only [Act.put, zA, zB, zC, zD, zE, zF])
  refine wpAnyH_done (by kernel_rfl) ?_ _
  go_wp2
  go_ret2
  exact ⟨_, rfl, Kd.R_nil _ _ _ _ _, by repeat (first | exact HB1.out.1.trans (hHeld.out.mono HB1.out.1.size) | apply pw_below_drewN)⟩
 ·go_enter Tryd.func10, Tryd.ntmps10
  go_wp2
  rw [← HW1.out]
  refine wp_region_held_drew (S := fun w' => Aside0 (Below W1.heap.size W1 w')) (by kernel_rfl) (⟨(Below.refl _ _).drew⟩) (fun hHeld => ?_)
  (refine wpAnyH_take (i := 0) (v := ?_) rfl (by kernel_rfl) (by kernel_rfl) (by kernel_rfl) (fun _ _ _ h => h) (Or.inl ⟨by rfl, ?_⟩) hHeld ?_; rotate_left; focus (intro w_ hSw_; obtain ⟨z0, z1, z2, z3, z4, z5⟩ := HC.out w_ hSw_; go_simp; try with_reducible rfl)); (try simp only [Act.put, zA, zB, zC, zD, zE, zF])
  refine wpAnyH_ready (rs := [1]) (by kernel_rfl) (by simp) ?_; refine AllReadyH.cons rfl (fun K hK => ?_) AllReadyH.nil; rw [if_pos (by rfl)]; (go_simp); (go_at_call 12; refine (HCK.out _ hHeld).mono ?_; rintro e w3 ⟨rfl, hb⟩; (have HB' := held_below hHeld hb); clear hb); (first | skip); refine hK.out _ _ (HB') (fun hHeld => ?_); clear hK K; (try simp only [Act.put, zA, zB, zC, zD, zE, zF])
  (refine wpAnyH_take (i := 2) (v := ?_) rfl (by kernel_rfl) (by kernel_rfl) (by kernel_rfl) (fun _ _ _ h => h) (Or.inl ⟨by rfl, ?_⟩) hHeld ?_; rotate_left; focus (intro w_ hSw_; obtain ⟨z0, z1, z2, z3, z4, z5⟩ := HC.out w_ hSw_; go_simp; try with_reducible rfl)); (try simp only [Act.put, zA, zB, zC, zD, zE, zF])
  (refine wpAnyH_take (i := 3) (v := ?_) rfl (by kernel_rfl) (by kernel_rfl) (by kernel_rfl) (fun _ _ _ h => h) (Or.inl ⟨by rfl, ?_⟩) hHeld ?_; rotate_left; focus (intro w_ hSw_; obtain ⟨z0, z1, z2, z3, z4, z5⟩ := HC.out w_ hSw_; go_simp; try with_reducible rfl)); (try simp only [Act.put, zA, zB, zC, zD, zE, zF])
  (refine wpAnyH_take (i := 4) (v := ?_) rfl (by kernel_rfl) (by kernel_rfl) (by kernel_rfl) (fun _ _ _ h => h) (Or.inl ⟨by rfl, ?_⟩) hHeld ?_; rotate_left; focus (intro w_ hSw_; obtain ⟨z0, z1, z2, z3, z4, z5⟩ := HC.out w_ hSw_; go_simp; try with_reducible rfl)); (try simp only [Act.put, zA, zB, zC, zD, zE, zF])
  (refine wpAnyH_take (i := 5) (v := ?_) rfl (by kernel_rfl) (by kernel_rfl) (by kernel_rfl) (fun _ _ _ h => h) (Or.inl ⟨by rfl, ?_⟩) hHeld ?_; rotate_left; focus (intro w_ hSw_; obtain ⟨z0, z1, z2, z3, z4, z5⟩ := HC.out w_ hSw_; go_simp; try with_reducible rfl)); (try simp only [Act.put, zA, zB, zC, zD, zE, zF])
  (refine wpAnyH_take (i := 6) (v := ?_) rfl (by kernel_rfl) (by kernel_rfl) (by kernel_rfl) (fun _ _ _ h => h) (Or.inl ⟨by rfl, ?_⟩) hHeld ?_; rotate_left; focus (intro w_ hSw_; obtain ⟨z0, z1, z2, z3, z4, z5⟩ := HC.out w_ hSw_; go_simp; try with_reducible rfl)); (try simp only [Act.put, zA, zB, zC, zD, zE, zF])
  (refine wpAnyH_take (i := 7) (v := ?_) rfl (by kernel_rfl) (by kernel_rfl) (by kernel_rfl) (fun _ _ _ h => h) (Or.inl ⟨by rfl, ?_⟩) hHeld ?_; rotate_left; focus (intro w_ hSw_; obtain ⟨z0, z1, z2, z3, z4, z5⟩ := HC.out w_ hSw_; go_simp; try with_reducible rfl)); (try simp only [Act.put, zA, zB, zC, zD, zE, zF])
  (refine wpAnyH_take (i := 8) (v := ?_) rfl (by kernel_rfl) (by kernel_rfl) (by kernel_rfl) (fun _ _ _ h => h) (Or.inl ⟨by rfl, ?_⟩) hHeld ?_; rotate_left; focus (intro w_ hSw_; obtain ⟨z0, z1, z2, z3, z4, z5⟩ := HC.out w_ hSw_; go_simp; try with_reducible rfl)); (try simp only [Act.put, zA, zB, zC, zD, zE, zF])
  (refine wpAnyH_take (i := 9) (v := ?_) rfl (by kernel_rfl) (by kernel_rfl) (by kernel_rfl) (fun _ _ _ h => h) (Or.inl ⟨by rfl, ?_⟩) hHeld ?_; rotate_left; focus (intro w_ hSw_; obtain ⟨z0, z1, z2, z3, z4, z5⟩ := HC.out w_ hSw_; go_simp; try with_reducible rfl)); (try simp only [Act.put, zA, zB, zC, zD, zE, zF])
  (refine wpAnyH_take (i := 10) (v := ?_) rfl (by kernel_rfl) (by kernel_rfl) (by kernel_rfl) (fun _ _ _ h => h) (Or.inl ⟨by rfl, ?_⟩) hHeld ?_; rotate_left; focus (intro w_ hSw_; obtain ⟨z0, z1, z2, z3, z4, z5⟩ := HC.out w_ hSw_; go_simp; try with_reducible rfl)); (try simp only [Act.put, zA, zB, zC, zD, zE, zF])
  (refine wpAnyH_take (i := 11) (v := ?_) rfl (by kernel_rfl) (by kernel_rfl) (by kernel_rfl) (fun _ _ _ h => h) (Or.inl ⟨by rfl, ?_⟩) hHeld ?_; rotate_left; focus (intro w_ hSw_; obtain ⟨z0, z1, z2, z3, z4, z5⟩ := HC.out w_ hSw_; go_simp; try with_reducible rfl)); (try simp only [Act.put, zA, zB, zC, zD, zE, zF])
  (refine wpAnyH_take (i := 12) (v := ?_) rfl (by kernel_rfl) (by kernel_rfl) (by kernel_rfl) (fun _ _ _ h => h) (Or.inl ⟨by rfl, ?_⟩) hHeld ?_; rotate_left; focus (intro w_ hSw_; obtain ⟨z0, z1, z2, z3, z4, z5⟩ := HC.out w_ hSw_; go_simp; try with_reducible rfl)); (try simp only [Act.put, zA, zB, zC, zD, zE, zF])
  (refine wpAnyH_take (i := 13) (v := ?_) rfl (by kernel_rfl) (by kernel_rfl) (by kernel_rfl) (fun _ _ _ h => h) (Or.inl ⟨by rfl, ?_⟩) hHeld ?_; rotate_left; focus (intro w_ hSw_; obtain ⟨z0, z1, z2, z3, z4, z5⟩ := HC.out w_ hSw_; go_simp; try with_reducible rfl)); (try simp only [Act.put, zA, zB, zC, zD, zE, zF])
  (refine wpAnyH_take (i := 14) (v := ?_) rfl (by kernel_rfl) (by kernel_rfl) (by kernel_rfl) (fun _ _ _ h => h) (Or.inl ⟨by rfl, ?_⟩) hHeld ?_; rotate_left; focus (intro w_ hSw_; obtain ⟨z0, z1, z2, z3, z4, z5⟩ := HC.out w_ hSw_; go_simp; try with_reducible rfl)); (try simp only [Act.put, zA, zB, zC, zD, zE, zF])
  refine wpAnyH_ready (rs := [15]) (by kernel_rfl) (by simp) ?_; refine AllReadyH.cons rfl (fun K hK => ?_) AllReadyH.nil; rw [if_pos (by rfl)]; (go_simp); (go_at_call 21; refine (HMAY.out _ hHeld).mono ?_; rintro e w4 ⟨rfl, ⟨q4, rfl⟩⟩; (have HB' := held_below hHeld (pw_below_drewN (Below.refl _ _) q4))); (first | skip); refine hK.out _ _ (HB') (fun hHeld => ?_); clear hK K; (try simp only [Act.put, zA, zB, zC, zD, zE, zF])
  (refine wpAnyH_take (i := 16) (v := ?_) rfl (by kernel_rfl) (by kernel_rfl) (by kernel_rfl) (fun _ _ _ h => h) (Or.inl ⟨by rfl, ?_⟩) hHeld ?_; rotate_left; focus (intro w_ hSw_; obtain ⟨z0, z1, z2, z3, z4, z5⟩ := HC.out w_ hSw_; go_simp; try with_reducible rfl)); (try simp only [Act.put, zA, zB, zC, zD, zE, zF])
  (refine wpAnyH_take (i := 17) (v := ?_) rfl (by kernel_rfl) (by kernel_rfl) (by kernel_rfl) (fun _ _ _ h => h) (Or.inl ⟨by rfl, ?_⟩) hHeld ?_; rotate_left; focus (intro w_ hSw_; obtain ⟨z0, z1, z2, z3, z4, z5⟩ := HC.out w_ hSw_; go_simp; try with_reducible rfl)); (try simp only [Act.put, zA, zB, zC, zD, zE, zF])
  (refine wpAnyH_take (i := 18) (v := ?_) rfl (by kernel_rfl) (by kernel_rfl) (by kernel_rfl) (fun _ _ _ h => h) (Or.inl ⟨by rfl, ?_⟩) hHeld ?_; rotate_left; focus (intro w_ hSw_; obtain ⟨z0, z1, z2, z3, z4, z5⟩ := HC.out w_ hSw_; go_simp; try with_reducible rfl)); (try simp only [Act.put, zA, zB, zC, zD, zE, zF])
  (refine wpAnyH_take (i := 19) (v := _) rfl (by kernel_rfl) (by kernel_rfl) (by kernel_rfl) (fun _ _ _ h => h) (Or.inr ⟨by rfl, rfl⟩) hHeld ?_); (try simp only [Act.put, zA, zB, zC, zD, zE, zF])
  (refine wpAnyH_take (i := 20) (v := _) rfl (by kernel_rfl) (by kernel_rfl) (by kernel_rfl) (fun _ _ _ h => h) (Or.inr ⟨by rfl, rfl⟩) hHeld ?_); (try simp only [Act.put, zA, zB, zC, zD, zE, zF])
  (refine wpAnyH_take (i := 21) (v := _) rfl (by kernel_rfl) (by kernel_rfl) (by kernel_rfl) (fun _ _ _ h => h) (Or.inr ⟨by rfl, rfl⟩) hHeld ?_); (try simp only [Act.put, zA, zB, zC, zD, zE, zF])
  (refine wpAnyH_take (i := 22) (v := _) rfl (by kernel_rfl) (by kernel_rfl) (by kernel_rfl) (fun _ _ _ h => h) (Or.inr ⟨by rfl, rfl⟩) hHeld ?_); (try simp only [Act.put, zA, zB, zC, zD, zE, zF])
  (refine wpAnyH_take (i := 23) (v := _) rfl (by kernel_rfl) (by kernel_rfl) (by kernel_rfl) (fun _ _ _ h => h) (Or.inr ⟨by rfl, rfl⟩) hHeld ?_); (try simp only [Act.put, zA, zB, zC, zD, zE, zF])
  (refine wpAnyH_take (i := 24) (v := _) rfl (by kernel_rfl) (by kernel_rfl) (by kernel_rfl) (fun _ _ _ h => h) (Or.inr ⟨by rfl, rfl⟩) hHeld ?_); (try simp only [Act.put, zA, zB, zC, zD, zE, zF])
  (refine wpAnyH_take (i := 25) (v := _) rfl (by kernel_rfl) (by kernel_rfl) (by kernel_rfl) (fun _ _ _ h => h) (Or.inr ⟨by rfl, rfl⟩) hHeld ?_); (try simp only [Act.put, zA, zB, zC, zD, zE, zF])
  (refine wpAnyH_take (i := 26) (v := _) rfl (by kernel_rfl) (by kernel_rfl) (by kernel_rfl) (fun _ _ _ h => h) (Or.inr ⟨by rfl, rfl⟩) hHeld ?_); (try simp only [Act.put, zA, zB, zC, zD, zE, zF])
  (refine wpAnyH_take (i := 27) (v := _) rfl (by kernel_rfl) (by kernel_rfl) (by kernel_rfl) (fun _ _ _ h => h) (Or.inr ⟨by rfl, rfl⟩) hHeld ?_); (try simp only [Act.put, zA, zB, zC, zD, zE, zF])
  (refine wpAnyH_take (i := 28) (v := _) rfl (by kernel_rfl) (by kernel_rfl) (by kernel_rfl) (fun _ _ _ h => h) (Or.inr ⟨by rfl, rfl⟩) hHeld ?_); (try simp only [Act.put, zA, zB, zC, zD, zE, zF])
  (refine wpAnyH_take (i := 29) (v := _) rfl (by kernel_rfl) (by kernel_rfl) (by kernel_rfl) (fun _ _ _ h => h) (Or.inr ⟨by rfl, rfl⟩) hHeld ?_); (try simp only [Act.put, zA, zB, zC, zD, zE, zF])
  (refine wpAnyH_take (i := 30) (v := _) rfl (by kernel_rfl) (by kernel_rfl) (by kernel_rfl) (fun _ _ _ h => h) (Or.inr ⟨by rfl, rfl⟩) hHeld ?_); (try simp only [Act.put, zA, zB, zC, zD, zE, zF])
  (refine wpAnyH_take (i := 31) (v := _) rfl (by kernel_rfl) (by kernel_rfl) (by kernel_rfl) (fun _ _ _ h => h) (Or.inr ⟨by rfl, rfl⟩) hHeld ?_); (try simp only [Act.put, zA, zB, zC, zD, zE, zF])
  (refine wpAnyH_take (i := 32) (v := _) rfl (by kernel_rfl) (by kernel_rfl) (by kernel_rfl) (fun _ _ _ h => h) (Or.inr ⟨by rfl, rfl⟩) hHeld ?_); (try simp only [Act.put, zA, zB, zC, zD, zE, zF])
  (refine wpAnyH_take (i := 33) (v := ?_) rfl (by kernel_rfl) (by kernel_rfl) (by kernel_rfl) (fun _ _ _ h => h) (Or.inl ⟨by rfl, ?_⟩) hHeld ?_; rotate_left; focus (intro w_ hSw_; obtain ⟨z0, z1, z2, z3, z4, z5⟩ := HC.out w_ hSw_; go_simp; try with_reducible rfl)); (try simp only [Act.put, zA, zB, zC, zD, zE, zF])
  refine wpAnyH_done (by kernel_rfl) ?_ _
  go_wp2
  go_ret2
  exact ⟨_, rfl, Kd.R_nil _ _ _ _ _, by repeat (first | exact HB1.out.1.trans (hHeld.out.mono HB1.out.1.size) | apply pw_below_drewN)⟩
set_option maxHeartbeats 4000000 in
set_option maxRecDepth 100000 in
theorem img_ge (a0 a1 a2 a3 : Int) (A4 : Option Addr) (c4 : Nat) (l4 : List (List Int)) (A5 : Option Addr) (c5 : Nat) (l5 : List Mtr) (A1 : Option Addr) (c1 : Nat) (l1 : List Int) (w : World) (hEV : EV w) (hr4 : Kd.C (Kd.slice 3 (Kd.int .i64)) w A4 l4.length l4) (hc4 : l4.length ≤ c4) (hr5 : Kd.C k25 w A5 l5.length l5) (hc5 : l5.length ≤ c5) (hr1 : Kd.C (Kd.int .i64) w A1 l1.length l1) (hc1 : l1.length ≤ c1) (hck : chkN ⟨a0, a1, a2, a3, l4, l5⟩ = 0) (hm : mayB l1 = true) (h0 : 0 < l1.length) (hge : a1 ≤ rd l1 ((l1.length : Int) - 1)) (h56 : a0 = 5 ∨ a0 = 6) :
 Calls Tryd.prog 10 #[.agg #[.int .i64 a0, .int .i64 a1, .int .i64 a2, .int .i64 a3, .slice A4 l4.length c4, .slice A5 l5.length c5], .slice A1 l1.length c1] w fun e w' => ∃ v0_ : Value, e = .returned (.tuple #[v0_, .bool false]) ∧ Kd.R (Kd.int .i64) 3 w' w.heap.size (fun _ => True) v0_ [] ∧ Below w.heap.size w w' := by
 obtain ⟨c, hc⟩ : ∃ c : Int, c = 0 := ⟨_, rfl⟩
 rw [← hc] at hck
 obtain ⟨ad1, hA1, hy⟩ := Kd.at_int hr1 ((l1.length : Int) - 1) (by omega) (by omega)
 subst hA1
 rw [show ((l1.length : Int) - 1).toNat = l1.length - 1 by omega] at hy
 have h0c : decide (0 < l1.length) = true := decide_eq_true h0
 have hi0 : (0 : Int) ≤ (l1.length : Int) - 1 := by omega
 have hi1 : (l1.length : Int) - 1 < (l1.length : Int) := by omega
 have hlast : wrap64 ((l1.length : Int) - 1) = (l1.length : Int) - 1 := by have := hr1.2.1; unfold wrap64; omega
 have hb0 : (l1.length : Int) ≤ 9223372036854775807 := by have := hr1.2.1; omega
 have hwr : IntKind.i64.wrap ((l1.length : Int) - 1) = (l1.length : Int) - 1 := by rw [wrap_i64]; exact hlast
 have htn : ((l1.length : Int) - 1).toNat = l1.length - 1 := by omega
 have h1l : (1 : Int) ≤ (l1.length : Int) := by omega
 obtain ⟨W1, hW1⟩ : ∃ W1, W1 = w.alloc (Obj.cells #[.int .i64 a0, .int .i64 a1, .int .i64 a2, .int .i64 a3, .slice A4 l4.length c4, .slice A5 l5.length c5] 25) := ⟨_, rfl⟩
 have hB1 : Below w.heap.size w W1 := by subst hW1; exact (Below.refl _ _).alloc (Nat.le_refl _) _
 have hbx := mbox w 25 (.int .i64 a0) (.int .i64 a1) (.int .i64 a2) (.int .i64 a3) (.slice A4 l4.length c4) (.slice A5 l5.length c5)
 have hsz : w.heap.size < W1.heap.size := by
  subst hW1
  rw [show (w.alloc (Obj.cells #[.int .i64 a0, .int .i64 a1, .int .i64 a2, .int .i64 a3, .slice A4 l4.length c4, .slice A5 l5.length c5] 25)).heap.size = w.heap.size + 1 from Array.size_push ..]; omega
 rw [← hW1] at hbx
 have HB1 := Aside0.mk (And.intro hB1 (And.intro hbx hsz))
 have HW1 := Aside0.mk hW1
 have HCK := Aside0.mk (fun (w' : World) (hw : Aside0 (Below W1.heap.size W1 w')) => matroid_Check.calls a0 a1 a2 a3 A4 c4 l4 A5 c5 l5 c w' (hEV.below (hB1.trans (hw.out.mono hB1.size)) hEV.pos) (Kd.C_below hr4 (hB1.trans (hw.out.mono hB1.size))) hc4 (Kd.C_below hr5 (hB1.trans (hw.out.mono hB1.size))) hc5 (by rw [← hck]; rfl))
 have HMAY := Aside0.mk (fun (w' : World) (hw : Aside0 (Below W1.heap.size W1 w')) => set_May_now (some ad1) c1 l1 w' (Kd.C_below hr1 (hB1.trans (hw.out.mono hB1.size))) hc1 hr1.2.1)
 have HC : Aside0 (∀ w', Aside0 (Below W1.heap.size W1 w') → w'.cell? ⟨w.heap.size, 0, none⟩ = some (.int .i64 a0) ∧ w'.cell? ⟨w.heap.size, 1, none⟩ = some (.int .i64 a1) ∧ w'.cell? ⟨w.heap.size, 2, none⟩ = some (.int .i64 a2) ∧ w'.cell? ⟨w.heap.size, 3, none⟩ = some (.int .i64 a3) ∧ w'.cell? ⟨w.heap.size, 4, none⟩ = some (.slice A4 l4.length c4) ∧ w'.cell? ⟨w.heap.size, 5, none⟩ = some (.slice A5 l5.length c5)) :=
  ⟨fun w' hw => ⟨(hw.out.cell (p := ⟨w.heap.size, 0, none⟩) hsz).trans hbx.1, (hw.out.cell (p := ⟨w.heap.size, 1, none⟩) hsz).trans hbx.2.1, (hw.out.cell (p := ⟨w.heap.size, 2, none⟩) hsz).trans hbx.2.2.1, (hw.out.cell (p := ⟨w.heap.size, 3, none⟩) hsz).trans hbx.2.2.2.1, (hw.out.cell (p := ⟨w.heap.size, 4, none⟩) hsz).trans hbx.2.2.2.2.1, (hw.out.cell (p := ⟨w.heap.size, 5, none⟩) hsz).trans hbx.2.2.2.2.2⟩⟩
 subst hc
 have g2 : decide (a1 ≤ rd l1 ((l1.length : Int) - 1)) = true := decide_eq_true hge
 clear hge
 generalize rd l1 ((l1.length : Int) - 1) = y at *
 have HY : Aside0 (∀ w', Aside0 (Below W1.heap.size W1 w') → w'.cell? (ad1.add (l1.length - 1)) = some (.int .i64 y)) := ⟨fun w' hw => ((hB1.trans (hw.out.mono hB1.size)).cell (World.block_lt_of_cell? w _ hy)).trans hy⟩
 rw [hm] at HMAY
 clear hB1 hbx hsz hr4 hc4 hr5 hc5 hr1 hc1 hck hEV hW1 hm hy
 rcases h56 with rfl | rfl
 ·go_enter Tryd.func10, Tryd.ntmps10
  go_wp2
  rw [← HW1.out]
  refine wp_region_held_drew (S := fun w' => Aside0 (Below W1.heap.size W1 w')) (by kernel_rfl) (⟨(Below.refl _ _).drew⟩) (fun hHeld => ?_)
  (refine wpAnyH_take (i := 0) (v := ?_) rfl (by kernel_rfl) (by kernel_rfl) (by kernel_rfl) (fun _ _ _ h => h) (Or.inl ⟨by rfl, ?_⟩) hHeld ?_; rotate_left; focus (intro w_ hSw_; obtain ⟨z0, z1, z2, z3, z4, z5⟩ := HC.out w_ hSw_; go_simp; try with_reducible rfl)); (try simp only [Act.put, zA, zB, zC, zD, zE, zF])
  refine wpAnyH_ready (rs := [1]) (by kernel_rfl) (by simp) ?_; refine AllReadyH.cons rfl (fun K hK => ?_) AllReadyH.nil; rw [if_pos (by rfl)]; (go_simp); (go_at_call 12; refine (HCK.out _ hHeld).mono ?_; rintro e w3 ⟨rfl, hb⟩; (have HB' := held_below hHeld hb); clear hb); (first | skip); refine hK.out _ _ (HB') (fun hHeld => ?_); clear hK K; (try simp only [Act.put, zA, zB, zC, zD, zE, zF])
  (refine wpAnyH_take (i := 2) (v := ?_) rfl (by kernel_rfl) (by kernel_rfl) (by kernel_rfl) (fun _ _ _ h => h) (Or.inl ⟨by rfl, ?_⟩) hHeld ?_; rotate_left; focus (intro w_ hSw_; obtain ⟨z0, z1, z2, z3, z4, z5⟩ := HC.out w_ hSw_; go_simp; try with_reducible rfl)); (try simp only [Act.put, zA, zB, zC, zD, zE, zF])
  (refine wpAnyH_take (i := 3) (v := ?_) rfl (by kernel_rfl) (by kernel_rfl) (by kernel_rfl) (fun _ _ _ h => h) (Or.inl ⟨by rfl, ?_⟩) hHeld ?_; rotate_left; focus (intro w_ hSw_; obtain ⟨z0, z1, z2, z3, z4, z5⟩ := HC.out w_ hSw_; go_simp; try with_reducible rfl)); (try simp only [Act.put, zA, zB, zC, zD, zE, zF])
  (refine wpAnyH_take (i := 4) (v := ?_) rfl (by kernel_rfl) (by kernel_rfl) (by kernel_rfl) (fun _ _ _ h => h) (Or.inl ⟨by rfl, ?_⟩) hHeld ?_; rotate_left; focus (intro w_ hSw_; obtain ⟨z0, z1, z2, z3, z4, z5⟩ := HC.out w_ hSw_; go_simp; try with_reducible rfl)); (try simp only [Act.put, zA, zB, zC, zD, zE, zF])
  (refine wpAnyH_take (i := 5) (v := ?_) rfl (by kernel_rfl) (by kernel_rfl) (by kernel_rfl) (fun _ _ _ h => h) (Or.inl ⟨by rfl, ?_⟩) hHeld ?_; rotate_left; focus (intro w_ hSw_; obtain ⟨z0, z1, z2, z3, z4, z5⟩ := HC.out w_ hSw_; go_simp; try with_reducible rfl)); (try simp only [Act.put, zA, zB, zC, zD, zE, zF])
  (refine wpAnyH_take (i := 6) (v := ?_) rfl (by kernel_rfl) (by kernel_rfl) (by kernel_rfl) (fun _ _ _ h => h) (Or.inl ⟨by rfl, ?_⟩) hHeld ?_; rotate_left; focus (intro w_ hSw_; obtain ⟨z0, z1, z2, z3, z4, z5⟩ := HC.out w_ hSw_; go_simp; try with_reducible rfl)); (try simp only [Act.put, zA, zB, zC, zD, zE, zF])
  (refine wpAnyH_take (i := 7) (v := ?_) rfl (by kernel_rfl) (by kernel_rfl) (by kernel_rfl) (fun _ _ _ h => h) (Or.inl ⟨by rfl, ?_⟩) hHeld ?_; rotate_left; focus (intro w_ hSw_; obtain ⟨z0, z1, z2, z3, z4, z5⟩ := HC.out w_ hSw_; go_simp; try with_reducible rfl)); (try simp only [Act.put, zA, zB, zC, zD, zE, zF])
  (refine wpAnyH_take (i := 8) (v := _) rfl (by kernel_rfl) (by kernel_rfl) (by kernel_rfl) (fun _ _ _ h => h) (Or.inr ⟨by rfl, rfl⟩) hHeld ?_); (try simp only [Act.put, zA, zB, zC, zD, zE, zF])
  (refine wpAnyH_take (i := 9) (v := _) rfl (by kernel_rfl) (by kernel_rfl) (by kernel_rfl) (fun _ _ _ h => h) (Or.inr ⟨by rfl, rfl⟩) hHeld ?_); (try simp only [Act.put, zA, zB, zC, zD, zE, zF])
  (refine wpAnyH_take (i := 10) (v := _) rfl (by kernel_rfl) (by kernel_rfl) (by kernel_rfl) (fun _ _ _ h => h) (Or.inr ⟨by rfl, rfl⟩) hHeld ?_); (try simp only [Act.put, zA, zB, zC, zD, zE, zF])
  (refine wpAnyH_take (i := 11) (v := ?_) rfl (by kernel_rfl) (by kernel_rfl) (by kernel_rfl) (fun _ _ _ h => h) (Or.inl ⟨by rfl, ?_⟩) hHeld ?_; rotate_left; focus (intro w_ hSw_; obtain ⟨z0, z1, z2, z3, z4, z5⟩ := HC.out w_ hSw_; go_simp; try with_reducible rfl)); (try simp only [Act.put, zA, zB, zC, zD, zE, zF])
  (refine wpAnyH_take (i := 12) (v := ?_) rfl (by kernel_rfl) (by kernel_rfl) (by kernel_rfl) (fun _ _ _ h => h) (Or.inl ⟨by rfl, ?_⟩) hHeld ?_; rotate_left; focus (intro w_ hSw_; obtain ⟨z0, z1, z2, z3, z4, z5⟩ := HC.out w_ hSw_; go_simp; try with_reducible rfl)); (try simp only [Act.put, zA, zB, zC, zD, zE, zF])
  (refine wpAnyH_take (i := 13) (v := ?_) rfl (by kernel_rfl) (by kernel_rfl) (by kernel_rfl) (fun _ _ _ h => h) (Or.inl ⟨by rfl, ?_⟩) hHeld ?_; rotate_left; focus (intro w_ hSw_; obtain ⟨z0, z1, z2, z3, z4, z5⟩ := HC.out w_ hSw_; go_simp; try with_reducible rfl)); (try simp only [Act.put, zA, zB, zC, zD, zE, zF])
  (refine wpAnyH_take (i := 14) (v := ?_) rfl (by kernel_rfl) (by kernel_rfl) (by kernel_rfl) (fun _ _ _ h => h) (Or.inl ⟨by rfl, ?_⟩) hHeld ?_; rotate_left; focus (intro w_ hSw_; obtain ⟨z0, z1, z2, z3, z4, z5⟩ := HC.out w_ hSw_; go_simp; try with_reducible rfl)); (try simp only [Act.put, zA, zB, zC, zD, zE, zF])
  refine wpAnyH_ready (rs := [15]) (by kernel_rfl) (by simp) ?_; refine AllReadyH.cons rfl (fun K hK => ?_) AllReadyH.nil; rw [if_pos (by rfl)]; (go_simp); (go_at_call 21; refine (HMAY.out _ hHeld).mono ?_; rintro e w4 ⟨rfl, ⟨q4, rfl⟩⟩; (have HB' := held_below hHeld (pw_below_drewN (Below.refl _ _) q4))); (first | skip); refine hK.out _ _ (HB') (fun hHeld => ?_); clear hK K; (try simp only [Act.put, zA, zB, zC, zD, zE, zF])
  (refine wpAnyH_take (i := 16) (v := ?_) rfl (by kernel_rfl) (by kernel_rfl) (by kernel_rfl) (fun _ _ _ h => h) (Or.inl ⟨by rfl, ?_⟩) hHeld ?_; rotate_left; focus (intro w_ hSw_; obtain ⟨z0, z1, z2, z3, z4, z5⟩ := HC.out w_ hSw_; go_simp; try with_reducible rfl)); (try simp only [Act.put, zA, zB, zC, zD, zE, zF])
  (refine wpAnyH_take (i := 17) (v := ?_) rfl (by kernel_rfl) (by kernel_rfl) (by kernel_rfl) (fun _ _ _ h => h) (Or.inl ⟨by rfl, ?_⟩) hHeld ?_; rotate_left; focus (intro w_ hSw_; obtain ⟨z0, z1, z2, z3, z4, z5⟩ := HC.out w_ hSw_; go_simp; try with_reducible rfl)); (try simp only [Act.put, zA, zB, zC, zD, zE, zF])
  (refine wpAnyH_take (i := 18) (v := ?_) rfl (by kernel_rfl) (by kernel_rfl) (by kernel_rfl) (fun _ _ _ h => h) (Or.inl ⟨by rfl, ?_⟩) hHeld ?_; rotate_left; focus (intro w_ hSw_; obtain ⟨z0, z1, z2, z3, z4, z5⟩ := HC.out w_ hSw_; go_simp; try with_reducible rfl)); (try simp only [Act.put, zA, zB, zC, zD, zE, zF])
  (refine wpAnyH_take (i := 19) (v := ?_) rfl (by kernel_rfl) (by kernel_rfl) (by kernel_rfl) (fun _ _ _ h => h) (Or.inl ⟨by rfl, ?_⟩) hHeld ?_; rotate_left; focus (intro w_ hSw_; obtain ⟨z0, z1, z2, z3, z4, z5⟩ := HC.out w_ hSw_; go_simp; try with_reducible rfl)); (try simp only [Act.put, zA, zB, zC, zD, zE, zF])
  (refine wpAnyH_take (i := 20) (v := ?_) rfl (by kernel_rfl) (by kernel_rfl) (by kernel_rfl) (fun _ _ _ h => h) (Or.inl ⟨by rfl, ?_⟩) hHeld ?_; rotate_left; focus (intro w_ hSw_; obtain ⟨z0, z1, z2, z3, z4, z5⟩ := HC.out w_ hSw_; go_simp; try with_reducible rfl)); (try simp only [Act.put, zA, zB, zC, zD, zE, zF])
  (refine wpAnyH_take (i := 21) (v := ?_) rfl (by kernel_rfl) (by kernel_rfl) (by kernel_rfl) (fun _ _ _ h => h) (Or.inl ⟨by rfl, ?_⟩) hHeld ?_; rotate_left; focus (intro w_ hSw_; obtain ⟨z0, z1, z2, z3, z4, z5⟩ := HC.out w_ hSw_; go_simp; try with_reducible rfl)); (try simp only [Act.put, zA, zB, zC, zD, zE, zF])
  (refine wpAnyH_take (i := 22) (v := ?_) rfl (by kernel_rfl) (by kernel_rfl) (by kernel_rfl) (fun _ _ _ h => h) (Or.inl ⟨by rfl, ?_⟩) hHeld ?_; rotate_left; focus (intro w_ hSw_; obtain ⟨z0, z1, z2, z3, z4, z5⟩ := HC.out w_ hSw_; go_simp; try with_reducible rfl)); (try simp only [Act.put, zA, zB, zC, zD, zE, zF])
  (refine wpAnyH_take (i := 23) (v := ?_) rfl (by kernel_rfl) (by kernel_rfl) (by kernel_rfl) (fun _ _ _ h => h) (Or.inl ⟨by rfl, ?_⟩) hHeld ?_; rotate_left; focus (intro w_ hSw_; obtain ⟨z0, z1, z2, z3, z4, z5⟩ := HC.out w_ hSw_; have y0 := HY.out w_ hSw_; go_simp; try with_reducible rfl)); (try simp only [Act.put, zA, zB, zC, zD, zE, zF])
  (refine wpAnyH_take (i := 24) (v := ?_) rfl (by kernel_rfl) (by kernel_rfl) (by kernel_rfl) (fun _ _ _ h => h) (Or.inl ⟨by rfl, ?_⟩) hHeld ?_; rotate_left; focus (intro w_ hSw_; obtain ⟨z0, z1, z2, z3, z4, z5⟩ := HC.out w_ hSw_; have y0 := HY.out w_ hSw_; go_simp; try with_reducible rfl)); (try simp only [Act.put, zA, zB, zC, zD, zE, zF])
  (refine wpAnyH_take (i := 25) (v := ?_) rfl (by kernel_rfl) (by kernel_rfl) (by kernel_rfl) (fun _ _ _ h => h) (Or.inl ⟨by rfl, ?_⟩) hHeld ?_; rotate_left; focus (intro w_ hSw_; obtain ⟨z0, z1, z2, z3, z4, z5⟩ := HC.out w_ hSw_; have y0 := HY.out w_ hSw_; go_simp; try with_reducible rfl)); (try simp only [Act.put, zA, zB, zC, zD, zE, zF])
  (refine wpAnyH_take (i := 26) (v := ?_) rfl (by kernel_rfl) (by kernel_rfl) (by kernel_rfl) (fun _ _ _ h => h) (Or.inl ⟨by rfl, ?_⟩) hHeld ?_; rotate_left; focus (intro w_ hSw_; obtain ⟨z0, z1, z2, z3, z4, z5⟩ := HC.out w_ hSw_; have y0 := HY.out w_ hSw_; go_simp; try with_reducible rfl)); (try simp only [Act.put, zA, zB, zC, zD, zE, zF])
  (refine wpAnyH_take (i := 27) (v := ?_) rfl (by kernel_rfl) (by kernel_rfl) (by kernel_rfl) (fun _ _ _ h => h) (Or.inl ⟨by rfl, ?_⟩) hHeld ?_; rotate_left; focus (intro w_ hSw_; obtain ⟨z0, z1, z2, z3, z4, z5⟩ := HC.out w_ hSw_; have y0 := HY.out w_ hSw_; go_simp; try with_reducible rfl)); (try simp only [Act.put, zA, zB, zC, zD, zE, zF])
  (refine wpAnyH_take (i := 28) (v := ?_) rfl (by kernel_rfl) (by kernel_rfl) (by kernel_rfl) (fun _ _ _ h => h) (Or.inl ⟨by rfl, ?_⟩) hHeld ?_; rotate_left; focus (intro w_ hSw_; obtain ⟨z0, z1, z2, z3, z4, z5⟩ := HC.out w_ hSw_; have y0 := HY.out w_ hSw_; go_simp; try with_reducible rfl)); (try simp only [Act.put, zA, zB, zC, zD, zE, zF])
  (refine wpAnyH_take (i := 29) (v := ?_) rfl (by kernel_rfl) (by kernel_rfl) (by kernel_rfl) (fun _ _ _ h => h) (Or.inl ⟨by rfl, ?_⟩) hHeld ?_; rotate_left; focus (intro w_ hSw_; obtain ⟨z0, z1, z2, z3, z4, z5⟩ := HC.out w_ hSw_; have y0 := HY.out w_ hSw_; go_simp; try with_reducible rfl)); (try simp only [Act.put, zA, zB, zC, zD, zE, zF])
  (refine wpAnyH_take (i := 30) (v := ?_) rfl (by kernel_rfl) (by kernel_rfl) (by kernel_rfl) (fun _ _ _ h => h) (Or.inl ⟨by rfl, ?_⟩) hHeld ?_; rotate_left; focus (intro w_ hSw_; obtain ⟨z0, z1, z2, z3, z4, z5⟩ := HC.out w_ hSw_; have y0 := HY.out w_ hSw_; go_simp; try with_reducible rfl)); (try simp only [Act.put, zA, zB, zC, zD, zE, zF])
  (refine wpAnyH_take (i := 31) (v := ?_) rfl (by kernel_rfl) (by kernel_rfl) (by kernel_rfl) (fun _ _ _ h => h) (Or.inl ⟨by rfl, ?_⟩) hHeld ?_; rotate_left; focus (intro w_ hSw_; obtain ⟨z0, z1, z2, z3, z4, z5⟩ := HC.out w_ hSw_; have y0 := HY.out w_ hSw_; go_simp; try with_reducible rfl)); (try simp only [Act.put, zA, zB, zC, zD, zE, zF])
  (refine wpAnyH_take (i := 32) (v := ?_) rfl (by kernel_rfl) (by kernel_rfl) (by kernel_rfl) (fun _ _ _ h => h) (Or.inl ⟨by rfl, ?_⟩) hHeld ?_; rotate_left; focus (intro w_ hSw_; obtain ⟨z0, z1, z2, z3, z4, z5⟩ := HC.out w_ hSw_; have y0 := HY.out w_ hSw_; go_simp; try with_reducible rfl)); (try simp only [Act.put, zA, zB, zC, zD, zE, zF])
  (refine wpAnyH_take (i := 33) (v := ?_) rfl (by kernel_rfl) (by kernel_rfl) (by kernel_rfl) (fun _ _ _ h => h) (Or.inl ⟨by rfl, ?_⟩) hHeld ?_; rotate_left; focus (intro w_ hSw_; obtain ⟨z0, z1, z2, z3, z4, z5⟩ := HC.out w_ hSw_; have y0 := HY.out w_ hSw_; go_simp; try with_reducible rfl)); (try simp only [Act.put, zA, zB, zC, zD, zE, zF])
  refine wpAnyH_done (by kernel_rfl) ?_ _
  go_wp2
  go_ret2
  exact ⟨_, rfl, Kd.R_nil _ _ _ _ _, by repeat (first | exact HB1.out.1.trans (hHeld.out.mono HB1.out.1.size) | apply pw_below_drewN)⟩
 ·go_enter Tryd.func10, Tryd.ntmps10
  go_wp2
  rw [← HW1.out]
  refine wp_region_held_drew (S := fun w' => Aside0 (Below W1.heap.size W1 w')) (by kernel_rfl) (⟨(Below.refl _ _).drew⟩) (fun hHeld => ?_)
  (refine wpAnyH_take (i := 0) (v := ?_) rfl (by kernel_rfl) (by kernel_rfl) (by kernel_rfl) (fun _ _ _ h => h) (Or.inl ⟨by rfl, ?_⟩) hHeld ?_; rotate_left; focus (intro w_ hSw_; obtain ⟨z0, z1, z2, z3, z4, z5⟩ := HC.out w_ hSw_; go_simp; try with_reducible rfl)); (try simp only [Act.put, zA, zB, zC, zD, zE, zF])
  refine wpAnyH_ready (rs := [1]) (by kernel_rfl) (by simp) ?_; refine AllReadyH.cons rfl (fun K hK => ?_) AllReadyH.nil; rw [if_pos (by rfl)]; (go_simp); (go_at_call 12; refine (HCK.out _ hHeld).mono ?_; rintro e w3 ⟨rfl, hb⟩; (have HB' := held_below hHeld hb); clear hb); (first | skip); refine hK.out _ _ (HB') (fun hHeld => ?_); clear hK K; (try simp only [Act.put, zA, zB, zC, zD, zE, zF])
  (refine wpAnyH_take (i := 2) (v := ?_) rfl (by kernel_rfl) (by kernel_rfl) (by kernel_rfl) (fun _ _ _ h => h) (Or.inl ⟨by rfl, ?_⟩) hHeld ?_; rotate_left; focus (intro w_ hSw_; obtain ⟨z0, z1, z2, z3, z4, z5⟩ := HC.out w_ hSw_; go_simp; try with_reducible rfl)); (try simp only [Act.put, zA, zB, zC, zD, zE, zF])
  (refine wpAnyH_take (i := 3) (v := ?_) rfl (by kernel_rfl) (by kernel_rfl) (by kernel_rfl) (fun _ _ _ h => h) (Or.inl ⟨by rfl, ?_⟩) hHeld ?_; rotate_left; focus (intro w_ hSw_; obtain ⟨z0, z1, z2, z3, z4, z5⟩ := HC.out w_ hSw_; go_simp; try with_reducible rfl)); (try simp only [Act.put, zA, zB, zC, zD, zE, zF])
  (refine wpAnyH_take (i := 4) (v := ?_) rfl (by kernel_rfl) (by kernel_rfl) (by kernel_rfl) (fun _ _ _ h => h) (Or.inl ⟨by rfl, ?_⟩) hHeld ?_; rotate_left; focus (intro w_ hSw_; obtain ⟨z0, z1, z2, z3, z4, z5⟩ := HC.out w_ hSw_; go_simp; try with_reducible rfl)); (try simp only [Act.put, zA, zB, zC, zD, zE, zF])
  (refine wpAnyH_take (i := 5) (v := ?_) rfl (by kernel_rfl) (by kernel_rfl) (by kernel_rfl) (fun _ _ _ h => h) (Or.inl ⟨by rfl, ?_⟩) hHeld ?_; rotate_left; focus (intro w_ hSw_; obtain ⟨z0, z1, z2, z3, z4, z5⟩ := HC.out w_ hSw_; go_simp; try with_reducible rfl)); (try simp only [Act.put, zA, zB, zC, zD, zE, zF])
  (refine wpAnyH_take (i := 6) (v := ?_) rfl (by kernel_rfl) (by kernel_rfl) (by kernel_rfl) (fun _ _ _ h => h) (Or.inl ⟨by rfl, ?_⟩) hHeld ?_; rotate_left; focus (intro w_ hSw_; obtain ⟨z0, z1, z2, z3, z4, z5⟩ := HC.out w_ hSw_; go_simp; try with_reducible rfl)); (try simp only [Act.put, zA, zB, zC, zD, zE, zF])
  (refine wpAnyH_take (i := 7) (v := ?_) rfl (by kernel_rfl) (by kernel_rfl) (by kernel_rfl) (fun _ _ _ h => h) (Or.inl ⟨by rfl, ?_⟩) hHeld ?_; rotate_left; focus (intro w_ hSw_; obtain ⟨z0, z1, z2, z3, z4, z5⟩ := HC.out w_ hSw_; go_simp; try with_reducible rfl)); (try simp only [Act.put, zA, zB, zC, zD, zE, zF])
  (refine wpAnyH_take (i := 8) (v := ?_) rfl (by kernel_rfl) (by kernel_rfl) (by kernel_rfl) (fun _ _ _ h => h) (Or.inl ⟨by rfl, ?_⟩) hHeld ?_; rotate_left; focus (intro w_ hSw_; obtain ⟨z0, z1, z2, z3, z4, z5⟩ := HC.out w_ hSw_; go_simp; try with_reducible rfl)); (try simp only [Act.put, zA, zB, zC, zD, zE, zF])
  (refine wpAnyH_take (i := 9) (v := ?_) rfl (by kernel_rfl) (by kernel_rfl) (by kernel_rfl) (fun _ _ _ h => h) (Or.inl ⟨by rfl, ?_⟩) hHeld ?_; rotate_left; focus (intro w_ hSw_; obtain ⟨z0, z1, z2, z3, z4, z5⟩ := HC.out w_ hSw_; go_simp; try with_reducible rfl)); (try simp only [Act.put, zA, zB, zC, zD, zE, zF])
  (refine wpAnyH_take (i := 10) (v := ?_) rfl (by kernel_rfl) (by kernel_rfl) (by kernel_rfl) (fun _ _ _ h => h) (Or.inl ⟨by rfl, ?_⟩) hHeld ?_; rotate_left; focus (intro w_ hSw_; obtain ⟨z0, z1, z2, z3, z4, z5⟩ := HC.out w_ hSw_; go_simp; try with_reducible rfl)); (try simp only [Act.put, zA, zB, zC, zD, zE, zF])
  (refine wpAnyH_take (i := 11) (v := ?_) rfl (by kernel_rfl) (by kernel_rfl) (by kernel_rfl) (fun _ _ _ h => h) (Or.inl ⟨by rfl, ?_⟩) hHeld ?_; rotate_left; focus (intro w_ hSw_; obtain ⟨z0, z1, z2, z3, z4, z5⟩ := HC.out w_ hSw_; go_simp; try with_reducible rfl)); (try simp only [Act.put, zA, zB, zC, zD, zE, zF])
  (refine wpAnyH_take (i := 12) (v := ?_) rfl (by kernel_rfl) (by kernel_rfl) (by kernel_rfl) (fun _ _ _ h => h) (Or.inl ⟨by rfl, ?_⟩) hHeld ?_; rotate_left; focus (intro w_ hSw_; obtain ⟨z0, z1, z2, z3, z4, z5⟩ := HC.out w_ hSw_; go_simp; try with_reducible rfl)); (try simp only [Act.put, zA, zB, zC, zD, zE, zF])
  (refine wpAnyH_take (i := 13) (v := ?_) rfl (by kernel_rfl) (by kernel_rfl) (by kernel_rfl) (fun _ _ _ h => h) (Or.inl ⟨by rfl, ?_⟩) hHeld ?_; rotate_left; focus (intro w_ hSw_; obtain ⟨z0, z1, z2, z3, z4, z5⟩ := HC.out w_ hSw_; go_simp; try with_reducible rfl)); (try simp only [Act.put, zA, zB, zC, zD, zE, zF])
  (refine wpAnyH_take (i := 14) (v := ?_) rfl (by kernel_rfl) (by kernel_rfl) (by kernel_rfl) (fun _ _ _ h => h) (Or.inl ⟨by rfl, ?_⟩) hHeld ?_; rotate_left; focus (intro w_ hSw_; obtain ⟨z0, z1, z2, z3, z4, z5⟩ := HC.out w_ hSw_; go_simp; try with_reducible rfl)); (try simp only [Act.put, zA, zB, zC, zD, zE, zF])
  refine wpAnyH_ready (rs := [15]) (by kernel_rfl) (by simp) ?_; refine AllReadyH.cons rfl (fun K hK => ?_) AllReadyH.nil; rw [if_pos (by rfl)]; (go_simp); (go_at_call 21; refine (HMAY.out _ hHeld).mono ?_; rintro e w4 ⟨rfl, ⟨q4, rfl⟩⟩; (have HB' := held_below hHeld (pw_below_drewN (Below.refl _ _) q4))); (first | skip); refine hK.out _ _ (HB') (fun hHeld => ?_); clear hK K; (try simp only [Act.put, zA, zB, zC, zD, zE, zF])
  (refine wpAnyH_take (i := 16) (v := ?_) rfl (by kernel_rfl) (by kernel_rfl) (by kernel_rfl) (fun _ _ _ h => h) (Or.inl ⟨by rfl, ?_⟩) hHeld ?_; rotate_left; focus (intro w_ hSw_; obtain ⟨z0, z1, z2, z3, z4, z5⟩ := HC.out w_ hSw_; go_simp; try with_reducible rfl)); (try simp only [Act.put, zA, zB, zC, zD, zE, zF])
  (refine wpAnyH_take (i := 17) (v := ?_) rfl (by kernel_rfl) (by kernel_rfl) (by kernel_rfl) (fun _ _ _ h => h) (Or.inl ⟨by rfl, ?_⟩) hHeld ?_; rotate_left; focus (intro w_ hSw_; obtain ⟨z0, z1, z2, z3, z4, z5⟩ := HC.out w_ hSw_; go_simp; try with_reducible rfl)); (try simp only [Act.put, zA, zB, zC, zD, zE, zF])
  (refine wpAnyH_take (i := 18) (v := ?_) rfl (by kernel_rfl) (by kernel_rfl) (by kernel_rfl) (fun _ _ _ h => h) (Or.inl ⟨by rfl, ?_⟩) hHeld ?_; rotate_left; focus (intro w_ hSw_; obtain ⟨z0, z1, z2, z3, z4, z5⟩ := HC.out w_ hSw_; go_simp; try with_reducible rfl)); (try simp only [Act.put, zA, zB, zC, zD, zE, zF])
  (refine wpAnyH_take (i := 19) (v := ?_) rfl (by kernel_rfl) (by kernel_rfl) (by kernel_rfl) (fun _ _ _ h => h) (Or.inl ⟨by rfl, ?_⟩) hHeld ?_; rotate_left; focus (intro w_ hSw_; obtain ⟨z0, z1, z2, z3, z4, z5⟩ := HC.out w_ hSw_; go_simp; try with_reducible rfl)); (try simp only [Act.put, zA, zB, zC, zD, zE, zF])
  (refine wpAnyH_take (i := 20) (v := ?_) rfl (by kernel_rfl) (by kernel_rfl) (by kernel_rfl) (fun _ _ _ h => h) (Or.inl ⟨by rfl, ?_⟩) hHeld ?_; rotate_left; focus (intro w_ hSw_; obtain ⟨z0, z1, z2, z3, z4, z5⟩ := HC.out w_ hSw_; go_simp; try with_reducible rfl)); (try simp only [Act.put, zA, zB, zC, zD, zE, zF])
  (refine wpAnyH_take (i := 21) (v := ?_) rfl (by kernel_rfl) (by kernel_rfl) (by kernel_rfl) (fun _ _ _ h => h) (Or.inl ⟨by rfl, ?_⟩) hHeld ?_; rotate_left; focus (intro w_ hSw_; obtain ⟨z0, z1, z2, z3, z4, z5⟩ := HC.out w_ hSw_; go_simp; try with_reducible rfl)); (try simp only [Act.put, zA, zB, zC, zD, zE, zF])
  (refine wpAnyH_take (i := 22) (v := ?_) rfl (by kernel_rfl) (by kernel_rfl) (by kernel_rfl) (fun _ _ _ h => h) (Or.inl ⟨by rfl, ?_⟩) hHeld ?_; rotate_left; focus (intro w_ hSw_; obtain ⟨z0, z1, z2, z3, z4, z5⟩ := HC.out w_ hSw_; go_simp; try with_reducible rfl)); (try simp only [Act.put, zA, zB, zC, zD, zE, zF])
  (refine wpAnyH_take (i := 23) (v := ?_) rfl (by kernel_rfl) (by kernel_rfl) (by kernel_rfl) (fun _ _ _ h => h) (Or.inl ⟨by rfl, ?_⟩) hHeld ?_; rotate_left; focus (intro w_ hSw_; obtain ⟨z0, z1, z2, z3, z4, z5⟩ := HC.out w_ hSw_; have y0 := HY.out w_ hSw_; go_simp; try with_reducible rfl)); (try simp only [Act.put, zA, zB, zC, zD, zE, zF])
  (refine wpAnyH_take (i := 24) (v := ?_) rfl (by kernel_rfl) (by kernel_rfl) (by kernel_rfl) (fun _ _ _ h => h) (Or.inl ⟨by rfl, ?_⟩) hHeld ?_; rotate_left; focus (intro w_ hSw_; obtain ⟨z0, z1, z2, z3, z4, z5⟩ := HC.out w_ hSw_; have y0 := HY.out w_ hSw_; go_simp; try with_reducible rfl)); (try simp only [Act.put, zA, zB, zC, zD, zE, zF])
  (refine wpAnyH_take (i := 25) (v := ?_) rfl (by kernel_rfl) (by kernel_rfl) (by kernel_rfl) (fun _ _ _ h => h) (Or.inl ⟨by rfl, ?_⟩) hHeld ?_; rotate_left; focus (intro w_ hSw_; obtain ⟨z0, z1, z2, z3, z4, z5⟩ := HC.out w_ hSw_; have y0 := HY.out w_ hSw_; go_simp; try with_reducible rfl)); (try simp only [Act.put, zA, zB, zC, zD, zE, zF])
  (refine wpAnyH_take (i := 26) (v := ?_) rfl (by kernel_rfl) (by kernel_rfl) (by kernel_rfl) (fun _ _ _ h => h) (Or.inl ⟨by rfl, ?_⟩) hHeld ?_; rotate_left; focus (intro w_ hSw_; obtain ⟨z0, z1, z2, z3, z4, z5⟩ := HC.out w_ hSw_; have y0 := HY.out w_ hSw_; go_simp; try with_reducible rfl)); (try simp only [Act.put, zA, zB, zC, zD, zE, zF])
  (refine wpAnyH_take (i := 27) (v := ?_) rfl (by kernel_rfl) (by kernel_rfl) (by kernel_rfl) (fun _ _ _ h => h) (Or.inl ⟨by rfl, ?_⟩) hHeld ?_; rotate_left; focus (intro w_ hSw_; obtain ⟨z0, z1, z2, z3, z4, z5⟩ := HC.out w_ hSw_; have y0 := HY.out w_ hSw_; go_simp; try with_reducible rfl)); (try simp only [Act.put, zA, zB, zC, zD, zE, zF])
  (refine wpAnyH_take (i := 28) (v := ?_) rfl (by kernel_rfl) (by kernel_rfl) (by kernel_rfl) (fun _ _ _ h => h) (Or.inl ⟨by rfl, ?_⟩) hHeld ?_; rotate_left; focus (intro w_ hSw_; obtain ⟨z0, z1, z2, z3, z4, z5⟩ := HC.out w_ hSw_; have y0 := HY.out w_ hSw_; go_simp; try with_reducible rfl)); (try simp only [Act.put, zA, zB, zC, zD, zE, zF])
  (refine wpAnyH_take (i := 29) (v := ?_) rfl (by kernel_rfl) (by kernel_rfl) (by kernel_rfl) (fun _ _ _ h => h) (Or.inl ⟨by rfl, ?_⟩) hHeld ?_; rotate_left; focus (intro w_ hSw_; obtain ⟨z0, z1, z2, z3, z4, z5⟩ := HC.out w_ hSw_; have y0 := HY.out w_ hSw_; go_simp; try with_reducible rfl)); (try simp only [Act.put, zA, zB, zC, zD, zE, zF])
  (refine wpAnyH_take (i := 30) (v := ?_) rfl (by kernel_rfl) (by kernel_rfl) (by kernel_rfl) (fun _ _ _ h => h) (Or.inl ⟨by rfl, ?_⟩) hHeld ?_; rotate_left; focus (intro w_ hSw_; obtain ⟨z0, z1, z2, z3, z4, z5⟩ := HC.out w_ hSw_; have y0 := HY.out w_ hSw_; go_simp; try with_reducible rfl)); (try simp only [Act.put, zA, zB, zC, zD, zE, zF])
  (refine wpAnyH_take (i := 31) (v := ?_) rfl (by kernel_rfl) (by kernel_rfl) (by kernel_rfl) (fun _ _ _ h => h) (Or.inl ⟨by rfl, ?_⟩) hHeld ?_; rotate_left; focus (intro w_ hSw_; obtain ⟨z0, z1, z2, z3, z4, z5⟩ := HC.out w_ hSw_; have y0 := HY.out w_ hSw_; go_simp; try with_reducible rfl)); (try simp only [Act.put, zA, zB, zC, zD, zE, zF])
  (refine wpAnyH_take (i := 32) (v := ?_) rfl (by kernel_rfl) (by kernel_rfl) (by kernel_rfl) (fun _ _ _ h => h) (Or.inl ⟨by rfl, ?_⟩) hHeld ?_; rotate_left; focus (intro w_ hSw_; obtain ⟨z0, z1, z2, z3, z4, z5⟩ := HC.out w_ hSw_; have y0 := HY.out w_ hSw_; go_simp; try with_reducible rfl)); (try simp only [Act.put, zA, zB, zC, zD, zE, zF])
  (refine wpAnyH_take (i := 33) (v := ?_) rfl (by kernel_rfl) (by kernel_rfl) (by kernel_rfl) (fun _ _ _ h => h) (Or.inl ⟨by rfl, ?_⟩) hHeld ?_; rotate_left; focus (intro w_ hSw_; obtain ⟨z0, z1, z2, z3, z4, z5⟩ := HC.out w_ hSw_; have y0 := HY.out w_ hSw_; go_simp; try with_reducible rfl)); (try simp only [Act.put, zA, zB, zC, zD, zE, zF])
  refine wpAnyH_done (by kernel_rfl) ?_ _
  go_wp2
  go_ret2
  exact ⟨_, rfl, Kd.R_nil _ _ _ _ _, by repeat (first | exact HB1.out.1.trans (hHeld.out.mono HB1.out.1.size) | apply pw_below_drewN)⟩
end Go.Proofs.YtgbmlkmkfigolaaDoor.P
/- matroid.Image, by hand. -/
namespace Go.Proofs.YtgbmlkmkfigolaaDoor.P
open Go.RowKit Go.Proofs.YtgbmlkmkfigolaaDoorW.PrintWords Go.Proofs.YtgbmlkmkfigolaaDoorW.PrintLast Go.Proofs.YtgbmlkmkfigolaaDoorW.PrintMore
set_option linter.unusedVariables false
set_option linter.unusedSimpArgs false

set_option maxHeartbeats 4000000 in
set_option maxRecDepth 100000 in
theorem img_5e (k : Nat) (a0 a1 a2 a3 : Int) (A4 : Option Addr) (c4 : Nat) (l4 : List (List Int)) (A5 : Option Addr) (c5 : Nat) (l5 : List Mtr) (A1 : Option Addr) (c1 : Nat) (l1 : List Int) (w : World) (hEV : EV w) (hr4 : Kd.C (Kd.slice 3 (Kd.int .i64)) w A4 l4.length l4) (hc4 : l4.length ≤ c4) (hr5 : Kd.C k25 w A5 l5.length l5) (hc5 : l5.length ≤ c5) (hr1 : Kd.C (Kd.int .i64) w A1 l1.length l1) (hc1 : l1.length ≤ c1) (hck : chkN ⟨a0, a1, a2, a3, l4, l5⟩ = 0) (hm : mayB l1 = true) (h0 : l1.length = 0) (h56 : a0 = 5) (h04 : 0 < l4.length) (o : List Int) (ho : imgO (rd_L1 l4 0) [] l1 = some o) :
 Calls Tryd.prog 10 #[.agg #[.int .i64 a0, .int .i64 a1, .int .i64 a2, .int .i64 a3, .slice A4 l4.length c4, .slice A5 l5.length c5], .slice A1 l1.length c1] w fun e w' => ∃ v0_ : Value, e = .returned (.tuple #[v0_, .bool true]) ∧ Kd.R (Kd.int .i64) 3 w' w.heap.size (fun _ => True) v0_ o ∧ Below w.heap.size w w' := by
 obtain ⟨c, hc⟩ : ∃ c : Int, c = 0 := ⟨_, rfl⟩
 rw [← hc] at hck
 obtain ⟨W1, hW1⟩ : ∃ W1, W1 = w.alloc (Obj.cells #[.int .i64 a0, .int .i64 a1, .int .i64 a2, .int .i64 a3, .slice A4 l4.length c4, .slice A5 l5.length c5] 25) := ⟨_, rfl⟩
 have hB1 : Below w.heap.size w W1 := by subst hW1; exact (Below.refl _ _).alloc (Nat.le_refl _) _
 have hbx := mbox w 25 (.int .i64 a0) (.int .i64 a1) (.int .i64 a2) (.int .i64 a3) (.slice A4 l4.length c4) (.slice A5 l5.length c5)
 have hsz : w.heap.size < W1.heap.size := by
  subst hW1
  rw [show (w.alloc (Obj.cells #[.int .i64 a0, .int .i64 a1, .int .i64 a2, .int .i64 a3, .slice A4 l4.length c4, .slice A5 l5.length c5] 25)).heap.size = w.heap.size + 1 from Array.size_push ..]; omega
 rw [← hW1] at hbx
 have HB1 := Aside0.mk (And.intro hB1 (And.intro hbx hsz))
 have HW1 := Aside0.mk hW1
 have HCK := Aside0.mk (fun (w' : World) (hw : Aside0 (Below W1.heap.size W1 w')) => matroid_Check.calls a0 a1 a2 a3 A4 c4 l4 A5 c5 l5 c w' (hEV.below (hB1.trans (hw.out.mono hB1.size)) hEV.pos) (Kd.C_below hr4 (hB1.trans (hw.out.mono hB1.size))) hc4 (Kd.C_below hr5 (hB1.trans (hw.out.mono hB1.size))) hc5 (by rw [← hck]; rfl))
 have HMAY := Aside0.mk (fun (w' : World) (hw : Aside0 (Below W1.heap.size W1 w')) => set_May_now A1 c1 l1 w' (Kd.C_below hr1 (hB1.trans (hw.out.mono hB1.size))) hc1 hr1.2.1)
 have HC : Aside0 (∀ w', Aside0 (Below W1.heap.size W1 w') → w'.cell? ⟨w.heap.size, 0, none⟩ = some (.int .i64 a0) ∧ w'.cell? ⟨w.heap.size, 1, none⟩ = some (.int .i64 a1) ∧ w'.cell? ⟨w.heap.size, 2, none⟩ = some (.int .i64 a2) ∧ w'.cell? ⟨w.heap.size, 3, none⟩ = some (.int .i64 a3) ∧ w'.cell? ⟨w.heap.size, 4, none⟩ = some (.slice A4 l4.length c4) ∧ w'.cell? ⟨w.heap.size, 5, none⟩ = some (.slice A5 l5.length c5)) :=
  ⟨fun w' hw => ⟨(hw.out.cell (p := ⟨w.heap.size, 0, none⟩) hsz).trans hbx.1, (hw.out.cell (p := ⟨w.heap.size, 1, none⟩) hsz).trans hbx.2.1, (hw.out.cell (p := ⟨w.heap.size, 2, none⟩) hsz).trans hbx.2.2.1, (hw.out.cell (p := ⟨w.heap.size, 3, none⟩) hsz).trans hbx.2.2.2.1, (hw.out.cell (p := ⟨w.heap.size, 4, none⟩) hsz).trans hbx.2.2.2.2.1, (hw.out.cell (p := ⟨w.heap.size, 5, none⟩) hsz).trans hbx.2.2.2.2.2⟩⟩
 subst hc
 obtain ⟨ad, A0, c0, hA, x0, hl0, hR0⟩ := at_L1 hr4 0 (by omega) (by omega)
 subst hA
 rw [show (0 : Int).toNat = 0 from rfl, Addr.add_zero'] at x0
 have HX0 := Aside0.mk x0
 generalize rd_L1 l4 0 = l at *
 have HO := Aside0.mk ho
 have HL0 := Aside0.mk hR0
 have HS0 := Aside0.mk hr1
 have g2 : decide (0 < l1.length) = false := decide_eq_false (by omega)
 have g3 : decide (0 < (l1.length : Int)) = false := decide_eq_false (by omega)
 clear h0
 rw [hm] at HMAY
 clear hB1 hbx hsz hr4 hc4 hr5 hc5 hr1 hc1 hck hEV hW1 hm x0 hl0 hR0 ho
 subst h56
 go_enter Tryd.func10, Tryd.ntmps10
 go_wp2
 rw [← HW1.out]
 refine wp_region_held_drew (S := fun w' => Aside0 (Below W1.heap.size W1 w')) (by kernel_rfl) (⟨(Below.refl _ _).drew⟩) (fun hHeld => ?_)
 (refine wpAnyH_take (i := 0) (v := ?_) rfl (by kernel_rfl) (by kernel_rfl) (by kernel_rfl) (fun _ _ _ h => h) (Or.inl ⟨by rfl, ?_⟩) hHeld ?_; rotate_left; focus (intro w_ hSw_; obtain ⟨z0, z1, z2, z3, z4, z5⟩ := HC.out w_ hSw_; go_simp; try with_reducible rfl)); (try simp only [Act.put, zA, zB, zC, zD, zE, zF])
 refine wpAnyH_ready (rs := [1]) (by kernel_rfl) (by simp) ?_; refine AllReadyH.cons rfl (fun K hK => ?_) AllReadyH.nil; rw [if_pos (by rfl)]; (go_simp); (go_at_call 12; refine (HCK.out _ hHeld).mono ?_; rintro e w3 ⟨rfl, hb⟩; (have HB' := held_below hHeld hb); clear hb); (first | skip); refine hK.out _ _ (HB') (fun hHeld => ?_); clear hK K; (try simp only [Act.put, zA, zB, zC, zD, zE, zF])
 (refine wpAnyH_take (i := 2) (v := ?_) rfl (by kernel_rfl) (by kernel_rfl) (by kernel_rfl) (fun _ _ _ h => h) (Or.inl ⟨by rfl, ?_⟩) hHeld ?_; rotate_left; focus (intro w_ hSw_; obtain ⟨z0, z1, z2, z3, z4, z5⟩ := HC.out w_ hSw_; go_simp; try with_reducible rfl)); (try simp only [Act.put, zA, zB, zC, zD, zE, zF])
 (refine wpAnyH_take (i := 3) (v := ?_) rfl (by kernel_rfl) (by kernel_rfl) (by kernel_rfl) (fun _ _ _ h => h) (Or.inl ⟨by rfl, ?_⟩) hHeld ?_; rotate_left; focus (intro w_ hSw_; obtain ⟨z0, z1, z2, z3, z4, z5⟩ := HC.out w_ hSw_; go_simp; try with_reducible rfl)); (try simp only [Act.put, zA, zB, zC, zD, zE, zF])
 (refine wpAnyH_take (i := 4) (v := ?_) rfl (by kernel_rfl) (by kernel_rfl) (by kernel_rfl) (fun _ _ _ h => h) (Or.inl ⟨by rfl, ?_⟩) hHeld ?_; rotate_left; focus (intro w_ hSw_; obtain ⟨z0, z1, z2, z3, z4, z5⟩ := HC.out w_ hSw_; go_simp; try with_reducible rfl)); (try simp only [Act.put, zA, zB, zC, zD, zE, zF])
 (refine wpAnyH_take (i := 5) (v := ?_) rfl (by kernel_rfl) (by kernel_rfl) (by kernel_rfl) (fun _ _ _ h => h) (Or.inl ⟨by rfl, ?_⟩) hHeld ?_; rotate_left; focus (intro w_ hSw_; obtain ⟨z0, z1, z2, z3, z4, z5⟩ := HC.out w_ hSw_; go_simp; try with_reducible rfl)); (try simp only [Act.put, zA, zB, zC, zD, zE, zF])
 (refine wpAnyH_take (i := 6) (v := ?_) rfl (by kernel_rfl) (by kernel_rfl) (by kernel_rfl) (fun _ _ _ h => h) (Or.inl ⟨by rfl, ?_⟩) hHeld ?_; rotate_left; focus (intro w_ hSw_; obtain ⟨z0, z1, z2, z3, z4, z5⟩ := HC.out w_ hSw_; go_simp; try with_reducible rfl)); (try simp only [Act.put, zA, zB, zC, zD, zE, zF])
 (refine wpAnyH_take (i := 7) (v := ?_) rfl (by kernel_rfl) (by kernel_rfl) (by kernel_rfl) (fun _ _ _ h => h) (Or.inl ⟨by rfl, ?_⟩) hHeld ?_; rotate_left; focus (intro w_ hSw_; obtain ⟨z0, z1, z2, z3, z4, z5⟩ := HC.out w_ hSw_; go_simp; try with_reducible rfl)); (try simp only [Act.put, zA, zB, zC, zD, zE, zF])
 (refine wpAnyH_take (i := 8) (v := _) rfl (by kernel_rfl) (by kernel_rfl) (by kernel_rfl) (fun _ _ _ h => h) (Or.inr ⟨by rfl, rfl⟩) hHeld ?_); (try simp only [Act.put, zA, zB, zC, zD, zE, zF])
 (refine wpAnyH_take (i := 9) (v := _) rfl (by kernel_rfl) (by kernel_rfl) (by kernel_rfl) (fun _ _ _ h => h) (Or.inr ⟨by rfl, rfl⟩) hHeld ?_); (try simp only [Act.put, zA, zB, zC, zD, zE, zF])
 (refine wpAnyH_take (i := 10) (v := _) rfl (by kernel_rfl) (by kernel_rfl) (by kernel_rfl) (fun _ _ _ h => h) (Or.inr ⟨by rfl, rfl⟩) hHeld ?_); (try simp only [Act.put, zA, zB, zC, zD, zE, zF])
 (refine wpAnyH_take (i := 11) (v := ?_) rfl (by kernel_rfl) (by kernel_rfl) (by kernel_rfl) (fun _ _ _ h => h) (Or.inl ⟨by rfl, ?_⟩) hHeld ?_; rotate_left; focus (intro w_ hSw_; obtain ⟨z0, z1, z2, z3, z4, z5⟩ := HC.out w_ hSw_; go_simp; try with_reducible rfl)); (try simp only [Act.put, zA, zB, zC, zD, zE, zF])
 (refine wpAnyH_take (i := 12) (v := ?_) rfl (by kernel_rfl) (by kernel_rfl) (by kernel_rfl) (fun _ _ _ h => h) (Or.inl ⟨by rfl, ?_⟩) hHeld ?_; rotate_left; focus (intro w_ hSw_; obtain ⟨z0, z1, z2, z3, z4, z5⟩ := HC.out w_ hSw_; go_simp; try with_reducible rfl)); (try simp only [Act.put, zA, zB, zC, zD, zE, zF])
 (refine wpAnyH_take (i := 13) (v := ?_) rfl (by kernel_rfl) (by kernel_rfl) (by kernel_rfl) (fun _ _ _ h => h) (Or.inl ⟨by rfl, ?_⟩) hHeld ?_; rotate_left; focus (intro w_ hSw_; obtain ⟨z0, z1, z2, z3, z4, z5⟩ := HC.out w_ hSw_; go_simp; try with_reducible rfl)); (try simp only [Act.put, zA, zB, zC, zD, zE, zF])
 (refine wpAnyH_take (i := 14) (v := ?_) rfl (by kernel_rfl) (by kernel_rfl) (by kernel_rfl) (fun _ _ _ h => h) (Or.inl ⟨by rfl, ?_⟩) hHeld ?_; rotate_left; focus (intro w_ hSw_; obtain ⟨z0, z1, z2, z3, z4, z5⟩ := HC.out w_ hSw_; go_simp; try with_reducible rfl)); (try simp only [Act.put, zA, zB, zC, zD, zE, zF])
 refine wpAnyH_ready (rs := [15]) (by kernel_rfl) (by simp) ?_; refine AllReadyH.cons rfl (fun K hK => ?_) AllReadyH.nil; rw [if_pos (by rfl)]; (go_simp); (go_at_call 21; refine (HMAY.out _ hHeld).mono ?_; rintro e w4 ⟨rfl, ⟨q4, rfl⟩⟩; (have HB' := held_below hHeld (pw_below_drewN (Below.refl _ _) q4))); (first | skip); refine hK.out _ _ (HB') (fun hHeld => ?_); clear hK K; (try simp only [Act.put, zA, zB, zC, zD, zE, zF])
 (refine wpAnyH_take (i := 16) (v := ?_) rfl (by kernel_rfl) (by kernel_rfl) (by kernel_rfl) (fun _ _ _ h => h) (Or.inl ⟨by rfl, ?_⟩) hHeld ?_; rotate_left; focus (intro w_ hSw_; obtain ⟨z0, z1, z2, z3, z4, z5⟩ := HC.out w_ hSw_; go_simp; try with_reducible rfl)); (try simp only [Act.put, zA, zB, zC, zD, zE, zF])
 (refine wpAnyH_take (i := 17) (v := ?_) rfl (by kernel_rfl) (by kernel_rfl) (by kernel_rfl) (fun _ _ _ h => h) (Or.inl ⟨by rfl, ?_⟩) hHeld ?_; rotate_left; focus (intro w_ hSw_; obtain ⟨z0, z1, z2, z3, z4, z5⟩ := HC.out w_ hSw_; go_simp; try with_reducible rfl)); (try simp only [Act.put, zA, zB, zC, zD, zE, zF])
 (refine wpAnyH_take (i := 18) (v := ?_) rfl (by kernel_rfl) (by kernel_rfl) (by kernel_rfl) (fun _ _ _ h => h) (Or.inl ⟨by rfl, ?_⟩) hHeld ?_; rotate_left; focus (intro w_ hSw_; obtain ⟨z0, z1, z2, z3, z4, z5⟩ := HC.out w_ hSw_; go_simp; try with_reducible rfl)); (try simp only [Act.put, zA, zB, zC, zD, zE, zF])
 (refine wpAnyH_take (i := 19) (v := ?_) rfl (by kernel_rfl) (by kernel_rfl) (by kernel_rfl) (fun _ _ _ h => h) (Or.inl ⟨by rfl, ?_⟩) hHeld ?_; rotate_left; focus (intro w_ hSw_; obtain ⟨z0, z1, z2, z3, z4, z5⟩ := HC.out w_ hSw_; go_simp; try with_reducible rfl)); (try simp only [Act.put, zA, zB, zC, zD, zE, zF])
 (refine wpAnyH_take (i := 20) (v := ?_) rfl (by kernel_rfl) (by kernel_rfl) (by kernel_rfl) (fun _ _ _ h => h) (Or.inl ⟨by rfl, ?_⟩) hHeld ?_; rotate_left; focus (intro w_ hSw_; obtain ⟨z0, z1, z2, z3, z4, z5⟩ := HC.out w_ hSw_; go_simp; try with_reducible rfl)); (try simp only [Act.put, zA, zB, zC, zD, zE, zF])
 (refine wpAnyH_take (i := 21) (v := ?_) rfl (by kernel_rfl) (by kernel_rfl) (by kernel_rfl) (fun _ _ _ h => h) (Or.inl ⟨by rfl, ?_⟩) hHeld ?_; rotate_left; focus (intro w_ hSw_; obtain ⟨z0, z1, z2, z3, z4, z5⟩ := HC.out w_ hSw_; go_simp; try with_reducible rfl)); (try simp only [Act.put, zA, zB, zC, zD, zE, zF])
 (refine wpAnyH_take (i := 22) (v := ?_) rfl (by kernel_rfl) (by kernel_rfl) (by kernel_rfl) (fun _ _ _ h => h) (Or.inl ⟨by rfl, ?_⟩) hHeld ?_; rotate_left; focus (intro w_ hSw_; obtain ⟨z0, z1, z2, z3, z4, z5⟩ := HC.out w_ hSw_; go_simp; try with_reducible rfl)); (try simp only [Act.put, zA, zB, zC, zD, zE, zF])
 (refine wpAnyH_take (i := 23) (v := _) rfl (by kernel_rfl) (by kernel_rfl) (by kernel_rfl) (fun _ _ _ h => h) (Or.inr ⟨by rfl, rfl⟩) hHeld ?_); (try simp only [Act.put, zA, zB, zC, zD, zE, zF])
 (refine wpAnyH_take (i := 24) (v := _) rfl (by kernel_rfl) (by kernel_rfl) (by kernel_rfl) (fun _ _ _ h => h) (Or.inr ⟨by rfl, rfl⟩) hHeld ?_); (try simp only [Act.put, zA, zB, zC, zD, zE, zF])
 (refine wpAnyH_take (i := 25) (v := _) rfl (by kernel_rfl) (by kernel_rfl) (by kernel_rfl) (fun _ _ _ h => h) (Or.inr ⟨by rfl, rfl⟩) hHeld ?_); (try simp only [Act.put, zA, zB, zC, zD, zE, zF])
 (refine wpAnyH_take (i := 26) (v := _) rfl (by kernel_rfl) (by kernel_rfl) (by kernel_rfl) (fun _ _ _ h => h) (Or.inr ⟨by rfl, rfl⟩) hHeld ?_); (try simp only [Act.put, zA, zB, zC, zD, zE, zF])
 (refine wpAnyH_take (i := 27) (v := _) rfl (by kernel_rfl) (by kernel_rfl) (by kernel_rfl) (fun _ _ _ h => h) (Or.inr ⟨by rfl, rfl⟩) hHeld ?_); (try simp only [Act.put, zA, zB, zC, zD, zE, zF])
 (refine wpAnyH_take (i := 28) (v := _) rfl (by kernel_rfl) (by kernel_rfl) (by kernel_rfl) (fun _ _ _ h => h) (Or.inr ⟨by rfl, rfl⟩) hHeld ?_); (try simp only [Act.put, zA, zB, zC, zD, zE, zF])
 (refine wpAnyH_take (i := 29) (v := _) rfl (by kernel_rfl) (by kernel_rfl) (by kernel_rfl) (fun _ _ _ h => h) (Or.inr ⟨by rfl, rfl⟩) hHeld ?_); (try simp only [Act.put, zA, zB, zC, zD, zE, zF])
 (refine wpAnyH_take (i := 30) (v := _) rfl (by kernel_rfl) (by kernel_rfl) (by kernel_rfl) (fun _ _ _ h => h) (Or.inr ⟨by rfl, rfl⟩) hHeld ?_); (try simp only [Act.put, zA, zB, zC, zD, zE, zF])
 (refine wpAnyH_take (i := 31) (v := _) rfl (by kernel_rfl) (by kernel_rfl) (by kernel_rfl) (fun _ _ _ h => h) (Or.inr ⟨by rfl, rfl⟩) hHeld ?_); (try simp only [Act.put, zA, zB, zC, zD, zE, zF])
 (refine wpAnyH_take (i := 32) (v := ?_) rfl (by kernel_rfl) (by kernel_rfl) (by kernel_rfl) (fun _ _ _ h => h) (Or.inl ⟨by rfl, ?_⟩) hHeld ?_; rotate_left; focus (intro w_ hSw_; obtain ⟨z0, z1, z2, z3, z4, z5⟩ := HC.out w_ hSw_; go_simp; try with_reducible rfl)); (try simp only [Act.put, zA, zB, zC, zD, zE, zF])
 (refine wpAnyH_take (i := 33) (v := ?_) rfl (by kernel_rfl) (by kernel_rfl) (by kernel_rfl) (fun _ _ _ h => h) (Or.inl ⟨by rfl, ?_⟩) hHeld ?_; rotate_left; focus (intro w_ hSw_; obtain ⟨z0, z1, z2, z3, z4, z5⟩ := HC.out w_ hSw_; go_simp; try with_reducible rfl)); (try simp only [Act.put, zA, zB, zC, zD, zE, zF])
 refine wpAnyH_done (by kernel_rfl) ?_ _
 obtain ⟨Wx, hWx⟩ : ∃ Wx, Wx = w3.drewN q4 := ⟨_, rfl⟩
 rw [← hWx] at hHeld ⊢
 clear hWx
 obtain ⟨z0, z1, z2, z3, z4, z5⟩ := HC.out _ hHeld
 have HBW : Aside0 (Below w.heap.size w Wx) := ⟨HB1.out.1.trans (hHeld.out.mono HB1.out.1.size)⟩
 have x0' := (HBW.out.cell (World.block_lt_of_cell? w _ HX0.out)).trans HX0.out
 clear hHeld
 go_wp2
 have HL := Aside0.mk (Kd.C_below HL0.out HBW.out)
 have HS := Aside0.mk (Kd.C_below HS0.out HBW.out)
 obtain ⟨Wb, hWb⟩ : ∃ Wb, Wb = Wx := ⟨_, rfl⟩
 rw [← hWb]
 rw [← hWb] at HL HS HBW
 have hWs : Aside0 (Wx.heap.size = Wb.heap.size) := ⟨by subst hWb; rfl⟩
 clear hWb
 go_loopw [7, 61] (fun v7 v8 wr => ∃ (i : Nat) (acc : List Int), i ≤ l1.length ∧ v8 = .int .i64 (i : Int) ∧ Aside0 (Kd.R (Kd.int .i64) 3 wr Wb.heap.size (fun _ => True) v7 acc ∧ Below Wb.heap.size Wb wr) ∧ Aside0 (imgO l acc (l1.drop i) = some o)) (fun _ v8 _ => (l1.length - (RowKit.intOf v8).toNat))
 case atStart => exact ⟨0, [], Nat.zero_le _, rfl, ⟨⟨Kd.R_nil _ _ _ _ _, Below.refl _ _⟩⟩, HO⟩
 case round =>
  clear HO
  obtain ⟨i, acc, hi, rfl, HA, HO⟩ := hrel
  obtain ⟨A7, c7, hv7⟩ := Kd.R_slice HA.out.1
  subst hv7
  have hlen1 : (l1.length : Int) ≤ 9223372036854775807 := by have := HS.out.2.1; omega
  by_cases hlt : i < l1.length
  ·obtain ⟨ad1, hA1, hx⟩ := Kd.at_int (Kd.C_below HS.out HA.out.2) (i : Int) (by omega) (by omega)
   rw [Int.toNat_natCast] at hx
   have ho := HO.out
   rw [List.drop_eq_getElem_cons hlt, show l1[i] = rd l1 (i : Int) from (rd_at hlt).symm] at ho
   generalize rd l1 (i : Int) = x at *
   unfold imgO at ho
   by_cases h0 : 0 ≤ x
   rotate_left
   ·rw [if_neg h0] at ho; cases ho
   rw [if_pos h0] at ho
   by_cases h1 : x < (l.length : Int)
   rotate_left
   ·rw [if_neg h1] at ho; cases ho
   rw [if_pos h1] at ho
   by_cases h2 : acc.length < 17592186044416
   rotate_left
   ·rw [if_neg h2] at ho; cases ho
   rw [if_pos h2] at ho
   obtain ⟨ad6, hA6, hy⟩ := Kd.at_int (Kd.C_below HL.out HA.out.2) x h0 h1
   have HO' := Aside0.mk ho
   clear ho HO
   generalize rd l x = y at *
   cases hA1
   cases hA6
   go_wp2_with (first
    | ((with_reducible refine gate_dst (N := 71) rfl ?_); refine Kd.R_append (Kd.int .i64) Wb.heap.size rfl (.tmp 65) (.tmp 70) 26 3 (.int .i64 0) 8 rfl Tryd.underlying26 info3 rfl (by decide) (by decide) _ acc y [.int .i64 y] (fun _ => True) (fun _ => False) rfl rfl ?aP (fun _ hk => hk.elim) (fun _ _ => trivial) ?aO HA.out.2 ?aS ?aL ?_; (case aP => rfl); (case aO => exact HA.out.1); (case aS => exact HA.out.2.size); (case aL => omega); intro v3 w3 ho hb hg hat; (have HA3 := Aside0.mk (And.intro ho hb)); clear ho hb hg hat))
   go_roundw
   case rel => exact ⟨i + 1, acc ++ [y], by omega, by go_num, HA3, HO'⟩
   case measure => simp [RowKit.intOf]; omega
  ·have hie : i = l1.length := by omega
   subst hie
   have hacc : acc = o := by
    have := HO.out
    rw [List.drop_of_length_le (Nat.le_refl _)] at this
    exact Option.some.inj this
   subst hacc
   clear hlt hi HO
   go_wp2
   go_ret2
   exact ⟨_, rfl, Kd.R_lower HA.out.1 HBW.out.size, HBW.out.trans (HA.out.2.mono HBW.out.size)⟩
set_option maxHeartbeats 4000000 in
set_option maxRecDepth 100000 in
theorem img_5l (k : Nat) (a0 a1 a2 a3 : Int) (A4 : Option Addr) (c4 : Nat) (l4 : List (List Int)) (A5 : Option Addr) (c5 : Nat) (l5 : List Mtr) (A1 : Option Addr) (c1 : Nat) (l1 : List Int) (w : World) (hEV : EV w) (hr4 : Kd.C (Kd.slice 3 (Kd.int .i64)) w A4 l4.length l4) (hc4 : l4.length ≤ c4) (hr5 : Kd.C k25 w A5 l5.length l5) (hc5 : l5.length ≤ c5) (hr1 : Kd.C (Kd.int .i64) w A1 l1.length l1) (hc1 : l1.length ≤ c1) (hck : chkN ⟨a0, a1, a2, a3, l4, l5⟩ = 0) (hm : mayB l1 = true) (h0 : 0 < l1.length) (hge : ¬ a1 ≤ rd l1 ((l1.length : Int) - 1)) (h56 : a0 = 5) (h04 : 0 < l4.length) (o : List Int) (ho : imgO (rd_L1 l4 0) [] l1 = some o) :
 Calls Tryd.prog 10 #[.agg #[.int .i64 a0, .int .i64 a1, .int .i64 a2, .int .i64 a3, .slice A4 l4.length c4, .slice A5 l5.length c5], .slice A1 l1.length c1] w fun e w' => ∃ v0_ : Value, e = .returned (.tuple #[v0_, .bool true]) ∧ Kd.R (Kd.int .i64) 3 w' w.heap.size (fun _ => True) v0_ o ∧ Below w.heap.size w w' := by
 obtain ⟨c, hc⟩ : ∃ c : Int, c = 0 := ⟨_, rfl⟩
 rw [← hc] at hck
 obtain ⟨ad1, hA1, hy⟩ := Kd.at_int hr1 ((l1.length : Int) - 1) (by omega) (by omega)
 subst hA1
 rw [show ((l1.length : Int) - 1).toNat = l1.length - 1 by omega] at hy
 have h0c : decide (0 < l1.length) = true := decide_eq_true h0
 have hi0 : (0 : Int) ≤ (l1.length : Int) - 1 := by omega
 have hi1 : (l1.length : Int) - 1 < (l1.length : Int) := by omega
 have hlast : wrap64 ((l1.length : Int) - 1) = (l1.length : Int) - 1 := by have := hr1.2.1; unfold wrap64; omega
 have hb0 : (l1.length : Int) ≤ 9223372036854775807 := by have := hr1.2.1; omega
 have hwr : IntKind.i64.wrap ((l1.length : Int) - 1) = (l1.length : Int) - 1 := by rw [wrap_i64]; exact hlast
 have htn : ((l1.length : Int) - 1).toNat = l1.length - 1 := by omega
 have h1l : (1 : Int) ≤ (l1.length : Int) := by omega
 obtain ⟨W1, hW1⟩ : ∃ W1, W1 = w.alloc (Obj.cells #[.int .i64 a0, .int .i64 a1, .int .i64 a2, .int .i64 a3, .slice A4 l4.length c4, .slice A5 l5.length c5] 25) := ⟨_, rfl⟩
 have hB1 : Below w.heap.size w W1 := by subst hW1; exact (Below.refl _ _).alloc (Nat.le_refl _) _
 have hbx := mbox w 25 (.int .i64 a0) (.int .i64 a1) (.int .i64 a2) (.int .i64 a3) (.slice A4 l4.length c4) (.slice A5 l5.length c5)
 have hsz : w.heap.size < W1.heap.size := by
  subst hW1
  rw [show (w.alloc (Obj.cells #[.int .i64 a0, .int .i64 a1, .int .i64 a2, .int .i64 a3, .slice A4 l4.length c4, .slice A5 l5.length c5] 25)).heap.size = w.heap.size + 1 from Array.size_push ..]; omega
 rw [← hW1] at hbx
 have HB1 := Aside0.mk (And.intro hB1 (And.intro hbx hsz))
 have HW1 := Aside0.mk hW1
 have HCK := Aside0.mk (fun (w' : World) (hw : Aside0 (Below W1.heap.size W1 w')) => matroid_Check.calls a0 a1 a2 a3 A4 c4 l4 A5 c5 l5 c w' (hEV.below (hB1.trans (hw.out.mono hB1.size)) hEV.pos) (Kd.C_below hr4 (hB1.trans (hw.out.mono hB1.size))) hc4 (Kd.C_below hr5 (hB1.trans (hw.out.mono hB1.size))) hc5 (by rw [← hck]; rfl))
 have HMAY := Aside0.mk (fun (w' : World) (hw : Aside0 (Below W1.heap.size W1 w')) => set_May_now (some ad1) c1 l1 w' (Kd.C_below hr1 (hB1.trans (hw.out.mono hB1.size))) hc1 hr1.2.1)
 have HC : Aside0 (∀ w', Aside0 (Below W1.heap.size W1 w') → w'.cell? ⟨w.heap.size, 0, none⟩ = some (.int .i64 a0) ∧ w'.cell? ⟨w.heap.size, 1, none⟩ = some (.int .i64 a1) ∧ w'.cell? ⟨w.heap.size, 2, none⟩ = some (.int .i64 a2) ∧ w'.cell? ⟨w.heap.size, 3, none⟩ = some (.int .i64 a3) ∧ w'.cell? ⟨w.heap.size, 4, none⟩ = some (.slice A4 l4.length c4) ∧ w'.cell? ⟨w.heap.size, 5, none⟩ = some (.slice A5 l5.length c5)) :=
  ⟨fun w' hw => ⟨(hw.out.cell (p := ⟨w.heap.size, 0, none⟩) hsz).trans hbx.1, (hw.out.cell (p := ⟨w.heap.size, 1, none⟩) hsz).trans hbx.2.1, (hw.out.cell (p := ⟨w.heap.size, 2, none⟩) hsz).trans hbx.2.2.1, (hw.out.cell (p := ⟨w.heap.size, 3, none⟩) hsz).trans hbx.2.2.2.1, (hw.out.cell (p := ⟨w.heap.size, 4, none⟩) hsz).trans hbx.2.2.2.2.1, (hw.out.cell (p := ⟨w.heap.size, 5, none⟩) hsz).trans hbx.2.2.2.2.2⟩⟩
 subst hc
 obtain ⟨ad, A0, c0, hA, x0, hl0, hR0⟩ := at_L1 hr4 0 (by omega) (by omega)
 subst hA
 rw [show (0 : Int).toNat = 0 from rfl, Addr.add_zero'] at x0
 have HX0 := Aside0.mk x0
 generalize rd_L1 l4 0 = l at *
 have HO := Aside0.mk ho
 have HL0 := Aside0.mk hR0
 have HS0 := Aside0.mk hr1
 have g2 : decide (a1 ≤ rd l1 ((l1.length : Int) - 1)) = false := decide_eq_false hge
 clear hge
 generalize rd l1 ((l1.length : Int) - 1) = y at *
 have HY : Aside0 (∀ w', Aside0 (Below W1.heap.size W1 w') → w'.cell? (ad1.add (l1.length - 1)) = some (.int .i64 y)) := ⟨fun w' hw => ((hB1.trans (hw.out.mono hB1.size)).cell (World.block_lt_of_cell? w _ hy)).trans hy⟩
 rw [hm] at HMAY
 clear hB1 hbx hsz hr4 hc4 hr5 hc5 hr1 hc1 hck hEV hW1 hm hy x0 hl0 hR0 ho
 subst h56
 go_enter Tryd.func10, Tryd.ntmps10
 go_wp2
 rw [← HW1.out]
 refine wp_region_held_drew (S := fun w' => Aside0 (Below W1.heap.size W1 w')) (by kernel_rfl) (⟨(Below.refl _ _).drew⟩) (fun hHeld => ?_)
 (refine wpAnyH_take (i := 0) (v := ?_) rfl (by kernel_rfl) (by kernel_rfl) (by kernel_rfl) (fun _ _ _ h => h) (Or.inl ⟨by rfl, ?_⟩) hHeld ?_; rotate_left; focus (intro w_ hSw_; obtain ⟨z0, z1, z2, z3, z4, z5⟩ := HC.out w_ hSw_; go_simp; try with_reducible rfl)); (try simp only [Act.put, zA, zB, zC, zD, zE, zF])
 refine wpAnyH_ready (rs := [1]) (by kernel_rfl) (by simp) ?_; refine AllReadyH.cons rfl (fun K hK => ?_) AllReadyH.nil; rw [if_pos (by rfl)]; (go_simp); (go_at_call 12; refine (HCK.out _ hHeld).mono ?_; rintro e w3 ⟨rfl, hb⟩; (have HB' := held_below hHeld hb); clear hb); (first | skip); refine hK.out _ _ (HB') (fun hHeld => ?_); clear hK K; (try simp only [Act.put, zA, zB, zC, zD, zE, zF])
 (refine wpAnyH_take (i := 2) (v := ?_) rfl (by kernel_rfl) (by kernel_rfl) (by kernel_rfl) (fun _ _ _ h => h) (Or.inl ⟨by rfl, ?_⟩) hHeld ?_; rotate_left; focus (intro w_ hSw_; obtain ⟨z0, z1, z2, z3, z4, z5⟩ := HC.out w_ hSw_; go_simp; try with_reducible rfl)); (try simp only [Act.put, zA, zB, zC, zD, zE, zF])
 (refine wpAnyH_take (i := 3) (v := ?_) rfl (by kernel_rfl) (by kernel_rfl) (by kernel_rfl) (fun _ _ _ h => h) (Or.inl ⟨by rfl, ?_⟩) hHeld ?_; rotate_left; focus (intro w_ hSw_; obtain ⟨z0, z1, z2, z3, z4, z5⟩ := HC.out w_ hSw_; go_simp; try with_reducible rfl)); (try simp only [Act.put, zA, zB, zC, zD, zE, zF])
 (refine wpAnyH_take (i := 4) (v := ?_) rfl (by kernel_rfl) (by kernel_rfl) (by kernel_rfl) (fun _ _ _ h => h) (Or.inl ⟨by rfl, ?_⟩) hHeld ?_; rotate_left; focus (intro w_ hSw_; obtain ⟨z0, z1, z2, z3, z4, z5⟩ := HC.out w_ hSw_; go_simp; try with_reducible rfl)); (try simp only [Act.put, zA, zB, zC, zD, zE, zF])
 (refine wpAnyH_take (i := 5) (v := ?_) rfl (by kernel_rfl) (by kernel_rfl) (by kernel_rfl) (fun _ _ _ h => h) (Or.inl ⟨by rfl, ?_⟩) hHeld ?_; rotate_left; focus (intro w_ hSw_; obtain ⟨z0, z1, z2, z3, z4, z5⟩ := HC.out w_ hSw_; go_simp; try with_reducible rfl)); (try simp only [Act.put, zA, zB, zC, zD, zE, zF])
 (refine wpAnyH_take (i := 6) (v := ?_) rfl (by kernel_rfl) (by kernel_rfl) (by kernel_rfl) (fun _ _ _ h => h) (Or.inl ⟨by rfl, ?_⟩) hHeld ?_; rotate_left; focus (intro w_ hSw_; obtain ⟨z0, z1, z2, z3, z4, z5⟩ := HC.out w_ hSw_; go_simp; try with_reducible rfl)); (try simp only [Act.put, zA, zB, zC, zD, zE, zF])
 (refine wpAnyH_take (i := 7) (v := ?_) rfl (by kernel_rfl) (by kernel_rfl) (by kernel_rfl) (fun _ _ _ h => h) (Or.inl ⟨by rfl, ?_⟩) hHeld ?_; rotate_left; focus (intro w_ hSw_; obtain ⟨z0, z1, z2, z3, z4, z5⟩ := HC.out w_ hSw_; go_simp; try with_reducible rfl)); (try simp only [Act.put, zA, zB, zC, zD, zE, zF])
 (refine wpAnyH_take (i := 8) (v := _) rfl (by kernel_rfl) (by kernel_rfl) (by kernel_rfl) (fun _ _ _ h => h) (Or.inr ⟨by rfl, rfl⟩) hHeld ?_); (try simp only [Act.put, zA, zB, zC, zD, zE, zF])
 (refine wpAnyH_take (i := 9) (v := _) rfl (by kernel_rfl) (by kernel_rfl) (by kernel_rfl) (fun _ _ _ h => h) (Or.inr ⟨by rfl, rfl⟩) hHeld ?_); (try simp only [Act.put, zA, zB, zC, zD, zE, zF])
 (refine wpAnyH_take (i := 10) (v := _) rfl (by kernel_rfl) (by kernel_rfl) (by kernel_rfl) (fun _ _ _ h => h) (Or.inr ⟨by rfl, rfl⟩) hHeld ?_); (try simp only [Act.put, zA, zB, zC, zD, zE, zF])
 (refine wpAnyH_take (i := 11) (v := ?_) rfl (by kernel_rfl) (by kernel_rfl) (by kernel_rfl) (fun _ _ _ h => h) (Or.inl ⟨by rfl, ?_⟩) hHeld ?_; rotate_left; focus (intro w_ hSw_; obtain ⟨z0, z1, z2, z3, z4, z5⟩ := HC.out w_ hSw_; go_simp; try with_reducible rfl)); (try simp only [Act.put, zA, zB, zC, zD, zE, zF])
 (refine wpAnyH_take (i := 12) (v := ?_) rfl (by kernel_rfl) (by kernel_rfl) (by kernel_rfl) (fun _ _ _ h => h) (Or.inl ⟨by rfl, ?_⟩) hHeld ?_; rotate_left; focus (intro w_ hSw_; obtain ⟨z0, z1, z2, z3, z4, z5⟩ := HC.out w_ hSw_; go_simp; try with_reducible rfl)); (try simp only [Act.put, zA, zB, zC, zD, zE, zF])
 (refine wpAnyH_take (i := 13) (v := ?_) rfl (by kernel_rfl) (by kernel_rfl) (by kernel_rfl) (fun _ _ _ h => h) (Or.inl ⟨by rfl, ?_⟩) hHeld ?_; rotate_left; focus (intro w_ hSw_; obtain ⟨z0, z1, z2, z3, z4, z5⟩ := HC.out w_ hSw_; go_simp; try with_reducible rfl)); (try simp only [Act.put, zA, zB, zC, zD, zE, zF])
 (refine wpAnyH_take (i := 14) (v := ?_) rfl (by kernel_rfl) (by kernel_rfl) (by kernel_rfl) (fun _ _ _ h => h) (Or.inl ⟨by rfl, ?_⟩) hHeld ?_; rotate_left; focus (intro w_ hSw_; obtain ⟨z0, z1, z2, z3, z4, z5⟩ := HC.out w_ hSw_; go_simp; try with_reducible rfl)); (try simp only [Act.put, zA, zB, zC, zD, zE, zF])
 refine wpAnyH_ready (rs := [15]) (by kernel_rfl) (by simp) ?_; refine AllReadyH.cons rfl (fun K hK => ?_) AllReadyH.nil; rw [if_pos (by rfl)]; (go_simp); (go_at_call 21; refine (HMAY.out _ hHeld).mono ?_; rintro e w4 ⟨rfl, ⟨q4, rfl⟩⟩; (have HB' := held_below hHeld (pw_below_drewN (Below.refl _ _) q4))); (first | skip); refine hK.out _ _ (HB') (fun hHeld => ?_); clear hK K; (try simp only [Act.put, zA, zB, zC, zD, zE, zF])
 (refine wpAnyH_take (i := 16) (v := ?_) rfl (by kernel_rfl) (by kernel_rfl) (by kernel_rfl) (fun _ _ _ h => h) (Or.inl ⟨by rfl, ?_⟩) hHeld ?_; rotate_left; focus (intro w_ hSw_; obtain ⟨z0, z1, z2, z3, z4, z5⟩ := HC.out w_ hSw_; go_simp; try with_reducible rfl)); (try simp only [Act.put, zA, zB, zC, zD, zE, zF])
 (refine wpAnyH_take (i := 17) (v := ?_) rfl (by kernel_rfl) (by kernel_rfl) (by kernel_rfl) (fun _ _ _ h => h) (Or.inl ⟨by rfl, ?_⟩) hHeld ?_; rotate_left; focus (intro w_ hSw_; obtain ⟨z0, z1, z2, z3, z4, z5⟩ := HC.out w_ hSw_; go_simp; try with_reducible rfl)); (try simp only [Act.put, zA, zB, zC, zD, zE, zF])
 (refine wpAnyH_take (i := 18) (v := ?_) rfl (by kernel_rfl) (by kernel_rfl) (by kernel_rfl) (fun _ _ _ h => h) (Or.inl ⟨by rfl, ?_⟩) hHeld ?_; rotate_left; focus (intro w_ hSw_; obtain ⟨z0, z1, z2, z3, z4, z5⟩ := HC.out w_ hSw_; go_simp; try with_reducible rfl)); (try simp only [Act.put, zA, zB, zC, zD, zE, zF])
 (refine wpAnyH_take (i := 19) (v := ?_) rfl (by kernel_rfl) (by kernel_rfl) (by kernel_rfl) (fun _ _ _ h => h) (Or.inl ⟨by rfl, ?_⟩) hHeld ?_; rotate_left; focus (intro w_ hSw_; obtain ⟨z0, z1, z2, z3, z4, z5⟩ := HC.out w_ hSw_; go_simp; try with_reducible rfl)); (try simp only [Act.put, zA, zB, zC, zD, zE, zF])
 (refine wpAnyH_take (i := 20) (v := ?_) rfl (by kernel_rfl) (by kernel_rfl) (by kernel_rfl) (fun _ _ _ h => h) (Or.inl ⟨by rfl, ?_⟩) hHeld ?_; rotate_left; focus (intro w_ hSw_; obtain ⟨z0, z1, z2, z3, z4, z5⟩ := HC.out w_ hSw_; go_simp; try with_reducible rfl)); (try simp only [Act.put, zA, zB, zC, zD, zE, zF])
 (refine wpAnyH_take (i := 21) (v := ?_) rfl (by kernel_rfl) (by kernel_rfl) (by kernel_rfl) (fun _ _ _ h => h) (Or.inl ⟨by rfl, ?_⟩) hHeld ?_; rotate_left; focus (intro w_ hSw_; obtain ⟨z0, z1, z2, z3, z4, z5⟩ := HC.out w_ hSw_; go_simp; try with_reducible rfl)); (try simp only [Act.put, zA, zB, zC, zD, zE, zF])
 (refine wpAnyH_take (i := 22) (v := ?_) rfl (by kernel_rfl) (by kernel_rfl) (by kernel_rfl) (fun _ _ _ h => h) (Or.inl ⟨by rfl, ?_⟩) hHeld ?_; rotate_left; focus (intro w_ hSw_; obtain ⟨z0, z1, z2, z3, z4, z5⟩ := HC.out w_ hSw_; go_simp; try with_reducible rfl)); (try simp only [Act.put, zA, zB, zC, zD, zE, zF])
 (refine wpAnyH_take (i := 23) (v := ?_) rfl (by kernel_rfl) (by kernel_rfl) (by kernel_rfl) (fun _ _ _ h => h) (Or.inl ⟨by rfl, ?_⟩) hHeld ?_; rotate_left; focus (intro w_ hSw_; obtain ⟨z0, z1, z2, z3, z4, z5⟩ := HC.out w_ hSw_; have y0 := HY.out w_ hSw_; go_simp; try with_reducible rfl)); (try simp only [Act.put, zA, zB, zC, zD, zE, zF])
 (refine wpAnyH_take (i := 24) (v := ?_) rfl (by kernel_rfl) (by kernel_rfl) (by kernel_rfl) (fun _ _ _ h => h) (Or.inl ⟨by rfl, ?_⟩) hHeld ?_; rotate_left; focus (intro w_ hSw_; obtain ⟨z0, z1, z2, z3, z4, z5⟩ := HC.out w_ hSw_; have y0 := HY.out w_ hSw_; go_simp; try with_reducible rfl)); (try simp only [Act.put, zA, zB, zC, zD, zE, zF])
 (refine wpAnyH_take (i := 25) (v := ?_) rfl (by kernel_rfl) (by kernel_rfl) (by kernel_rfl) (fun _ _ _ h => h) (Or.inl ⟨by rfl, ?_⟩) hHeld ?_; rotate_left; focus (intro w_ hSw_; obtain ⟨z0, z1, z2, z3, z4, z5⟩ := HC.out w_ hSw_; have y0 := HY.out w_ hSw_; go_simp; try with_reducible rfl)); (try simp only [Act.put, zA, zB, zC, zD, zE, zF])
 (refine wpAnyH_take (i := 26) (v := ?_) rfl (by kernel_rfl) (by kernel_rfl) (by kernel_rfl) (fun _ _ _ h => h) (Or.inl ⟨by rfl, ?_⟩) hHeld ?_; rotate_left; focus (intro w_ hSw_; obtain ⟨z0, z1, z2, z3, z4, z5⟩ := HC.out w_ hSw_; have y0 := HY.out w_ hSw_; go_simp; try with_reducible rfl)); (try simp only [Act.put, zA, zB, zC, zD, zE, zF])
 (refine wpAnyH_take (i := 27) (v := ?_) rfl (by kernel_rfl) (by kernel_rfl) (by kernel_rfl) (fun _ _ _ h => h) (Or.inl ⟨by rfl, ?_⟩) hHeld ?_; rotate_left; focus (intro w_ hSw_; obtain ⟨z0, z1, z2, z3, z4, z5⟩ := HC.out w_ hSw_; have y0 := HY.out w_ hSw_; go_simp; try with_reducible rfl)); (try simp only [Act.put, zA, zB, zC, zD, zE, zF])
 (refine wpAnyH_take (i := 28) (v := ?_) rfl (by kernel_rfl) (by kernel_rfl) (by kernel_rfl) (fun _ _ _ h => h) (Or.inl ⟨by rfl, ?_⟩) hHeld ?_; rotate_left; focus (intro w_ hSw_; obtain ⟨z0, z1, z2, z3, z4, z5⟩ := HC.out w_ hSw_; have y0 := HY.out w_ hSw_; go_simp; try with_reducible rfl)); (try simp only [Act.put, zA, zB, zC, zD, zE, zF])
 (refine wpAnyH_take (i := 29) (v := ?_) rfl (by kernel_rfl) (by kernel_rfl) (by kernel_rfl) (fun _ _ _ h => h) (Or.inl ⟨by rfl, ?_⟩) hHeld ?_; rotate_left; focus (intro w_ hSw_; obtain ⟨z0, z1, z2, z3, z4, z5⟩ := HC.out w_ hSw_; have y0 := HY.out w_ hSw_; go_simp; try with_reducible rfl)); (try simp only [Act.put, zA, zB, zC, zD, zE, zF])
 (refine wpAnyH_take (i := 30) (v := ?_) rfl (by kernel_rfl) (by kernel_rfl) (by kernel_rfl) (fun _ _ _ h => h) (Or.inl ⟨by rfl, ?_⟩) hHeld ?_; rotate_left; focus (intro w_ hSw_; obtain ⟨z0, z1, z2, z3, z4, z5⟩ := HC.out w_ hSw_; have y0 := HY.out w_ hSw_; go_simp; try with_reducible rfl)); (try simp only [Act.put, zA, zB, zC, zD, zE, zF])
 (refine wpAnyH_take (i := 31) (v := ?_) rfl (by kernel_rfl) (by kernel_rfl) (by kernel_rfl) (fun _ _ _ h => h) (Or.inl ⟨by rfl, ?_⟩) hHeld ?_; rotate_left; focus (intro w_ hSw_; obtain ⟨z0, z1, z2, z3, z4, z5⟩ := HC.out w_ hSw_; have y0 := HY.out w_ hSw_; go_simp; try with_reducible rfl)); (try simp only [Act.put, zA, zB, zC, zD, zE, zF])
 (refine wpAnyH_take (i := 32) (v := ?_) rfl (by kernel_rfl) (by kernel_rfl) (by kernel_rfl) (fun _ _ _ h => h) (Or.inl ⟨by rfl, ?_⟩) hHeld ?_; rotate_left; focus (intro w_ hSw_; obtain ⟨z0, z1, z2, z3, z4, z5⟩ := HC.out w_ hSw_; have y0 := HY.out w_ hSw_; go_simp; try with_reducible rfl)); (try simp only [Act.put, zA, zB, zC, zD, zE, zF])
 (refine wpAnyH_take (i := 33) (v := ?_) rfl (by kernel_rfl) (by kernel_rfl) (by kernel_rfl) (fun _ _ _ h => h) (Or.inl ⟨by rfl, ?_⟩) hHeld ?_; rotate_left; focus (intro w_ hSw_; obtain ⟨z0, z1, z2, z3, z4, z5⟩ := HC.out w_ hSw_; have y0 := HY.out w_ hSw_; go_simp; try with_reducible rfl)); (try simp only [Act.put, zA, zB, zC, zD, zE, zF])
 refine wpAnyH_done (by kernel_rfl) ?_ _
 obtain ⟨Wx, hWx⟩ : ∃ Wx, Wx = w3.drewN q4 := ⟨_, rfl⟩
 rw [← hWx] at hHeld ⊢
 clear hWx
 obtain ⟨z0, z1, z2, z3, z4, z5⟩ := HC.out _ hHeld
 have HBW : Aside0 (Below w.heap.size w Wx) := ⟨HB1.out.1.trans (hHeld.out.mono HB1.out.1.size)⟩
 have x0' := (HBW.out.cell (World.block_lt_of_cell? w _ HX0.out)).trans HX0.out
 clear hHeld
 go_wp2
 have HL := Aside0.mk (Kd.C_below HL0.out HBW.out)
 have HS := Aside0.mk (Kd.C_below HS0.out HBW.out)
 obtain ⟨Wb, hWb⟩ : ∃ Wb, Wb = Wx := ⟨_, rfl⟩
 rw [← hWb]
 rw [← hWb] at HL HS HBW
 have hWs : Aside0 (Wx.heap.size = Wb.heap.size) := ⟨by subst hWb; rfl⟩
 clear hWb
 go_loopw [7, 61] (fun v7 v8 wr => ∃ (i : Nat) (acc : List Int), i ≤ l1.length ∧ v8 = .int .i64 (i : Int) ∧ Aside0 (Kd.R (Kd.int .i64) 3 wr Wb.heap.size (fun _ => True) v7 acc ∧ Below Wb.heap.size Wb wr) ∧ Aside0 (imgO l acc (l1.drop i) = some o)) (fun _ v8 _ => (l1.length - (RowKit.intOf v8).toNat))
 case atStart => exact ⟨0, [], Nat.zero_le _, rfl, ⟨⟨Kd.R_nil _ _ _ _ _, Below.refl _ _⟩⟩, HO⟩
 case round =>
  clear HO
  obtain ⟨i, acc, hi, rfl, HA, HO⟩ := hrel
  obtain ⟨A7, c7, hv7⟩ := Kd.R_slice HA.out.1
  subst hv7
  have hlen1 : (l1.length : Int) ≤ 9223372036854775807 := by have := HS.out.2.1; omega
  by_cases hlt : i < l1.length
  ·obtain ⟨ad1, hA1, hx⟩ := Kd.at_int (Kd.C_below HS.out HA.out.2) (i : Int) (by omega) (by omega)
   rw [Int.toNat_natCast] at hx
   have ho := HO.out
   rw [List.drop_eq_getElem_cons hlt, show l1[i] = rd l1 (i : Int) from (rd_at hlt).symm] at ho
   generalize rd l1 (i : Int) = x at *
   unfold imgO at ho
   by_cases h0 : 0 ≤ x
   rotate_left
   ·rw [if_neg h0] at ho; cases ho
   rw [if_pos h0] at ho
   by_cases h1 : x < (l.length : Int)
   rotate_left
   ·rw [if_neg h1] at ho; cases ho
   rw [if_pos h1] at ho
   by_cases h2 : acc.length < 17592186044416
   rotate_left
   ·rw [if_neg h2] at ho; cases ho
   rw [if_pos h2] at ho
   obtain ⟨ad6, hA6, hy⟩ := Kd.at_int (Kd.C_below HL.out HA.out.2) x h0 h1
   have HO' := Aside0.mk ho
   clear ho HO
   generalize rd l x = y at *
   cases hA1
   cases hA6
   go_wp2_with (first
    | ((with_reducible refine gate_dst (N := 71) rfl ?_); refine Kd.R_append (Kd.int .i64) Wb.heap.size rfl (.tmp 65) (.tmp 70) 26 3 (.int .i64 0) 8 rfl Tryd.underlying26 info3 rfl (by decide) (by decide) _ acc y [.int .i64 y] (fun _ => True) (fun _ => False) rfl rfl ?aP (fun _ hk => hk.elim) (fun _ _ => trivial) ?aO HA.out.2 ?aS ?aL ?_; (case aP => rfl); (case aO => exact HA.out.1); (case aS => exact HA.out.2.size); (case aL => omega); intro v3 w3 ho hb hg hat; (have HA3 := Aside0.mk (And.intro ho hb)); clear ho hb hg hat))
   go_roundw
   case rel => exact ⟨i + 1, acc ++ [y], by omega, by go_num, HA3, HO'⟩
   case measure => simp [RowKit.intOf]; omega
  ·have hie : i = l1.length := by omega
   subst hie
   have hacc : acc = o := by
    have := HO.out
    rw [List.drop_of_length_le (Nat.le_refl _)] at this
    exact Option.some.inj this
   subst hacc
   clear hlt hi HO
   go_wp2
   go_ret2
   exact ⟨_, rfl, Kd.R_lower HA.out.1 HBW.out.size, HBW.out.trans (HA.out.2.mono HBW.out.size)⟩
set_option maxHeartbeats 4000000 in
set_option maxRecDepth 100000 in
theorem img_6e (k : Nat) (a0 a1 a2 a3 : Int) (A4 : Option Addr) (c4 : Nat) (l4 : List (List Int)) (A5 : Option Addr) (c5 : Nat) (l5 : List Mtr) (A1 : Option Addr) (c1 : Nat) (l1 : List Int) (w : World) (hEV : EV w) (hr4 : Kd.C (Kd.slice 3 (Kd.int .i64)) w A4 l4.length l4) (hc4 : l4.length ≤ c4) (hr5 : Kd.C k25 w A5 l5.length l5) (hc5 : l5.length ≤ c5) (hr1 : Kd.C (Kd.int .i64) w A1 l1.length l1) (hc1 : l1.length ≤ c1) (hck : chkN ⟨a0, a1, a2, a3, l4, l5⟩ = 0) (hm : mayB l1 = true) (h0 : l1.length = 0) (h56 : a0 = 6) (h04 : 0 < l4.length) (h05 : 0 < l5.length) (a l : List Int) (ha : set_All.f k (rd_T25 l5 0).f1 = some a) (hmn : set_Minus.f k a (rd_L1 l4 0) = some l) (o : List Int) (ho : imgO l [] l1 = some o) :
 Calls Tryd.prog 10 #[.agg #[.int .i64 a0, .int .i64 a1, .int .i64 a2, .int .i64 a3, .slice A4 l4.length c4, .slice A5 l5.length c5], .slice A1 l1.length c1] w fun e w' => ∃ v0_ : Value, e = .returned (.tuple #[v0_, .bool true]) ∧ Kd.R (Kd.int .i64) 3 w' w.heap.size (fun _ => True) v0_ o ∧ Below w.heap.size w w' := by
 obtain ⟨c, hc⟩ : ∃ c : Int, c = 0 := ⟨_, rfl⟩
 rw [← hc] at hck
 obtain ⟨W1, hW1⟩ : ∃ W1, W1 = w.alloc (Obj.cells #[.int .i64 a0, .int .i64 a1, .int .i64 a2, .int .i64 a3, .slice A4 l4.length c4, .slice A5 l5.length c5] 25) := ⟨_, rfl⟩
 have hB1 : Below w.heap.size w W1 := by subst hW1; exact (Below.refl _ _).alloc (Nat.le_refl _) _
 have hbx := mbox w 25 (.int .i64 a0) (.int .i64 a1) (.int .i64 a2) (.int .i64 a3) (.slice A4 l4.length c4) (.slice A5 l5.length c5)
 have hsz : w.heap.size < W1.heap.size := by
  subst hW1
  rw [show (w.alloc (Obj.cells #[.int .i64 a0, .int .i64 a1, .int .i64 a2, .int .i64 a3, .slice A4 l4.length c4, .slice A5 l5.length c5] 25)).heap.size = w.heap.size + 1 from Array.size_push ..]; omega
 rw [← hW1] at hbx
 have HB1 := Aside0.mk (And.intro hB1 (And.intro hbx hsz))
 have HW1 := Aside0.mk hW1
 have HCK := Aside0.mk (fun (w' : World) (hw : Aside0 (Below W1.heap.size W1 w')) => matroid_Check.calls a0 a1 a2 a3 A4 c4 l4 A5 c5 l5 c w' (hEV.below (hB1.trans (hw.out.mono hB1.size)) hEV.pos) (Kd.C_below hr4 (hB1.trans (hw.out.mono hB1.size))) hc4 (Kd.C_below hr5 (hB1.trans (hw.out.mono hB1.size))) hc5 (by rw [← hck]; rfl))
 have HMAY := Aside0.mk (fun (w' : World) (hw : Aside0 (Below W1.heap.size W1 w')) => set_May_now A1 c1 l1 w' (Kd.C_below hr1 (hB1.trans (hw.out.mono hB1.size))) hc1 hr1.2.1)
 have HC : Aside0 (∀ w', Aside0 (Below W1.heap.size W1 w') → w'.cell? ⟨w.heap.size, 0, none⟩ = some (.int .i64 a0) ∧ w'.cell? ⟨w.heap.size, 1, none⟩ = some (.int .i64 a1) ∧ w'.cell? ⟨w.heap.size, 2, none⟩ = some (.int .i64 a2) ∧ w'.cell? ⟨w.heap.size, 3, none⟩ = some (.int .i64 a3) ∧ w'.cell? ⟨w.heap.size, 4, none⟩ = some (.slice A4 l4.length c4) ∧ w'.cell? ⟨w.heap.size, 5, none⟩ = some (.slice A5 l5.length c5)) :=
  ⟨fun w' hw => ⟨(hw.out.cell (p := ⟨w.heap.size, 0, none⟩) hsz).trans hbx.1, (hw.out.cell (p := ⟨w.heap.size, 1, none⟩) hsz).trans hbx.2.1, (hw.out.cell (p := ⟨w.heap.size, 2, none⟩) hsz).trans hbx.2.2.1, (hw.out.cell (p := ⟨w.heap.size, 3, none⟩) hsz).trans hbx.2.2.2.1, (hw.out.cell (p := ⟨w.heap.size, 4, none⟩) hsz).trans hbx.2.2.2.2.1, (hw.out.cell (p := ⟨w.heap.size, 5, none⟩) hsz).trans hbx.2.2.2.2.2⟩⟩
 subst hc
 obtain ⟨ad, A0, c0, hA, x0, hl0, hR0⟩ := at_L1 hr4 0 (by omega) (by omega)
 subst hA
 rw [show (0 : Int).toNat = 0 from rfl, Addr.add_zero'] at x0
 have HX0 := Aside0.mk x0
 have HALL := Aside0.mk (fun (W : World) => set_All.calls k _ a W ha)
 obtain ⟨ad5, _, _, _, _, hA5, _, y1, _, _, _, _, _, _, _, _⟩ := at_T25 hr5 0 (by omega) (by omega)
 subst hA5
 rw [show (0 : Int).toNat * 6 = 0 from rfl, Addr.add_zero'] at y1
 have HY1 := Aside0.mk y1
 generalize rd_L1 l4 0 = l0 at *
 generalize (rd_T25 l5 0).f1 = m1 at *
 have HMN := Aside0.mk hmn
 have HLC := Aside0.mk hl0
 clear y1 hmn ha
 have HO := Aside0.mk ho
 have HL0 := Aside0.mk hR0
 have HS0 := Aside0.mk hr1
 have g2 : decide (0 < l1.length) = false := decide_eq_false (by omega)
 have g3 : decide (0 < (l1.length : Int)) = false := decide_eq_false (by omega)
 clear h0
 rw [hm] at HMAY
 clear hB1 hbx hsz hr4 hc4 hr5 hc5 hr1 hc1 hck hEV hW1 hm x0 hl0 hR0 ho
 subst h56
 go_enter Tryd.func10, Tryd.ntmps10
 go_wp2
 rw [← HW1.out]
 refine wp_region_held_drew (S := fun w' => Aside0 (Below W1.heap.size W1 w')) (by kernel_rfl) (⟨(Below.refl _ _).drew⟩) (fun hHeld => ?_)
 (refine wpAnyH_take (i := 0) (v := ?_) rfl (by kernel_rfl) (by kernel_rfl) (by kernel_rfl) (fun _ _ _ h => h) (Or.inl ⟨by rfl, ?_⟩) hHeld ?_; rotate_left; focus (intro w_ hSw_; obtain ⟨z0, z1, z2, z3, z4, z5⟩ := HC.out w_ hSw_; go_simp; try with_reducible rfl)); (try simp only [Act.put, zA, zB, zC, zD, zE, zF])
 refine wpAnyH_ready (rs := [1]) (by kernel_rfl) (by simp) ?_; refine AllReadyH.cons rfl (fun K hK => ?_) AllReadyH.nil; rw [if_pos (by rfl)]; (go_simp); (go_at_call 12; refine (HCK.out _ hHeld).mono ?_; rintro e w3 ⟨rfl, hb⟩; (have HB' := held_below hHeld hb); clear hb); (first | skip); refine hK.out _ _ (HB') (fun hHeld => ?_); clear hK K; (try simp only [Act.put, zA, zB, zC, zD, zE, zF])
 (refine wpAnyH_take (i := 2) (v := ?_) rfl (by kernel_rfl) (by kernel_rfl) (by kernel_rfl) (fun _ _ _ h => h) (Or.inl ⟨by rfl, ?_⟩) hHeld ?_; rotate_left; focus (intro w_ hSw_; obtain ⟨z0, z1, z2, z3, z4, z5⟩ := HC.out w_ hSw_; go_simp; try with_reducible rfl)); (try simp only [Act.put, zA, zB, zC, zD, zE, zF])
 (refine wpAnyH_take (i := 3) (v := ?_) rfl (by kernel_rfl) (by kernel_rfl) (by kernel_rfl) (fun _ _ _ h => h) (Or.inl ⟨by rfl, ?_⟩) hHeld ?_; rotate_left; focus (intro w_ hSw_; obtain ⟨z0, z1, z2, z3, z4, z5⟩ := HC.out w_ hSw_; go_simp; try with_reducible rfl)); (try simp only [Act.put, zA, zB, zC, zD, zE, zF])
 (refine wpAnyH_take (i := 4) (v := ?_) rfl (by kernel_rfl) (by kernel_rfl) (by kernel_rfl) (fun _ _ _ h => h) (Or.inl ⟨by rfl, ?_⟩) hHeld ?_; rotate_left; focus (intro w_ hSw_; obtain ⟨z0, z1, z2, z3, z4, z5⟩ := HC.out w_ hSw_; go_simp; try with_reducible rfl)); (try simp only [Act.put, zA, zB, zC, zD, zE, zF])
 (refine wpAnyH_take (i := 5) (v := ?_) rfl (by kernel_rfl) (by kernel_rfl) (by kernel_rfl) (fun _ _ _ h => h) (Or.inl ⟨by rfl, ?_⟩) hHeld ?_; rotate_left; focus (intro w_ hSw_; obtain ⟨z0, z1, z2, z3, z4, z5⟩ := HC.out w_ hSw_; go_simp; try with_reducible rfl)); (try simp only [Act.put, zA, zB, zC, zD, zE, zF])
 (refine wpAnyH_take (i := 6) (v := ?_) rfl (by kernel_rfl) (by kernel_rfl) (by kernel_rfl) (fun _ _ _ h => h) (Or.inl ⟨by rfl, ?_⟩) hHeld ?_; rotate_left; focus (intro w_ hSw_; obtain ⟨z0, z1, z2, z3, z4, z5⟩ := HC.out w_ hSw_; go_simp; try with_reducible rfl)); (try simp only [Act.put, zA, zB, zC, zD, zE, zF])
 (refine wpAnyH_take (i := 7) (v := ?_) rfl (by kernel_rfl) (by kernel_rfl) (by kernel_rfl) (fun _ _ _ h => h) (Or.inl ⟨by rfl, ?_⟩) hHeld ?_; rotate_left; focus (intro w_ hSw_; obtain ⟨z0, z1, z2, z3, z4, z5⟩ := HC.out w_ hSw_; go_simp; try with_reducible rfl)); (try simp only [Act.put, zA, zB, zC, zD, zE, zF])
 (refine wpAnyH_take (i := 8) (v := ?_) rfl (by kernel_rfl) (by kernel_rfl) (by kernel_rfl) (fun _ _ _ h => h) (Or.inl ⟨by rfl, ?_⟩) hHeld ?_; rotate_left; focus (intro w_ hSw_; obtain ⟨z0, z1, z2, z3, z4, z5⟩ := HC.out w_ hSw_; go_simp; try with_reducible rfl)); (try simp only [Act.put, zA, zB, zC, zD, zE, zF])
 (refine wpAnyH_take (i := 9) (v := ?_) rfl (by kernel_rfl) (by kernel_rfl) (by kernel_rfl) (fun _ _ _ h => h) (Or.inl ⟨by rfl, ?_⟩) hHeld ?_; rotate_left; focus (intro w_ hSw_; obtain ⟨z0, z1, z2, z3, z4, z5⟩ := HC.out w_ hSw_; go_simp; try with_reducible rfl)); (try simp only [Act.put, zA, zB, zC, zD, zE, zF])
 (refine wpAnyH_take (i := 10) (v := ?_) rfl (by kernel_rfl) (by kernel_rfl) (by kernel_rfl) (fun _ _ _ h => h) (Or.inl ⟨by rfl, ?_⟩) hHeld ?_; rotate_left; focus (intro w_ hSw_; obtain ⟨z0, z1, z2, z3, z4, z5⟩ := HC.out w_ hSw_; go_simp; try with_reducible rfl)); (try simp only [Act.put, zA, zB, zC, zD, zE, zF])
 (refine wpAnyH_take (i := 11) (v := ?_) rfl (by kernel_rfl) (by kernel_rfl) (by kernel_rfl) (fun _ _ _ h => h) (Or.inl ⟨by rfl, ?_⟩) hHeld ?_; rotate_left; focus (intro w_ hSw_; obtain ⟨z0, z1, z2, z3, z4, z5⟩ := HC.out w_ hSw_; go_simp; try with_reducible rfl)); (try simp only [Act.put, zA, zB, zC, zD, zE, zF])
 (refine wpAnyH_take (i := 12) (v := ?_) rfl (by kernel_rfl) (by kernel_rfl) (by kernel_rfl) (fun _ _ _ h => h) (Or.inl ⟨by rfl, ?_⟩) hHeld ?_; rotate_left; focus (intro w_ hSw_; obtain ⟨z0, z1, z2, z3, z4, z5⟩ := HC.out w_ hSw_; go_simp; try with_reducible rfl)); (try simp only [Act.put, zA, zB, zC, zD, zE, zF])
 (refine wpAnyH_take (i := 13) (v := ?_) rfl (by kernel_rfl) (by kernel_rfl) (by kernel_rfl) (fun _ _ _ h => h) (Or.inl ⟨by rfl, ?_⟩) hHeld ?_; rotate_left; focus (intro w_ hSw_; obtain ⟨z0, z1, z2, z3, z4, z5⟩ := HC.out w_ hSw_; go_simp; try with_reducible rfl)); (try simp only [Act.put, zA, zB, zC, zD, zE, zF])
 (refine wpAnyH_take (i := 14) (v := ?_) rfl (by kernel_rfl) (by kernel_rfl) (by kernel_rfl) (fun _ _ _ h => h) (Or.inl ⟨by rfl, ?_⟩) hHeld ?_; rotate_left; focus (intro w_ hSw_; obtain ⟨z0, z1, z2, z3, z4, z5⟩ := HC.out w_ hSw_; go_simp; try with_reducible rfl)); (try simp only [Act.put, zA, zB, zC, zD, zE, zF])
 refine wpAnyH_ready (rs := [15]) (by kernel_rfl) (by simp) ?_; refine AllReadyH.cons rfl (fun K hK => ?_) AllReadyH.nil; rw [if_pos (by rfl)]; (go_simp); (go_at_call 21; refine (HMAY.out _ hHeld).mono ?_; rintro e w4 ⟨rfl, ⟨q4, rfl⟩⟩; (have HB' := held_below hHeld (pw_below_drewN (Below.refl _ _) q4))); (first | skip); refine hK.out _ _ (HB') (fun hHeld => ?_); clear hK K; (try simp only [Act.put, zA, zB, zC, zD, zE, zF])
 (refine wpAnyH_take (i := 16) (v := ?_) rfl (by kernel_rfl) (by kernel_rfl) (by kernel_rfl) (fun _ _ _ h => h) (Or.inl ⟨by rfl, ?_⟩) hHeld ?_; rotate_left; focus (intro w_ hSw_; obtain ⟨z0, z1, z2, z3, z4, z5⟩ := HC.out w_ hSw_; go_simp; try with_reducible rfl)); (try simp only [Act.put, zA, zB, zC, zD, zE, zF])
 (refine wpAnyH_take (i := 17) (v := ?_) rfl (by kernel_rfl) (by kernel_rfl) (by kernel_rfl) (fun _ _ _ h => h) (Or.inl ⟨by rfl, ?_⟩) hHeld ?_; rotate_left; focus (intro w_ hSw_; obtain ⟨z0, z1, z2, z3, z4, z5⟩ := HC.out w_ hSw_; go_simp; try with_reducible rfl)); (try simp only [Act.put, zA, zB, zC, zD, zE, zF])
 (refine wpAnyH_take (i := 18) (v := ?_) rfl (by kernel_rfl) (by kernel_rfl) (by kernel_rfl) (fun _ _ _ h => h) (Or.inl ⟨by rfl, ?_⟩) hHeld ?_; rotate_left; focus (intro w_ hSw_; obtain ⟨z0, z1, z2, z3, z4, z5⟩ := HC.out w_ hSw_; go_simp; try with_reducible rfl)); (try simp only [Act.put, zA, zB, zC, zD, zE, zF])
 (refine wpAnyH_take (i := 19) (v := ?_) rfl (by kernel_rfl) (by kernel_rfl) (by kernel_rfl) (fun _ _ _ h => h) (Or.inl ⟨by rfl, ?_⟩) hHeld ?_; rotate_left; focus (intro w_ hSw_; obtain ⟨z0, z1, z2, z3, z4, z5⟩ := HC.out w_ hSw_; go_simp; try with_reducible rfl)); (try simp only [Act.put, zA, zB, zC, zD, zE, zF])
 (refine wpAnyH_take (i := 20) (v := ?_) rfl (by kernel_rfl) (by kernel_rfl) (by kernel_rfl) (fun _ _ _ h => h) (Or.inl ⟨by rfl, ?_⟩) hHeld ?_; rotate_left; focus (intro w_ hSw_; obtain ⟨z0, z1, z2, z3, z4, z5⟩ := HC.out w_ hSw_; go_simp; try with_reducible rfl)); (try simp only [Act.put, zA, zB, zC, zD, zE, zF])
 (refine wpAnyH_take (i := 21) (v := ?_) rfl (by kernel_rfl) (by kernel_rfl) (by kernel_rfl) (fun _ _ _ h => h) (Or.inl ⟨by rfl, ?_⟩) hHeld ?_; rotate_left; focus (intro w_ hSw_; obtain ⟨z0, z1, z2, z3, z4, z5⟩ := HC.out w_ hSw_; go_simp; try with_reducible rfl)); (try simp only [Act.put, zA, zB, zC, zD, zE, zF])
 (refine wpAnyH_take (i := 22) (v := ?_) rfl (by kernel_rfl) (by kernel_rfl) (by kernel_rfl) (fun _ _ _ h => h) (Or.inl ⟨by rfl, ?_⟩) hHeld ?_; rotate_left; focus (intro w_ hSw_; obtain ⟨z0, z1, z2, z3, z4, z5⟩ := HC.out w_ hSw_; go_simp; try with_reducible rfl)); (try simp only [Act.put, zA, zB, zC, zD, zE, zF])
 (refine wpAnyH_take (i := 23) (v := _) rfl (by kernel_rfl) (by kernel_rfl) (by kernel_rfl) (fun _ _ _ h => h) (Or.inr ⟨by rfl, rfl⟩) hHeld ?_); (try simp only [Act.put, zA, zB, zC, zD, zE, zF])
 (refine wpAnyH_take (i := 24) (v := _) rfl (by kernel_rfl) (by kernel_rfl) (by kernel_rfl) (fun _ _ _ h => h) (Or.inr ⟨by rfl, rfl⟩) hHeld ?_); (try simp only [Act.put, zA, zB, zC, zD, zE, zF])
 (refine wpAnyH_take (i := 25) (v := _) rfl (by kernel_rfl) (by kernel_rfl) (by kernel_rfl) (fun _ _ _ h => h) (Or.inr ⟨by rfl, rfl⟩) hHeld ?_); (try simp only [Act.put, zA, zB, zC, zD, zE, zF])
 (refine wpAnyH_take (i := 26) (v := _) rfl (by kernel_rfl) (by kernel_rfl) (by kernel_rfl) (fun _ _ _ h => h) (Or.inr ⟨by rfl, rfl⟩) hHeld ?_); (try simp only [Act.put, zA, zB, zC, zD, zE, zF])
 (refine wpAnyH_take (i := 27) (v := _) rfl (by kernel_rfl) (by kernel_rfl) (by kernel_rfl) (fun _ _ _ h => h) (Or.inr ⟨by rfl, rfl⟩) hHeld ?_); (try simp only [Act.put, zA, zB, zC, zD, zE, zF])
 (refine wpAnyH_take (i := 28) (v := _) rfl (by kernel_rfl) (by kernel_rfl) (by kernel_rfl) (fun _ _ _ h => h) (Or.inr ⟨by rfl, rfl⟩) hHeld ?_); (try simp only [Act.put, zA, zB, zC, zD, zE, zF])
 (refine wpAnyH_take (i := 29) (v := _) rfl (by kernel_rfl) (by kernel_rfl) (by kernel_rfl) (fun _ _ _ h => h) (Or.inr ⟨by rfl, rfl⟩) hHeld ?_); (try simp only [Act.put, zA, zB, zC, zD, zE, zF])
 (refine wpAnyH_take (i := 30) (v := _) rfl (by kernel_rfl) (by kernel_rfl) (by kernel_rfl) (fun _ _ _ h => h) (Or.inr ⟨by rfl, rfl⟩) hHeld ?_); (try simp only [Act.put, zA, zB, zC, zD, zE, zF])
 (refine wpAnyH_take (i := 31) (v := _) rfl (by kernel_rfl) (by kernel_rfl) (by kernel_rfl) (fun _ _ _ h => h) (Or.inr ⟨by rfl, rfl⟩) hHeld ?_); (try simp only [Act.put, zA, zB, zC, zD, zE, zF])
 (refine wpAnyH_take (i := 32) (v := ?_) rfl (by kernel_rfl) (by kernel_rfl) (by kernel_rfl) (fun _ _ _ h => h) (Or.inl ⟨by rfl, ?_⟩) hHeld ?_; rotate_left; focus (intro w_ hSw_; obtain ⟨z0, z1, z2, z3, z4, z5⟩ := HC.out w_ hSw_; go_simp; try with_reducible rfl)); (try simp only [Act.put, zA, zB, zC, zD, zE, zF])
 (refine wpAnyH_take (i := 33) (v := ?_) rfl (by kernel_rfl) (by kernel_rfl) (by kernel_rfl) (fun _ _ _ h => h) (Or.inl ⟨by rfl, ?_⟩) hHeld ?_; rotate_left; focus (intro w_ hSw_; obtain ⟨z0, z1, z2, z3, z4, z5⟩ := HC.out w_ hSw_; go_simp; try with_reducible rfl)); (try simp only [Act.put, zA, zB, zC, zD, zE, zF])
 refine wpAnyH_done (by kernel_rfl) ?_ _
 obtain ⟨Wx, hWx⟩ : ∃ Wx, Wx = w3.drewN q4 := ⟨_, rfl⟩
 rw [← hWx] at hHeld ⊢
 clear hWx
 obtain ⟨z0, z1, z2, z3, z4, z5⟩ := HC.out _ hHeld
 have HBW : Aside0 (Below w.heap.size w Wx) := ⟨HB1.out.1.trans (hHeld.out.mono HB1.out.1.size)⟩
 have x0' := (HBW.out.cell (World.block_lt_of_cell? w _ HX0.out)).trans HX0.out
 have y1' := (HBW.out.cell (World.block_lt_of_cell? w _ HY1.out)).trans HY1.out
 clear hHeld
 go_wp2_with (first | (go_at_call 22; refine (set_Minus.calls k _ _ a _ _ l0 l _ (Kd.R_reads' HA4.out).2.2 (Kd.R_reads' HA4.out).2.1 (Kd.C_below HL0.out HBW4.out) HLC.out HMN.out).mono ?_; rintro e w5 ⟨vl, rfl, hol, hb⟩; (obtain ⟨A6, c6, hvl⟩ := Kd.R_slice hol); subst hvl; (have HA5 := Aside0.mk hol); (have HBW5 : Aside0 (Below w.heap.size w w5) := at_step HBW4 hb); clear hol hb) | (go_at_call 23; refine (HALL.out _).mono ?_; rintro e w4 ⟨va, rfl, hoa, hb⟩; (obtain ⟨Aa, ca, hva⟩ := Kd.R_slice hoa); subst hva; (have HA4 := Aside0.mk hoa); (have HBW4 : Aside0 (Below w.heap.size w w4) := at_step HBW hb); clear hoa hb))
 have HL := Aside0.mk (Kd.R_reads' HA5.out).2.2
 have HS := Aside0.mk (Kd.C_below HS0.out HBW5.out)
 clear HBW
 have HBW := HBW5
 clear HBW5
 obtain ⟨Wb, hWb⟩ : ∃ Wb, Wb = w5 := ⟨_, rfl⟩
 rw [← hWb]
 rw [← hWb] at HL HS HBW
 have hWs : Aside0 (w5.heap.size = Wb.heap.size) := ⟨by subst hWb; rfl⟩
 clear hWb
 go_loopw [7, 61] (fun v7 v8 wr => ∃ (i : Nat) (acc : List Int), i ≤ l1.length ∧ v8 = .int .i64 (i : Int) ∧ Aside0 (Kd.R (Kd.int .i64) 3 wr Wb.heap.size (fun _ => True) v7 acc ∧ Below Wb.heap.size Wb wr) ∧ Aside0 (imgO l acc (l1.drop i) = some o)) (fun _ v8 _ => (l1.length - (RowKit.intOf v8).toNat))
 case atStart => exact ⟨0, [], Nat.zero_le _, rfl, ⟨⟨Kd.R_nil _ _ _ _ _, Below.refl _ _⟩⟩, HO⟩
 case round =>
  clear HO
  obtain ⟨i, acc, hi, rfl, HA, HO⟩ := hrel
  obtain ⟨A7, c7, hv7⟩ := Kd.R_slice HA.out.1
  subst hv7
  have hlen1 : (l1.length : Int) ≤ 9223372036854775807 := by have := HS.out.2.1; omega
  by_cases hlt : i < l1.length
  ·obtain ⟨ad1, hA1, hx⟩ := Kd.at_int (Kd.C_below HS.out HA.out.2) (i : Int) (by omega) (by omega)
   rw [Int.toNat_natCast] at hx
   have ho := HO.out
   rw [List.drop_eq_getElem_cons hlt, show l1[i] = rd l1 (i : Int) from (rd_at hlt).symm] at ho
   generalize rd l1 (i : Int) = x at *
   unfold imgO at ho
   by_cases h0 : 0 ≤ x
   rotate_left
   ·rw [if_neg h0] at ho; cases ho
   rw [if_pos h0] at ho
   by_cases h1 : x < (l.length : Int)
   rotate_left
   ·rw [if_neg h1] at ho; cases ho
   rw [if_pos h1] at ho
   by_cases h2 : acc.length < 17592186044416
   rotate_left
   ·rw [if_neg h2] at ho; cases ho
   rw [if_pos h2] at ho
   obtain ⟨ad6, hA6, hy⟩ := Kd.at_int (Kd.C_below HL.out HA.out.2) x h0 h1
   have HO' := Aside0.mk ho
   clear ho HO
   generalize rd l x = y at *
   cases hA1
   cases hA6
   go_wp2_with (first
    | ((with_reducible refine gate_dst (N := 71) rfl ?_); refine Kd.R_append (Kd.int .i64) Wb.heap.size rfl (.tmp 65) (.tmp 70) 26 3 (.int .i64 0) 8 rfl Tryd.underlying26 info3 rfl (by decide) (by decide) _ acc y [.int .i64 y] (fun _ => True) (fun _ => False) rfl rfl ?aP (fun _ hk => hk.elim) (fun _ _ => trivial) ?aO HA.out.2 ?aS ?aL ?_; (case aP => rfl); (case aO => exact HA.out.1); (case aS => exact HA.out.2.size); (case aL => omega); intro v3 w3 ho hb hg hat; (have HA3 := Aside0.mk (And.intro ho hb)); clear ho hb hg hat))
   go_roundw
   case rel => exact ⟨i + 1, acc ++ [y], by omega, by go_num, HA3, HO'⟩
   case measure => simp [RowKit.intOf]; omega
  ·have hie : i = l1.length := by omega
   subst hie
   have hacc : acc = o := by
    have := HO.out
    rw [List.drop_of_length_le (Nat.le_refl _)] at this
    exact Option.some.inj this
   subst hacc
   clear hlt hi HO
   go_wp2
   go_ret2
   exact ⟨_, rfl, Kd.R_lower HA.out.1 HBW.out.size, HBW.out.trans (HA.out.2.mono HBW.out.size)⟩
set_option maxHeartbeats 4000000 in
set_option maxRecDepth 100000 in
theorem img_6l (k : Nat) (a0 a1 a2 a3 : Int) (A4 : Option Addr) (c4 : Nat) (l4 : List (List Int)) (A5 : Option Addr) (c5 : Nat) (l5 : List Mtr) (A1 : Option Addr) (c1 : Nat) (l1 : List Int) (w : World) (hEV : EV w) (hr4 : Kd.C (Kd.slice 3 (Kd.int .i64)) w A4 l4.length l4) (hc4 : l4.length ≤ c4) (hr5 : Kd.C k25 w A5 l5.length l5) (hc5 : l5.length ≤ c5) (hr1 : Kd.C (Kd.int .i64) w A1 l1.length l1) (hc1 : l1.length ≤ c1) (hck : chkN ⟨a0, a1, a2, a3, l4, l5⟩ = 0) (hm : mayB l1 = true) (h0 : 0 < l1.length) (hge : ¬ a1 ≤ rd l1 ((l1.length : Int) - 1)) (h56 : a0 = 6) (h04 : 0 < l4.length) (h05 : 0 < l5.length) (a l : List Int) (ha : set_All.f k (rd_T25 l5 0).f1 = some a) (hmn : set_Minus.f k a (rd_L1 l4 0) = some l) (o : List Int) (ho : imgO l [] l1 = some o) :
 Calls Tryd.prog 10 #[.agg #[.int .i64 a0, .int .i64 a1, .int .i64 a2, .int .i64 a3, .slice A4 l4.length c4, .slice A5 l5.length c5], .slice A1 l1.length c1] w fun e w' => ∃ v0_ : Value, e = .returned (.tuple #[v0_, .bool true]) ∧ Kd.R (Kd.int .i64) 3 w' w.heap.size (fun _ => True) v0_ o ∧ Below w.heap.size w w' := by
 obtain ⟨c, hc⟩ : ∃ c : Int, c = 0 := ⟨_, rfl⟩
 rw [← hc] at hck
 obtain ⟨ad1, hA1, hy⟩ := Kd.at_int hr1 ((l1.length : Int) - 1) (by omega) (by omega)
 subst hA1
 rw [show ((l1.length : Int) - 1).toNat = l1.length - 1 by omega] at hy
 have h0c : decide (0 < l1.length) = true := decide_eq_true h0
 have hi0 : (0 : Int) ≤ (l1.length : Int) - 1 := by omega
 have hi1 : (l1.length : Int) - 1 < (l1.length : Int) := by omega
 have hlast : wrap64 ((l1.length : Int) - 1) = (l1.length : Int) - 1 := by have := hr1.2.1; unfold wrap64; omega
 have hb0 : (l1.length : Int) ≤ 9223372036854775807 := by have := hr1.2.1; omega
 have hwr : IntKind.i64.wrap ((l1.length : Int) - 1) = (l1.length : Int) - 1 := by rw [wrap_i64]; exact hlast
 have htn : ((l1.length : Int) - 1).toNat = l1.length - 1 := by omega
 have h1l : (1 : Int) ≤ (l1.length : Int) := by omega
 obtain ⟨W1, hW1⟩ : ∃ W1, W1 = w.alloc (Obj.cells #[.int .i64 a0, .int .i64 a1, .int .i64 a2, .int .i64 a3, .slice A4 l4.length c4, .slice A5 l5.length c5] 25) := ⟨_, rfl⟩
 have hB1 : Below w.heap.size w W1 := by subst hW1; exact (Below.refl _ _).alloc (Nat.le_refl _) _
 have hbx := mbox w 25 (.int .i64 a0) (.int .i64 a1) (.int .i64 a2) (.int .i64 a3) (.slice A4 l4.length c4) (.slice A5 l5.length c5)
 have hsz : w.heap.size < W1.heap.size := by
  subst hW1
  rw [show (w.alloc (Obj.cells #[.int .i64 a0, .int .i64 a1, .int .i64 a2, .int .i64 a3, .slice A4 l4.length c4, .slice A5 l5.length c5] 25)).heap.size = w.heap.size + 1 from Array.size_push ..]; omega
 rw [← hW1] at hbx
 have HB1 := Aside0.mk (And.intro hB1 (And.intro hbx hsz))
 have HW1 := Aside0.mk hW1
 have HCK := Aside0.mk (fun (w' : World) (hw : Aside0 (Below W1.heap.size W1 w')) => matroid_Check.calls a0 a1 a2 a3 A4 c4 l4 A5 c5 l5 c w' (hEV.below (hB1.trans (hw.out.mono hB1.size)) hEV.pos) (Kd.C_below hr4 (hB1.trans (hw.out.mono hB1.size))) hc4 (Kd.C_below hr5 (hB1.trans (hw.out.mono hB1.size))) hc5 (by rw [← hck]; rfl))
 have HMAY := Aside0.mk (fun (w' : World) (hw : Aside0 (Below W1.heap.size W1 w')) => set_May_now (some ad1) c1 l1 w' (Kd.C_below hr1 (hB1.trans (hw.out.mono hB1.size))) hc1 hr1.2.1)
 have HC : Aside0 (∀ w', Aside0 (Below W1.heap.size W1 w') → w'.cell? ⟨w.heap.size, 0, none⟩ = some (.int .i64 a0) ∧ w'.cell? ⟨w.heap.size, 1, none⟩ = some (.int .i64 a1) ∧ w'.cell? ⟨w.heap.size, 2, none⟩ = some (.int .i64 a2) ∧ w'.cell? ⟨w.heap.size, 3, none⟩ = some (.int .i64 a3) ∧ w'.cell? ⟨w.heap.size, 4, none⟩ = some (.slice A4 l4.length c4) ∧ w'.cell? ⟨w.heap.size, 5, none⟩ = some (.slice A5 l5.length c5)) :=
  ⟨fun w' hw => ⟨(hw.out.cell (p := ⟨w.heap.size, 0, none⟩) hsz).trans hbx.1, (hw.out.cell (p := ⟨w.heap.size, 1, none⟩) hsz).trans hbx.2.1, (hw.out.cell (p := ⟨w.heap.size, 2, none⟩) hsz).trans hbx.2.2.1, (hw.out.cell (p := ⟨w.heap.size, 3, none⟩) hsz).trans hbx.2.2.2.1, (hw.out.cell (p := ⟨w.heap.size, 4, none⟩) hsz).trans hbx.2.2.2.2.1, (hw.out.cell (p := ⟨w.heap.size, 5, none⟩) hsz).trans hbx.2.2.2.2.2⟩⟩
 subst hc
 obtain ⟨ad, A0, c0, hA, x0, hl0, hR0⟩ := at_L1 hr4 0 (by omega) (by omega)
 subst hA
 rw [show (0 : Int).toNat = 0 from rfl, Addr.add_zero'] at x0
 have HX0 := Aside0.mk x0
 have HALL := Aside0.mk (fun (W : World) => set_All.calls k _ a W ha)
 obtain ⟨ad5, _, _, _, _, hA5, _, y1, _, _, _, _, _, _, _, _⟩ := at_T25 hr5 0 (by omega) (by omega)
 subst hA5
 rw [show (0 : Int).toNat * 6 = 0 from rfl, Addr.add_zero'] at y1
 have HY1 := Aside0.mk y1
 generalize rd_L1 l4 0 = l0 at *
 generalize (rd_T25 l5 0).f1 = m1 at *
 have HMN := Aside0.mk hmn
 have HLC := Aside0.mk hl0
 clear y1 hmn ha
 have HO := Aside0.mk ho
 have HL0 := Aside0.mk hR0
 have HS0 := Aside0.mk hr1
 have g2 : decide (a1 ≤ rd l1 ((l1.length : Int) - 1)) = false := decide_eq_false hge
 clear hge
 generalize rd l1 ((l1.length : Int) - 1) = y at *
 have HY : Aside0 (∀ w', Aside0 (Below W1.heap.size W1 w') → w'.cell? (ad1.add (l1.length - 1)) = some (.int .i64 y)) := ⟨fun w' hw => ((hB1.trans (hw.out.mono hB1.size)).cell (World.block_lt_of_cell? w _ hy)).trans hy⟩
 rw [hm] at HMAY
 clear hB1 hbx hsz hr4 hc4 hr5 hc5 hr1 hc1 hck hEV hW1 hm hy x0 hl0 hR0 ho
 subst h56
 go_enter Tryd.func10, Tryd.ntmps10
 go_wp2
 rw [← HW1.out]
 refine wp_region_held_drew (S := fun w' => Aside0 (Below W1.heap.size W1 w')) (by kernel_rfl) (⟨(Below.refl _ _).drew⟩) (fun hHeld => ?_)
 (refine wpAnyH_take (i := 0) (v := ?_) rfl (by kernel_rfl) (by kernel_rfl) (by kernel_rfl) (fun _ _ _ h => h) (Or.inl ⟨by rfl, ?_⟩) hHeld ?_; rotate_left; focus (intro w_ hSw_; obtain ⟨z0, z1, z2, z3, z4, z5⟩ := HC.out w_ hSw_; go_simp; try with_reducible rfl)); (try simp only [Act.put, zA, zB, zC, zD, zE, zF])
 refine wpAnyH_ready (rs := [1]) (by kernel_rfl) (by simp) ?_; refine AllReadyH.cons rfl (fun K hK => ?_) AllReadyH.nil; rw [if_pos (by rfl)]; (go_simp); (go_at_call 12; refine (HCK.out _ hHeld).mono ?_; rintro e w3 ⟨rfl, hb⟩; (have HB' := held_below hHeld hb); clear hb); (first | skip); refine hK.out _ _ (HB') (fun hHeld => ?_); clear hK K; (try simp only [Act.put, zA, zB, zC, zD, zE, zF])
 (refine wpAnyH_take (i := 2) (v := ?_) rfl (by kernel_rfl) (by kernel_rfl) (by kernel_rfl) (fun _ _ _ h => h) (Or.inl ⟨by rfl, ?_⟩) hHeld ?_; rotate_left; focus (intro w_ hSw_; obtain ⟨z0, z1, z2, z3, z4, z5⟩ := HC.out w_ hSw_; go_simp; try with_reducible rfl)); (try simp only [Act.put, zA, zB, zC, zD, zE, zF])
 (refine wpAnyH_take (i := 3) (v := ?_) rfl (by kernel_rfl) (by kernel_rfl) (by kernel_rfl) (fun _ _ _ h => h) (Or.inl ⟨by rfl, ?_⟩) hHeld ?_; rotate_left; focus (intro w_ hSw_; obtain ⟨z0, z1, z2, z3, z4, z5⟩ := HC.out w_ hSw_; go_simp; try with_reducible rfl)); (try simp only [Act.put, zA, zB, zC, zD, zE, zF])
 (refine wpAnyH_take (i := 4) (v := ?_) rfl (by kernel_rfl) (by kernel_rfl) (by kernel_rfl) (fun _ _ _ h => h) (Or.inl ⟨by rfl, ?_⟩) hHeld ?_; rotate_left; focus (intro w_ hSw_; obtain ⟨z0, z1, z2, z3, z4, z5⟩ := HC.out w_ hSw_; go_simp; try with_reducible rfl)); (try simp only [Act.put, zA, zB, zC, zD, zE, zF])
 (refine wpAnyH_take (i := 5) (v := ?_) rfl (by kernel_rfl) (by kernel_rfl) (by kernel_rfl) (fun _ _ _ h => h) (Or.inl ⟨by rfl, ?_⟩) hHeld ?_; rotate_left; focus (intro w_ hSw_; obtain ⟨z0, z1, z2, z3, z4, z5⟩ := HC.out w_ hSw_; go_simp; try with_reducible rfl)); (try simp only [Act.put, zA, zB, zC, zD, zE, zF])
 (refine wpAnyH_take (i := 6) (v := ?_) rfl (by kernel_rfl) (by kernel_rfl) (by kernel_rfl) (fun _ _ _ h => h) (Or.inl ⟨by rfl, ?_⟩) hHeld ?_; rotate_left; focus (intro w_ hSw_; obtain ⟨z0, z1, z2, z3, z4, z5⟩ := HC.out w_ hSw_; go_simp; try with_reducible rfl)); (try simp only [Act.put, zA, zB, zC, zD, zE, zF])
 (refine wpAnyH_take (i := 7) (v := ?_) rfl (by kernel_rfl) (by kernel_rfl) (by kernel_rfl) (fun _ _ _ h => h) (Or.inl ⟨by rfl, ?_⟩) hHeld ?_; rotate_left; focus (intro w_ hSw_; obtain ⟨z0, z1, z2, z3, z4, z5⟩ := HC.out w_ hSw_; go_simp; try with_reducible rfl)); (try simp only [Act.put, zA, zB, zC, zD, zE, zF])
 (refine wpAnyH_take (i := 8) (v := ?_) rfl (by kernel_rfl) (by kernel_rfl) (by kernel_rfl) (fun _ _ _ h => h) (Or.inl ⟨by rfl, ?_⟩) hHeld ?_; rotate_left; focus (intro w_ hSw_; obtain ⟨z0, z1, z2, z3, z4, z5⟩ := HC.out w_ hSw_; go_simp; try with_reducible rfl)); (try simp only [Act.put, zA, zB, zC, zD, zE, zF])
 (refine wpAnyH_take (i := 9) (v := ?_) rfl (by kernel_rfl) (by kernel_rfl) (by kernel_rfl) (fun _ _ _ h => h) (Or.inl ⟨by rfl, ?_⟩) hHeld ?_; rotate_left; focus (intro w_ hSw_; obtain ⟨z0, z1, z2, z3, z4, z5⟩ := HC.out w_ hSw_; go_simp; try with_reducible rfl)); (try simp only [Act.put, zA, zB, zC, zD, zE, zF])
 (refine wpAnyH_take (i := 10) (v := ?_) rfl (by kernel_rfl) (by kernel_rfl) (by kernel_rfl) (fun _ _ _ h => h) (Or.inl ⟨by rfl, ?_⟩) hHeld ?_; rotate_left; focus (intro w_ hSw_; obtain ⟨z0, z1, z2, z3, z4, z5⟩ := HC.out w_ hSw_; go_simp; try with_reducible rfl)); (try simp only [Act.put, zA, zB, zC, zD, zE, zF])
 (refine wpAnyH_take (i := 11) (v := ?_) rfl (by kernel_rfl) (by kernel_rfl) (by kernel_rfl) (fun _ _ _ h => h) (Or.inl ⟨by rfl, ?_⟩) hHeld ?_; rotate_left; focus (intro w_ hSw_; obtain ⟨z0, z1, z2, z3, z4, z5⟩ := HC.out w_ hSw_; go_simp; try with_reducible rfl)); (try simp only [Act.put, zA, zB, zC, zD, zE, zF])
 (refine wpAnyH_take (i := 12) (v := ?_) rfl (by kernel_rfl) (by kernel_rfl) (by kernel_rfl) (fun _ _ _ h => h) (Or.inl ⟨by rfl, ?_⟩) hHeld ?_; rotate_left; focus (intro w_ hSw_; obtain ⟨z0, z1, z2, z3, z4, z5⟩ := HC.out w_ hSw_; go_simp; try with_reducible rfl)); (try simp only [Act.put, zA, zB, zC, zD, zE, zF])
 (refine wpAnyH_take (i := 13) (v := ?_) rfl (by kernel_rfl) (by kernel_rfl) (by kernel_rfl) (fun _ _ _ h => h) (Or.inl ⟨by rfl, ?_⟩) hHeld ?_; rotate_left; focus (intro w_ hSw_; obtain ⟨z0, z1, z2, z3, z4, z5⟩ := HC.out w_ hSw_; go_simp; try with_reducible rfl)); (try simp only [Act.put, zA, zB, zC, zD, zE, zF])
 (refine wpAnyH_take (i := 14) (v := ?_) rfl (by kernel_rfl) (by kernel_rfl) (by kernel_rfl) (fun _ _ _ h => h) (Or.inl ⟨by rfl, ?_⟩) hHeld ?_; rotate_left; focus (intro w_ hSw_; obtain ⟨z0, z1, z2, z3, z4, z5⟩ := HC.out w_ hSw_; go_simp; try with_reducible rfl)); (try simp only [Act.put, zA, zB, zC, zD, zE, zF])
 refine wpAnyH_ready (rs := [15]) (by kernel_rfl) (by simp) ?_; refine AllReadyH.cons rfl (fun K hK => ?_) AllReadyH.nil; rw [if_pos (by rfl)]; (go_simp); (go_at_call 21; refine (HMAY.out _ hHeld).mono ?_; rintro e w4 ⟨rfl, ⟨q4, rfl⟩⟩; (have HB' := held_below hHeld (pw_below_drewN (Below.refl _ _) q4))); (first | skip); refine hK.out _ _ (HB') (fun hHeld => ?_); clear hK K; (try simp only [Act.put, zA, zB, zC, zD, zE, zF])
 (refine wpAnyH_take (i := 16) (v := ?_) rfl (by kernel_rfl) (by kernel_rfl) (by kernel_rfl) (fun _ _ _ h => h) (Or.inl ⟨by rfl, ?_⟩) hHeld ?_; rotate_left; focus (intro w_ hSw_; obtain ⟨z0, z1, z2, z3, z4, z5⟩ := HC.out w_ hSw_; go_simp; try with_reducible rfl)); (try simp only [Act.put, zA, zB, zC, zD, zE, zF])
 (refine wpAnyH_take (i := 17) (v := ?_) rfl (by kernel_rfl) (by kernel_rfl) (by kernel_rfl) (fun _ _ _ h => h) (Or.inl ⟨by rfl, ?_⟩) hHeld ?_; rotate_left; focus (intro w_ hSw_; obtain ⟨z0, z1, z2, z3, z4, z5⟩ := HC.out w_ hSw_; go_simp; try with_reducible rfl)); (try simp only [Act.put, zA, zB, zC, zD, zE, zF])
 (refine wpAnyH_take (i := 18) (v := ?_) rfl (by kernel_rfl) (by kernel_rfl) (by kernel_rfl) (fun _ _ _ h => h) (Or.inl ⟨by rfl, ?_⟩) hHeld ?_; rotate_left; focus (intro w_ hSw_; obtain ⟨z0, z1, z2, z3, z4, z5⟩ := HC.out w_ hSw_; go_simp; try with_reducible rfl)); (try simp only [Act.put, zA, zB, zC, zD, zE, zF])
 (refine wpAnyH_take (i := 19) (v := ?_) rfl (by kernel_rfl) (by kernel_rfl) (by kernel_rfl) (fun _ _ _ h => h) (Or.inl ⟨by rfl, ?_⟩) hHeld ?_; rotate_left; focus (intro w_ hSw_; obtain ⟨z0, z1, z2, z3, z4, z5⟩ := HC.out w_ hSw_; go_simp; try with_reducible rfl)); (try simp only [Act.put, zA, zB, zC, zD, zE, zF])
 (refine wpAnyH_take (i := 20) (v := ?_) rfl (by kernel_rfl) (by kernel_rfl) (by kernel_rfl) (fun _ _ _ h => h) (Or.inl ⟨by rfl, ?_⟩) hHeld ?_; rotate_left; focus (intro w_ hSw_; obtain ⟨z0, z1, z2, z3, z4, z5⟩ := HC.out w_ hSw_; go_simp; try with_reducible rfl)); (try simp only [Act.put, zA, zB, zC, zD, zE, zF])
 (refine wpAnyH_take (i := 21) (v := ?_) rfl (by kernel_rfl) (by kernel_rfl) (by kernel_rfl) (fun _ _ _ h => h) (Or.inl ⟨by rfl, ?_⟩) hHeld ?_; rotate_left; focus (intro w_ hSw_; obtain ⟨z0, z1, z2, z3, z4, z5⟩ := HC.out w_ hSw_; go_simp; try with_reducible rfl)); (try simp only [Act.put, zA, zB, zC, zD, zE, zF])
 (refine wpAnyH_take (i := 22) (v := ?_) rfl (by kernel_rfl) (by kernel_rfl) (by kernel_rfl) (fun _ _ _ h => h) (Or.inl ⟨by rfl, ?_⟩) hHeld ?_; rotate_left; focus (intro w_ hSw_; obtain ⟨z0, z1, z2, z3, z4, z5⟩ := HC.out w_ hSw_; go_simp; try with_reducible rfl)); (try simp only [Act.put, zA, zB, zC, zD, zE, zF])
 (refine wpAnyH_take (i := 23) (v := ?_) rfl (by kernel_rfl) (by kernel_rfl) (by kernel_rfl) (fun _ _ _ h => h) (Or.inl ⟨by rfl, ?_⟩) hHeld ?_; rotate_left; focus (intro w_ hSw_; obtain ⟨z0, z1, z2, z3, z4, z5⟩ := HC.out w_ hSw_; have y0 := HY.out w_ hSw_; go_simp; try with_reducible rfl)); (try simp only [Act.put, zA, zB, zC, zD, zE, zF])
 (refine wpAnyH_take (i := 24) (v := ?_) rfl (by kernel_rfl) (by kernel_rfl) (by kernel_rfl) (fun _ _ _ h => h) (Or.inl ⟨by rfl, ?_⟩) hHeld ?_; rotate_left; focus (intro w_ hSw_; obtain ⟨z0, z1, z2, z3, z4, z5⟩ := HC.out w_ hSw_; have y0 := HY.out w_ hSw_; go_simp; try with_reducible rfl)); (try simp only [Act.put, zA, zB, zC, zD, zE, zF])
 (refine wpAnyH_take (i := 25) (v := ?_) rfl (by kernel_rfl) (by kernel_rfl) (by kernel_rfl) (fun _ _ _ h => h) (Or.inl ⟨by rfl, ?_⟩) hHeld ?_; rotate_left; focus (intro w_ hSw_; obtain ⟨z0, z1, z2, z3, z4, z5⟩ := HC.out w_ hSw_; have y0 := HY.out w_ hSw_; go_simp; try with_reducible rfl)); (try simp only [Act.put, zA, zB, zC, zD, zE, zF])
 (refine wpAnyH_take (i := 26) (v := ?_) rfl (by kernel_rfl) (by kernel_rfl) (by kernel_rfl) (fun _ _ _ h => h) (Or.inl ⟨by rfl, ?_⟩) hHeld ?_; rotate_left; focus (intro w_ hSw_; obtain ⟨z0, z1, z2, z3, z4, z5⟩ := HC.out w_ hSw_; have y0 := HY.out w_ hSw_; go_simp; try with_reducible rfl)); (try simp only [Act.put, zA, zB, zC, zD, zE, zF])
 (refine wpAnyH_take (i := 27) (v := ?_) rfl (by kernel_rfl) (by kernel_rfl) (by kernel_rfl) (fun _ _ _ h => h) (Or.inl ⟨by rfl, ?_⟩) hHeld ?_; rotate_left; focus (intro w_ hSw_; obtain ⟨z0, z1, z2, z3, z4, z5⟩ := HC.out w_ hSw_; have y0 := HY.out w_ hSw_; go_simp; try with_reducible rfl)); (try simp only [Act.put, zA, zB, zC, zD, zE, zF])
 (refine wpAnyH_take (i := 28) (v := ?_) rfl (by kernel_rfl) (by kernel_rfl) (by kernel_rfl) (fun _ _ _ h => h) (Or.inl ⟨by rfl, ?_⟩) hHeld ?_; rotate_left; focus (intro w_ hSw_; obtain ⟨z0, z1, z2, z3, z4, z5⟩ := HC.out w_ hSw_; have y0 := HY.out w_ hSw_; go_simp; try with_reducible rfl)); (try simp only [Act.put, zA, zB, zC, zD, zE, zF])
 (refine wpAnyH_take (i := 29) (v := ?_) rfl (by kernel_rfl) (by kernel_rfl) (by kernel_rfl) (fun _ _ _ h => h) (Or.inl ⟨by rfl, ?_⟩) hHeld ?_; rotate_left; focus (intro w_ hSw_; obtain ⟨z0, z1, z2, z3, z4, z5⟩ := HC.out w_ hSw_; have y0 := HY.out w_ hSw_; go_simp; try with_reducible rfl)); (try simp only [Act.put, zA, zB, zC, zD, zE, zF])
 (refine wpAnyH_take (i := 30) (v := ?_) rfl (by kernel_rfl) (by kernel_rfl) (by kernel_rfl) (fun _ _ _ h => h) (Or.inl ⟨by rfl, ?_⟩) hHeld ?_; rotate_left; focus (intro w_ hSw_; obtain ⟨z0, z1, z2, z3, z4, z5⟩ := HC.out w_ hSw_; have y0 := HY.out w_ hSw_; go_simp; try with_reducible rfl)); (try simp only [Act.put, zA, zB, zC, zD, zE, zF])
 (refine wpAnyH_take (i := 31) (v := ?_) rfl (by kernel_rfl) (by kernel_rfl) (by kernel_rfl) (fun _ _ _ h => h) (Or.inl ⟨by rfl, ?_⟩) hHeld ?_; rotate_left; focus (intro w_ hSw_; obtain ⟨z0, z1, z2, z3, z4, z5⟩ := HC.out w_ hSw_; have y0 := HY.out w_ hSw_; go_simp; try with_reducible rfl)); (try simp only [Act.put, zA, zB, zC, zD, zE, zF])
 (refine wpAnyH_take (i := 32) (v := ?_) rfl (by kernel_rfl) (by kernel_rfl) (by kernel_rfl) (fun _ _ _ h => h) (Or.inl ⟨by rfl, ?_⟩) hHeld ?_; rotate_left; focus (intro w_ hSw_; obtain ⟨z0, z1, z2, z3, z4, z5⟩ := HC.out w_ hSw_; have y0 := HY.out w_ hSw_; go_simp; try with_reducible rfl)); (try simp only [Act.put, zA, zB, zC, zD, zE, zF])
 (refine wpAnyH_take (i := 33) (v := ?_) rfl (by kernel_rfl) (by kernel_rfl) (by kernel_rfl) (fun _ _ _ h => h) (Or.inl ⟨by rfl, ?_⟩) hHeld ?_; rotate_left; focus (intro w_ hSw_; obtain ⟨z0, z1, z2, z3, z4, z5⟩ := HC.out w_ hSw_; have y0 := HY.out w_ hSw_; go_simp; try with_reducible rfl)); (try simp only [Act.put, zA, zB, zC, zD, zE, zF])
 refine wpAnyH_done (by kernel_rfl) ?_ _
 obtain ⟨Wx, hWx⟩ : ∃ Wx, Wx = w3.drewN q4 := ⟨_, rfl⟩
 rw [← hWx] at hHeld ⊢
 clear hWx
 obtain ⟨z0, z1, z2, z3, z4, z5⟩ := HC.out _ hHeld
 have HBW : Aside0 (Below w.heap.size w Wx) := ⟨HB1.out.1.trans (hHeld.out.mono HB1.out.1.size)⟩
 have x0' := (HBW.out.cell (World.block_lt_of_cell? w _ HX0.out)).trans HX0.out
 have y1' := (HBW.out.cell (World.block_lt_of_cell? w _ HY1.out)).trans HY1.out
 clear hHeld
 go_wp2_with (first | (go_at_call 22; refine (set_Minus.calls k _ _ a _ _ l0 l _ (Kd.R_reads' HA4.out).2.2 (Kd.R_reads' HA4.out).2.1 (Kd.C_below HL0.out HBW4.out) HLC.out HMN.out).mono ?_; rintro e w5 ⟨vl, rfl, hol, hb⟩; (obtain ⟨A6, c6, hvl⟩ := Kd.R_slice hol); subst hvl; (have HA5 := Aside0.mk hol); (have HBW5 : Aside0 (Below w.heap.size w w5) := at_step HBW4 hb); clear hol hb) | (go_at_call 23; refine (HALL.out _).mono ?_; rintro e w4 ⟨va, rfl, hoa, hb⟩; (obtain ⟨Aa, ca, hva⟩ := Kd.R_slice hoa); subst hva; (have HA4 := Aside0.mk hoa); (have HBW4 : Aside0 (Below w.heap.size w w4) := at_step HBW hb); clear hoa hb))
 have HL := Aside0.mk (Kd.R_reads' HA5.out).2.2
 have HS := Aside0.mk (Kd.C_below HS0.out HBW5.out)
 clear HBW
 have HBW := HBW5
 clear HBW5
 obtain ⟨Wb, hWb⟩ : ∃ Wb, Wb = w5 := ⟨_, rfl⟩
 rw [← hWb]
 rw [← hWb] at HL HS HBW
 have hWs : Aside0 (w5.heap.size = Wb.heap.size) := ⟨by subst hWb; rfl⟩
 clear hWb
 go_loopw [7, 61] (fun v7 v8 wr => ∃ (i : Nat) (acc : List Int), i ≤ l1.length ∧ v8 = .int .i64 (i : Int) ∧ Aside0 (Kd.R (Kd.int .i64) 3 wr Wb.heap.size (fun _ => True) v7 acc ∧ Below Wb.heap.size Wb wr) ∧ Aside0 (imgO l acc (l1.drop i) = some o)) (fun _ v8 _ => (l1.length - (RowKit.intOf v8).toNat))
 case atStart => exact ⟨0, [], Nat.zero_le _, rfl, ⟨⟨Kd.R_nil _ _ _ _ _, Below.refl _ _⟩⟩, HO⟩
 case round =>
  clear HO
  obtain ⟨i, acc, hi, rfl, HA, HO⟩ := hrel
  obtain ⟨A7, c7, hv7⟩ := Kd.R_slice HA.out.1
  subst hv7
  have hlen1 : (l1.length : Int) ≤ 9223372036854775807 := by have := HS.out.2.1; omega
  by_cases hlt : i < l1.length
  ·obtain ⟨ad1, hA1, hx⟩ := Kd.at_int (Kd.C_below HS.out HA.out.2) (i : Int) (by omega) (by omega)
   rw [Int.toNat_natCast] at hx
   have ho := HO.out
   rw [List.drop_eq_getElem_cons hlt, show l1[i] = rd l1 (i : Int) from (rd_at hlt).symm] at ho
   generalize rd l1 (i : Int) = x at *
   unfold imgO at ho
   by_cases h0 : 0 ≤ x
   rotate_left
   ·rw [if_neg h0] at ho; cases ho
   rw [if_pos h0] at ho
   by_cases h1 : x < (l.length : Int)
   rotate_left
   ·rw [if_neg h1] at ho; cases ho
   rw [if_pos h1] at ho
   by_cases h2 : acc.length < 17592186044416
   rotate_left
   ·rw [if_neg h2] at ho; cases ho
   rw [if_pos h2] at ho
   obtain ⟨ad6, hA6, hy⟩ := Kd.at_int (Kd.C_below HL.out HA.out.2) x h0 h1
   have HO' := Aside0.mk ho
   clear ho HO
   generalize rd l x = y at *
   cases hA1
   cases hA6
   go_wp2_with (first
    | ((with_reducible refine gate_dst (N := 71) rfl ?_); refine Kd.R_append (Kd.int .i64) Wb.heap.size rfl (.tmp 65) (.tmp 70) 26 3 (.int .i64 0) 8 rfl Tryd.underlying26 info3 rfl (by decide) (by decide) _ acc y [.int .i64 y] (fun _ => True) (fun _ => False) rfl rfl ?aP (fun _ hk => hk.elim) (fun _ _ => trivial) ?aO HA.out.2 ?aS ?aL ?_; (case aP => rfl); (case aO => exact HA.out.1); (case aS => exact HA.out.2.size); (case aL => omega); intro v3 w3 ho hb hg hat; (have HA3 := Aside0.mk (And.intro ho hb)); clear ho hb hg hat))
   go_roundw
   case rel => exact ⟨i + 1, acc ++ [y], by omega, by go_num, HA3, HO'⟩
   case measure => simp [RowKit.intOf]; omega
  ·have hie : i = l1.length := by omega
   subst hie
   have hacc : acc = o := by
    have := HO.out
    rw [List.drop_of_length_le (Nat.le_refl _)] at this
    exact Option.some.inj this
   subst hacc
   clear hlt hi HO
   go_wp2
   go_ret2
   exact ⟨_, rfl, Kd.R_lower HA.out.1 HBW.out.size, HBW.out.trans (HA.out.2.mono HBW.out.size)⟩
theorem matroid_Image.calls (k : Nat) (a0_0 : Int) (a0_1 : Int) (a0_2 : Int) (a0_3 : Int) (A0_4 : Option Addr) (c0_4 : Nat) (l0_4 : List (List Int)) (A0_5 : Option Addr) (c0_5 : Nat) (l0_5 : List Mtr) (A1 : Option Addr) (c1 : Nat) (l1 : List Int) (r1 : List Int) (r2 : Bool) (w : World) (hEV : EV w) (hr0_4 : Kd.C (Kd.slice 3 (Kd.int .i64)) w A0_4 l0_4.length l0_4) (hc0_4 : l0_4.length ≤ c0_4) (hr0_5 : Kd.C k25 w A0_5 l0_5.length l0_5) (hc0_5 : l0_5.length ≤ c0_5) (hr1 : Kd.C (Kd.int .i64) w A1 l1.length l1) (hc1 : l1.length ≤ c1) (h : matroid_Image.f k a0_0 a0_1 a0_2 a0_3 l0_4 l0_5 l1 = some (r1, r2)) :
 Calls Tryd.prog 10 #[.agg #[.int .i64 a0_0, .int .i64 a0_1, .int .i64 a0_2, .int .i64 a0_3, .slice A0_4 l0_4.length c0_4, .slice A0_5 l0_5.length c0_5], .slice A1 l1.length c1] w fun e w' => ∃ v0_ : Value, e = .returned (.tuple #[v0_, .bool r2]) ∧ Kd.R (Kd.int .i64) 3 w' w.heap.size (fun _ => True) v0_ r1 ∧ Below w.heap.size w w' := by
 unfold matroid_Image.f at h
 by_cases h1 : chkN ⟨a0_0, a0_1, a0_2, a0_3, l0_4, l0_5⟩ ≠ 0 ∨ (a0_0 ≠ 5 ∧ a0_0 ≠ 6)
 ·rw [if_pos h1] at h
  have hr := Option.some.inj h
  obtain ⟨rfl, rfl⟩ := Prod.mk.inj hr
  refine img_no _ a0_0 a0_1 a0_2 a0_3 A0_4 c0_4 l0_4 A0_5 c0_5 l0_5 A1 c1 l1 w hEV hr0_4 hc0_4 hr0_5 hc0_5 hr1 hc1 rfl _ rfl ?_
  by_cases hc : chkN ⟨a0_0, a0_1, a0_2, a0_3, l0_4, l0_5⟩ = 0
  ·rcases h1 with h1 | ⟨h5, h6⟩
   ·exact absurd hc h1
   ·exact .inr (.inl ⟨by simp [hc], by simp [h5], by simp [h6]⟩)
  ·exact .inl (by simp [hc])
 rw [if_neg h1] at h
 have hc : chkN ⟨a0_0, a0_1, a0_2, a0_3, l0_4, l0_5⟩ = 0 := Decidable.byContradiction (fun e => h1 (.inl e))
 have h56 : a0_0 = 5 ∨ a0_0 = 6 := by
  by_cases e : a0_0 = 5
  ·exact .inl e
  ·exact .inr (Decidable.byContradiction (fun e' => h1 (.inr ⟨e, e'⟩)))
 cases hm : mayB l1 with
 | false =>
  rw [if_pos (.inl hm)] at h
  have hr := Option.some.inj h
  obtain ⟨rfl, rfl⟩ := Prod.mk.inj hr
  refine img_no _ a0_0 a0_1 a0_2 a0_3 A0_4 c0_4 l0_4 A0_5 c0_5 l0_5 A1 c1 l1 w hEV hr0_4 hc0_4 hr0_5 hc0_5 hr1 hc1 rfl _ hm ?_
  rcases h56 with e | e
  ·exact .inr (.inr (.inl ⟨hc, e, rfl⟩))
  ·exact .inr (.inr (.inr ⟨hc, e, rfl⟩))
 | true =>
  by_cases hge : 0 < l1.length ∧ a0_1 ≤ rd l1 ((l1.length : Int) - 1)
  ·rw [if_pos (.inr hge)] at h
   have hr := Option.some.inj h
   obtain ⟨rfl, rfl⟩ := Prod.mk.inj hr
   exact img_ge a0_0 a0_1 a0_2 a0_3 A0_4 c0_4 l0_4 A0_5 c0_5 l0_5 A1 c1 l1 w hEV hr0_4 hc0_4 hr0_5 hc0_5 hr1 hc1 hc hm hge.1 hge.2 h56
  rw [if_neg (by rw [hm]; rintro (h | h); cases h; exact hge h)] at h
  by_cases h4 : l0_4.length = 0
  ·rw [if_pos h4] at h; cases h
  rw [if_neg h4] at h
  rcases h56 with e | e
  ·rw [if_neg (by omega)] at h
   obtain ⟨o, ho, h⟩ := Option.bind_eq_some_iff.mp h
   have hr := Option.some.inj h
   obtain ⟨rfl, rfl⟩ := Prod.mk.inj hr
   by_cases h0 : l1.length = 0
   ·exact img_5e k a0_0 a0_1 a0_2 a0_3 A0_4 c0_4 l0_4 A0_5 c0_5 l0_5 A1 c1 l1 w hEV hr0_4 hc0_4 hr0_5 hc0_5 hr1 hc1 hc hm h0 e (by omega) o ho
   ·exact img_5l k a0_0 a0_1 a0_2 a0_3 A0_4 c0_4 l0_4 A0_5 c0_5 l0_5 A1 c1 l1 w hEV hr0_4 hc0_4 hr0_5 hc0_5 hr1 hc1 hc hm (by omega) (fun h => hge ⟨by omega, h⟩) e (by omega) o ho
  ·rw [if_pos e] at h
   by_cases h5 : l0_5.length = 0
   ·rw [if_pos h5] at h; cases h
   rw [if_neg h5] at h
   obtain ⟨a, ha, h⟩ := Option.bind_eq_some_iff.mp h
   obtain ⟨l, hl, h⟩ := Option.bind_eq_some_iff.mp h
   obtain ⟨o, ho, h⟩ := Option.bind_eq_some_iff.mp h
   have hr := Option.some.inj h
   obtain ⟨rfl, rfl⟩ := Prod.mk.inj hr
   by_cases h0 : l1.length = 0
   ·exact img_6e k a0_0 a0_1 a0_2 a0_3 A0_4 c0_4 l0_4 A0_5 c0_5 l0_5 A1 c1 l1 w hEV hr0_4 hc0_4 hr0_5 hc0_5 hr1 hc1 hc hm h0 e (by omega) (by omega) a l ha hl o ho
   ·exact img_6l k a0_0 a0_1 a0_2 a0_3 A0_4 c0_4 l0_4 A0_5 c0_5 l0_5 A1 c1 l1 w hEV hr0_4 hc0_4 hr0_5 hc0_5 hr1 hc1 hc hm (by omega) (fun h => hge ⟨by omega, h⟩) e (by omega) (by omega) a l ha hl o ho
end Go.Proofs.YtgbmlkmkfigolaaDoor.P
namespace Go.Proofs.YtgbmlkmkfigolaaDoor.P
open Go.RowKit Go.Proofs.YtgbmlkmkfigolaaDoorW.PrintWords Go.Proofs.YtgbmlkmkfigolaaDoorW.PrintLast Go.Proofs.YtgbmlkmkfigolaaDoorW.PrintMore
attribute [local go_sem] max2_int min2_int max_two min_two max_three min_three max_four min_four   -- for this text's walks alone
set_option linter.unusedVariables false
set_option linter.unusedSimpArgs false

/-! ### greenwoodref01_Same: function 16 -/
def greenwoodref01_Same.l0 : Nat → List Int → List Int → Int → Option (Bool)
 | 0, _, _, _ => none
 | k + 1, x0, x1, x5 => if x5 < (x0.length : Int) then (if 0 ≤ x5 then (if x5 < (x1.length : Int) then (if (rd x0 x5) = (rd x1 x5) then (greenwoodref01_Same.l0 k x0 x1 (wrap64 (x5 + 1))) else (some false)) else (none)) else (none)) else (some true)
def greenwoodref01_Same.f (k : Nat) (l0 : List Int) (l1 : List Int) : Option (Bool) := if (l0.length : Int) = (l1.length : Int) then (greenwoodref01_Same.l0 k l0 l1 0) else (some false)
set_option maxHeartbeats 8000000 in
set_option maxRecDepth 100000 in
theorem greenwoodref01_Same.calls (k : Nat) (A0 : Option Addr) (c0 : Nat) (l0 : List Int) (A1 : Option Addr) (c1 : Nat) (l1 : List Int) (r : Bool) (w : World) (hr0 : Kd.C (Kd.int .i64) w A0 l0.length l0) (hc0 : l0.length ≤ c0) (hr1 : Kd.C (Kd.int .i64) w A1 l1.length l1) (hc1 : l1.length ≤ c1) (h : greenwoodref01_Same.f k l0 l1 = some r) :
 Calls Tryd.prog 16 #[.slice A0 l0.length c0, .slice A1 l1.length c1] w fun e w' => e = .returned (.bool r) ∧ Drawn0 w w' := by
 have HR0 := Aside0.mk hr0
 have HC0 := Aside0.mk hc0
 clear hr0 hc0
 have HR1 := Aside0.mk hr1
 have HC1 := Aside0.mk hc1
 clear hr1 hc1
 have H : (if (l0.length : Int) = (l1.length : Int) then (greenwoodref01_Same.l0 k l0 l1 0) else (some false)) = some r := h
 clear h
 by_cases c3 : (l0.length : Int) = (l1.length : Int)
 ·rw [if_pos c3] at H
  have c3b0 : ((l0.length : Int) == (l1.length : Int)) = true := beq_iff_eq.mpr c3
  have c3b1 : ((l0.length : Int) != (l1.length : Int)) = false := bne_eq_false_iff_eq.mpr c3
  have c3b2 : (l0.length == l1.length) = true := by first | simpa using c3 | (simp at c3 ⊢; omega)
  clear c3
  have H' := Aside0.mk H
  clear H
  go_enter Tryd.func16, Tryd.ntmps16
  go_wp2
  repeat (go_quiet (fail); try go_wp2)
  go_loopg [5] k (fun kq v5 w' => ∃ (x5_1 : Int), v5 = .int .i64 x5_1 ∧ Aside0 (greenwoodref01_Same.l0 kq l0 l1 x5_1 = some r) ∧ Aside0 (kq ≤ k) ∧ Drawn0 w w')
  case atStart => exact ⟨(0), (by first | rfl | (simp; done) | (simp [*]; done)), H', ⟨Nat.le_refl _⟩, by repeat (first | exact Drawn0.refl _ | apply Drawn0.step)⟩
  case round =>
   clear H'
   try clear c1
   try clear p2
   try clear c3
   try clear c3b0
   try clear c3b1
   try clear c3b2
   obtain ⟨x5_1, rfl, HA, HK1, ⟨m1, rfl⟩⟩ := hrel
   cases gk with
   | zero => exact absurd HA.out (by simp [greenwoodref01_Same.l0])
   | succ k1 =>
    have H := HA.out
    clear HA
    simp only [greenwoodref01_Same.l0] at H
    by_cases c4 : x5_1 < (l0.length : Int)
    ·rw [if_pos c4] at H
     have c4b0 : decide (x5_1 < (l0.length : Int)) = true := decide_eq_true c4
     clear c4
     by_cases c5 : 0 ≤ x5_1
     ·rw [if_pos c5] at H
      have c5b0 : decide (0 ≤ x5_1) = true := decide_eq_true c5
      clear c5
      by_cases c6 : x5_1 < (l1.length : Int)
      ·rw [if_pos c6] at H
       have c6b0 : decide (x5_1 < (l1.length : Int)) = true := decide_eq_true c6
       clear c6
       by_cases c7 : (rd l0 x5_1) = (rd l1 x5_1)
       ·rw [if_pos c7] at H
        have c7b0 : ((rd l0 x5_1) == (rd l1 x5_1)) = true := beq_iff_eq.mpr c7
        have c7b1 : ((rd l0 x5_1) != (rd l1 x5_1)) = false := bne_eq_false_iff_eq.mpr c7
        clear c7
        have H' := Aside0.mk H
        clear H
        have p193 : 0 ≤ (x5_1 : Int) := of_decide_eq_true (by first | (with_reducible assumption) | assumption)
        have q193 : x5_1 < (l0.length : Int) := of_decide_eq_true (by first | (with_reducible assumption) | assumption)
        obtain ⟨ad193, e193, hx193_0⟩ := Kd.at_int HR0.out x5_1 p193 q193
        cases e193
        replace p193 := eq_true p193
        replace q193 := eq_true q193
        have p194 : 0 ≤ (x5_1 : Int) := of_decide_eq_true (by first | (with_reducible assumption) | assumption)
        have q194 : x5_1 < (l1.length : Int) := of_decide_eq_true (by first | (with_reducible assumption) | assumption)
        obtain ⟨ad194, e194, hx194_0⟩ := Kd.at_int HR1.out x5_1 p194 q194
        cases e194
        replace p194 := eq_true p194
        replace q194 := eq_true q194
        go_wp2
        repeat (go_quiet (fail); try go_wp2)
        go_roundg k1
        case measure => have := HK1.out; omega
        case rel => exact ⟨(wrap64 (x5_1 + 1)), (by first | rfl | (simp; done) | (simp [*]; done)), H', ⟨by have := HK1.out; omega⟩, by repeat (first | exact Drawn0.refl _ | apply Drawn0.step)⟩
       ·rw [if_neg c7] at H
        have c7b0 : ((rd l0 x5_1) == (rd l1 x5_1)) = false := beq_eq_false_iff_ne.mpr c7
        have c7b1 : ((rd l0 x5_1) != (rd l1 x5_1)) = true := bne_iff_ne.mpr c7
        obtain rfl := Option.some.inj H
        have p193 : 0 ≤ (x5_1 : Int) := of_decide_eq_true (by first | (with_reducible assumption) | assumption)
        have q193 : x5_1 < (l0.length : Int) := of_decide_eq_true (by first | (with_reducible assumption) | assumption)
        obtain ⟨ad193, e193, hx193_0⟩ := Kd.at_int HR0.out x5_1 p193 q193
        cases e193
        replace p193 := eq_true p193
        replace q193 := eq_true q193
        have p194 : 0 ≤ (x5_1 : Int) := of_decide_eq_true (by first | (with_reducible assumption) | assumption)
        have q194 : x5_1 < (l1.length : Int) := of_decide_eq_true (by first | (with_reducible assumption) | assumption)
        obtain ⟨ad194, e194, hx194_0⟩ := Kd.at_int HR1.out x5_1 p194 q194
        cases e194
        replace p194 := eq_true p194
        replace q194 := eq_true q194
        go_wp2
        repeat (go_quiet (fail); try go_wp2)
        go_ret
        exact ⟨by first | rfl | (simp; done) | (simp [*]; done), by repeat (first | exact Drawn0.refl _ | apply Drawn0.step)⟩
      ·rw [if_neg c6] at H
       exact absurd H (by simp)
     ·rw [if_neg c5] at H
      exact absurd H (by simp)
    ·rw [if_neg c4] at H
     have c4b0 : decide (x5_1 < (l0.length : Int)) = false := decide_eq_false c4
     clear c4
     obtain rfl := Option.some.inj H
     go_wp2
     repeat (go_quiet (fail); try go_wp2)
     go_ret
     exact ⟨by first | rfl | (simp; done) | (simp [*]; done), by repeat (first | exact Drawn0.refl _ | apply Drawn0.step)⟩
 ·rw [if_neg c3] at H
  have c3b0 : ((l0.length : Int) == (l1.length : Int)) = false := beq_eq_false_iff_ne.mpr c3
  have c3b1 : ((l0.length : Int) != (l1.length : Int)) = true := bne_iff_ne.mpr c3
  have c3b2 : (l0.length == l1.length) = false := by first | simpa using c3 | (simp at c3 ⊢; omega)
  obtain rfl := Option.some.inj H
  go_enter Tryd.func16, Tryd.ntmps16
  go_wp2
  repeat (go_quiet (fail); try go_wp2)
  go_ret
  exact ⟨by first | rfl | (simp; done) | (simp [*]; done), by repeat (first | exact Drawn0.refl _ | apply Drawn0.step)⟩

/-! ### greenwoodlaw09_fixed: function 9 -/
end Go.Proofs.YtgbmlkmkfigolaaDoor.P
/- layer 9's fixed calls: their values. -/
namespace Go.Proofs.YtgbmlkmkfigolaaDoor.P
open Go.RowKit Go.Proofs.YtgbmlkmkfigolaaDoorW.PrintWords Go.Proofs.YtgbmlkmkfigolaaDoorW.PrintLast Go.Proofs.YtgbmlkmkfigolaaDoorW.PrintMore
set_option linter.unusedVariables false
set_option linter.unusedSimpArgs false

def mU : Mtr := ⟨0, 3, 2, 0, [], []⟩
def mD : Nat → Mtr
 | 0 => mU
 | j + 1 => ⟨8, 3, 0, 0, [], [mD j]⟩
theorem v_img1 : ∃ k, matroid_Image.f k 5 2 0 0 [[0, 2]] [mU] [1] = some ([2], true) := ⟨50, by decide +kernel⟩
theorem v_img2 : ∃ k, matroid_Image.f k 6 2 0 0 [[1]] [mU] [0, 1] = some ([0, 2], true) := ⟨50, by decide +kernel⟩
theorem v_img3 : ∃ k, matroid_Image.f k 0 3 2 0 [] [] [] = some ([], false) := ⟨50, by decide +kernel⟩
theorem v_chk1 : matroid_Check.f 0 3 2 0 [] [] = some 0 := by decide +kernel
theorem v_chk2 : matroid_Check.f 5 2 0 0 [[0, 2]] [mU] = some 0 := by decide +kernel
theorem v_chk3 : matroid_Check.f 8 3 0 0 [] [mD 3] = some 91 := by decide +kernel
theorem v_deep1 : ∃ k, matroid_Deep.f k 8 3 0 0 [] [mD 3] = some 5 := ⟨50, by decide +kernel⟩
theorem v_deep2 : ∃ k, matroid_Deep.f k 5 2 0 0 [[0, 2]] [mU] = some 2 := ⟨50, by decide +kernel⟩
theorem v_chk4 : matroid_Check.f 0 1 2 0 [] [] = some 90 := by decide +kernel
theorem v_chk5 : matroid_Check.f 10 0 0 0 [] [] = some 90 := by decide +kernel
theorem v_same1 : ∃ k, greenwoodref01_Same.f k [2] [2] = some true := ⟨50, by decide +kernel⟩
theorem v_same2 : ∃ k, greenwoodref01_Same.f k [0, 2] [0, 2] = some true := ⟨50, by decide +kernel⟩
end Go.Proofs.YtgbmlkmkfigolaaDoor.P
/- layer 9's fixed calls, walked. -/
namespace Go.Proofs.YtgbmlkmkfigolaaDoor.P
open Go.RowKit Go.Proofs.YtgbmlkmkfigolaaDoorW.PrintWords Go.Proofs.YtgbmlkmkfigolaaDoorW.PrintLast Go.Proofs.YtgbmlkmkfigolaaDoorW.PrintMore
set_option linter.unusedVariables false
set_option linter.unusedSimpArgs false

def greenwoodlaw09_fixed.f : Option Bool := some true
theorem unif_c (w : World) : Calls Tryd.prog 20 #[] w fun e w' => e = .returned (.agg #[.int .i64 0, .int .i64 3, .int .i64 2, .int .i64 0, .slice none 0 0, .slice none 0 0]) ∧ Below w.heap.size w w' := by
 go_enter Tryd.func20, Tryd.ntmps20
 go_wp2
 refine bodyPost_ret (results_cell_row rfl _ _ w.heap.size 25 #[.int .i64 0, .int .i64 3, .int .i64 2, .int .i64 0, .slice none 0 0, .slice none 0 0] (0, 0) _ rfl Array.getElem?_push_size Tryd.underlying25 rfl (by kernel_rfl)) rfl ?_
 ·exact ⟨rfl, (Below.refl _ _).alloc (Nat.le_refl _) _⟩
/-- rows of one element, out of their cells -/
theorem C_one {α : Type} {d : Kd α} {W : World} {b : Nat} {x : α} {v : Value} (hs : d.sz = 1) (hc : W.cell? ⟨b, 0, none⟩ = some v) (hk : d.K W x [v]) : Kd.C d W (some ⟨b, 0, none⟩) 1 [x] := by
 refine ⟨rfl, by omega, fun _ => ⟨_, rfl, fun j p hj => ?_⟩⟩
 cases j with
 | zero =>
  obtain rfl : x = p := by simpa using hj
  refine ⟨[v], by rw [hs]; rfl, hk, fun i u hu => ?_⟩
  cases i with
  | zero =>
   obtain rfl : v = u := by simpa using hu
   simpa [Addr.add] using hc
  | succ i => simp at hu
 | succ j => simp at hj
theorem C_two {W : World} {b : Nat} {x y : Int} (h0 : W.cell? ⟨b, 0, none⟩ = some (.int .i64 x)) (h1 : W.cell? ⟨b, 1, none⟩ = some (.int .i64 y)) : Kd.C (Kd.int .i64) W (some ⟨b, 0, none⟩) 2 [x, y] := by
 refine ⟨rfl, by omega, fun _ => ⟨_, rfl, fun j p hj => ?_⟩⟩
 have hz : (Kd.int .i64).sz = 1 := rfl
 match j, hj with
 | 0, hj =>
  obtain rfl : x = p := by simpa using hj
  refine ⟨[.int .i64 x], rfl, rfl, fun i u hu => ?_⟩
  cases i with
  | zero =>
   obtain rfl : Value.int .i64 x = u := by simpa using hu
   simpa [Addr.add] using h0
  | succ i => simp at hu
 | 1, hj =>
  obtain rfl : y = p := by simpa using hj
  refine ⟨[.int .i64 y], rfl, rfl, fun i u hu => ?_⟩
  cases i with
  | zero =>
   obtain rfl : Value.int .i64 y = u := by simpa using hu
   simpa [Addr.add, hz] using h1
  | succ i => simp at hu
 | j + 2, hj => simp at hj
theorem C_mat {W : World} {b : Nat} {m : Mtr} {A4 : Option Addr} {c4 : Nat} {A5 : Option Addr} {c5 : Nat} (hb : W.heap[b]? = some (.cells #[.int .i64 m.f0, .int .i64 m.f1, .int .i64 m.f2, .int .i64 m.f3, .slice A4 m.f4.length c4, .slice A5 m.f5.length c5] 25 (0, 0)))
 (l4 : m.f4.length ≤ c4) (g4 : Kd.C (Kd.slice 3 (Kd.int .i64)) W A4 m.f4.length m.f4) (l5 : m.f5.length ≤ c5) (g5 : k25.C W A5 m.f5.length m.f5) : k25.C W (some ⟨b, 0, none⟩) 1 [m] := by
 refine ⟨rfl, by omega, fun _ => ⟨_, rfl, fun j p hj => ?_⟩⟩
 cases j with
 | zero =>
  obtain rfl : m = p := by simpa using hj
  refine ⟨_, rfl, k25_mk W m l4 g4 l5 g5, fun i u hu => ?_⟩
  have e : (⟨b, 0, none⟩ : Addr).add (0 * k25.sz + i) = ⟨b, i, none⟩ := by
   simp [Addr.add]
   intro h; exact h.symm
  rw [e]
  unfold World.cell?
  simp only [hb]
  simpa using hu
 | succ j => simp at hj
theorem al2 (W : World) (o0 o1 : Obj) : ((W.alloc o0).alloc o1).heap[W.heap.size]? = some o0 ∧ ((W.alloc o0).alloc o1).heap[W.heap.size + 1]? = some o1 ∧ Below W.heap.size W ((W.alloc o0).alloc o1) ∧ ((W.alloc o0).alloc o1).heap.size = W.heap.size + 2 := by
 refine ⟨?_, ?_, ((Below.refl _ _).alloc (Nat.le_refl _) _).alloc (by rw [show (W.alloc o0).heap.size = W.heap.size + 1 from Array.size_push ..]; omega) _, ?_⟩
 ·show ((W.heap.push o0).push o1)[W.heap.size]? = some o0
  rw [Array.getElem?_push_lt (by simp)]
  simp
 ·show ((W.heap.push o0).push o1)[W.heap.size + 1]? = some o1
  rw [show W.heap.size + 1 = (W.heap.push o0).size from (Array.size_push ..).symm]
  exact Array.getElem?_push_size
 ·show ((W.heap.push o0).push o1).size = _
  simp
/-- a list of one list lies at b -/
def L1 (W : World) (b : Nat) (l : List (List Int)) : Prop := l.length = 1 ∧ Kd.C (Kd.slice 3 (Kd.int .i64)) W (some ⟨b, 0, none⟩) 1 l
theorem L1_two {W : World} {b0 b1 : Nat} {x y : Int} (h0 : W.heap[b0]? = some (.cells #[.int .i64 x, .int .i64 y] 3 (0, 0))) (h1 : W.heap[b1]? = some (.cells #[.slice (some ⟨b0, 0, none⟩) 2 2] 26 (0, 0))) : L1 W b1 [[x, y]] := by
 refine ⟨rfl, C_one rfl (v := .slice (some ⟨b0, 0, none⟩) 2 2) (by simp [World.cell?, h1]) ⟨some ⟨b0, 0, none⟩, 2, rfl, by simp, ?_⟩⟩
 exact C_two (by simp [World.cell?, h0]) (by simp [World.cell?, h0])
theorem L1_one {W : World} {b0 b1 : Nat} {x : Int} (h0 : W.heap[b0]? = some (.cells #[.int .i64 x] 3 (0, 0))) (h1 : W.heap[b1]? = some (.cells #[.slice (some ⟨b0, 0, none⟩) 1 1] 26 (0, 0))) : L1 W b1 [[x]] := by
 refine ⟨rfl, C_one rfl (v := .slice (some ⟨b0, 0, none⟩) 1 1) (by simp [World.cell?, h1]) ⟨some ⟨b0, 0, none⟩, 1, rfl, by simp, ?_⟩⟩
 exact C_one rfl (by simp [World.cell?, h0]) rfl
theorem C_U {W : World} {b : Nat} (h : W.heap[b]? = some (.cells #[.int .i64 0, .int .i64 3, .int .i64 2, .int .i64 0, .slice none 0 0, .slice none 0 0] 25 (0, 0))) : k25.C W (some ⟨b, 0, none⟩) 1 [mU] :=
 C_mat (m := mU) (A4 := none) (c4 := 0) (A5 := none) (c5 := 0) h (Nat.le_refl _) (Kd.C_nil _ _) (Nat.le_refl _) (Kd.C_nil _ _)
theorem L1.below {W W' : World} {b : Nat} {l : List (List Int)} (h : L1 W b l) (hb : Below W.heap.size W W') : L1 W' b l := ⟨h.1, Kd.C_below h.2 hb⟩
theorem set6 {W : World} {G : Nat} {v0 v1 v2 v3 v4 v5 : Value} {t : TypeId} (h : W.heap[G]? = some (.cells #[v0, v1, v2, v3, v4, v5] t (0, 0))) (u0 u1 u2 u3 u4 u5 : Value) :
 ((((((W.setCell ⟨G, 0, none⟩ u0).setCell ⟨G, 1, none⟩ u1).setCell ⟨G, 2, none⟩ u2).setCell ⟨G, 3, none⟩ u3).setCell ⟨G, 4, none⟩ u4).setCell ⟨G, 5, none⟩ u5).heap[G]? = some (.cells #[u0, u1, u2, u3, u4, u5] t (0, 0)) ∧
 (∀ k, k ≠ G → ((((((W.setCell ⟨G, 0, none⟩ u0).setCell ⟨G, 1, none⟩ u1).setCell ⟨G, 2, none⟩ u2).setCell ⟨G, 3, none⟩ u3).setCell ⟨G, 4, none⟩ u4).setCell ⟨G, 5, none⟩ u5).heap[k]? = W.heap[k]?) ∧
 ((((((W.setCell ⟨G, 0, none⟩ u0).setCell ⟨G, 1, none⟩ u1).setCell ⟨G, 2, none⟩ u2).setCell ⟨G, 3, none⟩ u3).setCell ⟨G, 4, none⟩ u4).setCell ⟨G, 5, none⟩ u5).heap.size = W.heap.size ∧
 (∀ {w : World}, Below G w W → Below G w ((((((W.setCell ⟨G, 0, none⟩ u0).setCell ⟨G, 1, none⟩ u1).setCell ⟨G, 2, none⟩ u2).setCell ⟨G, 3, none⟩ u3).setCell ⟨G, 4, none⟩ u4).setCell ⟨G, 5, none⟩ u5)) := by
 refine ⟨?_, fun k hk => ?_, ?_, fun hb => ?_⟩
 ·simp [World.setCell, Array.getElem?_modify, h]
 ·have e : ∀ (V : World) (j : Nat) (u : Value), (V.setCell ⟨G, j, none⟩ u).heap[k]? = V.heap[k]? := fun V j u => Below.heap_setCell _ _ _ _ hk
  rw [e, e, e, e, e, e]
 ·simp [World.setCell]
 ·exact (((((hb.setCell (p := ⟨G, 0, none⟩) (Nat.le_refl _) _).setCell (p := ⟨G, 1, none⟩) (Nat.le_refl _) _).setCell (p := ⟨G, 2, none⟩) (Nat.le_refl _) _).setCell (p := ⟨G, 3, none⟩) (Nat.le_refl _) _).setCell (p := ⟨G, 4, none⟩) (Nat.le_refl _) _).setCell (p := ⟨G, 5, none⟩) (Nat.le_refl _) _
/-- the nested dual lies at G; what is within lies further on -/
def HD (W3 : World) (G j : Nat) (W : World) : Prop := Below G W3 W ∧ ∃ A5 c5, W.heap[G]? = some (.cells #[.int .i64 (mD j).f0, .int .i64 (mD j).f1, .int .i64 (mD j).f2, .int .i64 (mD j).f3, .slice none 0 0, .slice A5 (mD j).f5.length c5] 25 (0, 0)) ∧ (mD j).f4 = [] ∧ (mD j).f5.length ≤ c5 ∧ (∀ W' : World, (∀ k, G < k → k < W.heap.size → W'.heap[k]? = W.heap[k]?) → k25.C W' A5 (mD j).f5.length (mD j).f5)
theorem HD.next {W3 wr : World} {G j : Nat} {m0 m1 m2 m3 : Int} {m5 : List Mtr} {A5 : Option Addr} {c5 : Nat} (hm : mD j = ⟨m0, m1, m2, m3, [], m5⟩) (hG : Below G W3 wr) (hb : wr.heap[G]? = some (.cells #[.int .i64 m0, .int .i64 m1, .int .i64 m2, .int .i64 m3, .slice none 0 0, .slice A5 m5.length c5] 25 (0, 0))) (hl5 : m5.length ≤ c5) (hF : ∀ W' : World, (∀ k, G < k → k < wr.heap.size → W'.heap[k]? = wr.heap[k]?) → k25.C W' A5 m5.length m5) :
 HD W3 G (j + 1) ((((((((wr.setCell ⟨G, 0, none⟩ (.int .i64 8)).setCell ⟨G, 1, none⟩ (.int .i64 3)).setCell ⟨G, 2, none⟩ (.int .i64 0)).setCell ⟨G, 3, none⟩ (.int .i64 0)).setCell ⟨G, 4, none⟩ (.slice none 0 0)).setCell ⟨G, 5, none⟩ (.slice (some ⟨wr.heap.size, 0, none⟩) 1 1)).alloc (.cells #[.int .i64 m0, .int .i64 m1, .int .i64 m2, .int .i64 m3, .slice none 0 0, .slice A5 m5.length c5] 25))) := by
 have hlt := box_lt hb
 obtain ⟨s1, s2, s3, s4⟩ := set6 hb (.int .i64 8) (.int .i64 3) (.int .i64 0) (.int .i64 0) (.slice none 0 0) (.slice (some ⟨wr.heap.size, 0, none⟩) 1 1)
 generalize ((((((wr.setCell ⟨G, 0, none⟩ (.int .i64 8)).setCell ⟨G, 1, none⟩ (.int .i64 3)).setCell ⟨G, 2, none⟩ (.int .i64 0)).setCell ⟨G, 3, none⟩ (.int .i64 0)).setCell ⟨G, 4, none⟩ (.slice none 0 0)).setCell ⟨G, 5, none⟩ (.slice (some ⟨wr.heap.size, 0, none⟩) 1 1)) = W6 at *
 have s4' := s4 hG
 have hbl : Below W6.heap.size W6 (W6.alloc (.cells #[.int .i64 m0, .int .i64 m1, .int .i64 m2, .int .i64 m3, .slice none 0 0, .slice A5 m5.length c5] 25)) := (Below.refl _ _).alloc (Nat.le_refl _) _
 have hnew : (W6.alloc (.cells #[.int .i64 m0, .int .i64 m1, .int .i64 m2, .int .i64 m3, .slice none 0 0, .slice A5 m5.length c5] 25)).heap[wr.heap.size]? = some (.cells #[.int .i64 m0, .int .i64 m1, .int .i64 m2, .int .i64 m3, .slice none 0 0, .slice A5 m5.length c5] 25 (0, 0)) := by rw [← s3]; exact Array.getElem?_push_size
 have hsz : (W6.alloc (.cells #[.int .i64 m0, .int .i64 m1, .int .i64 m2, .int .i64 m3, .slice none 0 0, .slice A5 m5.length c5] 25)).heap.size = wr.heap.size + 1 := by rw [← s3]; exact Array.size_push ..
 refine ⟨s4'.trans (hbl.mono (by omega)), some ⟨wr.heap.size, 0, none⟩, 1, (hbl.block G (by omega)).trans s1, rfl, Nat.le_refl _, fun W' hW' => ?_⟩
 show k25.C W' (some ⟨wr.heap.size, 0, none⟩) 1 [mD j]
 rw [hm]
 refine C_mat (A4 := none) (c4 := 0) ((hW' _ hlt (by omega)).trans hnew) (Nat.le_refl _) (Kd.C_nil _ _) hl5 (hF W' (fun k h1 h2 => ?_))
 rw [hW' k h1 (by omega), hbl.block k (by omega)]
 exact s2 k (by omega)
/-- what lies there behind the first two values -/
def St2 (s0 s1 : Nat) (W : World) : Prop := L1 W (s0 + 1) [[0, 2]] ∧ k25.C W (some ⟨s1, 0, none⟩) 1 [mU] ∧ W.heap[s1 + 1]? = some (.cells #[.int .i64 5, .int .i64 2, .int .i64 0, .int .i64 0, .slice (some ⟨s0 + 1, 0, none⟩) 1 1, .slice (some ⟨s1, 0, none⟩) 1 1] 25 (0, 0)) ∧ L1 W (s1 + 1 + 1 + 1) [[1]]
theorem St2.below {s0 s1 : Nat} {W W' : World} (h : St2 s0 s1 W) (hb : Below W.heap.size W W') : St2 s0 s1 W' :=
 ⟨h.1.below hb, Kd.C_below h.2.1 hb, (hb.block _ (box_lt h.2.2.1)).trans h.2.2.1, h.2.2.2.below hb⟩
def St3 (s0 s1 s2 : Nat) (W : World) : Prop := St2 s0 s1 W ∧ k25.C W (some ⟨s2, 0, none⟩) 1 [mU] ∧ W.heap[s2 + 1]? = some (.cells #[.int .i64 6, .int .i64 2, .int .i64 0, .int .i64 0, .slice (some ⟨s1 + 1 + 1 + 1, 0, none⟩) 1 1, .slice (some ⟨s2, 0, none⟩) 1 1] 25 (0, 0))
theorem St3.below {s0 s1 s2 : Nat} {W W' : World} (h : St3 s0 s1 s2 W) (hb : Below W.heap.size W W') : St3 s0 s1 s2 W' :=
 ⟨h.1.below hb, Kd.C_below h.2.1 hb, (hb.block _ (box_lt h.2.2)).trans h.2.2⟩
theorem St3.rbox {s0 s1 s2 : Nat} {W : World} (h : St3 s0 s1 s2 W) : W.heap[s1 + 1]? = some (.cells #[.int .i64 5, .int .i64 2, .int .i64 0, .int .i64 0, .slice (some ⟨s0 + 1, 0, none⟩) 1 1, .slice (some ⟨s1, 0, none⟩) 1 1] 25 (0, 0)) := h.1.2.2.1
theorem St3.cbox {s0 s1 s2 : Nat} {W : World} (h : St3 s0 s1 s2 W) : W.heap[s2 + 1]? = some (.cells #[.int .i64 6, .int .i64 2, .int .i64 0, .int .i64 0, .slice (some ⟨s1 + 1 + 1 + 1, 0, none⟩) 1 1, .slice (some ⟨s2, 0, none⟩) 1 1] 25 (0, 0)) := h.2.2
/-- all that the calls behind the loop need, at a world -/
structure Fin9 (w : World) (s0 s1 s2 G : Nat) (A5 : Option Addr) (c5 : Nat) (W : World) : Prop where
 bel : Below w.heap.size w W
 ev : EV W
 st : St3 s0 s1 s2 W
 d : W.heap[G]? = some (.cells #[.int .i64 8, .int .i64 3, .int .i64 0, .int .i64 0, .slice none 0 0, .slice A5 1 c5] 25 (0, 0))
 dl : 1 ≤ c5
 dc : k25.C W A5 1 [mD 3]
theorem Fin9.below {w W W' : World} {s0 s1 s2 G c5 : Nat} {A5 : Option Addr} (h : Fin9 w s0 s1 s2 G A5 c5 W) (hb : Below W.heap.size W W') : Fin9 w s0 s1 s2 G A5 c5 W' :=
 ⟨h.bel.trans (hb.mono h.bel.size), h.ev.below hb h.ev.pos, h.st.below hb, (hb.block _ (box_lt h.d)).trans h.d, h.dl, Kd.C_below h.dc hb⟩
theorem box6 {W : World} {b : Nat} {v0 v1 v2 v3 v4 v5 : Value} {t : TypeId} (h : W.heap[b]? = some (.cells #[v0, v1, v2, v3, v4, v5] t (0, 0))) : W.cell? ⟨b, 0, none⟩ = some v0 ∧ W.cell? ⟨b, 1, none⟩ = some v1 ∧ W.cell? ⟨b, 2, none⟩ = some v2 ∧ W.cell? ⟨b, 3, none⟩ = some v3 ∧ W.cell? ⟨b, 4, none⟩ = some v4 ∧ W.cell? ⟨b, 5, none⟩ = some v5 := by
 refine ⟨?_, ?_, ?_, ?_, ?_, ?_⟩ <;> simp [World.cell?, h]
/-- the call of Image at the first value -/
theorem call1 {w W : World} {s0 s1 s2 G c5 : Nat} {A5 : Option Addr} (h : Fin9 w s0 s1 s2 G A5 c5 W) : Calls Tryd.prog 10 #[.agg #[.int .i64 5, .int .i64 2, .int .i64 0, .int .i64 0, .slice (some ⟨s0 + 1, 0, none⟩) 1 1, .slice (some ⟨s1, 0, none⟩) 1 1], .slice (some ⟨W.heap.size, 0, none⟩) 1 1] (W.alloc (.cells #[.int .i64 1] 3)) fun e w' => ∃ A c, e = .returned (.tuple #[.slice A 1 c, .bool true]) ∧ Kd.C (Kd.int .i64) w' A 1 [2] ∧ 1 ≤ c ∧ Below W.heap.size W w' := by
 have hb : Below W.heap.size W (W.alloc (.cells #[.int .i64 1] 3)) := (Below.refl _ _).alloc (Nat.le_refl _) _
 have h' := h.below hb
 obtain ⟨k, hk⟩ := v_img1
 have hl : Kd.C (Kd.int .i64) (W.alloc (.cells #[.int .i64 1] 3)) (some ⟨W.heap.size, 0, none⟩) 1 [1] := C_one rfl (v := .int .i64 1) (by
  have : (W.alloc (.cells #[.int .i64 1] 3)).heap[W.heap.size]? = some (.cells #[.int .i64 1] 3 (0, 0)) := Array.getElem?_push_size
  simp only [World.cell?, this]
  rfl) rfl
 refine (matroid_Image.calls k 5 2 0 0 (some ⟨s0 + 1, 0, none⟩) 1 [[0, 2]] (some ⟨s1, 0, none⟩) 1 [mU] (some ⟨W.heap.size, 0, none⟩) 1 [1] [2] true _ h'.ev h'.st.1.1.2 (Nat.le_refl _) h'.st.1.2.1 (Nat.le_refl _) hl (Nat.le_refl _) hk).mono ?_
 rintro e w' ⟨v, rfl, hR, hb2⟩
 obtain ⟨A, c, rfl⟩ := Kd.R_slice hR
 exact ⟨A, c, rfl, (Kd.R_reads' hR).2.2, (Kd.R_reads' hR).2.1, hb.trans (hb2.mono hb.size)⟩
theorem call2 {w W : World} {s0 s1 s2 G c5 : Nat} {A5 : Option Addr} (h : Fin9 w s0 s1 s2 G A5 c5 W) : Calls Tryd.prog 10 #[.agg #[.int .i64 6, .int .i64 2, .int .i64 0, .int .i64 0, .slice (some ⟨s1 + 1 + 1 + 1, 0, none⟩) 1 1, .slice (some ⟨s2, 0, none⟩) 1 1], .slice (some ⟨W.heap.size, 0, none⟩) 2 2] (W.alloc (.cells #[.int .i64 0, .int .i64 1] 3)) fun e w' => ∃ A c, e = .returned (.tuple #[.slice A 2 c, .bool true]) ∧ Kd.C (Kd.int .i64) w' A 2 [0, 2] ∧ 2 ≤ c ∧ Below W.heap.size W w' := by
 have hb : Below W.heap.size W (W.alloc (.cells #[.int .i64 0, .int .i64 1] 3)) := (Below.refl _ _).alloc (Nat.le_refl _) _
 have h' := h.below hb
 obtain ⟨k, hk⟩ := v_img2
 have hnew : (W.alloc (.cells #[.int .i64 0, .int .i64 1] 3)).heap[W.heap.size]? = some (.cells #[.int .i64 0, .int .i64 1] 3 (0, 0)) := Array.getElem?_push_size
 have hl : Kd.C (Kd.int .i64) (W.alloc (.cells #[.int .i64 0, .int .i64 1] 3)) (some ⟨W.heap.size, 0, none⟩) 2 [0, 1] := C_two (by simp only [World.cell?, hnew]; rfl) (by simp only [World.cell?, hnew]; rfl)
 refine (matroid_Image.calls k 6 2 0 0 (some ⟨s1 + 1 + 1 + 1, 0, none⟩) 1 [[1]] (some ⟨s2, 0, none⟩) 1 [mU] (some ⟨W.heap.size, 0, none⟩) 2 [0, 1] [0, 2] true _ h'.ev h'.st.1.2.2.2.2 (Nat.le_refl _) h'.st.2.1 (Nat.le_refl _) hl (Nat.le_refl _) hk).mono ?_
 rintro e w' ⟨v, rfl, hR, hb2⟩
 obtain ⟨A, c, rfl⟩ := Kd.R_slice hR
 exact ⟨A, c, rfl, (Kd.R_reads' hR).2.2, (Kd.R_reads' hR).2.1, hb.trans (hb2.mono hb.size)⟩
theorem call4 {w W : World} {s0 s1 s2 G c5 : Nat} {A5 : Option Addr} (h : Fin9 w s0 s1 s2 G A5 c5 W) : Calls Tryd.prog 10 #[.agg #[.int .i64 0, .int .i64 3, .int .i64 2, .int .i64 0, .slice none 0 0, .slice none 0 0], .slice none 0 0] W fun e w' => ∃ A c, e = .returned (.tuple #[.slice A 0 c, .bool false]) ∧ Below W.heap.size W w' := by
 obtain ⟨k, hk⟩ := v_img3
 refine (matroid_Image.calls k 0 3 2 0 none 0 [] none 0 [] none 0 [] [] false _ h.ev (Kd.C_nil _ _) (Nat.le_refl _) (Kd.C_nil _ _) (Nat.le_refl _) (Kd.C_nil _ _) (Nat.le_refl _) hk).mono ?_
 rintro e w' ⟨v, rfl, hR, hb2⟩
 obtain ⟨A, c, rfl⟩ := Kd.R_slice hR
 exact ⟨A, c, rfl, hb2⟩
theorem call6 {w W : World} {s0 s1 s2 G c5 : Nat} {A5 : Option Addr} (h : Fin9 w s0 s1 s2 G A5 c5 W) : Calls Tryd.prog 12 #[.agg #[.int .i64 0, .int .i64 3, .int .i64 2, .int .i64 0, .slice none 0 0, .slice none 0 0]] W fun e w' => e = .returned (.int .i64 0) ∧ Below W.heap.size W w' := matroid_Check.calls 0 3 2 0 none 0 [] none 0 [] 0 W h.ev (Kd.C_nil _ _) (Nat.le_refl _) (Kd.C_nil _ _) (Nat.le_refl _) v_chk1
theorem call7 {w W : World} {s0 s1 s2 G c5 : Nat} {A5 : Option Addr} (h : Fin9 w s0 s1 s2 G A5 c5 W) : Calls Tryd.prog 12 #[.agg #[.int .i64 5, .int .i64 2, .int .i64 0, .int .i64 0, .slice (some ⟨s0 + 1, 0, none⟩) 1 1, .slice (some ⟨s1, 0, none⟩) 1 1]] W fun e w' => e = .returned (.int .i64 0) ∧ Below W.heap.size W w' := matroid_Check.calls 5 2 0 0 (some ⟨s0 + 1, 0, none⟩) 1 [[0, 2]] (some ⟨s1, 0, none⟩) 1 [mU] 0 W h.ev h.st.1.1.2 (Nat.le_refl _) h.st.1.2.1 (Nat.le_refl _) v_chk2
theorem call8 {w W : World} {s0 s1 s2 G c5 : Nat} {A5 : Option Addr} (h : Fin9 w s0 s1 s2 G A5 c5 W) : Calls Tryd.prog 12 #[.agg #[.int .i64 8, .int .i64 3, .int .i64 0, .int .i64 0, .slice none 0 0, .slice A5 1 c5]] W fun e w' => e = .returned (.int .i64 91) ∧ Below W.heap.size W w' := matroid_Check.calls 8 3 0 0 none 0 [] A5 c5 [mD 3] 91 W h.ev (Kd.C_nil _ _) (Nat.le_refl _) h.dc h.dl v_chk3
theorem call9 {w W : World} {s0 s1 s2 G c5 : Nat} {A5 : Option Addr} (h : Fin9 w s0 s1 s2 G A5 c5 W) : Calls Tryd.prog 14 #[.agg #[.int .i64 8, .int .i64 3, .int .i64 0, .int .i64 0, .slice none 0 0, .slice A5 1 c5]] W fun e w' => e = .returned (.int .i64 5) ∧ Below W.heap.size W w' := by
 obtain ⟨k, hk⟩ := v_deep1
 exact matroid_Deep.calls k 8 3 0 0 none 0 [] A5 c5 [mD 3] 5 W (Kd.C_nil _ _) (Nat.le_refl _) h.dc h.dl hk
theorem call10 {w W : World} {s0 s1 s2 G c5 : Nat} {A5 : Option Addr} (h : Fin9 w s0 s1 s2 G A5 c5 W) : Calls Tryd.prog 14 #[.agg #[.int .i64 5, .int .i64 2, .int .i64 0, .int .i64 0, .slice (some ⟨s0 + 1, 0, none⟩) 1 1, .slice (some ⟨s1, 0, none⟩) 1 1]] W fun e w' => e = .returned (.int .i64 2) ∧ Below W.heap.size W w' := by
 obtain ⟨k, hk⟩ := v_deep2
 exact matroid_Deep.calls k 5 2 0 0 (some ⟨s0 + 1, 0, none⟩) 1 [[0, 2]] (some ⟨s1, 0, none⟩) 1 [mU] 2 W h.st.1.1.2 (Nat.le_refl _) h.st.1.2.1 (Nat.le_refl _) hk
theorem call11 {w W : World} {s0 s1 s2 G c5 : Nat} {A5 : Option Addr} (h : Fin9 w s0 s1 s2 G A5 c5 W) : Calls Tryd.prog 12 #[.agg #[.int .i64 0, .int .i64 1, .int .i64 2, .int .i64 0, .slice none 0 0, .slice none 0 0]] W fun e w' => e = .returned (.int .i64 90) ∧ Below W.heap.size W w' := matroid_Check.calls 0 1 2 0 none 0 [] none 0 [] 90 W h.ev (Kd.C_nil _ _) (Nat.le_refl _) (Kd.C_nil _ _) (Nat.le_refl _) v_chk4
theorem call12 {w W : World} {s0 s1 s2 G c5 : Nat} {A5 : Option Addr} (h : Fin9 w s0 s1 s2 G A5 c5 W) : Calls Tryd.prog 12 #[.agg #[.int .i64 10, .int .i64 0, .int .i64 0, .int .i64 0, .slice none 0 0, .slice none 0 0]] W fun e w' => e = .returned (.int .i64 90) ∧ Below W.heap.size W w' := matroid_Check.calls 10 0 0 0 none 0 [] none 0 [] 90 W h.ev (Kd.C_nil _ _) (Nat.le_refl _) (Kd.C_nil _ _) (Nat.le_refl _) v_chk5
theorem callS1 {W : World} {A : Option Addr} {c : Nat} (hC : Kd.C (Kd.int .i64) W A 1 [2]) (hc : 1 ≤ c) : Calls Tryd.prog 16 #[.slice A 1 c, .slice (some ⟨W.heap.size, 0, none⟩) 1 1] (W.alloc (.cells #[.int .i64 2] 3)) fun e w' => e = .returned (.bool true) ∧ Below W.heap.size W w' := by
 have hb : Below W.heap.size W (W.alloc (.cells #[.int .i64 2] 3)) := (Below.refl _ _).alloc (Nat.le_refl _) _
 obtain ⟨k, hk⟩ := v_same1
 have hnew : (W.alloc (.cells #[.int .i64 2] 3)).heap[W.heap.size]? = some (.cells #[.int .i64 2] 3 (0, 0)) := Array.getElem?_push_size
 have hl : Kd.C (Kd.int .i64) (W.alloc (.cells #[.int .i64 2] 3)) (some ⟨W.heap.size, 0, none⟩) 1 [2] := C_one rfl (v := .int .i64 2) (by simp only [World.cell?, hnew]; rfl) rfl
 refine (greenwoodref01_Same.calls k A c [2] (some ⟨W.heap.size, 0, none⟩) 1 [2] true _ (Kd.C_below hC hb) hc hl (Nat.le_refl _) hk).mono ?_
 rintro e w' ⟨rfl, ⟨q, rfl⟩⟩
 exact ⟨rfl, pw_below_drewN hb q⟩
theorem callS2 {W : World} {A : Option Addr} {c : Nat} (hC : Kd.C (Kd.int .i64) W A 2 [0, 2]) (hc : 2 ≤ c) : Calls Tryd.prog 16 #[.slice A 2 c, .slice (some ⟨W.heap.size, 0, none⟩) 2 2] (W.alloc (.cells #[.int .i64 0, .int .i64 2] 3)) fun e w' => e = .returned (.bool true) ∧ Below W.heap.size W w' := by
 have hb : Below W.heap.size W (W.alloc (.cells #[.int .i64 0, .int .i64 2] 3)) := (Below.refl _ _).alloc (Nat.le_refl _) _
 obtain ⟨k, hk⟩ := v_same2
 have hnew : (W.alloc (.cells #[.int .i64 0, .int .i64 2] 3)).heap[W.heap.size]? = some (.cells #[.int .i64 0, .int .i64 2] 3 (0, 0)) := Array.getElem?_push_size
 have hl : Kd.C (Kd.int .i64) (W.alloc (.cells #[.int .i64 0, .int .i64 2] 3)) (some ⟨W.heap.size, 0, none⟩) 2 [0, 2] := C_two (by simp only [World.cell?, hnew]; rfl) (by simp only [World.cell?, hnew]; rfl)
 refine (greenwoodref01_Same.calls k A c [0, 2] (some ⟨W.heap.size, 0, none⟩) 2 [0, 2] true _ (Kd.C_below hC hb) hc hl (Nat.le_refl _) hk).mono ?_
 rintro e w' ⟨rfl, ⟨q, rfl⟩⟩
 exact ⟨rfl, pw_below_drewN hb q⟩
set_option maxHeartbeats 4000000 in
set_option maxRecDepth 100000 in
theorem greenwoodlaw09_fixed.calls (r : Bool) (w : World) (hEV : EV w) (h : greenwoodlaw09_fixed.f = some r) :
 Calls Tryd.prog 9 #[] w fun e w' => e = .returned (.bool r) ∧ Below w.heap.size w w' := by
 obtain rfl := Option.some.inj h
 clear h
 have HEV := Aside0.mk hEV
 have HB := Aside0.mk (Below.refl w.heap.size w)
 clear hEV
 go_enter Tryd.func9, Tryd.ntmps9
 go_wp2_with (first
  | (go_at_call 20; (have z := F2.out); clear z; refine (unif_c _).mono ?_; rintro e w3 ⟨rfl, hb⟩; (have ha := al2 w2 (.cells #[.int .i64 0, .int .i64 3, .int .i64 2, .int .i64 0, .slice none 0 0, .slice none 0 0] 25) (.cells #[.int .i64 6, .int .i64 2, .int .i64 0, .int .i64 0, .slice (some ⟨w1.heap.size + 1 + 1 + 1, 0, none⟩) 1 1, .slice (some ⟨w2.heap.size, 0, none⟩) 1 1] 25)); (have hbb := ha.2.2.1.trans (hb.mono (by rw [ha.2.2.2]; omega))); (have g0 := (hb.block w2.heap.size (by rw [ha.2.2.2]; omega)).trans ha.1); (have g1 := (hb.block (w2.heap.size + 1) (by rw [ha.2.2.2]; omega)).trans ha.2.1); have F3 : Aside0 (Below w.heap.size w w3 ∧ St3 w.heap.size w1.heap.size w2.heap.size w3) := ⟨F2.out.1.trans (hbb.mono F2.out.1.size), F2.out.2.below hbb, C_U g0, g1⟩; clear hb ha hbb g0 g1)
  | (go_at_call 20; (have z := F1.out); clear z; refine (unif_c _).mono ?_; rintro e w2 ⟨rfl, hb⟩; (have ha := al2 w1 (.cells #[.int .i64 0, .int .i64 3, .int .i64 2, .int .i64 0, .slice none 0 0, .slice none 0 0] 25) (.cells #[.int .i64 5, .int .i64 2, .int .i64 0, .int .i64 0, .slice (some ⟨w.heap.size + 1, 0, none⟩) 1 1, .slice (some ⟨w1.heap.size, 0, none⟩) 1 1] 25)); (obtain ⟨Wa, hWa⟩ : ∃ Wa, Wa = (w1.alloc (.cells #[.int .i64 0, .int .i64 3, .int .i64 2, .int .i64 0, .slice none 0 0, .slice none 0 0] 25)).alloc (.cells #[.int .i64 5, .int .i64 2, .int .i64 0, .int .i64 0, .slice (some ⟨w.heap.size + 1, 0, none⟩) 1 1, .slice (some ⟨w1.heap.size, 0, none⟩) 1 1] 25) := ⟨_, rfl⟩); rw [← hWa] at ha hb; (have hc := al2 Wa (.cells #[.int .i64 1] 3) (.cells #[.slice (some ⟨w1.heap.size + 1 + 1, 0, none⟩) 1 1] 26)); (have hbc := hc.2.2.1.trans (hb.mono (by rw [hc.2.2.2]; omega))); (have g0 := (hbc.block w1.heap.size (by rw [ha.2.2.2]; omega)).trans ha.1); (have g1 := (hbc.block (w1.heap.size + 1) (by rw [ha.2.2.2]; omega)).trans ha.2.1); (have g2 := (hb.block Wa.heap.size (by rw [hc.2.2.2]; omega)).trans hc.1); (have g3 := (hb.block (Wa.heap.size + 1) (by rw [hc.2.2.2]; omega)).trans hc.2.1); rw [ha.2.2.2] at g2 g3; (have hbb := ha.2.2.1.trans (hbc.mono (by rw [ha.2.2.2]; omega))); have F2 : Aside0 (Below w.heap.size w w2 ∧ St2 w.heap.size w1.heap.size w2) := ⟨F1.out.1.trans (hbb.mono F1.out.1.size), F1.out.2.below hbb, C_U g0, g1, L1_one g2 g3⟩; clear hb ha hbb g0 g1 g2 g3 hc hbc hWa)
  | (go_at_call 20; refine (unif_c _).mono ?_; rintro e w1 ⟨rfl, hb⟩; (have hal := al2 w (.cells #[.int .i64 0, .int .i64 2] 3) (.cells #[.slice (some ⟨w.heap.size, 0, none⟩) 2 2] 26)); have F1 : Aside0 (Below w.heap.size w w1 ∧ L1 w1 (w.heap.size + 1) [[0, 2]]) := ⟨hal.2.2.1.trans (hb.mono (by rw [hal.2.2.2]; omega)), L1_two ((hb.block _ (by rw [hal.2.2.2]; omega)).trans hal.1) ((hb.block _ (by rw [hal.2.2.2]; omega)).trans hal.2.1)⟩; clear hb hal))
 obtain ⟨G, hG⟩ : ∃ G, G = w3.heap.size := ⟨_, rfl⟩
 rw [← hG]
 have hU : (w3.alloc (.cells #[.int .i64 0, .int .i64 3, .int .i64 2, .int .i64 0, .slice none 0 0, .slice none 0 0] 25)).heap[G]? = some (.cells #[.int .i64 0, .int .i64 3, .int .i64 2, .int .i64 0, .slice none 0 0, .slice none 0 0] 25 (0, 0)) := by rw [hG]; exact Array.getElem?_push_size
 have hbU : Below G w3 (w3.alloc (.cells #[.int .i64 0, .int .i64 3, .int .i64 2, .int .i64 0, .slice none 0 0, .slice none 0 0] 25)) := by rw [hG]; exact (Below.refl _ _).alloc (Nat.le_refl _) _
 have HG := Aside0.mk hG
 clear hG
 go_loopw [4] (fun v4 wr => ∃ j : Nat, j ≤ 4 ∧ v4 = .int .i64 (j : Int) ∧ Aside0 (HD w3 G j wr)) (fun v4 _ => (4 - (RowKit.intOf v4).toNat))
 case atStart => exact ⟨0, by omega, rfl, ⟨hbU, none, 0, hU, rfl, Nat.le_refl _, fun _ _ => Kd.C_nil _ _⟩⟩
 case round =>
  clear hU hbU
  obtain ⟨j, hj, rfl, HJ⟩ := hrel
  by_cases hlt : j < 4
  ·obtain ⟨hB, A5, c5, hb, hl4, hl5, hF⟩ := HJ.out
   obtain ⟨m, hm⟩ : ∃ m, m = mD j := ⟨_, rfl⟩
   rw [← hm] at hb hl4 hl5 hF
   obtain ⟨m0, m1, m2, m3, m4, m5⟩ := m
   dsimp only at hb hl4 hl5 hF
   subst hl4
   have y0 : wr.cell? ⟨G, 0, none⟩ = some (.int .i64 m0) := by simp [World.cell?, hb]
   have y1 : wr.cell? ⟨G, 1, none⟩ = some (.int .i64 m1) := by simp [World.cell?, hb]
   have y2 : wr.cell? ⟨G, 2, none⟩ = some (.int .i64 m2) := by simp [World.cell?, hb]
   have y3 : wr.cell? ⟨G, 3, none⟩ = some (.int .i64 m3) := by simp [World.cell?, hb]
   have y4 : wr.cell? ⟨G, 4, none⟩ = some (.slice none 0 0) := by simp [World.cell?, hb]
   have y5 : wr.cell? ⟨G, 5, none⟩ = some (.slice A5 m5.length c5) := by simp [World.cell?, hb]
   have z0 : wr.frozen? ⟨G, 0, none⟩ = false := by simp [World.frozen?, hb]
   have z1 : wr.frozen? ⟨G, 1, none⟩ = false := by simp [World.frozen?, hb]
   have z2 : wr.frozen? ⟨G, 2, none⟩ = false := by simp [World.frozen?, hb]
   have z3 : wr.frozen? ⟨G, 3, none⟩ = false := by simp [World.frozen?, hb]
   have z4 : wr.frozen? ⟨G, 4, none⟩ = false := by simp [World.frozen?, hb]
   have z5 : wr.frozen? ⟨G, 5, none⟩ = false := by simp [World.frozen?, hb]
   have hGl : G < wr.heap.size := box_lt hb
   have hGn : ¬ G = wr.heap.size := by omega
   have hGm : ¬ wr.heap.size = G := by omega
   have HNX := Aside0.mk (HD.next hm.symm hB hb hl5 hF)
   clear hB hb hl5 hF HJ hm
   go_wp2
   go_roundw
   case rel => exact ⟨j + 1, by omega, by go_num, HNX⟩
   case measure => simp [RowKit.intOf]; omega
  ·have hj4 : j = 4 := by omega
   subst hj4
   clear hlt hj
   obtain ⟨hB, A5, c5, hb, _, hl5, hF⟩ := HJ.out
   have hb3 : Below w3.heap.size w3 wr := HG.out ▸ hB
   have FN : Aside0 (Fin9 w w.heap.size w1.heap.size w2.heap.size G A5 c5 wr) := ⟨⟨F3.out.1.trans (hb3.mono F3.out.1.size), HEV.out.below (F3.out.1.trans (hb3.mono F3.out.1.size)) HEV.out.pos, F3.out.2.below hb3, hb, hl5, hF wr (fun _ _ _ => rfl)⟩⟩
   clear hB hb hl5 hF hb3 HJ
   obtain ⟨r0, r1, r2, r3, r4, r5⟩ := box6 FN.out.st.rbox
   go_wp2_with (first
    | (go_at_call 16; (have z := FN13.out); clear z; with_reducible refine (callS2 K2.out.1 K2.out.2).mono ?_; rintro e w17 ⟨rfl, hb⟩; (have FN14 := Aside0.mk (FN13.out.below hb)); clear hb)
    | (go_at_call 16; (have z := FN12.out); clear z; with_reducible refine (callS1 K1.out.1 K1.out.2).mono ?_; rintro e w16 ⟨rfl, hb⟩; (have FN13 := Aside0.mk (FN12.out.below hb)); (have K2' := Aside0.mk (And.intro (Kd.C_below K2.out.1 hb) K2.out.2)); clear K2; (have K2 := K2'); clear K2'; clear hb)
    | (go_at_call 12; (have z := FN11.out); clear z; with_reducible refine (call12 FN11.out).mono ?_; rintro e w15 ⟨rfl, hb⟩; (have FN12 := Aside0.mk (FN11.out.below hb)); (have K1' := Aside0.mk (And.intro (Kd.C_below K1.out.1 hb) K1.out.2)); clear K1; (have K1 := K1'); clear K1'; (have K2' := Aside0.mk (And.intro (Kd.C_below K2.out.1 hb) K2.out.2)); clear K2; (have K2 := K2'); clear K2'; clear hb; obtain ⟨r0, r1, r2, r3, r4, r5⟩ := box6 FN12.out.st.rbox; obtain ⟨d0, d1, d2, d3, d4, d5⟩ := box6 FN12.out.d)
    | (go_at_call 12; (have z := FN10.out); clear z; with_reducible refine (call11 FN10.out).mono ?_; rintro e w14 ⟨rfl, hb⟩; (have FN11 := Aside0.mk (FN10.out.below hb)); (have K1' := Aside0.mk (And.intro (Kd.C_below K1.out.1 hb) K1.out.2)); clear K1; (have K1 := K1'); clear K1'; (have K2' := Aside0.mk (And.intro (Kd.C_below K2.out.1 hb) K2.out.2)); clear K2; (have K2 := K2'); clear K2'; clear hb; obtain ⟨r0, r1, r2, r3, r4, r5⟩ := box6 FN11.out.st.rbox; obtain ⟨d0, d1, d2, d3, d4, d5⟩ := box6 FN11.out.d)
    | (go_at_call 14; (have z := FN9.out); clear z; with_reducible refine (call10 FN9.out).mono ?_; rintro e w13 ⟨rfl, hb⟩; (have FN10 := Aside0.mk (FN9.out.below hb)); (have K1' := Aside0.mk (And.intro (Kd.C_below K1.out.1 hb) K1.out.2)); clear K1; (have K1 := K1'); clear K1'; (have K2' := Aside0.mk (And.intro (Kd.C_below K2.out.1 hb) K2.out.2)); clear K2; (have K2 := K2'); clear K2'; clear hb; obtain ⟨r0, r1, r2, r3, r4, r5⟩ := box6 FN10.out.st.rbox; obtain ⟨d0, d1, d2, d3, d4, d5⟩ := box6 FN10.out.d)
    | (go_at_call 14; (have z := FN8.out); clear z; with_reducible refine (call9 FN8.out).mono ?_; rintro e w12 ⟨rfl, hb⟩; (have FN9 := Aside0.mk (FN8.out.below hb)); (have K1' := Aside0.mk (And.intro (Kd.C_below K1.out.1 hb) K1.out.2)); clear K1; (have K1 := K1'); clear K1'; (have K2' := Aside0.mk (And.intro (Kd.C_below K2.out.1 hb) K2.out.2)); clear K2; (have K2 := K2'); clear K2'; clear hb; obtain ⟨r0, r1, r2, r3, r4, r5⟩ := box6 FN9.out.st.rbox; obtain ⟨d0, d1, d2, d3, d4, d5⟩ := box6 FN9.out.d)
    | (go_at_call 12; (have z := FN7.out); clear z; with_reducible refine (call8 FN7.out).mono ?_; rintro e w11 ⟨rfl, hb⟩; (have FN8 := Aside0.mk (FN7.out.below hb)); (have K1' := Aside0.mk (And.intro (Kd.C_below K1.out.1 hb) K1.out.2)); clear K1; (have K1 := K1'); clear K1'; (have K2' := Aside0.mk (And.intro (Kd.C_below K2.out.1 hb) K2.out.2)); clear K2; (have K2 := K2'); clear K2'; clear hb; obtain ⟨r0, r1, r2, r3, r4, r5⟩ := box6 FN8.out.st.rbox; obtain ⟨d0, d1, d2, d3, d4, d5⟩ := box6 FN8.out.d)
    | (go_at_call 12; (have z := FN6.out); clear z; with_reducible refine (call7 FN6.out).mono ?_; rintro e w10 ⟨rfl, hb⟩; (have FN7 := Aside0.mk (FN6.out.below hb)); (have K1' := Aside0.mk (And.intro (Kd.C_below K1.out.1 hb) K1.out.2)); clear K1; (have K1 := K1'); clear K1'; (have K2' := Aside0.mk (And.intro (Kd.C_below K2.out.1 hb) K2.out.2)); clear K2; (have K2 := K2'); clear K2'; clear hb; obtain ⟨r0, r1, r2, r3, r4, r5⟩ := box6 FN7.out.st.rbox; obtain ⟨d0, d1, d2, d3, d4, d5⟩ := box6 FN7.out.d)
    | (go_at_call 12; (have z := FN5.out); clear z; with_reducible refine (call6 FN5.out).mono ?_; rintro e w9 ⟨rfl, hb⟩; (have FN6 := Aside0.mk (FN5.out.below hb)); (have K1' := Aside0.mk (And.intro (Kd.C_below K1.out.1 hb) K1.out.2)); clear K1; (have K1 := K1'); clear K1'; (have K2' := Aside0.mk (And.intro (Kd.C_below K2.out.1 hb) K2.out.2)); clear K2; (have K2 := K2'); clear K2'; clear hb; obtain ⟨r0, r1, r2, r3, r4, r5⟩ := box6 FN6.out.st.rbox; obtain ⟨d0, d1, d2, d3, d4, d5⟩ := box6 FN6.out.d)
    | (go_at_call 20; (have z := FN4.out); clear z; refine (unif_c _).mono ?_; rintro e w8 ⟨rfl, hb⟩; (have FN5 := Aside0.mk (FN4.out.below hb)); (have K1' := Aside0.mk (And.intro (Kd.C_below K1.out.1 hb) K1.out.2)); clear K1; (have K1 := K1'); clear K1'; (have K2' := Aside0.mk (And.intro (Kd.C_below K2.out.1 hb) K2.out.2)); clear K2; (have K2 := K2'); clear K2'; clear hb)
    | (go_at_call 10; (have z := FN3.out); clear z; with_reducible refine (call4 FN3.out).mono ?_; rintro e w7 ⟨A8, c8, rfl, hb⟩; (have FN4 := Aside0.mk (FN3.out.below hb)); (have K1' := Aside0.mk (And.intro (Kd.C_below K1.out.1 hb) K1.out.2)); clear K1; (have K1 := K1'); clear K1'; (have K2' := Aside0.mk (And.intro (Kd.C_below K2.out.1 hb) K2.out.2)); clear K2; (have K2 := K2'); clear K2'; clear hb)
    | (go_at_call 20; (have z := FN2.out); clear z; refine (unif_c _).mono ?_; rintro e w6 ⟨rfl, hb⟩; (have FN3 := Aside0.mk (FN2.out.below hb)); (have K1' := Aside0.mk (And.intro (Kd.C_below K1.out.1 hb) K1.out.2)); clear K1; (have K1 := K1'); clear K1'; (have K2' := Aside0.mk (And.intro (Kd.C_below K2.out.1 hb) K2.out.2)); clear K2; (have K2 := K2'); clear K2'; clear hb)
    | (go_at_call 10; (have z := FN1.out); clear z; with_reducible refine (call2 FN1.out).mono ?_; rintro e w5 ⟨A7, c7, rfl, hC7, hc7, hb⟩; (have K2 := Aside0.mk (And.intro hC7 hc7)); (have FN2 := Aside0.mk (FN1.out.below hb)); (have K1' := Aside0.mk (And.intro (Kd.C_below K1.out.1 hb) K1.out.2)); clear K1; (have K1 := K1'); clear K1'; clear hb hC7 hc7)
    | (go_at_call 10; with_reducible refine (call1 FN.out).mono ?_; rintro e w4 ⟨A6, c6, rfl, hC6, hc6, hb⟩; have K1 := Aside0.mk (And.intro hC6 hc6); have FN1 := Aside0.mk (FN.out.below hb); clear hb hC6 hc6; obtain ⟨q0, q1, q2, q3, q4, q5⟩ := box6 FN1.out.st.cbox))
   go_ret
   exact ⟨rfl, FN14.out.bel⟩
end Go.Proofs.YtgbmlkmkfigolaaDoor.P
/- greenwoodref09.may, walked: what lies within. -/
namespace Go.Proofs.YtgbmlkmkfigolaaDoor.P
open Go.RowKit Go.Proofs.YtgbmlkmkfigolaaDoorW.PrintWords Go.Proofs.YtgbmlkmkfigolaaDoorW.PrintLast Go.Proofs.YtgbmlkmkfigolaaDoorW.PrintMore
set_option linter.unusedVariables false
set_option linter.unusedSimpArgs false

theorem beqd (a c : Int) : (a == c) = decide (a = c) := by by_cases h : a = c <;> simp [h]
end Go.Proofs.YtgbmlkmkfigolaaDoor.P
/- What the document's reference says of a matroid: the same words as the check's. -/
namespace Go.Proofs.YtgbmlkmkfigolaaDoor.P
open Go.RowKit Go.Proofs.YtgbmlkmkfigolaaDoorW.PrintWords Go.Proofs.YtgbmlkmkfigolaaDoorW.PrintLast Go.Proofs.YtgbmlkmkfigolaaDoorW.PrintMore NumTh
set_option linter.unusedVariables false
set_option linter.unusedSimpArgs false

/-! ### may -/
/-- what all within come to -/
def total (l : List Mtr) : Int := (l.map (·.f1)).foldr (· + ·) 0
theorem chk_n {j : Nat} {m : Mtr} (h : chkV j m = true) : 0 ≤ m.f1 ∧ m.f1 ≤ 64 := by
 cases j with
 | zero => cases h
 | succ j =>
  unfold chkV lclB inB at h
  simp only [Bool.and_eq_true, decide_eq_true_eq] at h
  exact h.1.1.1
theorem total_bd {g : Mtr → Bool} (hg : ∀ x, g x = true → 0 ≤ x.f1 ∧ x.f1 ≤ 64) : ∀ (l : List Mtr), l.all g = true → 0 ≤ total l ∧ total l ≤ 64 * (l.length : Int) := by
 intro l
 induction l with
 | nil => intro _; exact ⟨by simp [total], by simp [total]⟩
 | cons x r ih =>
  intro h
  rw [List.all_cons, Bool.and_eq_true] at h
  have h1 := hg x h.1
  have h2 := ih h.2
  have e : total (x :: r) = x.f1 + total r := rfl
  rw [e, List.length_cons]
  omega
theorem sumV_all {g : Mtr → Bool} (hg : ∀ x, g x = true → 0 ≤ x.f1 ∧ x.f1 ≤ 64) : ∀ (l : List Mtr), l.all g = true → ∀ (n : Int), 0 ≤ n → n + 64 * (l.length : Int) ≤ 1000000 → sumV n l = some (n + total l) := by
 intro l
 induction l with
 | nil => intro _ n _ _; simp [sumV, total]
 | cons x r ih =>
  intro h n h0 h1
  rw [List.length_cons] at h1
  rw [List.all_cons, Bool.and_eq_true] at h
  have hb := hg x h.1
  unfold sumV
  have hi : inB x.f1 64 = true := by unfold inB; rw [decide_eq_true hb.1, decide_eq_true hb.2]; rfl
  have hw : wrap64 (n + x.f1) = n + x.f1 := by unfold wrap64; omega
  rw [if_pos hi, hw, ih h.2 _ (by omega) (by omega)]
  have e : total (x :: r) = x.f1 + total r := rfl
  rw [e, Int.add_assoc]
theorem deep_in {j : Nat} {m : Mtr} (hn : nestsB m.f0 = true) (h : deepV (j + 1) m ≤ ((j + 1 : Nat) : Int)) : ∀ x ∈ m.f5, deepV j x ≤ (j : Int) := by
 unfold deepV at h
 rw [if_pos hn] at h
 have key : ∀ (l : List Mtr) (a : Int), (l.map (deepV j)).foldl max a ≤ (j : Int) → a ≤ (j : Int) ∧ ∀ x ∈ l, deepV j x ≤ (j : Int) := by
  intro l
  induction l with
  | nil => intro a h; exact ⟨h, fun x hx => by cases hx⟩
  | cons y r ih =>
   intro a h
   have := ih _ h
   refine ⟨by omega, fun x hx => ?_⟩
   rcases List.mem_cons.1 hx with rfl | hx
   ·omega
   ·exact this.2 x hx
 exact (key m.f5 0 (by omega)).2
/-! ### Small: whatever it says -/
theorem size_ev : ∀ (j : Nat), j ≤ 100 → ∀ (m : Mtr), OkS m → ∃ v, Ev (fun k => greenwoodref09_size.f k m.f0 m.f1 m.f2 m.f3 m.f4 m.f5 (j : Int)) v := by
 intro j
 induction j with
 | zero =>
  intro hj m hm
  have h1 : ∀ (d i : Nat) (n : Int), m.f5.length - i = d → i ≤ m.f5.length → ∃ v, Ev (fun k => greenwoodref09_size.l1 k ((0 : Nat) : Int) n (i : Int) m.f0 m.f1 m.f2 m.f3 m.f4 m.f5) v := by
   intro d
   have hl5 := hm.l5
   induction d with
   | zero =>
    intro i n e1 e2
    exact ⟨n, Ev.step (fun k => by rw [greenwoodref09_size.l1]) (Ev.ifn (by omega) (Ev.step (fun k => by rw [greenwoodref09_size.j3]) (Ev.ifn (by decide) (Ev.val rfl))))⟩
   | succ d ihd =>
    intro i n e1 e2
    by_cases hn : n < 10000
    ·obtain ⟨v, hv⟩ := ihd (i + 1) (wrap64 (n + 10000)) (by omega) (by omega)
     refine ⟨v, Ev.step (fun k => by rw [greenwoodref09_size.l1]) (Ev.ifp (by omega) (Ev.step (fun k => by rw [greenwoodref09_size.j3]) (Ev.ifp (decide_eq_true hn) (Ev.ifn (by omega) ?_))))⟩
     rw [w1b (show i < m.f5.length by omega) hl5]
     exact hv
    ·exact ⟨n, Ev.step (fun k => by rw [greenwoodref09_size.l1]) (Ev.ifp (by omega) (Ev.step (fun k => by rw [greenwoodref09_size.j3]) (Ev.ifn (by simpa using hn) (Ev.val rfl))))⟩
  have h0 : ∀ (d i : Nat) (n : Int), m.f4.length - i = d → i ≤ m.f4.length → ∃ v, Ev (fun k => greenwoodref09_size.l0 k ((0 : Nat) : Int) n (i : Int) m.f0 m.f1 m.f2 m.f3 m.f4 m.f5) v := by
   intro d
   have hl4 := hm.l4
   have hj1 : ∀ n, ∃ v, Ev (fun k => greenwoodref09_size.j1 k ((0 : Nat) : Int) n m.f0 m.f1 m.f2 m.f3 m.f4 m.f5) v := fun n => by
    obtain ⟨v, hv⟩ := h1 m.f5.length 0 n rfl (Nat.zero_le _)
    exact ⟨v, Ev.step (fun k => by rw [greenwoodref09_size.j1]; rfl) hv⟩
   induction d with
   | zero =>
    intro i n e1 e2
    obtain ⟨v, hv⟩ := hj1 n
    exact ⟨v, Ev.step (fun k => by rw [greenwoodref09_size.l0]) (Ev.ifn (by omega) hv)⟩
   | succ d ihd =>
    intro i n e1 e2
    by_cases hn : n < 10000
    ·obtain ⟨v, hv⟩ := ihd (i + 1) (wrap64 (n + ((rd_L1 m.f4 (i : Int)).length : Int))) (by omega) (by omega)
     refine ⟨v, Ev.step (fun k => by rw [greenwoodref09_size.l0]) (Ev.ifp (by omega) (Ev.ifp hn (Ev.ifp (by omega) ?_)))⟩
     rw [w1b (show i < m.f4.length by omega) hl4]
     exact hv
    ·obtain ⟨v, hv⟩ := hj1 n
     exact ⟨v, Ev.step (fun k => by rw [greenwoodref09_size.l0]) (Ev.ifp (by omega) (Ev.ifn hn hv))⟩
  obtain ⟨v, hv⟩ := h0 m.f4.length 0 (wrap64 (1 + (m.f4.length : Int))) rfl (Nat.zero_le _)
  exact ⟨v, Ev.step (fun k => by rw [greenwoodref09_size.f]; rfl) hv⟩
 | succ j ih =>
  intro hj m hm
  have h1 : ∀ (d i : Nat) (n : Int), m.f5.length - i = d → i ≤ m.f5.length → ∃ v, Ev (fun k => greenwoodref09_size.l1 k ((j + 1 : Nat) : Int) n (i : Int) m.f0 m.f1 m.f2 m.f3 m.f4 m.f5) v := by
   intro d
   have hl5 := hm.l5
   induction d with
   | zero =>
    intro i n e1 e2
    exact ⟨n, Ev.step (fun k => by rw [greenwoodref09_size.l1]) (Ev.ifn (by omega) (Ev.step (fun k => by rw [greenwoodref09_size.j3]) (Ev.ifn (by decide) (Ev.val rfl))))⟩
   | succ d ihd =>
    intro i n e1 e2
    have hi : i < m.f5.length := by omega
    by_cases hn : n < 10000
    ·obtain ⟨t, ht⟩ := ih (by omega) m.f5[i] (hm.each _ (List.getElem_mem hi))
     obtain ⟨v, hv⟩ := ihd (i + 1) (wrap64 (n + t)) (by omega) (by omega)
     refine ⟨v, Ev.step (fun k => by rw [greenwoodref09_size.l1]) (Ev.ifp (by omega) (Ev.step (fun k => by rw [greenwoodref09_size.j3]) (Ev.ifp (decide_eq_true hn) (Ev.ifp (by omega) (Ev.ifp (by omega) (Ev.ifp (by omega) ?_))))))⟩
     have hw : wrap64 (((j + 1 : Nat) : Int) - 1) = (j : Int) := by unfold wrap64; omega
     rw [rd_T_at hi, hw]
     refine Ev.bind ht ?_
     rw [w1b hi hl5]
     exact hv
    ·exact ⟨n, Ev.step (fun k => by rw [greenwoodref09_size.l1]) (Ev.ifp (by omega) (Ev.step (fun k => by rw [greenwoodref09_size.j3]) (Ev.ifn (by simpa using hn) (Ev.val rfl))))⟩
  have h0 : ∀ (d i : Nat) (n : Int), m.f4.length - i = d → i ≤ m.f4.length → ∃ v, Ev (fun k => greenwoodref09_size.l0 k ((j + 1 : Nat) : Int) n (i : Int) m.f0 m.f1 m.f2 m.f3 m.f4 m.f5) v := by
   intro d
   have hl4 := hm.l4
   have hj1 : ∀ n, ∃ v, Ev (fun k => greenwoodref09_size.j1 k ((j + 1 : Nat) : Int) n m.f0 m.f1 m.f2 m.f3 m.f4 m.f5) v := fun n => by
    obtain ⟨v, hv⟩ := h1 m.f5.length 0 n rfl (Nat.zero_le _)
    exact ⟨v, Ev.step (fun k => by rw [greenwoodref09_size.j1]; rfl) hv⟩
   induction d with
   | zero =>
    intro i n e1 e2
    obtain ⟨v, hv⟩ := hj1 n
    exact ⟨v, Ev.step (fun k => by rw [greenwoodref09_size.l0]) (Ev.ifn (by omega) hv)⟩
   | succ d ihd =>
    intro i n e1 e2
    by_cases hn : n < 10000
    ·obtain ⟨v, hv⟩ := ihd (i + 1) (wrap64 (n + ((rd_L1 m.f4 (i : Int)).length : Int))) (by omega) (by omega)
     refine ⟨v, Ev.step (fun k => by rw [greenwoodref09_size.l0]) (Ev.ifp (by omega) (Ev.ifp hn (Ev.ifp (by omega) ?_)))⟩
     rw [w1b (show i < m.f4.length by omega) hl4]
     exact hv
    ·obtain ⟨v, hv⟩ := hj1 n
     exact ⟨v, Ev.step (fun k => by rw [greenwoodref09_size.l0]) (Ev.ifp (by omega) (Ev.ifn hn hv))⟩
  obtain ⟨v, hv⟩ := h0 m.f4.length 0 (wrap64 (1 + (m.f4.length : Int))) rfl (Nat.zero_le _)
  exact ⟨v, Ev.step (fun k => by rw [greenwoodref09_size.f]; rfl) hv⟩
theorem small_ev (m : Mtr) (hm : OkS m) : ∃ b, Ev (fun k => greenwoodref09_Small.f k m.f0 m.f1 m.f2 m.f3 m.f4 m.f5) b := by
 obtain ⟨v, hv⟩ := size_ev 8 (by omega) m hm
 unfold greenwoodref09_Small.f
 exact ⟨_, Ev.bind hv (Ev.now _)⟩
end Go.Proofs.YtgbmlkmkfigolaaDoor.P
/- How deep a matroid lies, and what may be: words that the laws of layer 9 stand on. -/
namespace Go.Proofs.YtgbmlkmkfigolaaDoor.P
open Go.RowKit Go.Proofs.YtgbmlkmkfigolaaDoorW.PrintWords Go.Proofs.YtgbmlkmkfigolaaDoorW.PrintLast Go.Proofs.YtgbmlkmkfigolaaDoorW.PrintMore NumTh
set_option linter.unusedVariables false
set_option linter.unusedSimpArgs false

theorem fold_max (f : Mtr → Int) : ∀ (l : List Mtr) (a : Int), a ≤ (l.map f).foldl max a ∧ (∀ x ∈ l, f x ≤ (l.map f).foldl max a) ∧ ∀ b, a ≤ b → (∀ x ∈ l, f x ≤ b) → (l.map f).foldl max a ≤ b := by
 intro l
 induction l with
 | nil => intro a; exact ⟨Int.le_refl _, ⟨fun x hx => absurd hx List.not_mem_nil, fun b h _ => h⟩⟩
 | cons y r ih =>
  intro a
  obtain ⟨h1, h2, h3⟩ := ih (max a (f y))
  refine ⟨by simp only [List.map_cons, List.foldl_cons]; omega, fun x hx => ?_, fun b hb hx => ?_⟩
  ·rcases List.mem_cons.1 hx with rfl | hx
   ·simp only [List.map_cons, List.foldl_cons]; omega
   ·exact h2 x hx
  ·have := hx y (List.mem_cons_self ..)
   exact h3 b (by omega) (fun x hx' => hx x (List.mem_cons_of_mem _ hx'))
theorem fold_congr {f g : Mtr → Int} : ∀ (l : List Mtr) (a : Int), (∀ x ∈ l, f x = g x) → (l.map f).foldl max a = (l.map g).foldl max a := by
 intro l
 induction l with
 | nil => intro a _; rfl
 | cons y r ih =>
  intro a h
  simp only [List.map_cons, List.foldl_cons]
  rw [h y (List.mem_cons_self ..)]
  exact ih _ (fun x hx => h x (List.mem_cons_of_mem _ hx))
theorem deepV_nests {j : Nat} {m : Mtr} (h : nestsB m.f0 = true) : deepV (j + 1) m = (m.f5.map (deepV j)).foldl max 0 + 1 := by
 show (if nestsB m.f0 = true then _ else _) = _
 rw [if_pos h]
theorem deepV_flat {j : Nat} {m : Mtr} (h : nestsB m.f0 = false) : deepV j m = 1 := by
 cases j with
 | zero => rfl
 | succ j =>
  show (if nestsB m.f0 = true then _ else _) = _
  rw [if_neg (by rw [h]; decide)]
theorem deepV_mono : ∀ (j : Nat) (m : Mtr), deepV j m ≤ deepV (j + 1) m := by
 intro j
 induction j with
 | zero => intro m; have h1 : 1 ≤ deepV (0 + 1) m := (deepV_bd 1 m).1; have e : deepV 0 m = 1 := rfl; omega
 | succ j ih =>
  intro m
  cases hn : nestsB m.f0 with
  | false => rw [deepV_flat hn, deepV_flat hn]; exact Int.le_refl _
  | true =>
   rw [deepV_nests hn, deepV_nests hn]
   have h2 := fold_max (deepV (j + 1)) m.f5 0
   have := (fold_max (deepV j) m.f5 0).2.2 _ h2.1 (fun x hx => Int.le_trans (ih x) (h2.2.1 x hx))
   omega
theorem deepV_low : ∀ (j : Nat) (m : Mtr), deepV j m ≤ (j : Int) → deepV (j + 1) m = deepV j m := by
 intro j
 induction j with
 | zero => intro m h; have := (deepV_bd 0 m).1; omega
 | succ j ih =>
  intro m h
  cases hn : nestsB m.f0 with
  | false => rw [deepV_flat hn, deepV_flat hn]
  | true =>
   have hin := deep_in hn h
   rw [deepV_nests hn, deepV_nests hn, fold_congr m.f5 0 (fun x hx => ih x (hin x hx))]
theorem chkV_flat {j : Nat} {m : Mtr} (hn : nestsB m.f0 = false) (h : chkV j m = true) : m.f5 = [] := by
 cases j with
 | zero => cases h
 | succ j =>
  unfold chkV lclB at h
  rw [if_neg (by rw [hn]; decide)] at h
  simp only [Bool.and_eq_true, decide_eq_true_eq] at h
  exact List.length_eq_zero_iff.1 h.1.2.1
theorem chkV_iff {j : Nat} {m : Mtr} : chkV (j + 1) m = true ↔ lclB m = true ∧ ∀ x ∈ m.f5, chkV j x = true := by
 show (lclB m && m.f5.all (chkV j)) = true ↔ _
 rw [Bool.and_eq_true, List.all_eq_true]
theorem chkV_deep : ∀ (j : Nat) (m : Mtr), chkV j m = true → deepV j m ≤ (j : Int) := by
 intro j
 induction j with
 | zero => intro m h; cases h
 | succ j ih =>
  intro m h
  cases hn : nestsB m.f0 with
  | false => rw [deepV_flat hn]; omega
  | true =>
   rw [deepV_nests hn]
   have := (fold_max (deepV j) m.f5 0).2.2 (j : Int) (by omega) (fun x hx => ih x ((chkV_iff.1 h).2 x hx))
   omega
theorem chkV_up : ∀ (j : Nat) (m : Mtr), chkV j m = true → chkV (j + 1) m = true := by
 intro j
 induction j with
 | zero => intro m h; cases h
 | succ j ih =>
  intro m h
  have h1 := chkV_iff.1 h
  exact chkV_iff.2 ⟨h1.1, fun x hx => ih x (h1.2 x hx)⟩
theorem chkV_down : ∀ (j : Nat) (m : Mtr), chkV (j + 1) m = true → deepV j m ≤ (j : Int) → chkV j m = true := by
 intro j
 induction j with
 | zero => intro m _ h; have := (deepV_bd 0 m).1; omega
 | succ j ih =>
  intro m h hd
  have h1 := chkV_iff.1 h
  refine chkV_iff.2 ⟨h1.1, fun x hx => ?_⟩
  cases hn : nestsB m.f0 with
  | false => rw [chkV_flat hn h] at hx; cases hx
  | true => exact ih x (h1.2 x hx) (deep_in hn hd x hx)
theorem chkN_iff {m : Mtr} : chkN m = 0 ↔ chkV 4 m = true := by
 unfold chkN
 by_cases h : 4 < deepV 4 m
 ·rw [if_pos h]
  exact ⟨fun h => by omega, fun h' => by have := chkV_deep 4 m h'; omega⟩
 ·rw [if_neg h]
  cases chkV 4 m with
  | true => exact ⟨fun _ => rfl, fun _ => by rw [if_pos rfl]⟩
  | false => exact ⟨fun h => by rw [if_neg (by decide)] at h; omega, fun h => by cases h⟩
/-- a matroid that has others within: may it be? -/
theorem chkN_nest {m : Mtr} (hn : nestsB m.f0 = true) : chkN m = 0 ↔ lclB m = true ∧ ∀ x ∈ m.f5, chkN x = 0 ∧ deepV 4 x ≤ 3 := by
 rw [chkN_iff, chkV_iff]
 constructor
 ·rintro ⟨h1, h2⟩
  refine ⟨h1, fun x hx => ⟨chkN_iff.2 (chkV_up 3 x (h2 x hx)), ?_⟩⟩
  have := chkV_deep 3 x (h2 x hx)
  rw [deepV_low 3 x this]; exact this
 ·rintro ⟨h1, h2⟩
  refine ⟨h1, fun x hx => chkV_down 3 x (chkN_iff.1 (h2 x hx).1) ?_⟩
  have := (h2 x hx).2
  have h3 : deepV 3 x ≤ deepV 4 x := deepV_mono 3 x
  omega
theorem chkN_n {m : Mtr} (h : chkN m = 0) : 0 ≤ m.f1 ∧ m.f1 ≤ 64 := chk_n (chkN_iff.1 h)
end Go.Proofs.YtgbmlkmkfigolaaDoor.P
namespace Go.Proofs.YtgbmlkmkfigolaaDoor.P
open Go.RowKit Go.Proofs.YtgbmlkmkfigolaaDoorW.PrintWords Go.Proofs.YtgbmlkmkfigolaaDoorW.PrintLast Go.Proofs.YtgbmlkmkfigolaaDoorW.PrintMore
attribute [local go_sem] max2_int min2_int max_two min_two max_three min_three max_four min_four   -- for this text's walks alone
set_option linter.unusedVariables false
set_option linter.unusedSimpArgs false

/-! ### greenwoodlaw09_MatroidSums: function 5 -/
mutual
def greenwoodlaw09_MatroidSums.j0 : Nat → List (S25) → Int → Bool → Option (Bool)
 | 0, _, _, _ => none
 | k + 1, x0, x1, x17 => if x17 = true then ((greenwoodlaw09_fixed.f).bind fun t283 => (some t283)) else (greenwoodlaw09_MatroidSums.l0 k x0 x1 0 0 0)
def greenwoodlaw09_MatroidSums.l0 : Nat → List (S25) → Int → Int → Int → Int → Option (Bool)
 | 0, _, _, _, _, _ => none
 | k + 1, x0, x1, x5, x6, x7 => if x7 < (x0.length : Int) then (if 0 ≤ x7 then ((greenwoodref09_Small.f k ((rd_T25 x0 x7).f0) ((rd_T25 x0 x7).f1) ((rd_T25 x0 x7).f2) ((rd_T25 x0 x7).f3) ((rd_T25 x0 x7).f4) ((rd_T25 x0 x7).f5)).bind fun t293 => (if t293 = true then ((matroid_Check.f ((rd_T25 x0 x7).f0) ((rd_T25 x0 x7).f1) ((rd_T25 x0 x7).f2) ((rd_T25 x0 x7).f3) ((rd_T25 x0 x7).f4) ((rd_T25 x0 x7).f5)).bind fun t295 => (if t295 = 0 then ((matroid_Deep.f k ((rd_T25 x0 x7).f0) ((rd_T25 x0 x7).f1) ((rd_T25 x0 x7).f2) ((rd_T25 x0 x7).f3) ((rd_T25 x0 x7).f4) ((rd_T25 x0 x7).f5)).bind fun t298 => (greenwoodlaw09_MatroidSums.l0 k x0 x1 (wrap64 (x5 + ((rd_T25 x0 x7).f1))) (mx x6 t298) (wrap64 (x7 + 1)))) else (some true))) else (some true))) else (none)) else (if (x0.length : Int) ≥ 1 then (if (x0.length : Int) ≤ 8 then (if x5 ≤ 64 then ((matroid_Check.f 9 x5 0 0 ([] : List (List Int)) x0).bind fun t284 => ((matroid_Check.f 9 x1 0 0 ([] : List (List Int)) x0).bind fun t285 => (if ((t284 == 0) == (decide (x6 ≤ 3))) = true then (if x1 = x5 then (some true) else (some (t285 != 0))) else (some false)))) else ((matroid_Check.f 9 x5 0 0 ([] : List (List Int)) x0).bind fun t286 => ((matroid_Check.f 9 x1 0 0 ([] : List (List Int)) x0).bind fun t287 => (if ((t286 == 0) == false) = true then (if x1 = x5 then (some true) else (some (t287 != 0))) else (some false))))) else ((matroid_Check.f 9 x5 0 0 ([] : List (List Int)) x0).bind fun t288 => ((matroid_Check.f 9 x1 0 0 ([] : List (List Int)) x0).bind fun t289 => (if ((t288 == 0) == false) = true then (if x1 = x5 then (some true) else (some (t289 != 0))) else (some false))))) else ((matroid_Check.f 9 x5 0 0 ([] : List (List Int)) x0).bind fun t290 => ((matroid_Check.f 9 x1 0 0 ([] : List (List Int)) x0).bind fun t291 => (if ((t290 == 0) == false) = true then (if x1 = x5 then (some true) else (some (t291 != 0))) else (some false)))))
end
def greenwoodlaw09_MatroidSums.f (k : Nat) (l0 : List (S25)) (a1 : Int) : Option (Bool) := (greenwoodlaw09_fixed.f).bind fun t282 => (if t282 = true then (greenwoodlaw09_MatroidSums.j0 k l0 a1 (decide ((l0.length : Int) > 10))) else (greenwoodlaw09_MatroidSums.j0 k l0 a1 true))
set_option maxHeartbeats 8000000 in
set_option maxRecDepth 100000 in
theorem greenwoodlaw09_MatroidSums.callsT (k : Nat) (A0 : Option Addr) (c0 : Nat) (l0 : List (S25)) (a1 : Int) (r : Bool) (w : World) (hEV : EV w) (hr0 : Kd.C k25 w A0 l0.length l0) (hc0 : l0.length ≤ c0) (hrT : r = true) (h : greenwoodlaw09_MatroidSums.f k l0 a1 = some r) :
 Calls Tryd.prog 5 #[.slice A0 l0.length c0, .int .i64 a1] w fun e w' => e = .returned (.bool r) ∧ Below w.heap.size w w' := by
 have HEV := Aside0.mk hEV
 clear hEV
 have hu25 := Tryd.underlying25
 have HR0 := Aside0.mk hr0
 have HC0 := Aside0.mk hc0
 clear hr0 hc0
 have HB := Aside0.mk (Below.refl w.heap.size w)
 have H : ((greenwoodlaw09_fixed.f).bind fun t282 => (if t282 = true then (greenwoodlaw09_MatroidSums.j0 k l0 a1 (decide ((l0.length : Int) > 10))) else (greenwoodlaw09_MatroidSums.j0 k l0 a1 true))) = some r := h
 clear h
 have HC3 := Aside0.mk H
 clear H
 go_enter Tryd.func5, Tryd.ntmps5
 go_upto_region 1 with (fail)
 go_cut [17] (fun v17 wc => ∃ (kq : Nat) (x17_2 : Bool), v17 = .bool x17_2 ∧ Aside0 (greenwoodlaw09_MatroidSums.j0 kq l0 a1 x17_2 = some r) ∧ Aside0 (kq ≤ k) ∧ Aside0 (Below w.heap.size w wc))
 case first =>
  have H := HC3.out
  clear HC3
  replace H := Option.bind_eq_some_iff.mp H
  obtain ⟨t282, A40, H⟩ := H
  replace H : (if t282 = true then (greenwoodlaw09_MatroidSums.j0 k l0 a1 (decide ((l0.length : Int) > 10))) else (greenwoodlaw09_MatroidSums.j0 k l0 a1 true)) = some r := H
  have A4 := Aside0.mk A40
  clear A40
  by_cases c5 : t282 = true
  ·subst c5
   have H1 : (greenwoodlaw09_MatroidSums.j0 k l0 a1 (decide ((l0.length : Int) > 10))) = some r := by rw [if_pos rfl] at H; exact H
   clear H
   have H := H1
   clear H1
   have H' := Aside0.mk H
   clear H
   go_wp2_with (first | ((with_reducible refine gate_callee (f := 9) rfl ?_); refine goesL_ (some 11) rfl rfl Tryd.func9 (by kernel_rfl) rfl #[] rfl (by (try simp only [List.map_toArray, List.map_cons, List.map_nil]); first | done | rfl | (simp only [List.length_drop, List.length_take]; rfl)) ?_; (with_reducible refine (greenwoodlaw09_fixed.calls  true _ ?side1 A4.out).mono ?_); (case side1 => exact EV.below HEV.out (by repeat (first | (with_reducible first | exact HB.out | apply below_alloc | apply pw_below_drewN | apply below_drew1) | exact HB.out)) (EV.pos HEV.out)); rintro e w6 ⟨rfl, hb⟩; refine ⟨_, rfl, ?_⟩; have n0_ := Aside0.mk (below_step (by repeat (first | (with_reducible first | exact HB.out | apply below_alloc | apply pw_below_drewN | apply below_drew1) | exact HB.out)) hb); clear HB; have HB := n0_; clear n0_; (try clear hb); (try clear hb2); (try clear hk); (try clear hi)))
   go_meet
   case rel => exact ⟨_, (decide ((l0.length : Int) > 10)), (by first | rfl | (simp; done) | (simp [*]; done)), H', ⟨by first | omega | exact Nat.le_refl _⟩, ⟨by repeat (first | (with_reducible first | exact HB.out | apply below_alloc | apply pw_below_drewN | apply below_drew1) | exact HB.out)⟩⟩
  ·replace c5 := Bool.eq_false_iff.mpr c5
   subst c5
   have H1 : (greenwoodlaw09_MatroidSums.j0 k l0 a1 true) = some r := by rw [if_neg (show ¬ (false = true) by decide)] at H; exact H
   clear H
   have H := H1
   clear H1
   have H' := Aside0.mk H
   clear H
   go_wp2_with (first | ((with_reducible refine gate_callee (f := 9) rfl ?_); refine goesL_ (some 11) rfl rfl Tryd.func9 (by kernel_rfl) rfl #[] rfl (by (try simp only [List.map_toArray, List.map_cons, List.map_nil]); first | done | rfl | (simp only [List.length_drop, List.length_take]; rfl)) ?_; (with_reducible refine (greenwoodlaw09_fixed.calls  false _ ?side1 A4.out).mono ?_); (case side1 => exact EV.below HEV.out (by repeat (first | (with_reducible first | exact HB.out | apply below_alloc | apply pw_below_drewN | apply below_drew1) | exact HB.out)) (EV.pos HEV.out)); rintro e w7 ⟨rfl, hb⟩; refine ⟨_, rfl, ?_⟩; have n0_ := Aside0.mk (below_step (by repeat (first | (with_reducible first | exact HB.out | apply below_alloc | apply pw_below_drewN | apply below_drew1) | exact HB.out)) hb); clear HB; have HB := n0_; clear n0_; (try clear hb); (try clear hb2); (try clear hk); (try clear hi)))
   go_meet
   case rel => exact ⟨_, (true), (by first | rfl | (simp; done) | (simp [*]; done)), H', ⟨by first | omega | exact Nat.le_refl _⟩, ⟨by repeat (first | (with_reducible first | exact HB.out | apply below_alloc | apply pw_below_drewN | apply below_drew1) | exact HB.out)⟩⟩
 case rest =>
  clear HC3
  try clear p2
  try clear c5
  obtain ⟨kq, x17_2, rfl, HA, HJ2, HB⟩ := hcut
  cases kq with
  | zero => exact absurd HA.out (by simp [greenwoodlaw09_MatroidSums.j0])
  | succ kj2 =>
   have H := HA.out
   clear HA
   simp only [greenwoodlaw09_MatroidSums.j0] at H
   by_cases c8 : x17_2 = true
   ·subst c8
    have H1 : ((greenwoodlaw09_fixed.f).bind fun t283 => (some t283)) = some r := by rw [if_pos rfl] at H; exact H
    clear H
    have H := H1
    clear H1
    replace H := Option.bind_eq_some_iff.mp H
    obtain ⟨t283, A90, H⟩ := H
    replace H : (some t283) = some r := H
    have A9 := Aside0.mk A90
    clear A90
    obtain rfl := Option.some.inj H
    go_wp2_with (first | ((with_reducible refine gate_callee (f := 9) rfl ?_); refine goesL_ (some 18) rfl rfl Tryd.func9 (by kernel_rfl) rfl #[] rfl (by (try simp only [List.map_toArray, List.map_cons, List.map_nil]); first | done | rfl | (simp only [List.length_drop, List.length_take]; rfl)) ?_; (with_reducible refine (greenwoodlaw09_fixed.calls  t283 _ ?side1 A9.out).mono ?_); (case side1 => exact EV.below HEV.out (by repeat (first | (with_reducible first | exact HB.out | apply below_alloc | apply pw_below_drewN | apply below_drew1) | exact HB.out)) (EV.pos HEV.out)); rintro e w10 ⟨rfl, hb⟩; refine ⟨_, rfl, ?_⟩; have n0_ := Aside0.mk (below_step (by repeat (first | (with_reducible first | exact HB.out | apply below_alloc | apply pw_below_drewN | apply below_drew1) | exact HB.out)) hb); clear HB; have HB := n0_; clear n0_; (try clear hb); (try clear hb2); (try clear hk); (try clear hi)))
    go_ret
    exact ⟨by first | rfl | (simp [errW_none, errW_some] <;> rfl) | (simp [*, errW_none, errW_some] <;> rfl), by repeat (first | (with_reducible first | exact HB.out | apply below_alloc | apply pw_below_drewN | apply below_drew1) | exact HB.out)⟩
   ·replace c8 := Bool.eq_false_iff.mpr c8
    subst c8
    have H1 : (greenwoodlaw09_MatroidSums.l0 kj2 l0 a1 0 0 0) = some r := by rw [if_neg (show ¬ (false = true) by decide)] at H; exact H
    clear H
    have H := H1
    clear H1
    have H' := Aside0.mk H
    clear H
    go_wp2
    go_loopg [5, 6, 7] kj2 (fun kq v5 v6 v7 w' => ∃ (x5_2 : Int) (x6_2 : Int) (x7_2 : Int), v5 = .int .i64 x5_2 ∧ v6 = .int .i64 x6_2 ∧ v7 = .int .i64 x7_2 ∧ Aside0 (greenwoodlaw09_MatroidSums.l0 kq l0 a1 x5_2 x6_2 x7_2 = some r) ∧ Aside0 (kq ≤ kj2) ∧ Aside0 (Below w.heap.size w w'))
    case atStart => exact ⟨(0), (0), (0), (by first | rfl | (simp; done) | (simp [*]; done)), (by first | rfl | (simp; done) | (simp [*]; done)), (by first | rfl | (simp; done) | (simp [*]; done)), H', ⟨Nat.le_refl _⟩, ⟨by repeat (first | (with_reducible first | exact HB.out | apply below_alloc | apply pw_below_drewN | apply below_drew1) | exact HB.out)⟩⟩
    case round =>
     clear H'
     try clear p2
     try clear c5
     try clear c8
     try clear c9
     try clear p2
     obtain ⟨x5_2, x6_2, x7_2, rfl, rfl, rfl, HA, HK2, HB⟩ := hrel
     cases gk with
     | zero => exact absurd HA.out (by simp [greenwoodlaw09_MatroidSums.l0])
     | succ k2 =>
      have H := HA.out
      clear HA
      simp only [greenwoodlaw09_MatroidSums.l0] at H
      by_cases c11 : x7_2 < (l0.length : Int)
      ·rw [if_pos c11] at H
       have c11b0 : decide (x7_2 < (l0.length : Int)) = true := decide_eq_true c11
       clear c11
       by_cases c12 : 0 ≤ x7_2
       ·rw [if_pos c12] at H
        have c12b0 : decide (0 ≤ x7_2) = true := decide_eq_true c12
        clear c12
        replace H := Option.bind_eq_some_iff.mp H
        obtain ⟨t293, A130, H⟩ := H
        replace H : (if t293 = true then ((matroid_Check.f ((rd_T25 l0 x7_2).f0) ((rd_T25 l0 x7_2).f1) ((rd_T25 l0 x7_2).f2) ((rd_T25 l0 x7_2).f3) ((rd_T25 l0 x7_2).f4) ((rd_T25 l0 x7_2).f5)).bind fun t295 => (if t295 = 0 then ((matroid_Deep.f k2 ((rd_T25 l0 x7_2).f0) ((rd_T25 l0 x7_2).f1) ((rd_T25 l0 x7_2).f2) ((rd_T25 l0 x7_2).f3) ((rd_T25 l0 x7_2).f4) ((rd_T25 l0 x7_2).f5)).bind fun t298 => (greenwoodlaw09_MatroidSums.l0 k2 l0 a1 (wrap64 (x5_2 + ((rd_T25 l0 x7_2).f1))) (mx x6_2 t298) (wrap64 (x7_2 + 1)))) else (some true))) else (some true)) = some r := H
        have A13 := Aside0.mk A130
        clear A130
        by_cases c14 : t293 = true
        ·subst c14
         have H1 : ((matroid_Check.f ((rd_T25 l0 x7_2).f0) ((rd_T25 l0 x7_2).f1) ((rd_T25 l0 x7_2).f2) ((rd_T25 l0 x7_2).f3) ((rd_T25 l0 x7_2).f4) ((rd_T25 l0 x7_2).f5)).bind fun t295 => (if t295 = 0 then ((matroid_Deep.f k2 ((rd_T25 l0 x7_2).f0) ((rd_T25 l0 x7_2).f1) ((rd_T25 l0 x7_2).f2) ((rd_T25 l0 x7_2).f3) ((rd_T25 l0 x7_2).f4) ((rd_T25 l0 x7_2).f5)).bind fun t298 => (greenwoodlaw09_MatroidSums.l0 k2 l0 a1 (wrap64 (x5_2 + ((rd_T25 l0 x7_2).f1))) (mx x6_2 t298) (wrap64 (x7_2 + 1)))) else (some true))) = some r := by rw [if_pos rfl] at H; exact H
         clear H
         have H := H1
         clear H1
         replace H := Option.bind_eq_some_iff.mp H
         obtain ⟨t295, A150, H⟩ := H
         replace H : (if t295 = 0 then ((matroid_Deep.f k2 ((rd_T25 l0 x7_2).f0) ((rd_T25 l0 x7_2).f1) ((rd_T25 l0 x7_2).f2) ((rd_T25 l0 x7_2).f3) ((rd_T25 l0 x7_2).f4) ((rd_T25 l0 x7_2).f5)).bind fun t298 => (greenwoodlaw09_MatroidSums.l0 k2 l0 a1 (wrap64 (x5_2 + ((rd_T25 l0 x7_2).f1))) (mx x6_2 t298) (wrap64 (x7_2 + 1)))) else (some true)) = some r := H
         have A15 := Aside0.mk A150
         clear A150
         by_cases c16 : t295 = 0
         ·rw [if_pos c16] at H
          have c16b0 : (t295 == 0) = true := beq_iff_eq.mpr c16
          have c16b1 : (t295 != 0) = false := bne_eq_false_iff_eq.mpr c16
          clear c16
          replace H := Option.bind_eq_some_iff.mp H
          obtain ⟨t298, A170, H⟩ := H
          replace H : (greenwoodlaw09_MatroidSums.l0 k2 l0 a1 (wrap64 (x5_2 + ((rd_T25 l0 x7_2).f1))) (mx x6_2 t298) (wrap64 (x7_2 + 1))) = some r := H
          have A17 := Aside0.mk A170
          clear A170
          obtain ⟨ji18, hji18⟩ : ∃ j_ : Int, (mx x6_2 t298) = j_ := ⟨_, rfl⟩
          replace H : (greenwoodlaw09_MatroidSums.l0 k2 l0 a1 (wrap64 (x5_2 + ((rd_T25 l0 x7_2).f1))) ji18 (wrap64 (x7_2 + 1))) = some r := by first | (rw [hji18] at H; exact H) | (simp only [hji18] at H ⊢; exact H)
          (try rw [hji18] at A13)
          (try rw [hji18] at A15)
          (try rw [hji18] at A17)
          have hji18_ : (if x6_2 < t298 then t298 else x6_2) = ji18 := hji18
          have H' := Aside0.mk H
          clear H
          have p292 : 0 ≤ (x7_2 : Int) := of_decide_eq_true (by first | (with_reducible assumption) | assumption)
          have q292 : x7_2 < (l0.length : Int) := of_decide_eq_true (by first | (with_reducible assumption) | assumption)
          obtain ⟨ad292, A292_4, c292_4, A292_5, c292_5, e292, hx292_0, hx292_1, hx292_2, hx292_3, hx292_4, hx292_5, hl292_4, hi292_4, hl292_5, hi292_5⟩ := at_T25 HR0.out x7_2 p292 q292
          cases e292
          replace hx292_0 := (HB.out.cell (World.block_lt_of_cell? w _ hx292_0)).trans hx292_0
          replace hx292_1 := (HB.out.cell (World.block_lt_of_cell? w _ hx292_1)).trans hx292_1
          replace hx292_2 := (HB.out.cell (World.block_lt_of_cell? w _ hx292_2)).trans hx292_2
          replace hx292_3 := (HB.out.cell (World.block_lt_of_cell? w _ hx292_3)).trans hx292_3
          replace hx292_4 := (HB.out.cell (World.block_lt_of_cell? w _ hx292_4)).trans hx292_4
          replace hx292_5 := (HB.out.cell (World.block_lt_of_cell? w _ hx292_5)).trans hx292_5
          have HR292_4 := Aside0.mk hi292_4
          have HC292_4 := Aside0.mk hl292_4
          clear hi292_4 hl292_4
          have HR292_5 := Aside0.mk hi292_5
          have HC292_5 := Aside0.mk hl292_5
          clear hi292_5 hl292_5
          replace p292 := eq_true p292
          replace q292 := eq_true q292
          go_wp2_with (first | ((with_reducible refine gate_callee (f := 8) rfl ?_); refine goesL_ (some 29) rfl rfl Tryd.func8 (by kernel_rfl) rfl #[.agg #[.int .i64 ((rd_T25 l0 x7_2).f0), .int .i64 ((rd_T25 l0 x7_2).f1), .int .i64 ((rd_T25 l0 x7_2).f2), .int .i64 ((rd_T25 l0 x7_2).f3), .slice A292_4 ((rd_T25 l0 x7_2).f4).length c292_4, .slice A292_5 ((rd_T25 l0 x7_2).f5).length c292_5]] rfl (by (try simp only [List.map_toArray, List.map_cons, List.map_nil]); first | done | rfl | (simp only [List.length_drop, List.length_take]; rfl)) ?_; (with_reducible refine (greenwoodref09_Small.calls k2 ((rd_T25 l0 x7_2).f0) ((rd_T25 l0 x7_2).f1) ((rd_T25 l0 x7_2).f2) ((rd_T25 l0 x7_2).f3) _ _ ((rd_T25 l0 x7_2).f4) _ _ ((rd_T25 l0 x7_2).f5) true _ ?side1 ?side2 ?side3 ?side4 A13.out).mono ?_); (case side1 => repeat (first | exact (Kd.C_below HR292_4.out HB.out) | (with_reducible refine Kd.C_alloc ?_ _) | (with_reducible refine Kd.C_drewN ?_ _) | (with_reducible refine Kd.C_drew ?_))); (case side2 => exact HC292_4.out); (case side3 => repeat (first | exact (Kd.C_below HR292_5.out HB.out) | (with_reducible refine Kd.C_alloc ?_ _) | (with_reducible refine Kd.C_drewN ?_ _) | (with_reducible refine Kd.C_drew ?_))); (case side4 => exact HC292_5.out); rintro e w19 ⟨rfl, hb⟩; refine ⟨_, rfl, ?_⟩; have n0_ := Aside0.mk (below_step (by repeat (first | (with_reducible first | exact HB.out | apply below_alloc | apply pw_below_drewN | apply below_drew1) | exact HB.out)) hb); clear HB; have HB := n0_; clear n0_; (try clear hb); (try clear hb2); (try clear hk); (try clear hi); have p294 : 0 ≤ (x7_2 : Int) := of_decide_eq_true (by first | (with_reducible assumption) | assumption); have q294 : x7_2 < (l0.length : Int) := of_decide_eq_true (by first | (with_reducible assumption) | assumption); obtain ⟨ad294, A294_4, c294_4, A294_5, c294_5, e294, hx294_0, hx294_1, hx294_2, hx294_3, hx294_4, hx294_5, hl294_4, hi294_4, hl294_5, hi294_5⟩ := at_T25 HR0.out x7_2 p294 q294; obtain rfl : ad292 = ad294 := (by injection e294); replace hx294_0 := (HB.out.cell (World.block_lt_of_cell? w _ hx294_0)).trans hx294_0; replace hx294_1 := (HB.out.cell (World.block_lt_of_cell? w _ hx294_1)).trans hx294_1; replace hx294_2 := (HB.out.cell (World.block_lt_of_cell? w _ hx294_2)).trans hx294_2; replace hx294_3 := (HB.out.cell (World.block_lt_of_cell? w _ hx294_3)).trans hx294_3; replace hx294_4 := (HB.out.cell (World.block_lt_of_cell? w _ hx294_4)).trans hx294_4; replace hx294_5 := (HB.out.cell (World.block_lt_of_cell? w _ hx294_5)).trans hx294_5; have HR294_4 := Aside0.mk hi294_4; have HC294_4 := Aside0.mk hl294_4; clear hi294_4 hl294_4; have HR294_5 := Aside0.mk hi294_5; have HC294_5 := Aside0.mk hl294_5; clear hi294_5 hl294_5; replace p294 := eq_true p294; replace q294 := eq_true q294) | (go_at_call 12; (with_reducible refine (matroid_Check.calls ((rd_T25 l0 x7_2).f0) ((rd_T25 l0 x7_2).f1) ((rd_T25 l0 x7_2).f2) ((rd_T25 l0 x7_2).f3) _ _ ((rd_T25 l0 x7_2).f4) _ _ ((rd_T25 l0 x7_2).f5) t295 _ ?side5 ?side1 ?side2 ?side3 ?side4 A15.out).mono ?_); (case side1 => repeat (first | exact (Kd.C_below HR294_4.out HB.out) | (with_reducible refine Kd.C_alloc ?_ _) | (with_reducible refine Kd.C_drewN ?_ _) | (with_reducible refine Kd.C_drew ?_))); (case side2 => exact HC294_4.out); (case side3 => repeat (first | exact (Kd.C_below HR294_5.out HB.out) | (with_reducible refine Kd.C_alloc ?_ _) | (with_reducible refine Kd.C_drewN ?_ _) | (with_reducible refine Kd.C_drew ?_))); (case side4 => exact HC294_5.out); (case side5 => exact EV.below HEV.out (by repeat (first | (with_reducible first | exact HB.out | apply below_alloc | apply pw_below_drewN | apply below_drew1) | exact HB.out)) (EV.pos HEV.out)); rintro e w20 ⟨rfl, hb⟩; have n0_ := Aside0.mk (below_step (by repeat (first | (with_reducible first | exact HB.out | apply below_alloc | apply pw_below_drewN | apply below_drew1) | exact HB.out)) hb); clear HB; have HB := n0_; clear n0_; (try clear hb); (try clear hb2); (try clear hk); (try clear hi); have p296 : 0 ≤ (x7_2 : Int) := of_decide_eq_true (by first | (with_reducible assumption) | assumption); have q296 : x7_2 < (l0.length : Int) := of_decide_eq_true (by first | (with_reducible assumption) | assumption); obtain ⟨ad296, A296_4, c296_4, A296_5, c296_5, e296, hx296_0, hx296_1, hx296_2, hx296_3, hx296_4, hx296_5, hl296_4, hi296_4, hl296_5, hi296_5⟩ := at_T25 HR0.out x7_2 p296 q296; obtain rfl : ad292 = ad296 := (by injection e296); replace hx296_0 := (HB.out.cell (World.block_lt_of_cell? w _ hx296_0)).trans hx296_0; replace hx296_1 := (HB.out.cell (World.block_lt_of_cell? w _ hx296_1)).trans hx296_1; replace hx296_2 := (HB.out.cell (World.block_lt_of_cell? w _ hx296_2)).trans hx296_2; replace hx296_3 := (HB.out.cell (World.block_lt_of_cell? w _ hx296_3)).trans hx296_3; replace hx296_4 := (HB.out.cell (World.block_lt_of_cell? w _ hx296_4)).trans hx296_4; replace hx296_5 := (HB.out.cell (World.block_lt_of_cell? w _ hx296_5)).trans hx296_5; have HR296_4 := Aside0.mk hi296_4; have HC296_4 := Aside0.mk hl296_4; clear hi296_4 hl296_4; have HR296_5 := Aside0.mk hi296_5; have HC296_5 := Aside0.mk hl296_5; clear hi296_5 hl296_5; replace p296 := eq_true p296; replace q296 := eq_true q296; have p297 : 0 ≤ (x7_2 : Int) := of_decide_eq_true (by first | (with_reducible assumption) | assumption); have q297 : x7_2 < (l0.length : Int) := of_decide_eq_true (by first | (with_reducible assumption) | assumption); obtain ⟨ad297, A297_4, c297_4, A297_5, c297_5, e297, hx297_0, hx297_1, hx297_2, hx297_3, hx297_4, hx297_5, hl297_4, hi297_4, hl297_5, hi297_5⟩ := at_T25 HR0.out x7_2 p297 q297; obtain rfl : ad292 = ad297 := (by injection e297); replace hx297_0 := (HB.out.cell (World.block_lt_of_cell? w _ hx297_0)).trans hx297_0; replace hx297_1 := (HB.out.cell (World.block_lt_of_cell? w _ hx297_1)).trans hx297_1; replace hx297_2 := (HB.out.cell (World.block_lt_of_cell? w _ hx297_2)).trans hx297_2; replace hx297_3 := (HB.out.cell (World.block_lt_of_cell? w _ hx297_3)).trans hx297_3; replace hx297_4 := (HB.out.cell (World.block_lt_of_cell? w _ hx297_4)).trans hx297_4; replace hx297_5 := (HB.out.cell (World.block_lt_of_cell? w _ hx297_5)).trans hx297_5; have HR297_4 := Aside0.mk hi297_4; have HC297_4 := Aside0.mk hl297_4; clear hi297_4 hl297_4; have HR297_5 := Aside0.mk hi297_5; have HC297_5 := Aside0.mk hl297_5; clear hi297_5 hl297_5; replace p297 := eq_true p297; replace q297 := eq_true q297; have ea_ := Option.some.inj (hx296_4.symm.trans hx297_4); injection ea_ with ea_ en_ ec_; subst ea_; subst ec_; clear en_; have ea_ := Option.some.inj (hx296_5.symm.trans hx297_5); injection ea_ with ea_ en_ ec_; subst ea_; subst ec_; clear en_) | ((with_reducible refine gate_callee (f := 14) rfl ?_); refine goesL_ (some 51) rfl rfl Tryd.func14 (by kernel_rfl) rfl #[.agg #[.int .i64 ((rd_T25 l0 x7_2).f0), .int .i64 ((rd_T25 l0 x7_2).f1), .int .i64 ((rd_T25 l0 x7_2).f2), .int .i64 ((rd_T25 l0 x7_2).f3), .slice A296_4 ((rd_T25 l0 x7_2).f4).length c296_4, .slice A296_5 ((rd_T25 l0 x7_2).f5).length c296_5]] rfl (by (try simp only [List.map_toArray, List.map_cons, List.map_nil]); first | done | rfl | (simp only [List.length_drop, List.length_take]; rfl)) ?_; (with_reducible refine (matroid_Deep.calls k2 ((rd_T25 l0 x7_2).f0) ((rd_T25 l0 x7_2).f1) ((rd_T25 l0 x7_2).f2) ((rd_T25 l0 x7_2).f3) _ _ ((rd_T25 l0 x7_2).f4) _ _ ((rd_T25 l0 x7_2).f5) t298 _ ?side1 ?side2 ?side3 ?side4 A17.out).mono ?_); (case side1 => repeat (first | exact (Kd.C_below HR297_4.out HB.out) | (with_reducible refine Kd.C_alloc ?_ _) | (with_reducible refine Kd.C_drewN ?_ _) | (with_reducible refine Kd.C_drew ?_))); (case side2 => exact HC297_4.out); (case side3 => repeat (first | exact (Kd.C_below HR297_5.out HB.out) | (with_reducible refine Kd.C_alloc ?_ _) | (with_reducible refine Kd.C_drewN ?_ _) | (with_reducible refine Kd.C_drew ?_))); (case side4 => exact HC297_5.out); rintro e w21 ⟨rfl, hb⟩; refine ⟨_, rfl, ?_⟩; have n0_ := Aside0.mk (below_step (by repeat (first | (with_reducible first | exact HB.out | apply below_alloc | apply pw_below_drewN | apply below_drew1) | exact HB.out)) hb); clear HB; have HB := n0_; clear n0_; (try clear hb); (try clear hb2); (try clear hk); (try clear hi)))
          go_roundg k2
          case measure => have := HJ2.out; have := HK2.out; omega
          case rel => exact ⟨(wrap64 (x5_2 + ((rd_T25 l0 x7_2).f1))), (ji18), (wrap64 (x7_2 + 1)), (by first | rfl | (simp; done) | (simp [*]; done)), (by first | rfl | (simp; done) | (simp only [← hji18] <;> (first | rfl | simp)) | (simp [*]; done)), (by first | rfl | (simp; done) | (simp [*]; done)), H', ⟨by have := HJ2.out; have := HK2.out; omega⟩, ⟨by repeat (first | (with_reducible first | exact HB.out | apply below_alloc | apply pw_below_drewN | apply below_drew1) | exact HB.out)⟩⟩
         ·rw [if_neg c16] at H
          have c16b0 : (t295 == 0) = false := beq_eq_false_iff_ne.mpr c16
          have c16b1 : (t295 != 0) = true := bne_iff_ne.mpr c16
          obtain rfl := Option.some.inj H
          have p292 : 0 ≤ (x7_2 : Int) := of_decide_eq_true (by first | (with_reducible assumption) | assumption)
          have q292 : x7_2 < (l0.length : Int) := of_decide_eq_true (by first | (with_reducible assumption) | assumption)
          obtain ⟨ad292, A292_4, c292_4, A292_5, c292_5, e292, hx292_0, hx292_1, hx292_2, hx292_3, hx292_4, hx292_5, hl292_4, hi292_4, hl292_5, hi292_5⟩ := at_T25 HR0.out x7_2 p292 q292
          cases e292
          replace hx292_0 := (HB.out.cell (World.block_lt_of_cell? w _ hx292_0)).trans hx292_0
          replace hx292_1 := (HB.out.cell (World.block_lt_of_cell? w _ hx292_1)).trans hx292_1
          replace hx292_2 := (HB.out.cell (World.block_lt_of_cell? w _ hx292_2)).trans hx292_2
          replace hx292_3 := (HB.out.cell (World.block_lt_of_cell? w _ hx292_3)).trans hx292_3
          replace hx292_4 := (HB.out.cell (World.block_lt_of_cell? w _ hx292_4)).trans hx292_4
          replace hx292_5 := (HB.out.cell (World.block_lt_of_cell? w _ hx292_5)).trans hx292_5
          have HR292_4 := Aside0.mk hi292_4
          have HC292_4 := Aside0.mk hl292_4
          clear hi292_4 hl292_4
          have HR292_5 := Aside0.mk hi292_5
          have HC292_5 := Aside0.mk hl292_5
          clear hi292_5 hl292_5
          replace p292 := eq_true p292
          replace q292 := eq_true q292
          go_wp2_with (first | ((with_reducible refine gate_callee (f := 8) rfl ?_); refine goesL_ (some 29) rfl rfl Tryd.func8 (by kernel_rfl) rfl #[.agg #[.int .i64 ((rd_T25 l0 x7_2).f0), .int .i64 ((rd_T25 l0 x7_2).f1), .int .i64 ((rd_T25 l0 x7_2).f2), .int .i64 ((rd_T25 l0 x7_2).f3), .slice A292_4 ((rd_T25 l0 x7_2).f4).length c292_4, .slice A292_5 ((rd_T25 l0 x7_2).f5).length c292_5]] rfl (by (try simp only [List.map_toArray, List.map_cons, List.map_nil]); first | done | rfl | (simp only [List.length_drop, List.length_take]; rfl)) ?_; (with_reducible refine (greenwoodref09_Small.calls k2 ((rd_T25 l0 x7_2).f0) ((rd_T25 l0 x7_2).f1) ((rd_T25 l0 x7_2).f2) ((rd_T25 l0 x7_2).f3) _ _ ((rd_T25 l0 x7_2).f4) _ _ ((rd_T25 l0 x7_2).f5) true _ ?side1 ?side2 ?side3 ?side4 A13.out).mono ?_); (case side1 => repeat (first | exact (Kd.C_below HR292_4.out HB.out) | (with_reducible refine Kd.C_alloc ?_ _) | (with_reducible refine Kd.C_drewN ?_ _) | (with_reducible refine Kd.C_drew ?_))); (case side2 => exact HC292_4.out); (case side3 => repeat (first | exact (Kd.C_below HR292_5.out HB.out) | (with_reducible refine Kd.C_alloc ?_ _) | (with_reducible refine Kd.C_drewN ?_ _) | (with_reducible refine Kd.C_drew ?_))); (case side4 => exact HC292_5.out); rintro e w22 ⟨rfl, hb⟩; refine ⟨_, rfl, ?_⟩; have n0_ := Aside0.mk (below_step (by repeat (first | (with_reducible first | exact HB.out | apply below_alloc | apply pw_below_drewN | apply below_drew1) | exact HB.out)) hb); clear HB; have HB := n0_; clear n0_; (try clear hb); (try clear hb2); (try clear hk); (try clear hi); have p294 : 0 ≤ (x7_2 : Int) := of_decide_eq_true (by first | (with_reducible assumption) | assumption); have q294 : x7_2 < (l0.length : Int) := of_decide_eq_true (by first | (with_reducible assumption) | assumption); obtain ⟨ad294, A294_4, c294_4, A294_5, c294_5, e294, hx294_0, hx294_1, hx294_2, hx294_3, hx294_4, hx294_5, hl294_4, hi294_4, hl294_5, hi294_5⟩ := at_T25 HR0.out x7_2 p294 q294; obtain rfl : ad292 = ad294 := (by injection e294); replace hx294_0 := (HB.out.cell (World.block_lt_of_cell? w _ hx294_0)).trans hx294_0; replace hx294_1 := (HB.out.cell (World.block_lt_of_cell? w _ hx294_1)).trans hx294_1; replace hx294_2 := (HB.out.cell (World.block_lt_of_cell? w _ hx294_2)).trans hx294_2; replace hx294_3 := (HB.out.cell (World.block_lt_of_cell? w _ hx294_3)).trans hx294_3; replace hx294_4 := (HB.out.cell (World.block_lt_of_cell? w _ hx294_4)).trans hx294_4; replace hx294_5 := (HB.out.cell (World.block_lt_of_cell? w _ hx294_5)).trans hx294_5; have HR294_4 := Aside0.mk hi294_4; have HC294_4 := Aside0.mk hl294_4; clear hi294_4 hl294_4; have HR294_5 := Aside0.mk hi294_5; have HC294_5 := Aside0.mk hl294_5; clear hi294_5 hl294_5; replace p294 := eq_true p294; replace q294 := eq_true q294) | (go_at_call 12; (with_reducible refine (matroid_Check.calls ((rd_T25 l0 x7_2).f0) ((rd_T25 l0 x7_2).f1) ((rd_T25 l0 x7_2).f2) ((rd_T25 l0 x7_2).f3) _ _ ((rd_T25 l0 x7_2).f4) _ _ ((rd_T25 l0 x7_2).f5) t295 _ ?side5 ?side1 ?side2 ?side3 ?side4 A15.out).mono ?_); (case side1 => repeat (first | exact (Kd.C_below HR294_4.out HB.out) | (with_reducible refine Kd.C_alloc ?_ _) | (with_reducible refine Kd.C_drewN ?_ _) | (with_reducible refine Kd.C_drew ?_))); (case side2 => exact HC294_4.out); (case side3 => repeat (first | exact (Kd.C_below HR294_5.out HB.out) | (with_reducible refine Kd.C_alloc ?_ _) | (with_reducible refine Kd.C_drewN ?_ _) | (with_reducible refine Kd.C_drew ?_))); (case side4 => exact HC294_5.out); (case side5 => exact EV.below HEV.out (by repeat (first | (with_reducible first | exact HB.out | apply below_alloc | apply pw_below_drewN | apply below_drew1) | exact HB.out)) (EV.pos HEV.out)); rintro e w23 ⟨rfl, hb⟩; have n0_ := Aside0.mk (below_step (by repeat (first | (with_reducible first | exact HB.out | apply below_alloc | apply pw_below_drewN | apply below_drew1) | exact HB.out)) hb); clear HB; have HB := n0_; clear n0_; (try clear hb); (try clear hb2); (try clear hk); (try clear hi)))
          go_ret
          exact ⟨by first | rfl | (simp [errW_none, errW_some] <;> rfl) | (simp [*, errW_none, errW_some] <;> rfl), by repeat (first | (with_reducible first | exact HB.out | apply below_alloc | apply pw_below_drewN | apply below_drew1) | exact HB.out)⟩
        ·replace c14 := Bool.eq_false_iff.mpr c14
         subst c14
         have H1 : (some true) = some r := by rw [if_neg (show ¬ (false = true) by decide)] at H; exact H
         clear H
         have H := H1
         clear H1
         obtain rfl := Option.some.inj H
         have p292 : 0 ≤ (x7_2 : Int) := of_decide_eq_true (by first | (with_reducible assumption) | assumption)
         have q292 : x7_2 < (l0.length : Int) := of_decide_eq_true (by first | (with_reducible assumption) | assumption)
         obtain ⟨ad292, A292_4, c292_4, A292_5, c292_5, e292, hx292_0, hx292_1, hx292_2, hx292_3, hx292_4, hx292_5, hl292_4, hi292_4, hl292_5, hi292_5⟩ := at_T25 HR0.out x7_2 p292 q292
         cases e292
         replace hx292_0 := (HB.out.cell (World.block_lt_of_cell? w _ hx292_0)).trans hx292_0
         replace hx292_1 := (HB.out.cell (World.block_lt_of_cell? w _ hx292_1)).trans hx292_1
         replace hx292_2 := (HB.out.cell (World.block_lt_of_cell? w _ hx292_2)).trans hx292_2
         replace hx292_3 := (HB.out.cell (World.block_lt_of_cell? w _ hx292_3)).trans hx292_3
         replace hx292_4 := (HB.out.cell (World.block_lt_of_cell? w _ hx292_4)).trans hx292_4
         replace hx292_5 := (HB.out.cell (World.block_lt_of_cell? w _ hx292_5)).trans hx292_5
         have HR292_4 := Aside0.mk hi292_4
         have HC292_4 := Aside0.mk hl292_4
         clear hi292_4 hl292_4
         have HR292_5 := Aside0.mk hi292_5
         have HC292_5 := Aside0.mk hl292_5
         clear hi292_5 hl292_5
         replace p292 := eq_true p292
         replace q292 := eq_true q292
         go_wp2_with (first | ((with_reducible refine gate_callee (f := 8) rfl ?_); refine goesL_ (some 29) rfl rfl Tryd.func8 (by kernel_rfl) rfl #[.agg #[.int .i64 ((rd_T25 l0 x7_2).f0), .int .i64 ((rd_T25 l0 x7_2).f1), .int .i64 ((rd_T25 l0 x7_2).f2), .int .i64 ((rd_T25 l0 x7_2).f3), .slice A292_4 ((rd_T25 l0 x7_2).f4).length c292_4, .slice A292_5 ((rd_T25 l0 x7_2).f5).length c292_5]] rfl (by (try simp only [List.map_toArray, List.map_cons, List.map_nil]); first | done | rfl | (simp only [List.length_drop, List.length_take]; rfl)) ?_; (with_reducible refine (greenwoodref09_Small.calls k2 ((rd_T25 l0 x7_2).f0) ((rd_T25 l0 x7_2).f1) ((rd_T25 l0 x7_2).f2) ((rd_T25 l0 x7_2).f3) _ _ ((rd_T25 l0 x7_2).f4) _ _ ((rd_T25 l0 x7_2).f5) false _ ?side1 ?side2 ?side3 ?side4 A13.out).mono ?_); (case side1 => repeat (first | exact (Kd.C_below HR292_4.out HB.out) | (with_reducible refine Kd.C_alloc ?_ _) | (with_reducible refine Kd.C_drewN ?_ _) | (with_reducible refine Kd.C_drew ?_))); (case side2 => exact HC292_4.out); (case side3 => repeat (first | exact (Kd.C_below HR292_5.out HB.out) | (with_reducible refine Kd.C_alloc ?_ _) | (with_reducible refine Kd.C_drewN ?_ _) | (with_reducible refine Kd.C_drew ?_))); (case side4 => exact HC292_5.out); rintro e w24 ⟨rfl, hb⟩; refine ⟨_, rfl, ?_⟩; have n0_ := Aside0.mk (below_step (by repeat (first | (with_reducible first | exact HB.out | apply below_alloc | apply pw_below_drewN | apply below_drew1) | exact HB.out)) hb); clear HB; have HB := n0_; clear n0_; (try clear hb); (try clear hb2); (try clear hk); (try clear hi)))
         go_ret
         exact ⟨by first | rfl | (simp [errW_none, errW_some] <;> rfl) | (simp [*, errW_none, errW_some] <;> rfl), by repeat (first | (with_reducible first | exact HB.out | apply below_alloc | apply pw_below_drewN | apply below_drew1) | exact HB.out)⟩
       ·rw [if_neg c12] at H
        exact absurd H (by simp)
      ·rw [if_neg c11] at H
       have c11b0 : decide (x7_2 < (l0.length : Int)) = false := decide_eq_false c11
       clear c11
       by_cases c25 : (l0.length : Int) ≥ 1
       ·rw [if_pos c25] at H
        have c25b0 : decide (1 ≤ (l0.length : Int)) = true := decide_eq_true c25
        have c25b1 : decide (1 ≤ l0.length) = true := decide_eq_true (by omega)
        clear c25
        by_cases c26 : (l0.length : Int) ≤ 8
        ·rw [if_pos c26] at H
         have c26b0 : decide ((l0.length : Int) ≤ 8) = true := decide_eq_true c26
         have c26b1 : decide (l0.length ≤ 8) = true := decide_eq_true (by omega)
         clear c26
         by_cases c27 : x5_2 ≤ 64
         ·rw [if_pos c27] at H
          have c27b0 : decide (x5_2 ≤ 64) = true := decide_eq_true c27
          clear c27
          replace H := Option.bind_eq_some_iff.mp H
          obtain ⟨t284, A280, H⟩ := H
          replace H : ((matroid_Check.f 9 a1 0 0 ([] : List (List Int)) l0).bind fun t285 => (if ((t284 == 0) == (decide (x6_2 ≤ 3))) = true then (if a1 = x5_2 then (some true) else (some (t285 != 0))) else (some false))) = some r := H
          have A28 := Aside0.mk A280
          clear A280
          replace H := Option.bind_eq_some_iff.mp H
          obtain ⟨t285, A290, H⟩ := H
          replace H : (if ((t284 == 0) == (decide (x6_2 ≤ 3))) = true then (if a1 = x5_2 then (some true) else (some (t285 != 0))) else (some false)) = some r := H
          have A29 := Aside0.mk A290
          clear A290
          by_cases c30 : ((t284 == 0) == (decide (x6_2 ≤ 3))) = true
          ·rw [if_pos c30] at H
           have c30b0 : ((t284 == 0) == (decide (x6_2 ≤ 3))) = true := c30
           (try (have c30b1 : decide ((t284 == 0) = (decide (x6_2 ≤ 3))) = true := by simpa using c30))
           (try (have c30b2 : ((t284 == 0) == (decide (x6_2 ≤ 3))) = true := by simpa using c30))
           clear c30
           by_cases c31 : a1 = x5_2
           ·rw [if_pos c31] at H
            have c31b0 : (a1 == x5_2) = true := beq_iff_eq.mpr c31
            have c31b1 : (a1 != x5_2) = false := bne_eq_false_iff_eq.mpr c31
            clear c31
            obtain rfl := Option.some.inj H
            go_wp2_with (first | ((with_reducible refine gate_callee (f := 12) rfl ?_); refine goesL_ (some 72) rfl rfl Tryd.func12 (by kernel_rfl) rfl #[.agg #[.int .i64 9, .int .i64 x5_2, .int .i64 0, .int .i64 0, .slice none 0 0, .slice A0 l0.length c0]] rfl (by (try simp only [List.map_toArray, List.map_cons, List.map_nil]); first | done | rfl | (simp only [List.length_drop, List.length_take]; rfl)) ?_; (refine (matroid_Check.calls 9 x5_2 0 0 _ _ ([] : List (List Int)) _ _ l0 t284 _ ?side5 ?side1 ?side2 ?side3 ?side4 A28.out).mono ?_); (case side1 => exact Kd.C_nil _ _); (case side2 => exact Nat.le_refl _); (case side3 => repeat (first | exact (Kd.C_below HR0.out HB.out) | (with_reducible refine Kd.C_alloc ?_ _) | (with_reducible refine Kd.C_drewN ?_ _) | (with_reducible refine Kd.C_drew ?_))); (case side4 => exact HC0.out); (case side5 => exact EV.below HEV.out (by repeat (first | (with_reducible first | exact HB.out | apply below_alloc | apply pw_below_drewN | apply below_drew1) | exact HB.out)) (EV.pos HEV.out)); rintro e w32 ⟨rfl, hb⟩; refine ⟨_, rfl, ?_⟩; have n0_ := Aside0.mk (below_step (by repeat (first | (with_reducible first | exact HB.out | apply below_alloc | apply pw_below_drewN | apply below_drew1) | exact HB.out)) hb); clear HB; have HB := n0_; clear n0_; (try clear hb); (try clear hb2); (try clear hk); (try clear hi)) | ((with_reducible refine gate_callee (f := 12) rfl ?_); refine goesL_ (some 76) rfl rfl Tryd.func12 (by kernel_rfl) rfl #[.agg #[.int .i64 9, .int .i64 a1, .int .i64 0, .int .i64 0, .slice none 0 0, .slice A0 l0.length c0]] rfl (by (try simp only [List.map_toArray, List.map_cons, List.map_nil]); first | done | rfl | (simp only [List.length_drop, List.length_take]; rfl)) ?_; (refine (matroid_Check.calls 9 a1 0 0 _ _ ([] : List (List Int)) _ _ l0 t285 _ ?side5 ?side1 ?side2 ?side3 ?side4 A29.out).mono ?_); (case side1 => exact Kd.C_nil _ _); (case side2 => exact Nat.le_refl _); (case side3 => repeat (first | exact (Kd.C_below HR0.out HB.out) | (with_reducible refine Kd.C_alloc ?_ _) | (with_reducible refine Kd.C_drewN ?_ _) | (with_reducible refine Kd.C_drew ?_))); (case side4 => exact HC0.out); (case side5 => exact EV.below HEV.out (by repeat (first | (with_reducible first | exact HB.out | apply below_alloc | apply pw_below_drewN | apply below_drew1) | exact HB.out)) (EV.pos HEV.out)); rintro e w33 ⟨rfl, hb⟩; refine ⟨_, rfl, ?_⟩; have n0_ := Aside0.mk (below_step (by repeat (first | (with_reducible first | exact HB.out | apply below_alloc | apply pw_below_drewN | apply below_drew1) | exact HB.out)) hb); clear HB; have HB := n0_; clear n0_; (try clear hb); (try clear hb2); (try clear hk); (try clear hi)))
            go_ret
            exact ⟨by first | rfl | (simp [errW_none, errW_some] <;> rfl) | (simp [*, errW_none, errW_some] <;> rfl), by repeat (first | (with_reducible first | exact HB.out | apply below_alloc | apply pw_below_drewN | apply below_drew1) | exact HB.out)⟩
           ·rw [if_neg c31] at H
            have c31b0 : (a1 == x5_2) = false := beq_eq_false_iff_ne.mpr c31
            have c31b1 : (a1 != x5_2) = true := bne_iff_ne.mpr c31
            obtain rfl := Option.some.inj H
            go_wp2_with (first | ((with_reducible refine gate_callee (f := 12) rfl ?_); refine goesL_ (some 72) rfl rfl Tryd.func12 (by kernel_rfl) rfl #[.agg #[.int .i64 9, .int .i64 x5_2, .int .i64 0, .int .i64 0, .slice none 0 0, .slice A0 l0.length c0]] rfl (by (try simp only [List.map_toArray, List.map_cons, List.map_nil]); first | done | rfl | (simp only [List.length_drop, List.length_take]; rfl)) ?_; (refine (matroid_Check.calls 9 x5_2 0 0 _ _ ([] : List (List Int)) _ _ l0 t284 _ ?side5 ?side1 ?side2 ?side3 ?side4 A28.out).mono ?_); (case side1 => exact Kd.C_nil _ _); (case side2 => exact Nat.le_refl _); (case side3 => repeat (first | exact (Kd.C_below HR0.out HB.out) | (with_reducible refine Kd.C_alloc ?_ _) | (with_reducible refine Kd.C_drewN ?_ _) | (with_reducible refine Kd.C_drew ?_))); (case side4 => exact HC0.out); (case side5 => exact EV.below HEV.out (by repeat (first | (with_reducible first | exact HB.out | apply below_alloc | apply pw_below_drewN | apply below_drew1) | exact HB.out)) (EV.pos HEV.out)); rintro e w34 ⟨rfl, hb⟩; refine ⟨_, rfl, ?_⟩; have n0_ := Aside0.mk (below_step (by repeat (first | (with_reducible first | exact HB.out | apply below_alloc | apply pw_below_drewN | apply below_drew1) | exact HB.out)) hb); clear HB; have HB := n0_; clear n0_; (try clear hb); (try clear hb2); (try clear hk); (try clear hi)) | ((with_reducible refine gate_callee (f := 12) rfl ?_); refine goesL_ (some 76) rfl rfl Tryd.func12 (by kernel_rfl) rfl #[.agg #[.int .i64 9, .int .i64 a1, .int .i64 0, .int .i64 0, .slice none 0 0, .slice A0 l0.length c0]] rfl (by (try simp only [List.map_toArray, List.map_cons, List.map_nil]); first | done | rfl | (simp only [List.length_drop, List.length_take]; rfl)) ?_; (refine (matroid_Check.calls 9 a1 0 0 _ _ ([] : List (List Int)) _ _ l0 t285 _ ?side5 ?side1 ?side2 ?side3 ?side4 A29.out).mono ?_); (case side1 => exact Kd.C_nil _ _); (case side2 => exact Nat.le_refl _); (case side3 => repeat (first | exact (Kd.C_below HR0.out HB.out) | (with_reducible refine Kd.C_alloc ?_ _) | (with_reducible refine Kd.C_drewN ?_ _) | (with_reducible refine Kd.C_drew ?_))); (case side4 => exact HC0.out); (case side5 => exact EV.below HEV.out (by repeat (first | (with_reducible first | exact HB.out | apply below_alloc | apply pw_below_drewN | apply below_drew1) | exact HB.out)) (EV.pos HEV.out)); rintro e w35 ⟨rfl, hb⟩; refine ⟨_, rfl, ?_⟩; have n0_ := Aside0.mk (below_step (by repeat (first | (with_reducible first | exact HB.out | apply below_alloc | apply pw_below_drewN | apply below_drew1) | exact HB.out)) hb); clear HB; have HB := n0_; clear n0_; (try clear hb); (try clear hb2); (try clear hk); (try clear hi)))
            go_ret
            exact ⟨by first | rfl | (simp [errW_none, errW_some] <;> rfl) | (simp [*, errW_none, errW_some] <;> rfl), by repeat (first | (with_reducible first | exact HB.out | apply below_alloc | apply pw_below_drewN | apply below_drew1) | exact HB.out)⟩
          ·rw [if_neg c30] at H
           have c30b0 : ((t284 == 0) == (decide (x6_2 ≤ 3))) = false := by simpa using c30
           (try (have c30b1 : decide ((t284 == 0) = (decide (x6_2 ≤ 3))) = false := by simpa using c30))
           (try (have c30b2 : ((t284 == 0) == (decide (x6_2 ≤ 3))) = false := by simpa using c30))
           (try (have c30b3 : ¬ ((t284 == 0) = (decide (x6_2 ≤ 3))) := by simpa using c30))
           clear c30
           exact absurd ((Option.some.inj H).trans hrT) (by decide)
         ·rw [if_neg c27] at H
          have c27b0 : decide (x5_2 ≤ 64) = false := decide_eq_false c27
          clear c27
          replace H := Option.bind_eq_some_iff.mp H
          obtain ⟨t286, A360, H⟩ := H
          replace H : ((matroid_Check.f 9 a1 0 0 ([] : List (List Int)) l0).bind fun t287 => (if ((t286 == 0) == false) = true then (if a1 = x5_2 then (some true) else (some (t287 != 0))) else (some false))) = some r := H
          have A36 := Aside0.mk A360
          clear A360
          replace H := Option.bind_eq_some_iff.mp H
          obtain ⟨t287, A370, H⟩ := H
          replace H : (if ((t286 == 0) == false) = true then (if a1 = x5_2 then (some true) else (some (t287 != 0))) else (some false)) = some r := H
          have A37 := Aside0.mk A370
          clear A370
          by_cases c38 : ((t286 == 0) == false) = true
          ·rw [if_pos c38] at H
           have c38b0 : ((t286 == 0) == false) = true := c38
           (try (have c38b1 : decide ((t286 == 0) = false) = true := by simpa using c38))
           (try (have c38b2 : ((t286 == 0) == false) = true := by simpa using c38))
           clear c38
           by_cases c39 : a1 = x5_2
           ·rw [if_pos c39] at H
            have c39b0 : (a1 == x5_2) = true := beq_iff_eq.mpr c39
            have c39b1 : (a1 != x5_2) = false := bne_eq_false_iff_eq.mpr c39
            clear c39
            obtain rfl := Option.some.inj H
            go_wp2_with (first | ((with_reducible refine gate_callee (f := 12) rfl ?_); refine goesL_ (some 72) rfl rfl Tryd.func12 (by kernel_rfl) rfl #[.agg #[.int .i64 9, .int .i64 x5_2, .int .i64 0, .int .i64 0, .slice none 0 0, .slice A0 l0.length c0]] rfl (by (try simp only [List.map_toArray, List.map_cons, List.map_nil]); first | done | rfl | (simp only [List.length_drop, List.length_take]; rfl)) ?_; (refine (matroid_Check.calls 9 x5_2 0 0 _ _ ([] : List (List Int)) _ _ l0 t286 _ ?side5 ?side1 ?side2 ?side3 ?side4 A36.out).mono ?_); (case side1 => exact Kd.C_nil _ _); (case side2 => exact Nat.le_refl _); (case side3 => repeat (first | exact (Kd.C_below HR0.out HB.out) | (with_reducible refine Kd.C_alloc ?_ _) | (with_reducible refine Kd.C_drewN ?_ _) | (with_reducible refine Kd.C_drew ?_))); (case side4 => exact HC0.out); (case side5 => exact EV.below HEV.out (by repeat (first | (with_reducible first | exact HB.out | apply below_alloc | apply pw_below_drewN | apply below_drew1) | exact HB.out)) (EV.pos HEV.out)); rintro e w40 ⟨rfl, hb⟩; refine ⟨_, rfl, ?_⟩; have n0_ := Aside0.mk (below_step (by repeat (first | (with_reducible first | exact HB.out | apply below_alloc | apply pw_below_drewN | apply below_drew1) | exact HB.out)) hb); clear HB; have HB := n0_; clear n0_; (try clear hb); (try clear hb2); (try clear hk); (try clear hi)) | ((with_reducible refine gate_callee (f := 12) rfl ?_); refine goesL_ (some 76) rfl rfl Tryd.func12 (by kernel_rfl) rfl #[.agg #[.int .i64 9, .int .i64 a1, .int .i64 0, .int .i64 0, .slice none 0 0, .slice A0 l0.length c0]] rfl (by (try simp only [List.map_toArray, List.map_cons, List.map_nil]); first | done | rfl | (simp only [List.length_drop, List.length_take]; rfl)) ?_; (refine (matroid_Check.calls 9 a1 0 0 _ _ ([] : List (List Int)) _ _ l0 t287 _ ?side5 ?side1 ?side2 ?side3 ?side4 A37.out).mono ?_); (case side1 => exact Kd.C_nil _ _); (case side2 => exact Nat.le_refl _); (case side3 => repeat (first | exact (Kd.C_below HR0.out HB.out) | (with_reducible refine Kd.C_alloc ?_ _) | (with_reducible refine Kd.C_drewN ?_ _) | (with_reducible refine Kd.C_drew ?_))); (case side4 => exact HC0.out); (case side5 => exact EV.below HEV.out (by repeat (first | (with_reducible first | exact HB.out | apply below_alloc | apply pw_below_drewN | apply below_drew1) | exact HB.out)) (EV.pos HEV.out)); rintro e w41 ⟨rfl, hb⟩; refine ⟨_, rfl, ?_⟩; have n0_ := Aside0.mk (below_step (by repeat (first | (with_reducible first | exact HB.out | apply below_alloc | apply pw_below_drewN | apply below_drew1) | exact HB.out)) hb); clear HB; have HB := n0_; clear n0_; (try clear hb); (try clear hb2); (try clear hk); (try clear hi)))
            go_ret
            exact ⟨by first | rfl | (simp [errW_none, errW_some] <;> rfl) | (simp [*, errW_none, errW_some] <;> rfl), by repeat (first | (with_reducible first | exact HB.out | apply below_alloc | apply pw_below_drewN | apply below_drew1) | exact HB.out)⟩
           ·rw [if_neg c39] at H
            have c39b0 : (a1 == x5_2) = false := beq_eq_false_iff_ne.mpr c39
            have c39b1 : (a1 != x5_2) = true := bne_iff_ne.mpr c39
            obtain rfl := Option.some.inj H
            go_wp2_with (first | ((with_reducible refine gate_callee (f := 12) rfl ?_); refine goesL_ (some 72) rfl rfl Tryd.func12 (by kernel_rfl) rfl #[.agg #[.int .i64 9, .int .i64 x5_2, .int .i64 0, .int .i64 0, .slice none 0 0, .slice A0 l0.length c0]] rfl (by (try simp only [List.map_toArray, List.map_cons, List.map_nil]); first | done | rfl | (simp only [List.length_drop, List.length_take]; rfl)) ?_; (refine (matroid_Check.calls 9 x5_2 0 0 _ _ ([] : List (List Int)) _ _ l0 t286 _ ?side5 ?side1 ?side2 ?side3 ?side4 A36.out).mono ?_); (case side1 => exact Kd.C_nil _ _); (case side2 => exact Nat.le_refl _); (case side3 => repeat (first | exact (Kd.C_below HR0.out HB.out) | (with_reducible refine Kd.C_alloc ?_ _) | (with_reducible refine Kd.C_drewN ?_ _) | (with_reducible refine Kd.C_drew ?_))); (case side4 => exact HC0.out); (case side5 => exact EV.below HEV.out (by repeat (first | (with_reducible first | exact HB.out | apply below_alloc | apply pw_below_drewN | apply below_drew1) | exact HB.out)) (EV.pos HEV.out)); rintro e w42 ⟨rfl, hb⟩; refine ⟨_, rfl, ?_⟩; have n0_ := Aside0.mk (below_step (by repeat (first | (with_reducible first | exact HB.out | apply below_alloc | apply pw_below_drewN | apply below_drew1) | exact HB.out)) hb); clear HB; have HB := n0_; clear n0_; (try clear hb); (try clear hb2); (try clear hk); (try clear hi)) | ((with_reducible refine gate_callee (f := 12) rfl ?_); refine goesL_ (some 76) rfl rfl Tryd.func12 (by kernel_rfl) rfl #[.agg #[.int .i64 9, .int .i64 a1, .int .i64 0, .int .i64 0, .slice none 0 0, .slice A0 l0.length c0]] rfl (by (try simp only [List.map_toArray, List.map_cons, List.map_nil]); first | done | rfl | (simp only [List.length_drop, List.length_take]; rfl)) ?_; (refine (matroid_Check.calls 9 a1 0 0 _ _ ([] : List (List Int)) _ _ l0 t287 _ ?side5 ?side1 ?side2 ?side3 ?side4 A37.out).mono ?_); (case side1 => exact Kd.C_nil _ _); (case side2 => exact Nat.le_refl _); (case side3 => repeat (first | exact (Kd.C_below HR0.out HB.out) | (with_reducible refine Kd.C_alloc ?_ _) | (with_reducible refine Kd.C_drewN ?_ _) | (with_reducible refine Kd.C_drew ?_))); (case side4 => exact HC0.out); (case side5 => exact EV.below HEV.out (by repeat (first | (with_reducible first | exact HB.out | apply below_alloc | apply pw_below_drewN | apply below_drew1) | exact HB.out)) (EV.pos HEV.out)); rintro e w43 ⟨rfl, hb⟩; refine ⟨_, rfl, ?_⟩; have n0_ := Aside0.mk (below_step (by repeat (first | (with_reducible first | exact HB.out | apply below_alloc | apply pw_below_drewN | apply below_drew1) | exact HB.out)) hb); clear HB; have HB := n0_; clear n0_; (try clear hb); (try clear hb2); (try clear hk); (try clear hi)))
            go_ret
            exact ⟨by first | rfl | (simp [errW_none, errW_some] <;> rfl) | (simp [*, errW_none, errW_some] <;> rfl), by repeat (first | (with_reducible first | exact HB.out | apply below_alloc | apply pw_below_drewN | apply below_drew1) | exact HB.out)⟩
          ·rw [if_neg c38] at H
           have c38b0 : ((t286 == 0) == false) = false := by simpa using c38
           (try (have c38b1 : decide ((t286 == 0) = false) = false := by simpa using c38))
           (try (have c38b2 : ((t286 == 0) == false) = false := by simpa using c38))
           (try (have c38b3 : ¬ ((t286 == 0) = false) := by simpa using c38))
           clear c38
           exact absurd ((Option.some.inj H).trans hrT) (by decide)
        ·rw [if_neg c26] at H
         have c26b0 : decide ((l0.length : Int) ≤ 8) = false := decide_eq_false c26
         have c26b1 : decide (l0.length ≤ 8) = false := decide_eq_false (by omega)
         clear c26
         replace H := Option.bind_eq_some_iff.mp H
         obtain ⟨t288, A440, H⟩ := H
         replace H : ((matroid_Check.f 9 a1 0 0 ([] : List (List Int)) l0).bind fun t289 => (if ((t288 == 0) == false) = true then (if a1 = x5_2 then (some true) else (some (t289 != 0))) else (some false))) = some r := H
         have A44 := Aside0.mk A440
         clear A440
         replace H := Option.bind_eq_some_iff.mp H
         obtain ⟨t289, A450, H⟩ := H
         replace H : (if ((t288 == 0) == false) = true then (if a1 = x5_2 then (some true) else (some (t289 != 0))) else (some false)) = some r := H
         have A45 := Aside0.mk A450
         clear A450
         by_cases c46 : ((t288 == 0) == false) = true
         ·rw [if_pos c46] at H
          have c46b0 : ((t288 == 0) == false) = true := c46
          (try (have c46b1 : decide ((t288 == 0) = false) = true := by simpa using c46))
          (try (have c46b2 : ((t288 == 0) == false) = true := by simpa using c46))
          clear c46
          by_cases c47 : a1 = x5_2
          ·rw [if_pos c47] at H
           have c47b0 : (a1 == x5_2) = true := beq_iff_eq.mpr c47
           have c47b1 : (a1 != x5_2) = false := bne_eq_false_iff_eq.mpr c47
           clear c47
           obtain rfl := Option.some.inj H
           go_wp2_with (first | ((with_reducible refine gate_callee (f := 12) rfl ?_); refine goesL_ (some 72) rfl rfl Tryd.func12 (by kernel_rfl) rfl #[.agg #[.int .i64 9, .int .i64 x5_2, .int .i64 0, .int .i64 0, .slice none 0 0, .slice A0 l0.length c0]] rfl (by (try simp only [List.map_toArray, List.map_cons, List.map_nil]); first | done | rfl | (simp only [List.length_drop, List.length_take]; rfl)) ?_; (refine (matroid_Check.calls 9 x5_2 0 0 _ _ ([] : List (List Int)) _ _ l0 t288 _ ?side5 ?side1 ?side2 ?side3 ?side4 A44.out).mono ?_); (case side1 => exact Kd.C_nil _ _); (case side2 => exact Nat.le_refl _); (case side3 => repeat (first | exact (Kd.C_below HR0.out HB.out) | (with_reducible refine Kd.C_alloc ?_ _) | (with_reducible refine Kd.C_drewN ?_ _) | (with_reducible refine Kd.C_drew ?_))); (case side4 => exact HC0.out); (case side5 => exact EV.below HEV.out (by repeat (first | (with_reducible first | exact HB.out | apply below_alloc | apply pw_below_drewN | apply below_drew1) | exact HB.out)) (EV.pos HEV.out)); rintro e w48 ⟨rfl, hb⟩; refine ⟨_, rfl, ?_⟩; have n0_ := Aside0.mk (below_step (by repeat (first | (with_reducible first | exact HB.out | apply below_alloc | apply pw_below_drewN | apply below_drew1) | exact HB.out)) hb); clear HB; have HB := n0_; clear n0_; (try clear hb); (try clear hb2); (try clear hk); (try clear hi)) | ((with_reducible refine gate_callee (f := 12) rfl ?_); refine goesL_ (some 76) rfl rfl Tryd.func12 (by kernel_rfl) rfl #[.agg #[.int .i64 9, .int .i64 a1, .int .i64 0, .int .i64 0, .slice none 0 0, .slice A0 l0.length c0]] rfl (by (try simp only [List.map_toArray, List.map_cons, List.map_nil]); first | done | rfl | (simp only [List.length_drop, List.length_take]; rfl)) ?_; (refine (matroid_Check.calls 9 a1 0 0 _ _ ([] : List (List Int)) _ _ l0 t289 _ ?side5 ?side1 ?side2 ?side3 ?side4 A45.out).mono ?_); (case side1 => exact Kd.C_nil _ _); (case side2 => exact Nat.le_refl _); (case side3 => repeat (first | exact (Kd.C_below HR0.out HB.out) | (with_reducible refine Kd.C_alloc ?_ _) | (with_reducible refine Kd.C_drewN ?_ _) | (with_reducible refine Kd.C_drew ?_))); (case side4 => exact HC0.out); (case side5 => exact EV.below HEV.out (by repeat (first | (with_reducible first | exact HB.out | apply below_alloc | apply pw_below_drewN | apply below_drew1) | exact HB.out)) (EV.pos HEV.out)); rintro e w49 ⟨rfl, hb⟩; refine ⟨_, rfl, ?_⟩; have n0_ := Aside0.mk (below_step (by repeat (first | (with_reducible first | exact HB.out | apply below_alloc | apply pw_below_drewN | apply below_drew1) | exact HB.out)) hb); clear HB; have HB := n0_; clear n0_; (try clear hb); (try clear hb2); (try clear hk); (try clear hi)))
           go_ret
           exact ⟨by first | rfl | (simp [errW_none, errW_some] <;> rfl) | (simp [*, errW_none, errW_some] <;> rfl), by repeat (first | (with_reducible first | exact HB.out | apply below_alloc | apply pw_below_drewN | apply below_drew1) | exact HB.out)⟩
          ·rw [if_neg c47] at H
           have c47b0 : (a1 == x5_2) = false := beq_eq_false_iff_ne.mpr c47
           have c47b1 : (a1 != x5_2) = true := bne_iff_ne.mpr c47
           obtain rfl := Option.some.inj H
           go_wp2_with (first | ((with_reducible refine gate_callee (f := 12) rfl ?_); refine goesL_ (some 72) rfl rfl Tryd.func12 (by kernel_rfl) rfl #[.agg #[.int .i64 9, .int .i64 x5_2, .int .i64 0, .int .i64 0, .slice none 0 0, .slice A0 l0.length c0]] rfl (by (try simp only [List.map_toArray, List.map_cons, List.map_nil]); first | done | rfl | (simp only [List.length_drop, List.length_take]; rfl)) ?_; (refine (matroid_Check.calls 9 x5_2 0 0 _ _ ([] : List (List Int)) _ _ l0 t288 _ ?side5 ?side1 ?side2 ?side3 ?side4 A44.out).mono ?_); (case side1 => exact Kd.C_nil _ _); (case side2 => exact Nat.le_refl _); (case side3 => repeat (first | exact (Kd.C_below HR0.out HB.out) | (with_reducible refine Kd.C_alloc ?_ _) | (with_reducible refine Kd.C_drewN ?_ _) | (with_reducible refine Kd.C_drew ?_))); (case side4 => exact HC0.out); (case side5 => exact EV.below HEV.out (by repeat (first | (with_reducible first | exact HB.out | apply below_alloc | apply pw_below_drewN | apply below_drew1) | exact HB.out)) (EV.pos HEV.out)); rintro e w50 ⟨rfl, hb⟩; refine ⟨_, rfl, ?_⟩; have n0_ := Aside0.mk (below_step (by repeat (first | (with_reducible first | exact HB.out | apply below_alloc | apply pw_below_drewN | apply below_drew1) | exact HB.out)) hb); clear HB; have HB := n0_; clear n0_; (try clear hb); (try clear hb2); (try clear hk); (try clear hi)) | ((with_reducible refine gate_callee (f := 12) rfl ?_); refine goesL_ (some 76) rfl rfl Tryd.func12 (by kernel_rfl) rfl #[.agg #[.int .i64 9, .int .i64 a1, .int .i64 0, .int .i64 0, .slice none 0 0, .slice A0 l0.length c0]] rfl (by (try simp only [List.map_toArray, List.map_cons, List.map_nil]); first | done | rfl | (simp only [List.length_drop, List.length_take]; rfl)) ?_; (refine (matroid_Check.calls 9 a1 0 0 _ _ ([] : List (List Int)) _ _ l0 t289 _ ?side5 ?side1 ?side2 ?side3 ?side4 A45.out).mono ?_); (case side1 => exact Kd.C_nil _ _); (case side2 => exact Nat.le_refl _); (case side3 => repeat (first | exact (Kd.C_below HR0.out HB.out) | (with_reducible refine Kd.C_alloc ?_ _) | (with_reducible refine Kd.C_drewN ?_ _) | (with_reducible refine Kd.C_drew ?_))); (case side4 => exact HC0.out); (case side5 => exact EV.below HEV.out (by repeat (first | (with_reducible first | exact HB.out | apply below_alloc | apply pw_below_drewN | apply below_drew1) | exact HB.out)) (EV.pos HEV.out)); rintro e w51 ⟨rfl, hb⟩; refine ⟨_, rfl, ?_⟩; have n0_ := Aside0.mk (below_step (by repeat (first | (with_reducible first | exact HB.out | apply below_alloc | apply pw_below_drewN | apply below_drew1) | exact HB.out)) hb); clear HB; have HB := n0_; clear n0_; (try clear hb); (try clear hb2); (try clear hk); (try clear hi)))
           go_ret
           exact ⟨by first | rfl | (simp [errW_none, errW_some] <;> rfl) | (simp [*, errW_none, errW_some] <;> rfl), by repeat (first | (with_reducible first | exact HB.out | apply below_alloc | apply pw_below_drewN | apply below_drew1) | exact HB.out)⟩
         ·rw [if_neg c46] at H
          have c46b0 : ((t288 == 0) == false) = false := by simpa using c46
          (try (have c46b1 : decide ((t288 == 0) = false) = false := by simpa using c46))
          (try (have c46b2 : ((t288 == 0) == false) = false := by simpa using c46))
          (try (have c46b3 : ¬ ((t288 == 0) = false) := by simpa using c46))
          clear c46
          exact absurd ((Option.some.inj H).trans hrT) (by decide)
       ·rw [if_neg c25] at H
        have c25b0 : decide (1 ≤ (l0.length : Int)) = false := decide_eq_false c25
        have c25b1 : decide (1 ≤ l0.length) = false := decide_eq_false (by omega)
        clear c25
        replace H := Option.bind_eq_some_iff.mp H
        obtain ⟨t290, A520, H⟩ := H
        replace H : ((matroid_Check.f 9 a1 0 0 ([] : List (List Int)) l0).bind fun t291 => (if ((t290 == 0) == false) = true then (if a1 = x5_2 then (some true) else (some (t291 != 0))) else (some false))) = some r := H
        have A52 := Aside0.mk A520
        clear A520
        replace H := Option.bind_eq_some_iff.mp H
        obtain ⟨t291, A530, H⟩ := H
        replace H : (if ((t290 == 0) == false) = true then (if a1 = x5_2 then (some true) else (some (t291 != 0))) else (some false)) = some r := H
        have A53 := Aside0.mk A530
        clear A530
        by_cases c54 : ((t290 == 0) == false) = true
        ·rw [if_pos c54] at H
         have c54b0 : ((t290 == 0) == false) = true := c54
         (try (have c54b1 : decide ((t290 == 0) = false) = true := by simpa using c54))
         (try (have c54b2 : ((t290 == 0) == false) = true := by simpa using c54))
         clear c54
         by_cases c55 : a1 = x5_2
         ·rw [if_pos c55] at H
          have c55b0 : (a1 == x5_2) = true := beq_iff_eq.mpr c55
          have c55b1 : (a1 != x5_2) = false := bne_eq_false_iff_eq.mpr c55
          clear c55
          obtain rfl := Option.some.inj H
          go_wp2_with (first | ((with_reducible refine gate_callee (f := 12) rfl ?_); refine goesL_ (some 72) rfl rfl Tryd.func12 (by kernel_rfl) rfl #[.agg #[.int .i64 9, .int .i64 x5_2, .int .i64 0, .int .i64 0, .slice none 0 0, .slice A0 l0.length c0]] rfl (by (try simp only [List.map_toArray, List.map_cons, List.map_nil]); first | done | rfl | (simp only [List.length_drop, List.length_take]; rfl)) ?_; (refine (matroid_Check.calls 9 x5_2 0 0 _ _ ([] : List (List Int)) _ _ l0 t290 _ ?side5 ?side1 ?side2 ?side3 ?side4 A52.out).mono ?_); (case side1 => exact Kd.C_nil _ _); (case side2 => exact Nat.le_refl _); (case side3 => repeat (first | exact (Kd.C_below HR0.out HB.out) | (with_reducible refine Kd.C_alloc ?_ _) | (with_reducible refine Kd.C_drewN ?_ _) | (with_reducible refine Kd.C_drew ?_))); (case side4 => exact HC0.out); (case side5 => exact EV.below HEV.out (by repeat (first | (with_reducible first | exact HB.out | apply below_alloc | apply pw_below_drewN | apply below_drew1) | exact HB.out)) (EV.pos HEV.out)); rintro e w56 ⟨rfl, hb⟩; refine ⟨_, rfl, ?_⟩; have n0_ := Aside0.mk (below_step (by repeat (first | (with_reducible first | exact HB.out | apply below_alloc | apply pw_below_drewN | apply below_drew1) | exact HB.out)) hb); clear HB; have HB := n0_; clear n0_; (try clear hb); (try clear hb2); (try clear hk); (try clear hi)) | ((with_reducible refine gate_callee (f := 12) rfl ?_); refine goesL_ (some 76) rfl rfl Tryd.func12 (by kernel_rfl) rfl #[.agg #[.int .i64 9, .int .i64 a1, .int .i64 0, .int .i64 0, .slice none 0 0, .slice A0 l0.length c0]] rfl (by (try simp only [List.map_toArray, List.map_cons, List.map_nil]); first | done | rfl | (simp only [List.length_drop, List.length_take]; rfl)) ?_; (refine (matroid_Check.calls 9 a1 0 0 _ _ ([] : List (List Int)) _ _ l0 t291 _ ?side5 ?side1 ?side2 ?side3 ?side4 A53.out).mono ?_); (case side1 => exact Kd.C_nil _ _); (case side2 => exact Nat.le_refl _); (case side3 => repeat (first | exact (Kd.C_below HR0.out HB.out) | (with_reducible refine Kd.C_alloc ?_ _) | (with_reducible refine Kd.C_drewN ?_ _) | (with_reducible refine Kd.C_drew ?_))); (case side4 => exact HC0.out); (case side5 => exact EV.below HEV.out (by repeat (first | (with_reducible first | exact HB.out | apply below_alloc | apply pw_below_drewN | apply below_drew1) | exact HB.out)) (EV.pos HEV.out)); rintro e w57 ⟨rfl, hb⟩; refine ⟨_, rfl, ?_⟩; have n0_ := Aside0.mk (below_step (by repeat (first | (with_reducible first | exact HB.out | apply below_alloc | apply pw_below_drewN | apply below_drew1) | exact HB.out)) hb); clear HB; have HB := n0_; clear n0_; (try clear hb); (try clear hb2); (try clear hk); (try clear hi)))
          go_ret
          exact ⟨by first | rfl | (simp [errW_none, errW_some] <;> rfl) | (simp [*, errW_none, errW_some] <;> rfl), by repeat (first | (with_reducible first | exact HB.out | apply below_alloc | apply pw_below_drewN | apply below_drew1) | exact HB.out)⟩
         ·rw [if_neg c55] at H
          have c55b0 : (a1 == x5_2) = false := beq_eq_false_iff_ne.mpr c55
          have c55b1 : (a1 != x5_2) = true := bne_iff_ne.mpr c55
          obtain rfl := Option.some.inj H
          go_wp2_with (first | ((with_reducible refine gate_callee (f := 12) rfl ?_); refine goesL_ (some 72) rfl rfl Tryd.func12 (by kernel_rfl) rfl #[.agg #[.int .i64 9, .int .i64 x5_2, .int .i64 0, .int .i64 0, .slice none 0 0, .slice A0 l0.length c0]] rfl (by (try simp only [List.map_toArray, List.map_cons, List.map_nil]); first | done | rfl | (simp only [List.length_drop, List.length_take]; rfl)) ?_; (refine (matroid_Check.calls 9 x5_2 0 0 _ _ ([] : List (List Int)) _ _ l0 t290 _ ?side5 ?side1 ?side2 ?side3 ?side4 A52.out).mono ?_); (case side1 => exact Kd.C_nil _ _); (case side2 => exact Nat.le_refl _); (case side3 => repeat (first | exact (Kd.C_below HR0.out HB.out) | (with_reducible refine Kd.C_alloc ?_ _) | (with_reducible refine Kd.C_drewN ?_ _) | (with_reducible refine Kd.C_drew ?_))); (case side4 => exact HC0.out); (case side5 => exact EV.below HEV.out (by repeat (first | (with_reducible first | exact HB.out | apply below_alloc | apply pw_below_drewN | apply below_drew1) | exact HB.out)) (EV.pos HEV.out)); rintro e w58 ⟨rfl, hb⟩; refine ⟨_, rfl, ?_⟩; have n0_ := Aside0.mk (below_step (by repeat (first | (with_reducible first | exact HB.out | apply below_alloc | apply pw_below_drewN | apply below_drew1) | exact HB.out)) hb); clear HB; have HB := n0_; clear n0_; (try clear hb); (try clear hb2); (try clear hk); (try clear hi)) | ((with_reducible refine gate_callee (f := 12) rfl ?_); refine goesL_ (some 76) rfl rfl Tryd.func12 (by kernel_rfl) rfl #[.agg #[.int .i64 9, .int .i64 a1, .int .i64 0, .int .i64 0, .slice none 0 0, .slice A0 l0.length c0]] rfl (by (try simp only [List.map_toArray, List.map_cons, List.map_nil]); first | done | rfl | (simp only [List.length_drop, List.length_take]; rfl)) ?_; (refine (matroid_Check.calls 9 a1 0 0 _ _ ([] : List (List Int)) _ _ l0 t291 _ ?side5 ?side1 ?side2 ?side3 ?side4 A53.out).mono ?_); (case side1 => exact Kd.C_nil _ _); (case side2 => exact Nat.le_refl _); (case side3 => repeat (first | exact (Kd.C_below HR0.out HB.out) | (with_reducible refine Kd.C_alloc ?_ _) | (with_reducible refine Kd.C_drewN ?_ _) | (with_reducible refine Kd.C_drew ?_))); (case side4 => exact HC0.out); (case side5 => exact EV.below HEV.out (by repeat (first | (with_reducible first | exact HB.out | apply below_alloc | apply pw_below_drewN | apply below_drew1) | exact HB.out)) (EV.pos HEV.out)); rintro e w59 ⟨rfl, hb⟩; refine ⟨_, rfl, ?_⟩; have n0_ := Aside0.mk (below_step (by repeat (first | (with_reducible first | exact HB.out | apply below_alloc | apply pw_below_drewN | apply below_drew1) | exact HB.out)) hb); clear HB; have HB := n0_; clear n0_; (try clear hb); (try clear hb2); (try clear hk); (try clear hi)))
          go_ret
          exact ⟨by first | rfl | (simp [errW_none, errW_some] <;> rfl) | (simp [*, errW_none, errW_some] <;> rfl), by repeat (first | (with_reducible first | exact HB.out | apply below_alloc | apply pw_below_drewN | apply below_drew1) | exact HB.out)⟩
        ·rw [if_neg c54] at H
         have c54b0 : ((t290 == 0) == false) = false := by simpa using c54
         (try (have c54b1 : decide ((t290 == 0) = false) = false := by simpa using c54))
         (try (have c54b2 : ((t290 == 0) == false) = false := by simpa using c54))
         (try (have c54b3 : ¬ ((t290 == 0) = false) := by simpa using c54))
         clear c54
         exact absurd ((Option.some.inj H).trans hrT) (by decide)



end Go.Proofs.YtgbmlkmkfigolaaDoor.P
/- The law MatroidSums, with no program in sight. -/
namespace Go.Proofs.YtgbmlkmkfigolaaDoor.P
open Go.RowKit Go.Proofs.YtgbmlkmkfigolaaDoorW.PrintWords Go.Proofs.YtgbmlkmkfigolaaDoorW.PrintLast Go.Proofs.YtgbmlkmkfigolaaDoorW.PrintMore NumTh
set_option linter.unusedVariables false
set_option linter.unusedSimpArgs false

theorem total_all {l : List Mtr} (h : ∀ x ∈ l, chkN x = 0) : 0 ≤ total l ∧ total l ≤ 64 * (l.length : Int) := by
 refine total_bd (g := fun x => decide (chkN x = 0)) (fun x hx => chkN_n (of_decide_eq_true hx)) l ?_
 rw [List.all_eq_true]
 exact fun x hx => decide_eq_true (h x hx)
theorem sumV_tot {l : List Mtr} (h : ∀ x ∈ l, chkN x = 0) (hl : l.length ≤ 10) : sumV 0 l = some (total l) := by
 have := sumV_all (g := fun x => decide (chkN x = 0)) (fun x hx => chkN_n (of_decide_eq_true hx)) l (by rw [List.all_eq_true]; exact fun x hx => decide_eq_true (h x hx)) 0 (Int.le_refl _) (by omega)
 rw [this, Int.zero_add]
theorem sum_lcl {l : List Mtr} (h : ∀ x ∈ l, chkN x = 0) (hl : l.length ≤ 10) (n : Int) : lclB ⟨9, n, 0, 0, [], l⟩ = true ↔ 0 ≤ n ∧ n ≤ 64 ∧ 1 ≤ l.length ∧ l.length ≤ 8 ∧ n = total l := by
 unfold lclB
 have hn : nestsB (9 : Int) = true := by decide
 have ho : outerB ⟨9, n, 0, 0, [], l⟩ = (decide (1 ≤ l.length) && decide (l.length ≤ 8) && decide (total l = n)) := by
  unfold outerB
  rw [if_neg (by simp)]
  rw [if_pos rfl]
  show (match sumV 0 l with | none => false | some q => decide (1 ≤ l.length) && decide (l.length ≤ 8) && decide (q = n)) = _
  rw [sumV_tot h hl]
 show (inB n 64 && inB 0 64 && (if nestsB (9 : Int) = true then outerB ⟨9, n, 0, 0, [], l⟩ else _)) = true ↔ _
 rw [if_pos hn, ho]
 unfold inB
 simp only [Bool.and_eq_true, decide_eq_true_eq]
 omega
theorem sum_chk {l : List Mtr} (h : ∀ x ∈ l, chkN x = 0) (hl : l.length ≤ 10) (n : Int) : chkN ⟨9, n, 0, 0, [], l⟩ = 0 ↔ 1 ≤ l.length ∧ l.length ≤ 8 ∧ total l ≤ 64 ∧ n = total l ∧ (l.map (deepV 4)).foldl max 0 ≤ 3 := by
 rw [chkN_nest (m := ⟨9, n, 0, 0, [], l⟩) (show nestsB (9 : Int) = true by decide), sum_lcl h hl]
 have ht := total_all h
 have hf := fold_max (deepV 4) l 0
 constructor
 ·rintro ⟨⟨h1, h2, h3, h4, h5⟩, h6⟩
  exact ⟨h3, h4, by omega, h5, hf.2.2 3 (by omega) (fun x hx => (h6 x hx).2)⟩
 ·rintro ⟨h1, h2, h3, h4, h5⟩
  exact ⟨⟨by omega, by omega, h1, h2, h4⟩, fun x hx => ⟨h x hx, Int.le_trans (hf.2.1 x hx) h5⟩⟩
theorem sums_l0 (l : List Mtr) (more : Int) (hl : l.length ≤ 10) (ho : ∀ x ∈ l, OkS x) : ∀ (d i : Nat), l.length - i = d → i ≤ l.length → (∀ x ∈ l.take i, chkN x = 0) →
 Ev (fun k => greenwoodlaw09_MatroidSums.l0 k l more (total (l.take i)) (((l.take i).map (deepV 4)).foldl max 0) (i : Int)) true := by
 intro d
 induction d with
 | zero =>
  intro i h1 h2 h
  have e : l.take i = l := List.take_of_length_le (by omega)
  rw [e] at h ⊢
  refine Ev.step (fun k => by rw [greenwoodlaw09_MatroidSums.l0]) ?_
  refine Ev.ifn (by omega) ?_
  have s1 := sum_chk h hl (total l)
  have s2 := sum_chk h hl more
  have ht := total_all h
  generalize hd : (l.map (deepV 4)).foldl max 0 = dp at *
  have fin : ∀ (g : Bool), (chkN ⟨9, total l, 0, 0, [], l⟩ = 0 ↔ g = true) → Ev (fun k => (matroid_Check.f 9 (total l) 0 0 ([] : List (List Int)) l).bind fun t => (matroid_Check.f 9 more 0 0 ([] : List (List Int)) l).bind fun t' => (if ((t == 0) == g) = true then (if more = total l then (some true) else (some (t' != 0))) else (some false))) true := by
   intro g hg
   refine Ev.bnd (Ev.bnd ?_)
   refine Ev.ifp ?_ ?_
   ·by_cases hq : chkN ⟨9, total l, 0, 0, [], l⟩ = 0
    ·rw [hq, hg.1 hq]; rfl
    ·have : g = false := by cases g with
      | false => rfl
      | true => exact absurd (hg.2 rfl) hq
     rw [this]
     simp [hq]
   ·by_cases hm : more = total l
    ·exact Ev.ifp hm (Ev.val rfl)
    ·refine Ev.ifn hm (Ev.val ?_)
     have : chkN ⟨9, more, 0, 0, [], l⟩ ≠ 0 := fun e => hm (s2.1 e).2.2.2.1
     simp [this]
  by_cases c1 : (l.length : Int) ≥ 1
  ·refine Ev.ifp c1 ?_
   by_cases c2 : (l.length : Int) ≤ 8
   ·refine Ev.ifp c2 ?_
    by_cases c3 : total l ≤ 64
    ·refine Ev.ifp c3 (fin _ ?_)
     rw [s1, decide_eq_true_eq]
     exact ⟨fun h => h.2.2.2.2, fun h => ⟨by omega, by omega, c3, rfl, h⟩⟩
    ·refine Ev.ifn c3 (fin _ ?_)
     rw [s1]; exact ⟨fun h => absurd h.2.2.1 c3, fun h => by cases h⟩
   ·refine Ev.ifn c2 (fin _ ?_)
    rw [s1]; exact ⟨fun h => by omega, fun h => by cases h⟩
  ·refine Ev.ifn c1 (fin _ ?_)
   rw [s1]; exact ⟨fun h => by omega, fun h => by cases h⟩
 | succ d ih =>
  intro i h1 h2 h
  have hi : i < l.length := by omega
  refine Ev.step (fun k => by rw [greenwoodlaw09_MatroidSums.l0]) ?_
  refine Ev.ifp (by omega) ?_
  refine Ev.ifp (by omega) ?_
  rw [rd_T_at hi]
  have hok := ho _ (List.getElem_mem hi)
  obtain ⟨b, hb⟩ := small_ev l[i] hok
  refine Ev.bind hb ?_
  cases b with
  | false => exact Ev.ifn (by decide) (Ev.val rfl)
  | true =>
   refine Ev.ifp rfl ?_
   refine Ev.bnd ?_
   by_cases hc : chkN l[i] = 0
   ·refine Ev.ifp hc ?_
    refine Ev.bind (Deep_ev _ hok) ?_
    have ht := total_all h
    have hn := chkN_n hc
    have hlt : (l.take i).length ≤ 10 := by rw [List.length_take]; omega
    have e1 : l.take (i + 1) = l.take i ++ [l[i]] := by rw [List.take_succ_eq_append_getElem hi]
    have e2 : wrap64 (total (l.take i) + l[i].f1) = total (l.take (i + 1)) := by
     have : total (l.take (i + 1)) = total (l.take i) + l[i].f1 := by
      rw [e1]
      have key : ∀ (a : List Mtr) (x : Mtr), total (a ++ [x]) = total a + x.f1 := by
       intro a x
       induction a with
       | nil => simp [total]
       | cons y r ih => have e : ∀ q, total (y :: q) = y.f1 + total q := fun q => rfl; rw [List.cons_append, e, e, ih]; omega
      exact key _ _
     rw [this]
     unfold wrap64; omega
    have e3 : mx (((l.take i).map (deepV 4)).foldl max 0) (deepV 4 l[i]) = ((l.take (i + 1)).map (deepV 4)).foldl max 0 := by
     rw [e1, List.map_append, List.foldl_append, mx_max]; rfl
    rw [e2, e3, w1b hi (by omega)]
    refine ih (i + 1) (by omega) (by omega) (fun x hx => ?_)
    rw [e1, List.mem_append] at hx
    rcases hx with hx | hx
    ·exact h x hx
    ·rw [List.mem_singleton] at hx; subst hx; exact hc
   ·exact Ev.ifn hc (Ev.val rfl)
theorem MatroidSums_ev (l : List Mtr) (more : Int) (ho : ∀ x ∈ l, OkS x) : Ev (fun k => greenwoodlaw09_MatroidSums.f k l more) true := by
 unfold greenwoodlaw09_MatroidSums.f
 refine Ev.bnd ?_
 refine Ev.ifp rfl ?_
 by_cases h : (l.length : Int) > 10
 ·rw [decide_eq_true h]
  refine Ev.step (fun k => by rw [greenwoodlaw09_MatroidSums.j0]) ?_
  refine Ev.ifp rfl ?_
  exact Ev.bnd (Ev.val rfl)
 ·rw [decide_eq_false h]
  refine Ev.step (fun k => by rw [greenwoodlaw09_MatroidSums.j0]) ?_
  refine Ev.ifn (by decide) ?_
  exact sums_l0 l more (by omega) ho l.length 0 rfl (Nat.zero_le _) (fun x hx => by cases hx)
end Go.Proofs.YtgbmlkmkfigolaaDoor.P
