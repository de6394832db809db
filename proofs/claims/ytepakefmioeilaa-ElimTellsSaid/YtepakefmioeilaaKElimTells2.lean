/- Texts of this claim's own repository, merged by wip/tool/pack.py: Px4, Px5, ElimV, ElimW, ElimLaws, Opn. -/
import Derived.Deep.Slices
import Derived.ChangeArms
import Derived.ProofKit
import Derived.Test.YtepakefmioeilaaKElimTells1
-- written by wip/tool/ownprint.py of this claim's own repository, out of the translation's print
namespace Go.Proofs.Ytepakefmioeilaa.P
open Go.RowKit Go.Proofs.YtepakefmioeilaaW.PrintWords Go.Proofs.YtepakefmioeilaaW.PrintLast Go.Proofs.YtepakefmioeilaaW.PrintMore
attribute [local go_sem] max2_int min2_int max_two min_two max_three min_three max_four min_four   -- for this text's walks alone
set_option linter.unusedVariables false
set_option linter.unusedSimpArgs false

/-! ### greenwoodref05_Basis: function 13 -/
mutual
def greenwoodref05_Basis.l0 : Nat → Int → Int → List (List Int) → List Int → Int → Option (List Int)
  | 0, _, _, _, _, _ => none
  | k + 1, x0, x1, x2, x7, x8 => if x8 < (x2.length : Int) then ((greenwoodref05_May.f k x0 x1 x2).bind fun t182 => (greenwoodref05_Basis.j1 k x0 x1 x2 x7 x8 t182)) else (greenwoodref05_Basis.j1 k x0 x1 x2 x7 x8 false)
def greenwoodref05_Basis.j1 : Nat → Int → Int → List (List Int) → List Int → Int → Bool → Option (List Int)
  | 0, _, _, _, _, _, _ => none
  | k + 1, x0, x1, x2, x7, x8, x19 => if x19 = true then (if 0 ≤ (wrap64 (x8 + 1)) then (if (wrap64 (x8 + 1)) ≤ (x2.length : Int) then ((greenwoodref05_rank.f k x0 x1 (x2.take ((wrap64 (x8 + 1)) : Int).toNat)).bind fun t187 => (if 0 ≤ x8 then (if x8 ≤ (x2.length : Int) then ((greenwoodref05_rank.f k x0 x1 (x2.take (x8 : Int).toNat)).bind fun t192 => (if t187 > t192 then (if x7.length < 17592186044416 then (greenwoodref05_Basis.l0 k x0 x1 x2 (x7 ++ [x8]) (wrap64 (x8 + 1))) else (none)) else (greenwoodref05_Basis.l0 k x0 x1 x2 x7 (wrap64 (x8 + 1))))) else (none)) else (none))) else (none)) else (none)) else (some x7)
end
def greenwoodref05_Basis.f (k : Nat) (a0 : Int) (a1 : Int) (l2 : List (List Int)) : Option (List Int) := greenwoodref05_Basis.l0 k a0 a1 l2 (([] : List Int)) 0
def greenwoodref05_Basis.T5 : Bool × List (List Nat × List Nat) := (true, [([], []), ([], []), ([], []), ([], []), ([3], [3]), ([2, 4], [2, 4]), ([0, 1, 5], [0, 1, 5]), ([], []), ([], []), ([], []), ([], []), ([9, 10], [9, 10]), ([7, 8, 11, 6], [7, 8, 11]), ([6, 12], [6, 12])])
def greenwoodref05_Basis.B5 : List Nat := [0, 0, 0, 0, 8, 28, 63, 0, 0, 0, 0, 1536, 4095, 8191]
theorem greenwoodref05_Basis.tab5 : rtab .any (opsOf Try.f13 5) = greenwoodref05_Basis.T5 := by kernel_rfl
theorem greenwoodref05_Basis.bits5 : waitsOk greenwoodref05_Basis.T5.2 greenwoodref05_Basis.B5 = true := by kernel_rfl
set_option maxHeartbeats 8000000 in
set_option maxRecDepth 100000 in
theorem greenwoodref05_Basis.calls (k : Nat) (a0 : Int) (a1 : Int) (A2 : Option Addr) (c2 : Nat) (l2 : List (List Int)) (r : List Int) (w : World) (hr2 : Kd.C (Kd.slice 3 (Kd.int .i64)) w A2 l2.length l2) (hc2 : l2.length ≤ c2) (h : greenwoodref05_Basis.f k a0 a1 l2 = some r) :
    Calls Try.prog 13 #[.int .i64 a0, .int .i64 a1, .slice A2 l2.length c2] w fun e w' => ∃ v0_ : Value, e = .returned (v0_) ∧ Kd.R (Kd.int .i64) 3 w' w.heap.size (fun _ => True) v0_ r ∧ Below w.heap.size w w' := by
  have HR2 := Aside0.mk hr2
  have HC2 := Aside0.mk hc2
  clear hr2 hc2
  have HB := Aside0.mk (Below.refl w.heap.size w)
  have H : (greenwoodref05_Basis.l0 k a0 a1 l2 (([] : List Int)) 0) = some r := h
  clear h
  obtain ⟨y179, hy179⟩ : ∃ y_ : List Int, y_ = (([] : List Int)) := ⟨_, rfl⟩
  replace H : (greenwoodref05_Basis.l0 k a0 a1 l2 y179 0) = some r := by first | (rw [hy179]; with_reducible exact H) | (have H2_ := (Option.bind_some _ _).symm.trans H; rw [hy179]; with_reducible exact H2_) | (have H2_ := (Option.bind_some _ _).symm.trans H; with_reducible exact H2_) | with_reducible exact H | (rw [hy179]; exact H) | exact H
  have Ny179 := Aside0.mk hy179
  clear hy179
  have H' := Aside0.mk H
  clear H
  go_enter Try.func13, Try.ntmps13
  go_wp2_with (first | ((with_reducible refine gate_dst (N := 9) rfl ?_); refine Kd.R_lit (Kd.int .i64) _ 3 ?hg (N := 9) ?hd (xs := ([] : List Int)) (inner := []) (ok := fun _ => True) (okp := fun _ => True) ?hr ?hp (fun _ hk => hk) trivial (Below.refl _ _) (Nat.le_refl _) (by simp) ?_; (case hd => rfl); (case hg => rfl); (case hr => first | (go_simp; done) | (go_simp; rfl)); (case hp => exact (Reps.none _ _)); intro v180 w4 ho5 hb hg_ hnew_; clear hg_ hnew_; (first | rw [← Ny179.out] at ho5 | (simp only [Int.reduceToNat] at ho5; rw [← Ny179.out] at ho5)); have n0_ := Aside0.mk (Kd.R_lower ho5 (below_size (by repeat (first | (with_reducible first | exact HB.out | apply below_alloc | apply pw_below_drewN | apply below_drew1) | exact HB.out)))); have n1_ := Aside0.mk (below_step (by repeat (first | (with_reducible first | exact HB.out | apply below_alloc | apply pw_below_drewN | apply below_drew1) | exact HB.out)) hb); clear HB; have HO181 := n0_; have HB := n1_; clear n0_ n1_; clear hb ho5))
  go_loopg [7, 8] k (fun kq v7 v8 w' => ∃ (x7_1 : List Int) (x8_1 : Int), v8 = .int .i64 x8_1 ∧ Aside0 (greenwoodref05_Basis.l0 kq a0 a1 l2 x7_1 x8_1 = some r) ∧ Aside0 (kq ≤ k) ∧ Aside0 (Kd.R (Kd.int .i64) 3 w' w.heap.size (fun _ => True) v7 x7_1) ∧ Aside0 (Below w.heap.size w w'))
  case atStart => exact ⟨(y179), (0), (by first | rfl | (simp; done) | (simp [*]; done)), H', ⟨Nat.le_refl _⟩, ⟨by (with_reducible repeat (first | apply Kd.R_alloc | apply Kd.R_drewN | apply Kd.R_drew)); exact HO181.out⟩, ⟨by repeat (first | (with_reducible first | exact HB.out | apply below_alloc | apply pw_below_drewN | apply below_drew1) | exact HB.out)⟩⟩
  case round =>
    clear H'
    try clear c1
    try clear c2
    try clear p2
    obtain ⟨x7_1, x8_1, rfl, HA, HK1, HO_7, HB⟩ := hrel
    cases gk with
    | zero => exact absurd HA.out (by simp [greenwoodref05_Basis.l0])
    | succ k1 =>
      have H := HA.out
      clear HA
      simp only [greenwoodref05_Basis.l0] at H
      have HC6 := Aside0.mk H
      clear H
      go_upto_region 3 with (fail)
      go_cut [19] (fun v19 wc => ∃ (kq : Nat) (x19_5 : Bool), v19 = .bool x19_5 ∧ Aside0 (greenwoodref05_Basis.j1 kq a0 a1 l2 x7_1 x8_1 x19_5 = some r) ∧ Aside0 (kq ≤ k1) ∧ Aside0 (Kd.R (Kd.int .i64) 3 wc w.heap.size (fun _ => True) u7 x7_1) ∧ Aside0 (Below w.heap.size w wc))
      case first =>
        have H := HC6.out
        clear HC6
        by_cases c7 : x8_1 < (l2.length : Int)
        · rw [if_pos c7] at H
          have c7b0 : decide (x8_1 < (l2.length : Int)) = true := decide_eq_true c7
          clear c7
          (first | rw [c7b0] | (simp only [i64_w, i32_w]; rw [c7b0]) | skip)
          replace H := Option.bind_eq_some_iff.mp H
          obtain ⟨t182, A80, H⟩ := H
          replace H : (greenwoodref05_Basis.j1 k1 a0 a1 l2 x7_1 x8_1 t182) = some r := H
          have A8 := Aside0.mk A80
          clear A80
          have H' := Aside0.mk H
          clear H
          go_wp2_with (first | (go_at_call 10; (with_reducible refine (greenwoodref05_May.calls k1 a0 a1 _ _ l2 t182 _ ?side1 ?side2 A8.out).mono ?_); (case side1 => repeat (first | exact (Kd.C_below HR2.out HB.out) | (with_reducible refine Kd.C_alloc ?_ _) | (with_reducible refine Kd.C_drewN ?_ _) | (with_reducible refine Kd.C_drew ?_))); (case side2 => exact HC2.out); rintro e w' ⟨rfl, ⟨nd, rfl⟩⟩))
          go_meet
          case rel => exact ⟨_, (t182), (by first | rfl | (simp; done) | (simp [*]; done)), H', ⟨by have := HK1.out; first | omega | exact Nat.le_refl _⟩, ⟨by (with_reducible repeat (first | apply Kd.R_alloc | apply Kd.R_drewN | apply Kd.R_drew)); exact HO_7.out⟩, ⟨by repeat (first | (with_reducible first | exact HB.out | apply below_alloc | apply pw_below_drewN | apply below_drew1) | exact HB.out)⟩⟩
        · rw [if_neg c7] at H
          have c7b0 : decide (x8_1 < (l2.length : Int)) = false := decide_eq_false c7
          clear c7
          (first | rw [c7b0] | (simp only [i64_w, i32_w]; rw [c7b0]) | skip)
          have H' := Aside0.mk H
          clear H
          go_wp2
          go_meet
          case rel => exact ⟨_, (false), (by first | rfl | (simp; done) | (simp [*]; done)), H', ⟨by have := HK1.out; first | omega | exact Nat.le_refl _⟩, ⟨by (with_reducible repeat (first | apply Kd.R_alloc | apply Kd.R_drewN | apply Kd.R_drew)); exact HO_7.out⟩, ⟨by repeat (first | (with_reducible first | exact HB.out | apply below_alloc | apply pw_below_drewN | apply below_drew1) | exact HB.out)⟩⟩
      case rest =>
        clear HC6
        try clear c1
        try clear c2
        try clear p2
        try clear c7
        try clear c7b0
        try clear p2
        obtain ⟨kq, x19_5, rfl, HA, HJ5, HO_7, HB⟩ := hcut
        cases kq with
        | zero => exact absurd HA.out (by simp [greenwoodref05_Basis.j1])
        | succ kj5 =>
          have H := HA.out
          clear HA
          simp only [greenwoodref05_Basis.j1] at H
          by_cases c9 : x19_5 = true
          · subst c9
            have H1 : (if 0 ≤ (wrap64 (x8_1 + 1)) then (if (wrap64 (x8_1 + 1)) ≤ (l2.length : Int) then ((greenwoodref05_rank.f kj5 a0 a1 (l2.take ((wrap64 (x8_1 + 1)) : Int).toNat)).bind fun t187 => (if 0 ≤ x8_1 then (if x8_1 ≤ (l2.length : Int) then ((greenwoodref05_rank.f kj5 a0 a1 (l2.take (x8_1 : Int).toNat)).bind fun t192 => (if t187 > t192 then (if x7_1.length < 17592186044416 then (greenwoodref05_Basis.l0 kj5 a0 a1 l2 (x7_1 ++ [x8_1]) (wrap64 (x8_1 + 1))) else (none)) else (greenwoodref05_Basis.l0 kj5 a0 a1 l2 x7_1 (wrap64 (x8_1 + 1))))) else (none)) else (none))) else (none)) else (none)) = some r := by rw [if_pos rfl] at H; exact H
            clear H
            have H := H1
            clear H1
            obtain ⟨ji10, hji10⟩ : ∃ j_ : Int, (wrap64 (x8_1 + 1)) = j_ := ⟨_, rfl⟩
            replace H : (if 0 ≤ (ji10) then (if (ji10) ≤ (l2.length : Int) then ((greenwoodref05_rank.f kj5 a0 a1 (l2.take ((ji10) : Int).toNat)).bind fun t187 => (if 0 ≤ x8_1 then (if x8_1 ≤ (l2.length : Int) then ((greenwoodref05_rank.f kj5 a0 a1 (l2.take (x8_1 : Int).toNat)).bind fun t192 => (if t187 > t192 then (if x7_1.length < 17592186044416 then (greenwoodref05_Basis.l0 kj5 a0 a1 l2 (x7_1 ++ [x8_1]) ji10) else (none)) else (greenwoodref05_Basis.l0 kj5 a0 a1 l2 x7_1 ji10))) else (none)) else (none))) else (none)) else (none)) = some r := by first | (rw [hji10] at H; exact H) | (simp only [hji10] at H ⊢; exact H)
            have hji10w : (IntKind.i64.wrap (x8_1 + 1)) = ji10 := (i64_w _).trans hji10
            by_cases c11 : 0 ≤ (ji10)
            · rw [if_pos c11] at H
              have c11b0 := eq_true c11
              have c11b1 : decide (0 ≤ (ji10)) = true := decide_eq_true c11
              clear c11
              by_cases c12 : (ji10) ≤ (l2.length : Int)
              · rw [if_pos c12] at H
                have c12b0 := eq_true c12
                have c12b1 : decide ((ji10) ≤ (l2.length : Int)) = true := decide_eq_true c12
                clear c12
                obtain ⟨y183, hy183⟩ : ∃ y_ : List (List Int), y_ = (l2.take ((ji10) : Int).toNat) := ⟨_, rfl⟩
                replace H : ((greenwoodref05_rank.f kj5 a0 a1 y183).bind fun t187 => (if 0 ≤ x8_1 then (if x8_1 ≤ (l2.length : Int) then ((greenwoodref05_rank.f kj5 a0 a1 (l2.take (x8_1 : Int).toNat)).bind fun t192 => (if t187 > t192 then (if x7_1.length < 17592186044416 then (greenwoodref05_Basis.l0 kj5 a0 a1 l2 (x7_1 ++ [x8_1]) ji10) else (none)) else (greenwoodref05_Basis.l0 kj5 a0 a1 l2 x7_1 ji10))) else (none)) else (none))) = some r := by first | (rw [hy183]; with_reducible exact H) | (have H2_ := (Option.bind_some _ _).symm.trans H; rw [hy183]; with_reducible exact H2_) | (have H2_ := (Option.bind_some _ _).symm.trans H; with_reducible exact H2_) | with_reducible exact H | (rw [hy183]; exact H) | exact H
                have Ny183 := Aside0.mk hy183
                clear hy183
                replace H := Option.bind_eq_some_iff.mp H
                obtain ⟨t187, A130, H⟩ := H
                replace H : (if 0 ≤ x8_1 then (if x8_1 ≤ (l2.length : Int) then ((greenwoodref05_rank.f kj5 a0 a1 (l2.take (x8_1 : Int).toNat)).bind fun t192 => (if t187 > t192 then (if x7_1.length < 17592186044416 then (greenwoodref05_Basis.l0 kj5 a0 a1 l2 (x7_1 ++ [x8_1]) ji10) else (none)) else (greenwoodref05_Basis.l0 kj5 a0 a1 l2 x7_1 ji10))) else (none)) else (none)) = some r := H
                have A13 := Aside0.mk A130
                clear A130
                by_cases c14 : 0 ≤ x8_1
                · rw [if_pos c14] at H
                  have c14b0 := eq_true c14
                  have c14b1 : decide (0 ≤ x8_1) = true := decide_eq_true c14
                  clear c14
                  by_cases c15 : x8_1 ≤ (l2.length : Int)
                  · rw [if_pos c15] at H
                    have c15b0 := eq_true c15
                    have c15b1 : decide (x8_1 ≤ (l2.length : Int)) = true := decide_eq_true c15
                    clear c15
                    obtain ⟨y188, hy188⟩ : ∃ y_ : List (List Int), y_ = (l2.take (x8_1 : Int).toNat) := ⟨_, rfl⟩
                    replace H : ((greenwoodref05_rank.f kj5 a0 a1 y188).bind fun t192 => (if t187 > t192 then (if x7_1.length < 17592186044416 then (greenwoodref05_Basis.l0 kj5 a0 a1 l2 (x7_1 ++ [x8_1]) ji10) else (none)) else (greenwoodref05_Basis.l0 kj5 a0 a1 l2 x7_1 ji10))) = some r := by first | (rw [hy188]; with_reducible exact H) | (have H2_ := (Option.bind_some _ _).symm.trans H; rw [hy188]; with_reducible exact H2_) | (have H2_ := (Option.bind_some _ _).symm.trans H; with_reducible exact H2_) | with_reducible exact H | (rw [hy188]; exact H) | exact H
                    have Ny188 := Aside0.mk hy188
                    clear hy188
                    replace H := Option.bind_eq_some_iff.mp H
                    obtain ⟨t192, A160, H⟩ := H
                    replace H : (if t187 > t192 then (if x7_1.length < 17592186044416 then (greenwoodref05_Basis.l0 kj5 a0 a1 l2 (x7_1 ++ [x8_1]) ji10) else (none)) else (greenwoodref05_Basis.l0 kj5 a0 a1 l2 x7_1 ji10)) = some r := H
                    have A16 := Aside0.mk A160
                    clear A160
                    by_cases c17 : t187 > t192
                    · rw [if_pos c17] at H
                      have c17b0 : decide (t192 < t187) = true := decide_eq_true c17
                      clear c17
                      by_cases c18 : x7_1.length < 17592186044416
                      · rw [if_pos c18] at H
                        have LMc18 := Aside0.mk c18
                        clear c18
                        obtain ⟨y193, hy193⟩ : ∃ y_ : List Int, y_ = (x7_1 ++ [x8_1]) := ⟨_, rfl⟩
                        replace H : (greenwoodref05_Basis.l0 kj5 a0 a1 l2 y193 ji10) = some r := by first | (rw [hy193]; with_reducible exact H) | (have H2_ := (Option.bind_some _ _).symm.trans H; rw [hy193]; with_reducible exact H2_) | (have H2_ := (Option.bind_some _ _).symm.trans H; with_reducible exact H2_) | with_reducible exact H | (rw [hy193]; exact H) | exact H
                        have Ny193 := Aside0.mk hy193
                        clear hy193
                        have H' := Aside0.mk H
                        clear H
                        try go_wp2
                        have n0_ := Aside0.mk (Kd.R_drew HO_7.out)
                        have n1_ := Aside0.mk (below_drew1 HB.out)
                        clear HO_7
                        clear HB
                        have HO_7 := n0_
                        have HB := n1_
                        clear n0_ n1_
                        have q20 : ((ji10) : Int) ≤ ((l2.length : Int) : Int) := of_decide_eq_true (by first | (with_reducible assumption) | assumption)
                        obtain ⟨i020, hi020, _, hsz20, _⟩ := info_parts info26
                        have hroom20 : l2.length ≤ c2 := HC2.out
                        have hC20 : Kd.C (Kd.slice 3 (Kd.int .i64)) _ A2 l2.length l2 := HR2.out
                        have hcut20 := cut_to (P := Try.prog) 22 26 .i64 Try.underlying22 hi020 A2 l2.length c2 (ji10) (of_decide_eq_true (by first | (with_reducible assumption) | assumption)) q20 hroom20
                        have hr20 := Kd.C_take (m := ((ji10) : Int).toNat) hC20 (by omega)
                        have hy20 : y183.length = ((ji10) : Int).toNat := (by rw [Ny183.out, List.length_take]; omega)
                        rw [← Ny183.out] at hr20
                        rw [← hy20] at hcut20
                        have HR186 := Aside0.mk hr20
                        have HC186 := Aside0.mk (show y183.length ≤ c2 from by omega)
                        clear hr20 hC20 hroom20 hi020 hsz20
                        have KY20 := Aside0.mk hy20
                        clear hy20
                        replace q20 := eq_true q20
                        have q21 : (x8_1 : Int) ≤ ((l2.length : Int) : Int) := of_decide_eq_true (by first | (with_reducible assumption) | assumption)
                        obtain ⟨i021, hi021, _, hsz21, _⟩ := info_parts info26
                        have hroom21 : l2.length ≤ c2 := HC2.out
                        have hC21 : Kd.C (Kd.slice 3 (Kd.int .i64)) _ A2 l2.length l2 := HR2.out
                        have hcut21 := cut_to (P := Try.prog) 22 26 .i64 Try.underlying22 hi021 A2 l2.length c2 x8_1 (of_decide_eq_true (by first | (with_reducible assumption) | assumption)) q21 hroom21
                        have hr21 := Kd.C_take (m := (x8_1 : Int).toNat) hC21 (by omega)
                        have hy21 : y188.length = (x8_1 : Int).toNat := (by rw [Ny188.out, List.length_take]; omega)
                        rw [← Ny188.out] at hr21
                        rw [← hy21] at hcut21
                        have HR191 := Aside0.mk hr21
                        have HC191 := Aside0.mk (show y188.length ≤ c2 from by omega)
                        clear hr21 hC21 hroom21 hi021 hsz21
                        have KY21 := Aside0.mk hy21
                        clear hy21
                        replace q21 := eq_true q21
                        refine start_ (n := 14) (S := fun w' => True) (ds := []) #[false, false, false, false, false, false, false, false, false, false, false, false, false, false] (by kernel_rfl) rfl rfl trivial (fun hHeld => ?_); refine with_tabW greenwoodref05_Basis.tab5 greenwoodref05_Basis.bits5 (fun HT_ HW_ => ?_)
                        generalize wc.drew = w19 at HO_7 HB HR186 HR191 hHeld ⊢
                        refine pure_ (i := 0) (N := some 22) (v := ?_) (a' := ?_) #[true, false, false, false, false, false, false, false, false, false, false, false, false, false] rfl rfl (any_of HT_.out (by kernel_rfl)) (fun _ _ _ h => h) (Or.inl ⟨by rfl, ?_⟩) ?_ ?_
                        rotate_left
                        · intro w'
                          go_simp
                          with_reducible rfl
                        rotate_left
                        · simp only [Act.put, List.setIfInBounds_toArray, List.set_cons_zero, List.set_cons_succ, i64_w, i32_w]
                          rfl
                        refine pure_ (i := 1) (N := some 23) (v := ?_) (a' := ?_) #[true, true, false, false, false, false, false, false, false, false, false, false, false, false] rfl rfl (any_of HT_.out (by kernel_rfl)) (fun _ _ _ h => h) (Or.inl ⟨by rfl, ?_⟩) ?_ ?_
                        rotate_left
                        · intro w'
                          go_simp
                          with_reducible rfl
                        rotate_left
                        · simp only [Act.put, List.setIfInBounds_toArray, List.set_cons_zero, List.set_cons_succ, i64_w, i32_w]
                          rfl
                        refine pure_ (i := 2) (N := some 24) (v := ?_) (a' := ?_) #[true, true, true, false, false, false, false, false, false, false, false, false, false, false] rfl rfl (any_of HT_.out (by kernel_rfl)) (fun _ _ _ h => h) (Or.inl ⟨by rfl, ?_⟩) ?_ ?_
                        rotate_left
                        · intro w'
                          go_simp
                          with_reducible rfl
                        rotate_left
                        · simp only [Act.put, List.setIfInBounds_toArray, List.set_cons_zero, List.set_cons_succ, i64_w, i32_w]
                          rfl
                        refine pure_ (i := 3) (N := some 25) (v := ?_) (a' := ?_) #[true, true, true, true, false, false, false, false, false, false, false, false, false, false] rfl rfl (any_of HT_.out (by kernel_rfl)) (fun _ _ _ h => h) (Or.inl ⟨by rfl, ?_⟩) ?_ ?_
                        rotate_left
                        · intro w'
                          go_simp
                          with_reducible rfl
                        rotate_left
                        · simp only [Act.put, List.setIfInBounds_toArray, List.set_cons_zero, List.set_cons_succ, i64_w, i32_w]
                          rfl
                        refine pure_ (i := 4) (N := some 26) (v := ?_) (a' := ?_) #[true, true, true, true, true, false, false, false, false, false, false, false, false, false] rfl rfl (any_of HT_.out (by kernel_rfl)) (fun _ _ _ h => h) (Or.inl ⟨by rfl, ?_⟩) ?_ ?_
                        rotate_left
                        · intro w'
                          go_simp
                          with_reducible rfl
                        rotate_left
                        · simp only [Act.put, List.setIfInBounds_toArray, List.set_cons_zero, List.set_cons_succ, i64_w, i32_w]
                          rfl
                        refine pure_ (i := 5) (N := some 27) (v := ?_) (a' := ?_) #[true, true, true, true, true, true, false, false, false, false, false, false, false, false] rfl rfl (any_of HT_.out (by kernel_rfl)) (fun _ _ _ h => h) (Or.inl ⟨by rfl, ?_⟩) ?_ ?_
                        rotate_left
                        · intro w'
                          go_simp
                          with_reducible rfl
                        rotate_left
                        · simp only [Act.put, List.setIfInBounds_toArray, List.set_cons_zero, List.set_cons_succ, i64_w, i32_w]
                          rfl
                        refine pure_ (i := 7) (N := some 29) (v := ?_) (a' := ?_) #[true, true, true, true, true, true, false, true, false, false, false, false, false, false] rfl rfl (any_of HT_.out (by kernel_rfl)) (fun _ _ _ h => h) (Or.inl ⟨by rfl, ?_⟩) ?_ ?_
                        rotate_left
                        · intro w'
                          go_simp
                          with_reducible rfl
                        rotate_left
                        · simp only [Act.put, List.setIfInBounds_toArray, List.set_cons_zero, List.set_cons_succ, i64_w, i32_w]
                          rfl
                        refine pure_ (i := 8) (N := some 30) (v := ?_) (a' := ?_) #[true, true, true, true, true, true, false, true, true, false, false, false, false, false] rfl rfl (any_of HT_.out (by kernel_rfl)) (fun _ _ _ h => h) (Or.inl ⟨by rfl, ?_⟩) ?_ ?_
                        rotate_left
                        · intro w'
                          go_simp
                          with_reducible rfl
                        rotate_left
                        · simp only [Act.put, List.setIfInBounds_toArray, List.set_cons_zero, List.set_cons_succ, i64_w, i32_w]
                          rfl
                        refine pure_ (i := 9) (N := some 31) (v := ?_) (a' := ?_) #[true, true, true, true, true, true, false, true, true, true, false, false, false, false] rfl rfl (any_of HT_.out (by kernel_rfl)) (fun _ _ _ h => h) (Or.inl ⟨by rfl, ?_⟩) ?_ ?_
                        rotate_left
                        · intro w'
                          go_simp
                          with_reducible rfl
                        rotate_left
                        · simp only [Act.put, List.setIfInBounds_toArray, List.set_cons_zero, List.set_cons_succ, i64_w, i32_w]
                          rfl
                        refine pure_ (i := 10) (N := some 32) (v := ?_) (a' := ?_) #[true, true, true, true, true, true, false, true, true, true, true, false, false, false] rfl rfl (any_of HT_.out (by kernel_rfl)) (fun _ _ _ h => h) (Or.inl ⟨by rfl, ?_⟩) ?_ ?_
                        rotate_left
                        · intro w'
                          go_simp
                          with_reducible rfl
                        rotate_left
                        · simp only [Act.put, List.setIfInBounds_toArray, List.set_cons_zero, List.set_cons_succ, i64_w, i32_w]
                          rfl
                        refine pure_ (i := 11) (N := some 33) (v := ?_) (a' := ?_) #[true, true, true, true, true, true, false, true, true, true, true, true, false, false] rfl rfl (any_of HT_.out (by kernel_rfl)) (fun _ _ _ h => h) (Or.inl ⟨by rfl, ?_⟩) ?_ ?_
                        rotate_left
                        · intro w'
                          go_simp
                          with_reducible rfl
                        rotate_left
                        · simp only [Act.put, List.setIfInBounds_toArray, List.set_cons_zero, List.set_cons_succ, i64_w, i32_w]
                          rfl
                        refine one_ (i := 6) (N := some 28) #[true, true, true, true, true, true, true, true, true, true, true, true, false, false] rfl rfl (one_of HT_.out (by kernel_rfl)) (by decide) (fun K hK => ?_)
                        refine goes_ Try.func25 (by kernel_rfl) rfl #[.int .i64 a0, .int .i64 a1, .slice A2 y183.length c2] (by rfl) rfl rfl (by (try simp only [List.map_toArray, List.map_cons, List.map_nil]); first | done | rfl | (simp only [List.length_drop, List.length_take]; rfl)) ?_
                        with_reducible refine (greenwoodref05_rank.calls kj5 a0 a1 _ _ y183 t187 _ ?side1 ?side2 A13.out).mono ?_
                        (case side1 => repeat (first | exact (Kd.C_below HR186.out HB.out) | (with_reducible refine Kd.C_alloc ?_ _) | (with_reducible refine Kd.C_drewN ?_ _) | (with_reducible refine Kd.C_drew ?_)))
                        (case side2 => exact HC186.out)
                        rintro e w22 ⟨rfl, hb⟩
                        refine ⟨_, rfl, ?_⟩
                        have n0_ := Aside0.mk (Kd.R_below (by (with_reducible repeat (first | apply Kd.R_alloc | apply Kd.R_drewN | apply Kd.R_drew)); exact HO_7.out) hb)
                        have n1_ := Aside0.mk (below_step (by repeat (first | (with_reducible first | exact HB.out | apply below_alloc | apply pw_below_drewN | apply below_drew1) | exact HB.out)) hb)
                        clear HO_7
                        clear HB
                        have HO_7 := n0_
                        have HB := n1_
                        clear n0_ n1_
                        (try clear hb)
                        (try clear hb2)
                        (try clear hk)
                        (try clear hi)
                        refine hK.out _ _ trivial (fun hHeld => ?_)
                        clear hK K
                        refine norm_ (a' := ?_) ?_ ?_
                        rotate_left
                        · show Act.put _ (some 28) _ = _
                          simp only [Act.put, List.setIfInBounds_toArray, List.set_cons_zero, List.set_cons_succ, i64_w, i32_w]
                          rfl
                        refine one_ (i := 12) (N := some 34) #[true, true, true, true, true, true, true, true, true, true, true, true, true, false] rfl rfl (one_of HT_.out (by kernel_rfl)) (by decide) (fun K hK => ?_)
                        refine goes_ Try.func25 (by kernel_rfl) rfl #[.int .i64 a0, .int .i64 a1, .slice A2 y188.length c2] (by rfl) rfl rfl (by (try simp only [List.map_toArray, List.map_cons, List.map_nil]); first | done | rfl | (simp only [List.length_drop, List.length_take]; rfl)) ?_
                        with_reducible refine (greenwoodref05_rank.calls kj5 a0 a1 _ _ y188 t192 _ ?side1 ?side2 A16.out).mono ?_
                        (case side1 => repeat (first | exact (Kd.C_below HR191.out HB.out) | (with_reducible refine Kd.C_alloc ?_ _) | (with_reducible refine Kd.C_drewN ?_ _) | (with_reducible refine Kd.C_drew ?_)))
                        (case side2 => exact HC191.out)
                        rintro e w23 ⟨rfl, hb⟩
                        refine ⟨_, rfl, ?_⟩
                        have n0_ := Aside0.mk (Kd.R_below (by (with_reducible repeat (first | apply Kd.R_alloc | apply Kd.R_drewN | apply Kd.R_drew)); exact HO_7.out) hb)
                        have n1_ := Aside0.mk (below_step (by repeat (first | (with_reducible first | exact HB.out | apply below_alloc | apply pw_below_drewN | apply below_drew1) | exact HB.out)) hb)
                        clear HO_7
                        clear HB
                        have HO_7 := n0_
                        have HB := n1_
                        clear n0_ n1_
                        (try clear hb)
                        (try clear hb2)
                        (try clear hk)
                        (try clear hi)
                        refine hK.out _ _ trivial (fun hHeld => ?_)
                        clear hK K
                        refine norm_ (a' := ?_) ?_ ?_
                        rotate_left
                        · show Act.put _ (some 34) _ = _
                          simp only [Act.put, List.setIfInBounds_toArray, List.set_cons_zero, List.set_cons_succ, i64_w, i32_w]
                          rfl
                        refine pure_ (i := 13) (N := some 35) (v := ?_) (a' := ?_) #[true, true, true, true, true, true, true, true, true, true, true, true, true, true] rfl rfl (any_of HT_.out (by kernel_rfl)) (fun _ _ _ h => h) (Or.inl ⟨by rfl, ?_⟩) ?_ ?_
                        rotate_left
                        · intro w'
                          go_simp
                          with_reducible rfl
                        rotate_left
                        · simp only [Act.put, List.setIfInBounds_toArray, List.set_cons_zero, List.set_cons_succ, i64_w, i32_w]
                          rfl
                        refine done_ (done_of HT_.out (by kernel_rfl)) ?_
                        try go_wp2_with (first | ((with_reducible refine gate_builtin (b := .append) (xs := #[.tmp 36, .tmp 38]) rfl ?_); at_builtin; refine Kd.R_append (Kd.int .i64) (w0 := w) w.heap.size rfl (.tmp 36) (.tmp 38) 26 3 (.int .i64 0) 8 rfl Try.underlying26 info3 rfl (by decide) (by omega) u7 x7_1 x8_1 [.int .i64 x8_1] (fun _ => True) (fun _ => False) rfl rfl ?aP (fun _ hk => hk.elim) ?aF ?aO ?aB ?aS ?aL ?_; (case aP => exact rfl); (case aB => exact (by repeat (first | (with_reducible first | exact HB.out | apply below_alloc | apply pw_below_drewN | apply below_drew1) | exact HB.out))); (case aF => exact (fun _ _ => trivial)); (case aO => exact (by (with_reducible repeat (first | apply Kd.R_alloc | apply Kd.R_drewN | apply Kd.R_drew)); exact HO_7.out)); (case aS => exact (below_size (by repeat (first | (with_reducible first | exact HB.out | apply below_alloc | apply pw_below_drewN | apply below_drew1) | exact HB.out)))); (case aL => have := LMc18.out; omega); intro v194 w24 ho hb hg hat; rw [← Ny193.out] at ho; have n0_ := Aside0.mk (hb); have n1_ := Aside0.mk (ho); clear HB; clear HO_7; have HB := n0_; have HO195 := n1_; clear n0_ n1_; clear ho hb hg hat))
                        go_roundg kj5
                        case measure => have := HK1.out; have := HJ5.out; omega
                        case rel => exact ⟨(y193), (ji10), (by first | rfl | (simp; done) | (simp only [← hji10] <;> (first | rfl | simp)) | (simp [*]; done)), H', ⟨by have := HK1.out; have := HJ5.out; omega⟩, ⟨by (with_reducible repeat (first | apply Kd.R_alloc | apply Kd.R_drewN | apply Kd.R_drew)); exact HO195.out⟩, ⟨by repeat (first | (with_reducible first | exact HB.out | apply below_alloc | apply pw_below_drewN | apply below_drew1) | exact HB.out)⟩⟩
                      · rw [if_neg c18] at H
                        exact absurd H (by simp)
                    · rw [if_neg c17] at H
                      have c17b0 : decide (t192 < t187) = false := decide_eq_false c17
                      clear c17
                      have H' := Aside0.mk H
                      clear H
                      try go_wp2
                      have n0_ := Aside0.mk (Kd.R_drew HO_7.out)
                      have n1_ := Aside0.mk (below_drew1 HB.out)
                      clear HO_7
                      clear HB
                      have HO_7 := n0_
                      have HB := n1_
                      clear n0_ n1_
                      have q26 : ((ji10) : Int) ≤ ((l2.length : Int) : Int) := of_decide_eq_true (by first | (with_reducible assumption) | assumption)
                      obtain ⟨i026, hi026, _, hsz26, _⟩ := info_parts info26
                      have hroom26 : l2.length ≤ c2 := HC2.out
                      have hC26 : Kd.C (Kd.slice 3 (Kd.int .i64)) _ A2 l2.length l2 := HR2.out
                      have hcut26 := cut_to (P := Try.prog) 22 26 .i64 Try.underlying22 hi026 A2 l2.length c2 (ji10) (of_decide_eq_true (by first | (with_reducible assumption) | assumption)) q26 hroom26
                      have hr26 := Kd.C_take (m := ((ji10) : Int).toNat) hC26 (by omega)
                      have hy26 : y183.length = ((ji10) : Int).toNat := (by rw [Ny183.out, List.length_take]; omega)
                      rw [← Ny183.out] at hr26
                      rw [← hy26] at hcut26
                      have HR186 := Aside0.mk hr26
                      have HC186 := Aside0.mk (show y183.length ≤ c2 from by omega)
                      clear hr26 hC26 hroom26 hi026 hsz26
                      have KY26 := Aside0.mk hy26
                      clear hy26
                      replace q26 := eq_true q26
                      have q27 : (x8_1 : Int) ≤ ((l2.length : Int) : Int) := of_decide_eq_true (by first | (with_reducible assumption) | assumption)
                      obtain ⟨i027, hi027, _, hsz27, _⟩ := info_parts info26
                      have hroom27 : l2.length ≤ c2 := HC2.out
                      have hC27 : Kd.C (Kd.slice 3 (Kd.int .i64)) _ A2 l2.length l2 := HR2.out
                      have hcut27 := cut_to (P := Try.prog) 22 26 .i64 Try.underlying22 hi027 A2 l2.length c2 x8_1 (of_decide_eq_true (by first | (with_reducible assumption) | assumption)) q27 hroom27
                      have hr27 := Kd.C_take (m := (x8_1 : Int).toNat) hC27 (by omega)
                      have hy27 : y188.length = (x8_1 : Int).toNat := (by rw [Ny188.out, List.length_take]; omega)
                      rw [← Ny188.out] at hr27
                      rw [← hy27] at hcut27
                      have HR191 := Aside0.mk hr27
                      have HC191 := Aside0.mk (show y188.length ≤ c2 from by omega)
                      clear hr27 hC27 hroom27 hi027 hsz27
                      have KY27 := Aside0.mk hy27
                      clear hy27
                      replace q27 := eq_true q27
                      refine start_ (n := 14) (S := fun w' => True) (ds := []) #[false, false, false, false, false, false, false, false, false, false, false, false, false, false] (by kernel_rfl) rfl rfl trivial (fun hHeld => ?_); refine with_tabW greenwoodref05_Basis.tab5 greenwoodref05_Basis.bits5 (fun HT_ HW_ => ?_)
                      generalize wc.drew = w25 at HO_7 HB HR186 HR191 hHeld ⊢
                      refine pure_ (i := 0) (N := some 22) (v := ?_) (a' := ?_) #[true, false, false, false, false, false, false, false, false, false, false, false, false, false] rfl rfl (any_of HT_.out (by kernel_rfl)) (fun _ _ _ h => h) (Or.inl ⟨by rfl, ?_⟩) ?_ ?_
                      rotate_left
                      · intro w'
                        go_simp
                        with_reducible rfl
                      rotate_left
                      · simp only [Act.put, List.setIfInBounds_toArray, List.set_cons_zero, List.set_cons_succ, i64_w, i32_w]
                        rfl
                      refine pure_ (i := 1) (N := some 23) (v := ?_) (a' := ?_) #[true, true, false, false, false, false, false, false, false, false, false, false, false, false] rfl rfl (any_of HT_.out (by kernel_rfl)) (fun _ _ _ h => h) (Or.inl ⟨by rfl, ?_⟩) ?_ ?_
                      rotate_left
                      · intro w'
                        go_simp
                        with_reducible rfl
                      rotate_left
                      · simp only [Act.put, List.setIfInBounds_toArray, List.set_cons_zero, List.set_cons_succ, i64_w, i32_w]
                        rfl
                      refine pure_ (i := 2) (N := some 24) (v := ?_) (a' := ?_) #[true, true, true, false, false, false, false, false, false, false, false, false, false, false] rfl rfl (any_of HT_.out (by kernel_rfl)) (fun _ _ _ h => h) (Or.inl ⟨by rfl, ?_⟩) ?_ ?_
                      rotate_left
                      · intro w'
                        go_simp
                        with_reducible rfl
                      rotate_left
                      · simp only [Act.put, List.setIfInBounds_toArray, List.set_cons_zero, List.set_cons_succ, i64_w, i32_w]
                        rfl
                      refine pure_ (i := 3) (N := some 25) (v := ?_) (a' := ?_) #[true, true, true, true, false, false, false, false, false, false, false, false, false, false] rfl rfl (any_of HT_.out (by kernel_rfl)) (fun _ _ _ h => h) (Or.inl ⟨by rfl, ?_⟩) ?_ ?_
                      rotate_left
                      · intro w'
                        go_simp
                        with_reducible rfl
                      rotate_left
                      · simp only [Act.put, List.setIfInBounds_toArray, List.set_cons_zero, List.set_cons_succ, i64_w, i32_w]
                        rfl
                      refine pure_ (i := 4) (N := some 26) (v := ?_) (a' := ?_) #[true, true, true, true, true, false, false, false, false, false, false, false, false, false] rfl rfl (any_of HT_.out (by kernel_rfl)) (fun _ _ _ h => h) (Or.inl ⟨by rfl, ?_⟩) ?_ ?_
                      rotate_left
                      · intro w'
                        go_simp
                        with_reducible rfl
                      rotate_left
                      · simp only [Act.put, List.setIfInBounds_toArray, List.set_cons_zero, List.set_cons_succ, i64_w, i32_w]
                        rfl
                      refine pure_ (i := 5) (N := some 27) (v := ?_) (a' := ?_) #[true, true, true, true, true, true, false, false, false, false, false, false, false, false] rfl rfl (any_of HT_.out (by kernel_rfl)) (fun _ _ _ h => h) (Or.inl ⟨by rfl, ?_⟩) ?_ ?_
                      rotate_left
                      · intro w'
                        go_simp
                        with_reducible rfl
                      rotate_left
                      · simp only [Act.put, List.setIfInBounds_toArray, List.set_cons_zero, List.set_cons_succ, i64_w, i32_w]
                        rfl
                      refine pure_ (i := 7) (N := some 29) (v := ?_) (a' := ?_) #[true, true, true, true, true, true, false, true, false, false, false, false, false, false] rfl rfl (any_of HT_.out (by kernel_rfl)) (fun _ _ _ h => h) (Or.inl ⟨by rfl, ?_⟩) ?_ ?_
                      rotate_left
                      · intro w'
                        go_simp
                        with_reducible rfl
                      rotate_left
                      · simp only [Act.put, List.setIfInBounds_toArray, List.set_cons_zero, List.set_cons_succ, i64_w, i32_w]
                        rfl
                      refine pure_ (i := 8) (N := some 30) (v := ?_) (a' := ?_) #[true, true, true, true, true, true, false, true, true, false, false, false, false, false] rfl rfl (any_of HT_.out (by kernel_rfl)) (fun _ _ _ h => h) (Or.inl ⟨by rfl, ?_⟩) ?_ ?_
                      rotate_left
                      · intro w'
                        go_simp
                        with_reducible rfl
                      rotate_left
                      · simp only [Act.put, List.setIfInBounds_toArray, List.set_cons_zero, List.set_cons_succ, i64_w, i32_w]
                        rfl
                      refine pure_ (i := 9) (N := some 31) (v := ?_) (a' := ?_) #[true, true, true, true, true, true, false, true, true, true, false, false, false, false] rfl rfl (any_of HT_.out (by kernel_rfl)) (fun _ _ _ h => h) (Or.inl ⟨by rfl, ?_⟩) ?_ ?_
                      rotate_left
                      · intro w'
                        go_simp
                        with_reducible rfl
                      rotate_left
                      · simp only [Act.put, List.setIfInBounds_toArray, List.set_cons_zero, List.set_cons_succ, i64_w, i32_w]
                        rfl
                      refine pure_ (i := 10) (N := some 32) (v := ?_) (a' := ?_) #[true, true, true, true, true, true, false, true, true, true, true, false, false, false] rfl rfl (any_of HT_.out (by kernel_rfl)) (fun _ _ _ h => h) (Or.inl ⟨by rfl, ?_⟩) ?_ ?_
                      rotate_left
                      · intro w'
                        go_simp
                        with_reducible rfl
                      rotate_left
                      · simp only [Act.put, List.setIfInBounds_toArray, List.set_cons_zero, List.set_cons_succ, i64_w, i32_w]
                        rfl
                      refine pure_ (i := 11) (N := some 33) (v := ?_) (a' := ?_) #[true, true, true, true, true, true, false, true, true, true, true, true, false, false] rfl rfl (any_of HT_.out (by kernel_rfl)) (fun _ _ _ h => h) (Or.inl ⟨by rfl, ?_⟩) ?_ ?_
                      rotate_left
                      · intro w'
                        go_simp
                        with_reducible rfl
                      rotate_left
                      · simp only [Act.put, List.setIfInBounds_toArray, List.set_cons_zero, List.set_cons_succ, i64_w, i32_w]
                        rfl
                      refine one_ (i := 6) (N := some 28) #[true, true, true, true, true, true, true, true, true, true, true, true, false, false] rfl rfl (one_of HT_.out (by kernel_rfl)) (by decide) (fun K hK => ?_)
                      refine goes_ Try.func25 (by kernel_rfl) rfl #[.int .i64 a0, .int .i64 a1, .slice A2 y183.length c2] (by rfl) rfl rfl (by (try simp only [List.map_toArray, List.map_cons, List.map_nil]); first | done | rfl | (simp only [List.length_drop, List.length_take]; rfl)) ?_
                      with_reducible refine (greenwoodref05_rank.calls kj5 a0 a1 _ _ y183 t187 _ ?side1 ?side2 A13.out).mono ?_
                      (case side1 => repeat (first | exact (Kd.C_below HR186.out HB.out) | (with_reducible refine Kd.C_alloc ?_ _) | (with_reducible refine Kd.C_drewN ?_ _) | (with_reducible refine Kd.C_drew ?_)))
                      (case side2 => exact HC186.out)
                      rintro e w28 ⟨rfl, hb⟩
                      refine ⟨_, rfl, ?_⟩
                      have n0_ := Aside0.mk (Kd.R_below (by (with_reducible repeat (first | apply Kd.R_alloc | apply Kd.R_drewN | apply Kd.R_drew)); exact HO_7.out) hb)
                      have n1_ := Aside0.mk (below_step (by repeat (first | (with_reducible first | exact HB.out | apply below_alloc | apply pw_below_drewN | apply below_drew1) | exact HB.out)) hb)
                      clear HO_7
                      clear HB
                      have HO_7 := n0_
                      have HB := n1_
                      clear n0_ n1_
                      (try clear hb)
                      (try clear hb2)
                      (try clear hk)
                      (try clear hi)
                      refine hK.out _ _ trivial (fun hHeld => ?_)
                      clear hK K
                      refine norm_ (a' := ?_) ?_ ?_
                      rotate_left
                      · show Act.put _ (some 28) _ = _
                        simp only [Act.put, List.setIfInBounds_toArray, List.set_cons_zero, List.set_cons_succ, i64_w, i32_w]
                        rfl
                      refine one_ (i := 12) (N := some 34) #[true, true, true, true, true, true, true, true, true, true, true, true, true, false] rfl rfl (one_of HT_.out (by kernel_rfl)) (by decide) (fun K hK => ?_)
                      refine goes_ Try.func25 (by kernel_rfl) rfl #[.int .i64 a0, .int .i64 a1, .slice A2 y188.length c2] (by rfl) rfl rfl (by (try simp only [List.map_toArray, List.map_cons, List.map_nil]); first | done | rfl | (simp only [List.length_drop, List.length_take]; rfl)) ?_
                      with_reducible refine (greenwoodref05_rank.calls kj5 a0 a1 _ _ y188 t192 _ ?side1 ?side2 A16.out).mono ?_
                      (case side1 => repeat (first | exact (Kd.C_below HR191.out HB.out) | (with_reducible refine Kd.C_alloc ?_ _) | (with_reducible refine Kd.C_drewN ?_ _) | (with_reducible refine Kd.C_drew ?_)))
                      (case side2 => exact HC191.out)
                      rintro e w29 ⟨rfl, hb⟩
                      refine ⟨_, rfl, ?_⟩
                      have n0_ := Aside0.mk (Kd.R_below (by (with_reducible repeat (first | apply Kd.R_alloc | apply Kd.R_drewN | apply Kd.R_drew)); exact HO_7.out) hb)
                      have n1_ := Aside0.mk (below_step (by repeat (first | (with_reducible first | exact HB.out | apply below_alloc | apply pw_below_drewN | apply below_drew1) | exact HB.out)) hb)
                      clear HO_7
                      clear HB
                      have HO_7 := n0_
                      have HB := n1_
                      clear n0_ n1_
                      (try clear hb)
                      (try clear hb2)
                      (try clear hk)
                      (try clear hi)
                      refine hK.out _ _ trivial (fun hHeld => ?_)
                      clear hK K
                      refine norm_ (a' := ?_) ?_ ?_
                      rotate_left
                      · show Act.put _ (some 34) _ = _
                        simp only [Act.put, List.setIfInBounds_toArray, List.set_cons_zero, List.set_cons_succ, i64_w, i32_w]
                        rfl
                      refine pure_ (i := 13) (N := some 35) (v := ?_) (a' := ?_) #[true, true, true, true, true, true, true, true, true, true, true, true, true, true] rfl rfl (any_of HT_.out (by kernel_rfl)) (fun _ _ _ h => h) (Or.inl ⟨by rfl, ?_⟩) ?_ ?_
                      rotate_left
                      · intro w'
                        go_simp
                        with_reducible rfl
                      rotate_left
                      · simp only [Act.put, List.setIfInBounds_toArray, List.set_cons_zero, List.set_cons_succ, i64_w, i32_w]
                        rfl
                      refine done_ (done_of HT_.out (by kernel_rfl)) ?_
                      try go_wp2
                      go_roundg kj5
                      case measure => have := HK1.out; have := HJ5.out; omega
                      case rel => exact ⟨(x7_1), (ji10), (by first | rfl | (simp; done) | (simp only [← hji10] <;> (first | rfl | simp)) | (simp [*]; done)), H', ⟨by have := HK1.out; have := HJ5.out; omega⟩, ⟨by (with_reducible repeat (first | apply Kd.R_alloc | apply Kd.R_drewN | apply Kd.R_drew)); exact HO_7.out⟩, ⟨by repeat (first | (with_reducible first | exact HB.out | apply below_alloc | apply pw_below_drewN | apply below_drew1) | exact HB.out)⟩⟩
                  · rw [if_neg c15] at H
                    exact absurd H (by simp)
                · rw [if_neg c14] at H
                  exact absurd H (by simp)
              · rw [if_neg c12] at H
                exact absurd H (by simp)
            · rw [if_neg c11] at H
              exact absurd H (by simp)
          · replace c9 := Bool.eq_false_iff.mpr c9
            subst c9
            have H1 : (some x7_1) = some r := by rw [if_neg (show ¬ (false = true) by decide)] at H; exact H
            clear H
            have H := H1
            clear H1
            obtain rfl := Option.some.inj H
            go_wp2
            go_ret
            exact ⟨_, by first | rfl | (simp [errW_none, errW_some] <;> rfl) | (simp [*, errW_none, errW_some] <;> rfl), by (with_reducible repeat (first | apply Kd.R_alloc | apply Kd.R_drewN | apply Kd.R_drew)); exact HO_7.out, by repeat (first | (with_reducible first | exact HB.out | apply below_alloc | apply pw_below_drewN | apply below_drew1) | exact HB.out)⟩

/-! ### greenwoodref05_Rank: function 15 -/
def greenwoodref05_Rank.f (k : Nat) (a0 : Int) (a1 : Int) (l2 : List (List Int)) : Option (Int) := (greenwoodref05_May.f k a0 a1 l2).bind fun t196 => (if t196 = true then ((greenwoodref05_rank.f k a0 a1 l2).bind fun t197 => (some t197)) else (some (-1)))
set_option maxHeartbeats 8000000 in
set_option maxRecDepth 100000 in
theorem greenwoodref05_Rank.calls (k : Nat) (a0 : Int) (a1 : Int) (A2 : Option Addr) (c2 : Nat) (l2 : List (List Int)) (r : Int) (w : World) (hr2 : Kd.C (Kd.slice 3 (Kd.int .i64)) w A2 l2.length l2) (hc2 : l2.length ≤ c2) (h : greenwoodref05_Rank.f k a0 a1 l2 = some r) :
    Calls Try.prog 15 #[.int .i64 a0, .int .i64 a1, .slice A2 l2.length c2] w fun e w' => e = .returned (.int .i64 r) ∧ Below w.heap.size w w' := by
  have HR2 := Aside0.mk hr2
  have HC2 := Aside0.mk hc2
  clear hr2 hc2
  have HB := Aside0.mk (Below.refl w.heap.size w)
  have H : ((greenwoodref05_May.f k a0 a1 l2).bind fun t196 => (if t196 = true then ((greenwoodref05_rank.f k a0 a1 l2).bind fun t197 => (some t197)) else (some (-1)))) = some r := h
  clear h
  replace H := Option.bind_eq_some_iff.mp H
  obtain ⟨t196, A40, H⟩ := H
  replace H : (if t196 = true then ((greenwoodref05_rank.f k a0 a1 l2).bind fun t197 => (some t197)) else (some (-1))) = some r := H
  have A4 := Aside0.mk A40
  clear A40
  by_cases c5 : t196 = true
  · subst c5
    have H1 : ((greenwoodref05_rank.f k a0 a1 l2).bind fun t197 => (some t197)) = some r := by rw [if_pos rfl] at H; exact H
    clear H
    have H := H1
    clear H1
    replace H := Option.bind_eq_some_iff.mp H
    obtain ⟨t197, A60, H⟩ := H
    replace H : (some t197) = some r := H
    have A6 := Aside0.mk A60
    clear A60
    obtain rfl := Option.some.inj H
    go_enter Try.func15, Try.ntmps15
    go_wp2_with (first | ((with_reducible refine gate_callee (f := 10) rfl ?_); refine goesL_ (some 10) rfl rfl Try.func10 (by kernel_rfl) rfl #[.int .i64 a0, .int .i64 a1, .slice A2 l2.length c2] rfl (by (try simp only [List.map_toArray, List.map_cons, List.map_nil]); first | done | rfl | (simp only [List.length_drop, List.length_take]; rfl)) ?_; (with_reducible refine (greenwoodref05_May.calls k a0 a1 _ _ l2 true _ ?side1 ?side2 A4.out).mono ?_); (case side1 => repeat (first | exact HR2.out | (with_reducible refine Kd.C_alloc ?_ _) | (with_reducible refine Kd.C_drewN ?_ _) | (with_reducible refine Kd.C_drew ?_))); (case side2 => exact HC2.out); rintro e w' ⟨rfl, ⟨nd, rfl⟩⟩; refine ⟨_, rfl, ?_⟩) | ((with_reducible refine gate_callee (f := 25) rfl ?_); refine goesL_ (some 15) rfl rfl Try.func25 (by kernel_rfl) rfl #[.int .i64 a0, .int .i64 a1, .slice A2 l2.length c2] rfl (by (try simp only [List.map_toArray, List.map_cons, List.map_nil]); first | done | rfl | (simp only [List.length_drop, List.length_take]; rfl)) ?_; (with_reducible refine (greenwoodref05_rank.calls k a0 a1 _ _ l2 t197 _ ?side1 ?side2 A6.out).mono ?_); (case side1 => repeat (first | exact HR2.out | (with_reducible refine Kd.C_alloc ?_ _) | (with_reducible refine Kd.C_drewN ?_ _) | (with_reducible refine Kd.C_drew ?_))); (case side2 => exact HC2.out); rintro e w7 ⟨rfl, hb⟩; refine ⟨_, rfl, ?_⟩; have n0_ := Aside0.mk (below_step (by repeat (first | (with_reducible first | exact HB.out | apply below_alloc | apply pw_below_drewN | apply below_drew1) | exact HB.out)) hb); clear HB; have HB := n0_; clear n0_; (try clear hb); (try clear hb2); (try clear hk); (try clear hi)))
    go_ret
    exact ⟨by first | rfl | (simp [errW_none, errW_some] <;> rfl) | (simp [*, errW_none, errW_some] <;> rfl), by repeat (first | (with_reducible first | exact HB.out | apply below_alloc | apply pw_below_drewN | apply below_drew1) | exact HB.out)⟩
  · replace c5 := Bool.eq_false_iff.mpr c5
    subst c5
    have H1 : (some (-1)) = some r := by rw [if_neg (show ¬ (false = true) by decide)] at H; exact H
    clear H
    have H := H1
    clear H1
    obtain rfl := Option.some.inj H
    go_enter Try.func15, Try.ntmps15
    go_wp2_with (first | ((with_reducible refine gate_callee (f := 10) rfl ?_); refine goesL_ (some 10) rfl rfl Try.func10 (by kernel_rfl) rfl #[.int .i64 a0, .int .i64 a1, .slice A2 l2.length c2] rfl (by (try simp only [List.map_toArray, List.map_cons, List.map_nil]); first | done | rfl | (simp only [List.length_drop, List.length_take]; rfl)) ?_; (with_reducible refine (greenwoodref05_May.calls k a0 a1 _ _ l2 false _ ?side1 ?side2 A4.out).mono ?_); (case side1 => repeat (first | exact HR2.out | (with_reducible refine Kd.C_alloc ?_ _) | (with_reducible refine Kd.C_drewN ?_ _) | (with_reducible refine Kd.C_drew ?_))); (case side2 => exact HC2.out); rintro e w' ⟨rfl, ⟨nd, rfl⟩⟩; refine ⟨_, rfl, ?_⟩))
    go_ret
    exact ⟨by first | rfl | (simp [errW_none, errW_some] <;> rfl) | (simp [*, errW_none, errW_some] <;> rfl), by repeat (first | (with_reducible first | exact HB.out | apply below_alloc | apply pw_below_drewN | apply below_drew1) | exact HB.out)⟩

end Go.Proofs.Ytepakefmioeilaa.P
-- written by wip/tool/ownprint.py of this claim's own repository, out of the translation's print
namespace Go.Proofs.Ytepakefmioeilaa.P
open Go.RowKit Go.Proofs.YtepakefmioeilaaW.PrintWords Go.Proofs.YtepakefmioeilaaW.PrintLast Go.Proofs.YtepakefmioeilaaW.PrintMore
attribute [local go_sem] max2_int min2_int max_two min_two max_three min_three max_four min_four   -- for this text's walks alone
set_option linter.unusedVariables false
set_option linter.unusedSimpArgs false

/-! ### greenwoodlaw05_ElimTells: function 3 -/
def greenwoodlaw05_ElimTells.j0 : Nat → Int → Int → List (List Int) → Bool → Option (Bool)
  | 0, _, _, _, _ => none
  | k + 1, x0, x1, x2, x13 => if x13 = true then ((greenwoodlaw05_fixed.f k).bind fun t198 => (some t198)) else ((greenwoodlaw05_fixed.f k).bind fun t199 => (if t199 = true then ((elim_May.f k x0 x1 x2).bind fun t200 => ((greenwoodref05_May.f k x0 x1 x2).bind fun t201 => (if (t200 == t201) = true then ((elim_Basis.f k x0 x1 x2).bind fun t202 => ((greenwoodref05_Basis.f k x0 x1 x2).bind fun t205 => ((greenwoodref01_Same.f k t202 t205).bind fun t208 => (if t208 = true then ((elim_Rank.f k x0 x1 x2).bind fun t209 => ((greenwoodref05_Rank.f k x0 x1 x2).bind fun t210 => (some (t209 == t210)))) else (some false))))) else (some false)))) else (some false)))
def greenwoodlaw05_ElimTells.f (k : Nat) (a0 : Int) (a1 : Int) (l2 : List (List Int)) : Option (Bool) := if a1 > 20 then (greenwoodlaw05_ElimTells.j0 k a0 a1 l2 true) else (greenwoodlaw05_ElimTells.j0 k a0 a1 l2 (decide ((l2.length : Int) > 20)))
set_option maxHeartbeats 8000000 in
set_option maxRecDepth 100000 in
theorem greenwoodlaw05_ElimTells.callsT (k : Nat) (a0 : Int) (a1 : Int) (A2 : Option Addr) (c2 : Nat) (l2 : List (List Int)) (r : Bool) (w : World) (hr2 : Kd.C (Kd.slice 3 (Kd.int .i64)) w A2 l2.length l2) (hc2 : l2.length ≤ c2) (hrT : r = true) (h : greenwoodlaw05_ElimTells.f k a0 a1 l2 = some r) :
    Calls Try.prog 3 #[.int .i64 a0, .int .i64 a1, .slice A2 l2.length c2] w fun e w' => e = .returned (.bool r) ∧ Below w.heap.size w w' := by
  have HR2 := Aside0.mk hr2
  have HC2 := Aside0.mk hc2
  clear hr2 hc2
  have HB := Aside0.mk (Below.refl w.heap.size w)
  have H : (if a1 > 20 then (greenwoodlaw05_ElimTells.j0 k a0 a1 l2 true) else (greenwoodlaw05_ElimTells.j0 k a0 a1 l2 (decide ((l2.length : Int) > 20)))) = some r := h
  clear h
  have HC4 := Aside0.mk H
  clear H
  go_enter Try.func3, Try.ntmps3
  go_upto_region 1 with (fail)
  go_cut [13] (fun v13 wc => ∃ (kq : Nat) (x13_3 : Bool), v13 = .bool x13_3 ∧ Aside0 (greenwoodlaw05_ElimTells.j0 kq a0 a1 l2 x13_3 = some r) ∧ Aside0 (kq ≤ k) ∧ Aside0 (Below w.heap.size w wc))
  case first =>
    have H := HC4.out
    clear HC4
    by_cases c5 : a1 > 20
    · rw [if_pos c5] at H
      have c5b0 : decide (20 < a1) = true := decide_eq_true c5
      clear c5
      (first | rw [c5b0] | (simp only [i64_w, i32_w]; rw [c5b0]) | skip)
      have H' := Aside0.mk H
      clear H
      go_wp2
      go_meet
      case rel => exact ⟨_, (true), (by first | rfl | (simp; done) | (simp [*]; done)), H', ⟨by first | omega | exact Nat.le_refl _⟩, ⟨by repeat (first | (with_reducible first | exact HB.out | apply below_alloc | apply pw_below_drewN | apply below_drew1) | exact HB.out)⟩⟩
    · rw [if_neg c5] at H
      have c5b0 : decide (20 < a1) = false := decide_eq_false c5
      clear c5
      (first | rw [c5b0] | (simp only [i64_w, i32_w]; rw [c5b0]) | skip)
      have H' := Aside0.mk H
      clear H
      go_wp2
      go_meet
      case rel => exact ⟨_, (decide ((l2.length : Int) > 20)), (by first | rfl | (simp; done) | (simp [*]; done)), H', ⟨by first | omega | exact Nat.le_refl _⟩, ⟨by repeat (first | (with_reducible first | exact HB.out | apply below_alloc | apply pw_below_drewN | apply below_drew1) | exact HB.out)⟩⟩
  case rest =>
    clear HC4
    try clear c2
    try clear p2
    try clear c3
    try clear c5
    try clear c5b0
    obtain ⟨kq, x13_3, rfl, HA, HJ3, HB⟩ := hcut
    cases kq with
    | zero => exact absurd HA.out (by simp [greenwoodlaw05_ElimTells.j0])
    | succ kj3 =>
      have H := HA.out
      clear HA
      simp only [greenwoodlaw05_ElimTells.j0] at H
      by_cases c6 : x13_3 = true
      · subst c6
        have H1 : ((greenwoodlaw05_fixed.f kj3).bind fun t198 => (some t198)) = some r := by rw [if_pos rfl] at H; exact H
        clear H
        have H := H1
        clear H1
        replace H := Option.bind_eq_some_iff.mp H
        obtain ⟨t198, A70, H⟩ := H
        replace H : (some t198) = some r := H
        have A7 := Aside0.mk A70
        clear A70
        obtain rfl := Option.some.inj H
        go_wp2_with (first | ((with_reducible refine gate_callee (f := 8) rfl ?_); refine goesL_ (some 14) rfl rfl Try.func8 (by kernel_rfl) rfl #[] rfl (by (try simp only [List.map_toArray, List.map_cons, List.map_nil]); first | done | rfl | (simp only [List.length_drop, List.length_take]; rfl)) ?_; (with_reducible refine (greenwoodlaw05_fixed.calls kj3  t198 _ A7.out).mono ?_); rintro e w8 ⟨rfl, hb⟩; refine ⟨_, rfl, ?_⟩; have n0_ := Aside0.mk (below_step (by repeat (first | (with_reducible first | exact HB.out | apply below_alloc | apply pw_below_drewN | apply below_drew1) | exact HB.out)) hb); clear HB; have HB := n0_; clear n0_; (try clear hb); (try clear hb2); (try clear hk); (try clear hi)))
        go_ret
        exact ⟨by first | rfl | (simp [errW_none, errW_some] <;> rfl) | (simp [*, errW_none, errW_some] <;> rfl), by repeat (first | (with_reducible first | exact HB.out | apply below_alloc | apply pw_below_drewN | apply below_drew1) | exact HB.out)⟩
      · replace c6 := Bool.eq_false_iff.mpr c6
        subst c6
        have H1 : ((greenwoodlaw05_fixed.f kj3).bind fun t199 => (if t199 = true then ((elim_May.f kj3 a0 a1 l2).bind fun t200 => ((greenwoodref05_May.f kj3 a0 a1 l2).bind fun t201 => (if (t200 == t201) = true then ((elim_Basis.f kj3 a0 a1 l2).bind fun t202 => ((greenwoodref05_Basis.f kj3 a0 a1 l2).bind fun t205 => ((greenwoodref01_Same.f kj3 t202 t205).bind fun t208 => (if t208 = true then ((elim_Rank.f kj3 a0 a1 l2).bind fun t209 => ((greenwoodref05_Rank.f kj3 a0 a1 l2).bind fun t210 => (some (t209 == t210)))) else (some false))))) else (some false)))) else (some false))) = some r := by rw [if_neg (show ¬ (false = true) by decide)] at H; exact H
        clear H
        have H := H1
        clear H1
        replace H := Option.bind_eq_some_iff.mp H
        obtain ⟨t199, A90, H⟩ := H
        replace H : (if t199 = true then ((elim_May.f kj3 a0 a1 l2).bind fun t200 => ((greenwoodref05_May.f kj3 a0 a1 l2).bind fun t201 => (if (t200 == t201) = true then ((elim_Basis.f kj3 a0 a1 l2).bind fun t202 => ((greenwoodref05_Basis.f kj3 a0 a1 l2).bind fun t205 => ((greenwoodref01_Same.f kj3 t202 t205).bind fun t208 => (if t208 = true then ((elim_Rank.f kj3 a0 a1 l2).bind fun t209 => ((greenwoodref05_Rank.f kj3 a0 a1 l2).bind fun t210 => (some (t209 == t210)))) else (some false))))) else (some false)))) else (some false)) = some r := H
        have A9 := Aside0.mk A90
        clear A90
        by_cases c10 : t199 = true
        · subst c10
          have H1 : ((elim_May.f kj3 a0 a1 l2).bind fun t200 => ((greenwoodref05_May.f kj3 a0 a1 l2).bind fun t201 => (if (t200 == t201) = true then ((elim_Basis.f kj3 a0 a1 l2).bind fun t202 => ((greenwoodref05_Basis.f kj3 a0 a1 l2).bind fun t205 => ((greenwoodref01_Same.f kj3 t202 t205).bind fun t208 => (if t208 = true then ((elim_Rank.f kj3 a0 a1 l2).bind fun t209 => ((greenwoodref05_Rank.f kj3 a0 a1 l2).bind fun t210 => (some (t209 == t210)))) else (some false))))) else (some false)))) = some r := by rw [if_pos rfl] at H; exact H
          clear H
          have H := H1
          clear H1
          replace H := Option.bind_eq_some_iff.mp H
          obtain ⟨t200, A110, H⟩ := H
          replace H : ((greenwoodref05_May.f kj3 a0 a1 l2).bind fun t201 => (if (t200 == t201) = true then ((elim_Basis.f kj3 a0 a1 l2).bind fun t202 => ((greenwoodref05_Basis.f kj3 a0 a1 l2).bind fun t205 => ((greenwoodref01_Same.f kj3 t202 t205).bind fun t208 => (if t208 = true then ((elim_Rank.f kj3 a0 a1 l2).bind fun t209 => ((greenwoodref05_Rank.f kj3 a0 a1 l2).bind fun t210 => (some (t209 == t210)))) else (some false))))) else (some false))) = some r := H
          have A11 := Aside0.mk A110
          clear A110
          replace H := Option.bind_eq_some_iff.mp H
          obtain ⟨t201, A120, H⟩ := H
          replace H : (if (t200 == t201) = true then ((elim_Basis.f kj3 a0 a1 l2).bind fun t202 => ((greenwoodref05_Basis.f kj3 a0 a1 l2).bind fun t205 => ((greenwoodref01_Same.f kj3 t202 t205).bind fun t208 => (if t208 = true then ((elim_Rank.f kj3 a0 a1 l2).bind fun t209 => ((greenwoodref05_Rank.f kj3 a0 a1 l2).bind fun t210 => (some (t209 == t210)))) else (some false))))) else (some false)) = some r := H
          have A12 := Aside0.mk A120
          clear A120
          by_cases c13 : (t200 == t201) = true
          · rw [if_pos c13] at H
            have c13b0 : (t200 == t201) = true := c13
            (try (have c13b1 : decide (t200 = t201) = true := by simpa using c13))
            (try (have c13b2 : (t200 == t201) = true := by simpa using c13))
            clear c13
            replace H := Option.bind_eq_some_iff.mp H
            obtain ⟨t202, A140, H⟩ := H
            replace H : ((greenwoodref05_Basis.f kj3 a0 a1 l2).bind fun t205 => ((greenwoodref01_Same.f kj3 t202 t205).bind fun t208 => (if t208 = true then ((elim_Rank.f kj3 a0 a1 l2).bind fun t209 => ((greenwoodref05_Rank.f kj3 a0 a1 l2).bind fun t210 => (some (t209 == t210)))) else (some false)))) = some r := H
            have A14 := Aside0.mk A140
            clear A140
            replace H := Option.bind_eq_some_iff.mp H
            obtain ⟨t205, A150, H⟩ := H
            replace H : ((greenwoodref01_Same.f kj3 t202 t205).bind fun t208 => (if t208 = true then ((elim_Rank.f kj3 a0 a1 l2).bind fun t209 => ((greenwoodref05_Rank.f kj3 a0 a1 l2).bind fun t210 => (some (t209 == t210)))) else (some false))) = some r := H
            have A15 := Aside0.mk A150
            clear A150
            replace H := Option.bind_eq_some_iff.mp H
            obtain ⟨t208, A160, H⟩ := H
            replace H : (if t208 = true then ((elim_Rank.f kj3 a0 a1 l2).bind fun t209 => ((greenwoodref05_Rank.f kj3 a0 a1 l2).bind fun t210 => (some (t209 == t210)))) else (some false)) = some r := H
            have A16 := Aside0.mk A160
            clear A160
            by_cases c17 : t208 = true
            · subst c17
              have H1 : ((elim_Rank.f kj3 a0 a1 l2).bind fun t209 => ((greenwoodref05_Rank.f kj3 a0 a1 l2).bind fun t210 => (some (t209 == t210)))) = some r := by rw [if_pos rfl] at H; exact H
              clear H
              have H := H1
              clear H1
              replace H := Option.bind_eq_some_iff.mp H
              obtain ⟨t209, A180, H⟩ := H
              replace H : ((greenwoodref05_Rank.f kj3 a0 a1 l2).bind fun t210 => (some (t209 == t210))) = some r := H
              have A18 := Aside0.mk A180
              clear A180
              replace H := Option.bind_eq_some_iff.mp H
              obtain ⟨t210, A190, H⟩ := H
              replace H : (some (t209 == t210)) = some r := H
              have A19 := Aside0.mk A190
              clear A190
              obtain rfl := Option.some.inj H
              go_wp2_with (first | ((with_reducible refine gate_callee (f := 8) rfl ?_); refine goesL_ (some 15) rfl rfl Try.func8 (by kernel_rfl) rfl #[] rfl (by (try simp only [List.map_toArray, List.map_cons, List.map_nil]); first | done | rfl | (simp only [List.length_drop, List.length_take]; rfl)) ?_; (with_reducible refine (greenwoodlaw05_fixed.calls kj3  true _ A9.out).mono ?_); rintro e w20 ⟨rfl, hb⟩; refine ⟨_, rfl, ?_⟩; have n0_ := Aside0.mk (below_step (by repeat (first | (with_reducible first | exact HB.out | apply below_alloc | apply pw_below_drewN | apply below_drew1) | exact HB.out)) hb); clear HB; have HB := n0_; clear n0_; (try clear hb); (try clear hb2); (try clear hk); (try clear hi)) | (go_at_call 9; (with_reducible refine (elim_May.calls kj3 a0 a1 _ _ l2 t200 _ ?side1 ?side2 A11.out).mono ?_); (case side1 => repeat (first | exact (Kd.C_below HR2.out HB.out) | (with_reducible refine Kd.C_alloc ?_ _) | (with_reducible refine Kd.C_drewN ?_ _) | (with_reducible refine Kd.C_drew ?_))); (case side2 => exact HC2.out); rintro e w21 ⟨rfl, hb⟩; have n0_ := Aside0.mk (below_step (by repeat (first | (with_reducible first | exact HB.out | apply below_alloc | apply pw_below_drewN | apply below_drew1) | exact HB.out)) hb); clear HB; have HB := n0_; clear n0_; (try clear hb); (try clear hb2); (try clear hk); (try clear hi)) | (go_at_call 10; (with_reducible refine (greenwoodref05_May.calls kj3 a0 a1 _ _ l2 t201 _ ?side1 ?side2 A12.out).mono ?_); (case side1 => repeat (first | exact (Kd.C_below HR2.out HB.out) | (with_reducible refine Kd.C_alloc ?_ _) | (with_reducible refine Kd.C_drewN ?_ _) | (with_reducible refine Kd.C_drew ?_))); (case side2 => exact HC2.out); rintro e w' ⟨rfl, ⟨nd, rfl⟩⟩) | (go_at_call 12; (with_reducible refine (elim_Basis.calls kj3 a0 a1 _ _ l2 t202 _ ?side1 ?side2 A14.out).mono ?_); (case side1 => repeat (first | exact (Kd.C_below HR2.out (by repeat (first | (with_reducible first | exact HB.out | apply below_alloc | apply pw_below_drewN | apply below_drew1) | exact HB.out))) | (with_reducible refine Kd.C_alloc ?_ _) | (with_reducible refine Kd.C_drewN ?_ _) | (with_reducible refine Kd.C_drew ?_))); (case side2 => exact HC2.out); rintro e w22 ⟨v203, rfl, ho0, hb⟩; have n0_ := Aside0.mk (Kd.R_lower ho0 (below_size (by repeat (first | (with_reducible first | exact HB.out | apply below_alloc | apply pw_below_drewN | apply below_drew1) | exact HB.out)))); have n1_ := Aside0.mk (below_step (by repeat (first | (with_reducible first | exact HB.out | apply below_alloc | apply pw_below_drewN | apply below_drew1) | exact HB.out)) hb); clear HB; have HO204 := n0_; have HB := n1_; clear n0_ n1_; (try clear hb); (try clear hb2); (try clear hk); (try clear hi); (try clear ho0)) | (go_at_call 13; (with_reducible refine (greenwoodref05_Basis.calls kj3 a0 a1 _ _ l2 t205 _ ?side1 ?side2 A15.out).mono ?_); (case side1 => repeat (first | exact (Kd.C_below HR2.out HB.out) | (with_reducible refine Kd.C_alloc ?_ _) | (with_reducible refine Kd.C_drewN ?_ _) | (with_reducible refine Kd.C_drew ?_))); (case side2 => exact HC2.out); rintro e w23 ⟨v206, rfl, ho0, hb⟩; have n0_ := Aside0.mk (Kd.R_elder' (by (with_reducible repeat (first | apply Kd.R_alloc | apply Kd.R_drewN | apply Kd.R_drew)); exact HO204.out) (Kd.R_base ho0) hb); have n1_ := Aside0.mk (Kd.R_lower (Kd.R_new' ho0 (Kd.R_lt (by (with_reducible repeat (first | apply Kd.R_alloc | apply Kd.R_drewN | apply Kd.R_drew)); exact HO204.out))) (below_size (by repeat (first | (with_reducible first | exact HB.out | apply below_alloc | apply pw_below_drewN | apply below_drew1) | exact HB.out)))); have n2_ := Aside0.mk (below_step (by repeat (first | (with_reducible first | exact HB.out | apply below_alloc | apply pw_below_drewN | apply below_drew1) | exact HB.out)) hb); clear HO204; clear HB; have HO204 := n0_; have HO207 := n1_; have HB := n2_; clear n0_ n1_ n2_; (try clear hb); (try clear hb2); (try clear hk); (try clear hi); (try clear ho0); obtain ⟨Ao24, co24, eo24⟩ := Kd.R_slice HO204.out; subst eo24; obtain ⟨Ao25, co25, eo25⟩ := Kd.R_slice HO207.out; subst eo25) | (go_at_call 11; (with_reducible refine (greenwoodref01_Same.calls kj3 _ _ t202 _ _ t205 true _ ?side1 ?side2 ?side3 ?side4 A16.out).mono ?_); (case side1 => repeat (first | exact (Kd.R_reads' HO204.out).2.2 | (with_reducible refine Kd.C_alloc ?_ _) | (with_reducible refine Kd.C_drewN ?_ _) | (with_reducible refine Kd.C_drew ?_))); (case side2 => exact (Kd.R_reads' HO204.out).2.1); (case side3 => repeat (first | exact (Kd.R_reads' HO207.out).2.2 | (with_reducible refine Kd.C_alloc ?_ _) | (with_reducible refine Kd.C_drewN ?_ _) | (with_reducible refine Kd.C_drew ?_))); (case side4 => exact (Kd.R_reads' HO207.out).2.1); rintro e w' ⟨rfl, ⟨nd, rfl⟩⟩) | (go_at_call 14; (with_reducible refine (elim_Rank.calls kj3 a0 a1 _ _ l2 t209 _ ?side1 ?side2 A18.out).mono ?_); (case side1 => repeat (first | exact (Kd.C_below HR2.out (by repeat (first | (with_reducible first | exact HB.out | apply below_alloc | apply pw_below_drewN | apply below_drew1) | exact HB.out))) | (with_reducible refine Kd.C_alloc ?_ _) | (with_reducible refine Kd.C_drewN ?_ _) | (with_reducible refine Kd.C_drew ?_))); (case side2 => exact HC2.out); rintro e w26 ⟨rfl, hb⟩; have n0_ := Aside0.mk (Kd.R_below (by (with_reducible repeat (first | apply Kd.R_alloc | apply Kd.R_drewN | apply Kd.R_drew)); exact HO204.out) hb); have n1_ := Aside0.mk (Kd.R_below (by (with_reducible repeat (first | apply Kd.R_alloc | apply Kd.R_drewN | apply Kd.R_drew)); exact HO207.out) hb); have n2_ := Aside0.mk (below_step (by repeat (first | (with_reducible first | exact HB.out | apply below_alloc | apply pw_below_drewN | apply below_drew1) | exact HB.out)) hb); clear HO204; clear HO207; clear HB; have HO204 := n0_; have HO207 := n1_; have HB := n2_; clear n0_ n1_ n2_; (try clear hb); (try clear hb2); (try clear hk); (try clear hi)) | (go_at_call 15; (with_reducible refine (greenwoodref05_Rank.calls kj3 a0 a1 _ _ l2 t210 _ ?side1 ?side2 A19.out).mono ?_); (case side1 => repeat (first | exact (Kd.C_below HR2.out HB.out) | (with_reducible refine Kd.C_alloc ?_ _) | (with_reducible refine Kd.C_drewN ?_ _) | (with_reducible refine Kd.C_drew ?_))); (case side2 => exact HC2.out); rintro e w27 ⟨rfl, hb⟩; have n0_ := Aside0.mk (Kd.R_below (by (with_reducible repeat (first | apply Kd.R_alloc | apply Kd.R_drewN | apply Kd.R_drew)); exact HO204.out) hb); have n1_ := Aside0.mk (Kd.R_below (by (with_reducible repeat (first | apply Kd.R_alloc | apply Kd.R_drewN | apply Kd.R_drew)); exact HO207.out) hb); have n2_ := Aside0.mk (below_step (by repeat (first | (with_reducible first | exact HB.out | apply below_alloc | apply pw_below_drewN | apply below_drew1) | exact HB.out)) hb); clear HO204; clear HO207; clear HB; have HO204 := n0_; have HO207 := n1_; have HB := n2_; clear n0_ n1_ n2_; (try clear hb); (try clear hb2); (try clear hk); (try clear hi)))
              go_ret
              exact ⟨by first | rfl | (simp [errW_none, errW_some] <;> rfl) | (simp [*, errW_none, errW_some] <;> rfl), by repeat (first | (with_reducible first | exact HB.out | apply below_alloc | apply pw_below_drewN | apply below_drew1) | exact HB.out)⟩
            · replace c17 := Bool.eq_false_iff.mpr c17
              subst c17
              have H1 : (some false) = some r := by rw [if_neg (show ¬ (false = true) by decide)] at H; exact H
              clear H
              have H := H1
              clear H1
              exact absurd ((Option.some.inj H).trans hrT) (by decide)
          · rw [if_neg c13] at H
            have c13b0 : (t200 == t201) = false := by simpa using c13
            (try (have c13b1 : decide (t200 = t201) = false := by simpa using c13))
            (try (have c13b2 : (t200 == t201) = false := by simpa using c13))
            (try (have c13b3 : ¬ (t200 = t201) := by simpa using c13))
            clear c13
            exact absurd ((Option.some.inj H).trans hrT) (by decide)
        · replace c10 := Bool.eq_false_iff.mpr c10
          subst c10
          have H1 : (some false) = some r := by rw [if_neg (show ¬ (false = true) by decide)] at H; exact H
          clear H
          have H := H1
          clear H1
          exact absurd ((Option.some.inj H).trans hrT) (by decide)

end Go.Proofs.Ytepakefmioeilaa.P
/- Layer 5: what the printed functions come to. -/
namespace Go.Proofs.Ytepakefmioeilaa.P
open Go.RowKit Go.Proofs.YtepakefmioeilaaW.PrintWords Go.Proofs.YtepakefmioeilaaW.PrintLast Go.Proofs.YtepakefmioeilaaW.PrintMore
open LinA (V Sp zv smul comb rk Fld)
set_option linter.unusedVariables false
set_option linter.unusedSimpArgs false

theorem Ev.ifp {α : Type} {c : Prop} [Decidable c] {g f : Nat → Option α} {r : α} (h : c) (e : Ev g r) : Ev (fun n => if c then g n else f n) r := by
  simp only [if_pos h]; exact e
theorem Ev.ifn {α : Type} {c : Prop} [Decidable c] {g f : Nat → Option α} {r : α} (h : ¬ c) (e : Ev f r) : Ev (fun n => if c then g n else f n) r := by
  simp only [if_neg h]; exact e
theorem Ev.val {α : Type} {r t : α} (h : r = t) : Ev (fun _ => some r) t := by subst h; exact Ev.now r
theorem rd_at {l : List Int} {i : Nat} (h : i < l.length) : rd l (i : Int) = l[i] := by simp [rd, List.getD_eq_getElem?_getD, List.getElem?_eq_getElem h]
theorem rdL_at {l : List (List Int)} {i : Nat} (h : i < l.length) : rd_L1 l (i : Int) = l[i] := by simp [rd_L1, List.getD_eq_getElem?_getD, List.getElem?_eq_getElem h]
theorem w1 {i : Nat} {n : Nat} (h : i < n) (hn : n ≤ 1000000) : wrap64 ((i : Int) + 1) = ((i + 1 : Nat) : Int) := by rw [wrap_id (by omega) (by omega)]; omega

/-! ### Same -/
theorem same_l0 (a b : List Int) (hl : a.length = b.length) (hn : a.length ≤ 1000000) : ∀ (d i : Nat), a.length - i = d → i ≤ a.length → Ev (fun k => greenwoodref01_Same.l0 k a b (i : Int)) (decide (a.drop i = b.drop i)) := by
  intro d
  induction d with
  | zero =>
    intro i h1 h2
    refine Ev.step (fun k => by rw [greenwoodref01_Same.l0]) ?_
    refine Ev.ifn (by omega) (Ev.val ?_)
    rw [List.drop_of_length_le (by omega), List.drop_of_length_le (by omega)]; rfl
  | succ d ih =>
    intro i h1 h2
    have hi : i < a.length := by omega
    have hj : i < b.length := by omega
    refine Ev.step (fun k => by rw [greenwoodref01_Same.l0]) ?_
    refine Ev.ifp (by omega) (Ev.ifp (by omega) (Ev.ifp (by omega) ?_))
    rw [rd_at hi, rd_at hj, List.drop_eq_getElem_cons hi, List.drop_eq_getElem_cons hj, w1 hi hn]
    by_cases he : a[i] = b[i]
    · refine Ev.ifp he ?_
      have e : decide (a[i] :: a.drop (i + 1) = b[i] :: b.drop (i + 1)) = decide (a.drop (i + 1) = b.drop (i + 1)) := by
        apply decide_eq_decide.mpr; rw [List.cons.injEq]; exact ⟨fun h => h.2, fun h => ⟨he, h⟩⟩
      rw [e]
      exact ih (i + 1) (by omega) (by omega)
    · refine Ev.ifn he (Ev.val ?_)
      exact (decide_eq_false (fun h => he (List.cons.inj h).1)).symm
theorem same_ev (a b : List Int) (hn : a.length ≤ 1000000) : Ev (fun k => greenwoodref01_Same.f k a b) (decide (a = b)) := by
  unfold greenwoodref01_Same.f
  by_cases hl : a.length = b.length
  · refine Ev.ifp (by omega) ?_
    have := same_l0 a b hl hn a.length 0 (by omega) (by omega)
    simpa using this
  · refine Ev.ifn (by omega) (Ev.val ?_)
    have : a ≠ b := fun h => hl (by rw [h])
    simp [this]

/-! ### May -/
noncomputable def mayB (p rows : Int) (cols : List (List Int)) : Bool := isP p && !decide (rows < 0) && !decide (64 < rows) && !decide (64 < (cols.length : Int)) && !(cols.any (elim_May.bad p rows))
theorem may_ev (p rows : Int) (cols : List (List Int)) : Ev (fun k => elim_May.f k p rows cols) (mayB p rows cols) := by
  unfold elim_May.f
  exact Ev.bind (Prime_eq p) (Ev.now _)
theorem rmay_l1 (p : Int) (rows : Nat) (cols : List (List Int)) (hn : cols.length ≤ 64) (hr : rows ≤ 64) (i : Nat) (hi : i < cols.length) (hl : (cols[i]).length = rows) (r : Bool) (hnext : Ev (fun k => greenwoodref05_May.l0 k p rows cols ((i + 1 : Nat) : Int)) r) : ∀ (d j : Nat), rows - j = d → j ≤ rows →
    Ev (fun k => greenwoodref05_May.l1 k p rows cols (i : Int) (j : Int)) (if ((cols[i]).drop j).any (elim_May.out p) = true then false else r) := by
  intro d
  induction d with
  | zero =>
    intro j h1 h2
    refine Ev.step (fun k => by rw [greenwoodref05_May.l1]) ?_
    refine Ev.ifn (by omega) ?_
    rw [w1 hi (by omega), List.drop_of_length_le (by omega)]
    exact hnext
  | succ d ih =>
    intro j h1 h2
    have hj : j < (cols[i]).length := by omega
    refine Ev.step (fun k => by rw [greenwoodref05_May.l1]) ?_
    rw [rdL_at hi, rd_at hj]
    refine Ev.ifp (by omega) (Ev.ifp (by omega) (Ev.ifp (by omega) (Ev.ifp (by omega) (Ev.ifp (by omega) ?_))))
    rw [List.drop_eq_getElem_cons hj, List.any_cons]
    have ho : elim_May.out p (cols[i])[j] = (decide ((cols[i])[j] < 0) || decide (p ≤ (cols[i])[j])) := rfl
    by_cases a : (cols[i])[j] < 0
    · refine Ev.ifp a (Ev.val ?_)
      rw [ho, decide_eq_true a]; rfl
    · refine Ev.ifn a ?_
      by_cases b : (cols[i])[j] ≥ p
      · refine Ev.ifp b (Ev.val ?_)
        rw [ho, decide_eq_true (show p ≤ (cols[i])[j] from b), Bool.or_true]; rfl
      · refine Ev.ifn b ?_
        rw [ho, decide_eq_false a, decide_eq_false (show ¬ p ≤ (cols[i])[j] from b), Bool.or_false, Bool.false_or, w1 (n := rows) (by omega) (by omega)]
        exact ih (j + 1) (by omega) (by omega)
theorem rmay_l0 (p : Int) (rows : Nat) (cols : List (List Int)) (hn : cols.length ≤ 64) (hr : rows ≤ 64) : ∀ (d i : Nat), cols.length - i = d → i ≤ cols.length → Ev (fun k => greenwoodref05_May.l0 k p rows cols (i : Int)) (!((cols.drop i).any (elim_May.bad p rows))) := by
  intro d
  induction d with
  | zero =>
    intro i h1 h2
    refine Ev.step (fun k => by rw [greenwoodref05_May.l0]) ?_
    refine Ev.ifn (by omega) (Ev.val ?_)
    rw [List.drop_of_length_le (by omega)]; rfl
  | succ d ih =>
    intro i h1 h2
    have hi : i < cols.length := by omega
    refine Ev.step (fun k => by rw [greenwoodref05_May.l0]) ?_
    rw [rdL_at hi]
    refine Ev.ifp (by omega) (Ev.ifp (by omega) ?_)
    rw [List.drop_eq_getElem_cons hi, List.any_cons]
    by_cases hl : ((cols[i]).length : Int) = (rows : Int)
    · refine Ev.ifp hl ?_
      have h3 := rmay_l1 p rows cols hn hr i hi (by omega) _ (ih (i + 1) (by omega) (by omega)) rows 0 (by omega) (by omega)
      rw [List.drop_zero] at h3
      have hb : elim_May.bad p rows cols[i] = (cols[i]).any (elim_May.out p) := by
        unfold elim_May.bad
        rw [hl, bne_self_eq_false, Bool.false_or]
      rw [hb]
      cases h4 : (cols[i]).any (elim_May.out p) with
      | true => rw [h4, if_pos rfl] at h3; exact h3
      | false => rw [h4, if_neg (by decide)] at h3; exact h3
    · refine Ev.ifn hl (Ev.val ?_)
      have hb : elim_May.bad p rows cols[i] = true := by
        unfold elim_May.bad
        rw [bne_iff_ne.mpr hl, Bool.true_or]
      rw [hb]; rfl
theorem rmay_ev (p rows : Int) (cols : List (List Int)) : Ev (fun k => greenwoodref05_May.f k p rows cols) (mayB p rows cols) := by
  unfold greenwoodref05_May.f
  refine Ev.bind (rPrime_eq p) ?_
  unfold mayB
  have hf : ∀ r, r = false → Ev (fun k => greenwoodref05_May.j0 k p rows cols true) r := fun r hr => Ev.step (fun k => by rw [greenwoodref05_May.j0]) (Ev.ifp rfl (Ev.val hr.symm))
  cases hp : isP p with
  | false => exact Ev.ifn (by decide) (hf _ rfl)
  | true =>
    refine Ev.ifp rfl ?_
    by_cases h1 : rows < 0
    · exact Ev.ifp h1 (hf _ (by simp [h1]))
    refine Ev.ifn h1 ?_
    by_cases h2 : rows > 64
    · exact Ev.ifp h2 (hf _ (by simp [h2]))
    refine Ev.ifn h2 ?_
    by_cases h3 : (cols.length : Int) > 64
    · rw [decide_eq_true h3]
      exact hf _ (by simp [show (64 : Int) < cols.length from h3])
    · rw [decide_eq_false h3]
      refine Ev.step (fun k => by rw [greenwoodref05_May.j0]) (Ev.ifn (by decide) ?_)
      obtain ⟨n, rfl⟩ : ∃ n : Nat, rows = (n : Int) := ⟨rows.toNat, by omega⟩
      have := rmay_l0 p n cols (by omega) (by omega) cols.length 0 (by omega) (by omega)
      rw [List.drop_zero] at this
      simpa [h1, show ¬ (64 : Int) < n by omega, show ¬ (64 : Int) < cols.length by omega] using this
theorem mayB_true {p rows : Int} {cols : List (List Int)} (h : mayB p rows cols = true) : isP p = true ∧ 0 ≤ rows ∧ rows ≤ 64 ∧ cols.length ≤ 64 ∧ ∀ c ∈ cols, c.length = rows.toNat ∧ Bd p c := by
  obtain ⟨k, hk⟩ := (may_ev p rows cols).rounds
  rw [h] at hk
  exact may_true hk
theorem mayB_mk {p rows : Int} {cols : List (List Int)} (hp : isP p = true) (h0 : 0 ≤ rows) (h1 : rows ≤ 64) (hn : cols.length ≤ 64) (hc : ∀ c ∈ cols, c.length = rows.toNat ∧ Bd p c) : mayB p rows cols = true := by
  unfold mayB
  have : cols.any (elim_May.bad p rows) = false := by
    rw [List.any_eq_false]
    intro c hm
    obtain ⟨a, b⟩ := hc c hm
    have e : c.any (elim_May.out p) = false := by
      rw [List.any_eq_false]
      intro y hy
      have := b y hy
      simp [elim_May.out]; omega
    unfold elim_May.bad
    rw [e, Bool.or_false]
    have : ((c.length : Int) != rows) = false := by rw [bne_eq_false_iff_eq]; omega
    rw [this]; decide
  rw [hp, this]
  simp; omega

/-! ### bases and ranks -/
section
variable {P : Nat} [NeZero P]
noncomputable def basN (P : Nat) [NeZero P] (cols : List (List Int)) : List Int := bas (cols.map vec : List (V P)) cols.length
noncomputable def rkN (P : Nat) [NeZero P] (cols : List (List Int)) : Nat := rk (cols.map vec : List (V P))
theorem fldP (hP : isP (P : Int) = true) : Fld P := LinA.fld_of_prime (by have := isP_true.mp hP; simpa using this.2)
theorem basN_len (hP : isP (P : Int) = true) (cols : List (List Int)) : (basN P cols).length = rkN P cols := by
  have := bas_len (fldP hP) (cols.map vec : List (V P)) cols.length (by simp)
  unfold basN rkN
  rw [this, List.take_of_length_le (by simp)]
theorem basN_le (cols : List (List Int)) : (basN P cols).length ≤ cols.length := by
  unfold basN
  generalize (cols.map vec : List (V P)) = vs
  have : ∀ k, (bas vs k).length ≤ k := by
    intro k
    induction k with
    | zero => exact Nat.le_refl _
    | succ k ih =>
      simp only [bas, List.length_append]
      split <;> simp <;> omega
  exact this _
theorem basis_ev {rows : Int} {cols : List (List Int)} (h : mayB P rows cols = true) : Ev (fun k => elim_Basis.f k P rows cols) (basN P cols) := by
  unfold elim_Basis.f
  obtain ⟨hP, h0, h64, hn, hcs⟩ := mayB_true h
  have := may_ev (P : Int) rows cols
  rw [h] at this
  refine Ev.bind this (Ev.val ?_)
  rw [if_pos rfl]
  exact (climb_all hP cols hcs).2
theorem basis_no {p rows : Int} {cols : List (List Int)} (h : mayB p rows cols = false) : Ev (fun k => elim_Basis.f k p rows cols) [] := by
  unfold elim_Basis.f
  have := may_ev p rows cols
  rw [h] at this
  exact Ev.bind this (Ev.val (by simp))
theorem erank_ev {rows : Int} {cols : List (List Int)} (h : mayB P rows cols = true) : Ev (fun k => elim_Rank.f k P rows cols) (rkN P cols : Int) := by
  unfold elim_Rank.f
  have := may_ev (P : Int) rows cols
  rw [h] at this
  refine Ev.bind this (Ev.ifp rfl (Ev.bind (basis_ev h) (Ev.val ?_)))
  rw [basN_len (mayB_true h).1]
theorem erank_no {p rows : Int} {cols : List (List Int)} (h : mayB p rows cols = false) : Ev (fun k => elim_Rank.f k p rows cols) (-1) := by
  unfold elim_Rank.f
  have := may_ev p rows cols
  rw [h] at this
  exact Ev.bind this (Ev.ifn (by decide) (Ev.now _))
theorem rrank_ev {rows : Int} {cols : List (List Int)} (h : mayB P rows cols = true) : Ev (fun k => greenwoodref05_rank.f k P rows cols) (rkN P cols : Int) := by
  unfold greenwoodref05_rank.f
  obtain ⟨hP, h0, h64, hn, hcs⟩ := mayB_true h
  have := may_ev (P : Int) rows cols
  rw [h] at this
  refine Ev.bind this (Ev.ifp rfl (Ev.val ?_))
  rw [rkS_rk hP (fldP hP) hcs]; rfl
theorem rRank_ev {rows : Int} {cols : List (List Int)} (h : mayB P rows cols = true) : Ev (fun k => greenwoodref05_Rank.f k P rows cols) (rkN P cols : Int) := by
  unfold greenwoodref05_Rank.f
  have := rmay_ev (P : Int) rows cols
  rw [h] at this
  exact Ev.bind this (Ev.ifp rfl (Ev.bind (rrank_ev h) (Ev.now _)))
theorem rRank_no {p rows : Int} {cols : List (List Int)} (h : mayB p rows cols = false) : Ev (fun k => greenwoodref05_Rank.f k p rows cols) (-1) := by
  unfold greenwoodref05_Rank.f
  have := rmay_ev p rows cols
  rw [h] at this
  exact Ev.bind this (Ev.ifn (by decide) (Ev.now _))
theorem mayB_take {p rows : Int} {cols : List (List Int)} (h : mayB p rows cols = true) (n : Nat) : mayB p rows (cols.take n) = true := by
  obtain ⟨hP, h0, h64, hn, hcs⟩ := mayB_true h
  exact mayB_mk hP h0 h64 (by rw [List.length_take]; omega) (fun c hc => hcs c (List.mem_of_mem_take hc))
theorem rbasis_l0 {rows : Int} {cols : List (List Int)} (h : mayB P rows cols = true) : ∀ (d i : Nat), cols.length - i = d → i ≤ cols.length → Ev (fun k => greenwoodref05_Basis.l0 k P rows cols (bas (cols.map vec : List (V P)) i) (i : Int)) (basN P cols) := by
  obtain ⟨hP, h0, h64, hn, hcs⟩ := mayB_true h
  have hF := fldP hP
  have hmay := rmay_ev (P : Int) rows cols
  rw [h] at hmay
  intro d
  induction d with
  | zero =>
    intro i h1 h2
    have e : i = cols.length := by omega
    refine Ev.step (fun k => by rw [greenwoodref05_Basis.l0]) ?_
    refine Ev.ifn (by omega) ?_
    refine Ev.step (fun k => by rw [greenwoodref05_Basis.j1]) ?_
    refine Ev.ifn (by decide) (Ev.val ?_)
    rw [e]; rfl
  | succ d ih =>
    intro i h1 h2
    have hi : i < cols.length := by omega
    refine Ev.step (fun k => by rw [greenwoodref05_Basis.l0]) ?_
    refine Ev.ifp (by omega) (Ev.bind hmay ?_)
    refine Ev.step (fun k => by rw [greenwoodref05_Basis.j1]) ?_
    rw [w1 hi (by omega)]
    refine Ev.ifp rfl (Ev.ifp (by omega) (Ev.ifp (by omega) ?_))
    rw [Int.toNat_natCast, Int.toNat_natCast]
    refine Ev.bind (rrank_ev (mayB_take h _)) (Ev.ifp (by omega) (Ev.ifp (by omega) (Ev.bind (rrank_ev (mayB_take h _)) ?_)))
    have hvl : i < (cols.map vec : List (V P)).length := by simpa using hi
    have hr1 : rkN P (cols.take i) = rk ((cols.map vec : List (V P)).take i) := by unfold rkN; rw [List.map_take]
    have hr2 : rkN P (cols.take (i + 1)) = rk ((cols.map vec : List (V P)).take i ++ [(cols.map vec).getD i zv]) := by unfold rkN; rw [← take_snoc zv _ i hvl, List.map_take]
    rw [hr1, hr2]
    by_cases hs : Sp ((cols.map vec : List (V P)).take i) ((cols.map vec).getD i zv)
    · rw [LinA.rk_snoc_in hF hs]
      refine Ev.ifn (by omega) ?_
      rw [← bas_in hs]
      exact ih (i + 1) (by omega) (by omega)
    · rw [LinA.rk_snoc_out hF hs]
      refine Ev.ifp (by omega) ?_
      refine Ev.ifp ?_ ?_
      · rw [bas_len hF _ i (by omega)]
        have := LinA.rk_len ((cols.map vec : List (V P)).take i)
        rw [List.length_take] at this
        omega
      · rw [← bas_out hs]
        exact ih (i + 1) (by omega) (by omega)
theorem rbasis_ev {rows : Int} {cols : List (List Int)} (h : mayB P rows cols = true) : Ev (fun k => greenwoodref05_Basis.f k P rows cols) (basN P cols) := by
  unfold greenwoodref05_Basis.f
  exact rbasis_l0 h cols.length 0 (by omega) (by omega)
theorem rbasis_no {p rows : Int} {cols : List (List Int)} (h : mayB p rows cols = false) : Ev (fun k => greenwoodref05_Basis.f k p rows cols) [] := by
  unfold greenwoodref05_Basis.f
  have hmay := rmay_ev p rows cols
  rw [h] at hmay
  have hj : Ev (fun k => greenwoodref05_Basis.j1 k p rows cols [] 0 false) [] := Ev.step (fun k => by rw [greenwoodref05_Basis.j1]) (Ev.ifn (by decide) (Ev.now _))
  refine Ev.step (fun k => by rw [greenwoodref05_Basis.l0]) ?_
  by_cases h1 : (0 : Int) < cols.length
  · exact Ev.ifp h1 (Ev.bind hmay hj)
  · exact Ev.ifn h1 hj
end
end Go.Proofs.Ytepakefmioeilaa.P
/- Layer 5: sums and combinations. -/
namespace Go.Proofs.Ytepakefmioeilaa.P
open Go.RowKit Go.Proofs.YtepakefmioeilaaW.PrintWords Go.Proofs.YtepakefmioeilaaW.PrintLast Go.Proofs.YtepakefmioeilaaW.PrintMore
open LinA (V Sp zv smul comb rk Fld)
set_option linter.unusedVariables false
set_option linter.unusedSimpArgs false

section
variable {P : Nat} [NeZero P]
def cv (P : Nat) [NeZero P] (cols : List (List Int)) (i : Nat) : V P := vec (cols.getD i [])
end
end Go.Proofs.Ytepakefmioeilaa.P
/- Layer 5: the five laws, of what the printed functions compute. -/
namespace Go.Proofs.Ytepakefmioeilaa.P
open Go.RowKit Go.Proofs.YtepakefmioeilaaW.PrintWords Go.Proofs.YtepakefmioeilaaW.PrintLast Go.Proofs.YtepakefmioeilaaW.PrintMore
open LinA (V Sp zv smul comb rk Fld)
set_option linter.unusedVariables false
set_option linter.unusedSimpArgs false

theorem fixed_ev : Ev (fun k => greenwoodlaw05_fixed.f k) true := by
  obtain ⟨K, hK⟩ := greenwoodlaw05_fixed.val
  exact Ev.of greenwoodlaw05_fixed.mono hK
theorem may_nat {p rows : Int} {cols : List (List Int)} (h : mayB p rows cols = true) : ∃ (P : Nat) (_ : NeZero P), p = (P : Int) := by
  have hp := (isP_true.mp (mayB_true h).1).2.1
  exact ⟨p.toNat, ⟨by omega⟩, by omega⟩
/-! ### ElimTells -/
theorem ElimTells_ev (p rows : Int) (cols : List (List Int)) : Ev (fun k => greenwoodlaw05_ElimTells.f k p rows cols) true := by
  unfold greenwoodlaw05_ElimTells.f
  have hf : Ev (fun k => greenwoodlaw05_ElimTells.j0 k p rows cols true) true := Ev.step (fun k => by rw [greenwoodlaw05_ElimTells.j0]) (Ev.ifp rfl (Ev.bind fixed_ev (Ev.now _)))
  by_cases h1 : rows > 20
  · exact Ev.ifp h1 hf
  refine Ev.ifn h1 ?_
  by_cases h2 : (cols.length : Int) > 20
  · rw [decide_eq_true h2]; exact hf
  rw [decide_eq_false h2]
  refine Ev.step (fun k => by rw [greenwoodlaw05_ElimTells.j0]) (Ev.ifn (by decide) (Ev.bind fixed_ev (Ev.ifp rfl (Ev.bind (may_ev p rows cols) (Ev.bind (rmay_ev p rows cols) ?_)))))
  refine Ev.ifp (by simp) ?_
  cases hm : mayB p rows cols with
  | true =>
    obtain ⟨P, hP, rfl⟩ := may_nat hm
    have hs := same_ev (basN P cols) (basN P cols) (by have := basN_le (P := P) cols; omega)
    rw [decide_eq_true rfl] at hs
    exact Ev.bind (basis_ev hm) (Ev.bind (rbasis_ev hm) (Ev.bind hs (Ev.ifp rfl (Ev.bind (erank_ev hm) (Ev.bind (rRank_ev hm) (Ev.val (by simp)))))))
  | false =>
    have hs := same_ev [] [] (by simp)
    exact Ev.bind (basis_no hm) (Ev.bind (rbasis_no hm) (Ev.bind hs (Ev.ifp (by simp) (Ev.bind (erank_no hm) (Ev.bind (rRank_no hm) (Ev.val (by simp)))))))

/-! ### ElimCombines -/
section
variable {P : Nat} [NeZero P]
end
/-! ### ElimTwice -/
section
variable {P : Nat} [NeZero P]
end
/-! ### ElimRank -/
section
variable {P : Nat} [NeZero P]
end
/-! ### ElimUnits -/
section
variable {P : Nat} [NeZero P]
end
end Go.Proofs.Ytepakefmioeilaa.P
/- What came in, opened kind by kind: an argument's reading tells a list (of lists ..) that its cells hold. -/
namespace Go.Proofs.Ytepakefmioeilaa.P
open Go.RowKit Go.Proofs.YtepakefmioeilaaW.PrintWords Go.Proofs.YtepakefmioeilaaW.PrintLast Go.Proofs.YtepakefmioeilaaW.PrintMore
set_option linter.unusedVariables false
set_option linter.unusedSimpArgs false

structure Opens (P : Program) (t : TypeId) {α : Type} (d : Kd α) (q : α → Prop) : Prop where
  sz : P.cellsOf t = d.sz
  op : ∀ {H : Type} {enc : TypeId × Value → H} {w : World} {base fuel : Nat} {held : Bool} {cs : List Value} {x : DataW H × List MemPlace}, DataW.trod enc P w base (fun _ => true) held fuel t cs = some x → ∃ a : α, d.K w a cs ∧ q a
section
variable {P : Program} {α : Type} {d : Kd α} {q : α → Prop}
theorem opens_int {t : TypeId} {k : IntKind} (ht : P.underlying t = some (.int k)) (hs : P.cellsOf t = 1) : Opens P t (Kd.int k) (fun n => (Lit.int k n).wf = true) :=
  ⟨hs, fun h => by
    obtain ⟨n, rfl, _, hw⟩ := DataW.trod_int ht h
    exact ⟨n, rfl, hw⟩⟩
theorem Opens.mono {t : TypeId} {q' : α → Prop} (h : Opens P t d q) (hq : ∀ a, q a → q' a) : Opens P t d q' :=
  ⟨h.sz, fun ht => by obtain ⟨a, hk, ha⟩ := h.op ht; exact ⟨a, hk, hq a ha⟩⟩
theorem opens_slice {t e : TypeId} (e' : Nat) (ht : P.underlying t = some (.slice e)) (hs : P.cellsOf t = 1) (h : Opens P e d q) : Opens P t (Kd.slice e' d) (fun l => l.length ≤ maxLen ∧ ∀ x ∈ l, q x) :=
  ⟨hs, fun {H enc w base fuel held cs x} htr => by
    rcases Deep.open_slice ht htr with ⟨rfl, _⟩ | ⟨a, len, cap, m, n, D, Pl, rfl, hb, hl, hm, hmm, _, hx⟩
    · exact ⟨[], ⟨none, 0, rfl, Nat.le_refl _, Kd.C_nil d w⟩, Nat.zero_le _, fun x hx => by cases hx⟩
    · simp only [if_true] at hmm
      have each : ∀ i, i < len → ∃ y : α, (∃ cs', w.cells? base (a.add (i * P.cellsOf e)) (P.cellsOf e) = some cs' ∧ d.K w y cs') ∧ q y := by
        intro i hi
        obtain ⟨cs', h1, h2⟩ := hx i (by omega)
        obtain ⟨y, hy, hqy⟩ := h.op h2
        exact ⟨y, ⟨cs', h1, hy⟩, hqy⟩
      by_cases h0 : len = 0
      · subst h0
        refine ⟨[], ⟨some a, cap, rfl, Nat.zero_le _, rfl, by simp, fun h => absurd h (Nat.lt_irrefl 0)⟩, Nat.zero_le _, fun x hx => by cases hx⟩
      · obtain ⟨y0, _, _⟩ := each 0 (by omega)
        have : Inhabited α := ⟨y0⟩
        obtain ⟨f, hf⟩ := Deep.choose_lt each
        have hlen : ((List.range len).map f).length = len := by simp
        refine ⟨(List.range len).map f, ⟨some a, cap, by rw [hlen], by rw [hlen]; exact hl, ⟨rfl, by rw [hlen]; unfold maxLen at hm; omega, fun _ => ⟨a, rfl, fun j p hj => ?_⟩⟩⟩, by rw [hlen]; omega, fun x hx => ?_⟩
        · have hjl := (List.getElem?_eq_some_iff.1 hj).1
          rw [hlen] at hjl
          rw [List.getElem?_map, List.getElem?_range hjl] at hj
          have hj' : f j = p := by simpa using hj
          subst hj'
          obtain ⟨⟨cs', h1, h2⟩, _⟩ := hf j hjl
          obtain ⟨_, hcl, hcell⟩ := World.cells?_some h1
          refine ⟨cs', by rw [hcl, h.sz], h2, fun i u hu => ?_⟩
          have hil := (List.getElem?_eq_some_iff.1 hu).1
          have := hcell i (by omega)
          rw [Deep.add_add, hu, h.sz] at this
          exact this
        · obtain ⟨i, hi, rfl⟩ := List.mem_map.1 hx
          exact (hf i (List.mem_range.1 hi)).2⟩
/-- an argument that is a slice -/
theorem Opens.arg {t : TypeId} {e' : Nat} (h : Opens P t (Kd.slice e' d) (fun l => l.length ≤ maxLen ∧ ∀ x ∈ l, q x)) {H : Type} {enc : TypeId × Value → H} {w : World} {base : Nat} {held : Bool} {v : Value} {dd : DataW H} {ps : List MemPlace} {a : Option Addr} {len cap : Nat} (hv : v = .slice a len cap)
    (ht : DataW.Trod enc P w base (fun _ => true) held t v dd ps) : ∃ l : List α, len = l.length ∧ l.length ≤ cap ∧ d.C w a l.length l ∧ l.length ≤ maxLen ∧ ∀ x ∈ l, q x := by
  obtain ⟨fuel, hf⟩ := ht
  obtain ⟨l, ⟨A, c, hcs, hl, hC⟩, hq1, hq2⟩ := h.op hf
  subst hv
  simp only [Value.cells] at hcs
  have hcs' : Value.slice a len cap = Value.slice A l.length c := by simpa using hcs
  injection hcs' with e1 e2 e3
  subst e1 e2 e3
  exact ⟨l, rfl, hl, hC, hq1, hq2⟩
end
end Go.Proofs.Ytepakefmioeilaa.P
