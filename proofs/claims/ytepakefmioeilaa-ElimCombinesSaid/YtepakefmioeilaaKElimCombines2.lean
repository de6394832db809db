/- Texts of this claim's own repository, merged by wip/tool/pack.py: Px5, ElimV, ElimW, Px6, ElimLaws, Opn. -/
import Derived.Deep.Slices
import Derived.ChangeArms
import Derived.ProofKit
import Derived.Test.YtepakefmioeilaaKElimCombines1
-- written by wip/tool/ownprint.py of this claim's own repository, out of the translation's print
namespace Go.Proofs.Ytepakefmioeilaa.P
open Go.RowKit Go.Proofs.YtepakefmioeilaaW.PrintWords Go.Proofs.YtepakefmioeilaaW.PrintLast Go.Proofs.YtepakefmioeilaaW.PrintMore
attribute [local go_sem] max2_int min2_int max_two min_two max_three min_three max_four min_four   -- for this text's walks alone
set_option linter.unusedVariables false
set_option linter.unusedSimpArgs false

/-! ### greenwoodref05_Sum: function 17 -/
mutual
def greenwoodref05_Sum.l0 : Nat → Int → Int → List (List Int) → List Int → List Int → Int → Option (List Int)
  | 0, _, _, _, _, _, _ => none
  | k + 1, x0, x1, x2, x3, x9, x10 => if x10 < (x2.length : Int) then (greenwoodref05_Sum.j1 k x0 x1 x2 x3 x9 x10 (decide (x10 < (x3.length : Int)))) else (greenwoodref05_Sum.j1 k x0 x1 x2 x3 x9 x10 false)
def greenwoodref05_Sum.j1 : Nat → Int → Int → List (List Int) → List Int → List Int → Int → Bool → Option (List Int)
  | 0, _, _, _, _, _, _, _ => none
  | k + 1, x0, x1, x2, x3, x9, x10, x23 => if x23 = true then (greenwoodref05_Sum.l1 k x0 x1 x2 x3 x9 x10 0) else (some x9)
def greenwoodref05_Sum.l1 : Nat → Int → Int → List (List Int) → List Int → List Int → Int → Int → Option (List Int)
  | 0, _, _, _, _, _, _, _ => none
  | k + 1, x0, x1, x2, x3, x9, x10, x11 => if x11 < x1 then (if 0 ≤ x11 then (if x11 < (x9.length : Int) then (if 0 ≤ x10 then (if x10 < (x2.length : Int) then (if x11 < ((rd_L1 x2 x10).length : Int) then (if x10 < (x3.length : Int) then (if x0 = 0 then (none) else (greenwoodref05_Sum.l1 k x0 x1 x2 x3 (x9.set (x11 : Int).toNat (Int.tmod (wrap64 ((rd x9 x11) + (wrap64 ((rd (rd_L1 x2 x10) x11) * (rd x3 x10))))) x0)) x10 (wrap64 (x11 + 1)))) else (none)) else (none)) else (none)) else (none)) else (none)) else (none)) else (greenwoodref05_Sum.l0 k x0 x1 x2 x3 x9 (wrap64 (x10 + 1)))
end
def greenwoodref05_Sum.f (k : Nat) (a0 : Int) (a1 : Int) (l2 : List (List Int)) (l3 : List Int) : Option (List Int) := if 0 ≤ a1 then (if (a1 : Int).toNat ≤ 35184372088832 then (greenwoodref05_Sum.l0 k a0 a1 l2 l3 (List.replicate (a1 : Int).toNat 0) 0) else (none)) else (none)
def greenwoodref05_Sum.T8 : Bool × List (List Nat × List Nat) := (true, [([], []), ([], []), ([], []), ([], []), ([2, 3], [2, 3]), ([4], [4]), ([], []), ([], []), ([6, 7], [6, 7]), ([8], [8]), ([], []), ([9, 10], [9, 10]), ([11], [11]), ([], []), ([], []), ([13, 14], [13, 14]), ([15], [15]), ([12, 16], [12, 16]), ([5, 17], [5, 17]), ([], []), ([18, 19], [18, 19]), ([0, 1, 0, 1, 2, 3, 4, 5, 6, 7, 8, 9, 10, 11, 12, 13, 14, 15, 16, 17, 18, 19, 20], [0, 1]), ([21, 20, 0, 1, 2, 3, 4, 5, 6, 7, 8, 9, 10, 11, 12, 13, 14, 15, 16, 17, 18, 19, 20], [20, 21])])
def greenwoodref05_Sum.B8 : List Nat := [0, 0, 0, 0, 12, 28, 0, 0, 192, 448, 0, 1984, 4032, 0, 0, 24576, 57344, 131008, 262140, 0, 1048572, 2097151, 4194303]
theorem greenwoodref05_Sum.tab8 : rtab .any (opsOf Try.f17 8) = greenwoodref05_Sum.T8 := by kernel_rfl
theorem greenwoodref05_Sum.bits8 : waitsOk greenwoodref05_Sum.T8.2 greenwoodref05_Sum.B8 = true := by kernel_rfl
set_option maxHeartbeats 8000000 in
set_option maxRecDepth 100000 in
theorem greenwoodref05_Sum.calls (k : Nat) (a0 : Int) (a1 : Int) (A2 : Option Addr) (c2 : Nat) (l2 : List (List Int)) (A3 : Option Addr) (c3 : Nat) (l3 : List Int) (r : List Int) (w : World) (hr2 : Kd.C (Kd.slice 3 (Kd.int .i64)) w A2 l2.length l2) (hc2 : l2.length ≤ c2) (hr3 : Kd.C (Kd.int .i64) w A3 l3.length l3) (hc3 : l3.length ≤ c3) (h : greenwoodref05_Sum.f k a0 a1 l2 l3 = some r) :
    Calls Try.prog 17 #[.int .i64 a0, .int .i64 a1, .slice A2 l2.length c2, .slice A3 l3.length c3] w fun e w' => ∃ v0_ : Value, e = .returned (v0_) ∧ Kd.R (Kd.int .i64) 3 w' w.heap.size (fun _ => True) v0_ r ∧ Below w.heap.size w w' := by
  have HR2 := Aside0.mk hr2
  have HC2 := Aside0.mk hc2
  clear hr2 hc2
  have HR3 := Aside0.mk hr3
  have HC3 := Aside0.mk hc3
  clear hr3 hc3
  have HB := Aside0.mk (Below.refl w.heap.size w)
  have H : (if 0 ≤ a1 then (if (a1 : Int).toNat ≤ 35184372088832 then (greenwoodref05_Sum.l0 k a0 a1 l2 l3 (List.replicate (a1 : Int).toNat 0) 0) else (none)) else (none)) = some r := h
  clear h
  by_cases c5 : 0 ≤ a1
  · rw [if_pos c5] at H
    have c5b0 := eq_true c5
    have c5b1 : decide (0 ≤ a1) = true := decide_eq_true c5
    clear c5
    by_cases c6 : (a1 : Int).toNat ≤ 35184372088832
    · rw [if_pos c6] at H
      have c6b0 := eq_true c6
      have c6b1 : decide ((a1 : Int).toNat ≤ 35184372088832) = true := decide_eq_true c6
      clear c6
      obtain ⟨y211, hy211⟩ : ∃ y_ : List Int, y_ = (List.replicate (a1 : Int).toNat 0) := ⟨_, rfl⟩
      replace H : (greenwoodref05_Sum.l0 k a0 a1 l2 l3 y211 0) = some r := by first | (rw [hy211]; with_reducible exact H) | (have H2_ := (Option.bind_some _ _).symm.trans H; rw [hy211]; with_reducible exact H2_) | (have H2_ := (Option.bind_some _ _).symm.trans H; with_reducible exact H2_) | with_reducible exact H | (rw [hy211]; exact H) | exact H
      have Ny211 := Aside0.mk hy211
      clear hy211
      have H' := Aside0.mk H
      clear H
      go_enter Try.func17, Try.ntmps17
      go_wp2_with (first | ((with_reducible refine gate_dst (N := 13) rfl ?_); (try (refine gate_guard (by rfl) ?_; dsimp only)); refine Kd.R_make (Kd.int .i64) _ 3 rfl (N := 13) rfl 26 _ _ rfl a1 rfl rfl Try.underlying26 (.int .i64 0) 8 info3 rfl (by decide) (by omega) 0 (ok := fun _ => True) (okp := fun _ => True) rfl (fun _ hk => hk) trivial (of_decide_eq_true (by first | (with_reducible assumption) | assumption)) (Nat.le_trans (Nat.mul_le_mul_right _ (of_decide_eq_true (by first | (with_reducible assumption) | assumption) : a1.toNat ≤ 35184372088832)) (by omega)) (Below.refl _ _) (Nat.le_refl _) ?_; intro v212 w7 ho8 hb hg_ hnew_; clear hg_ hnew_; (first | rw [← Ny211.out] at ho8 | (simp only [Int.reduceToNat] at ho8; rw [← Ny211.out] at ho8)); have n0_ := Aside0.mk (Kd.R_lower ho8 (below_size (by repeat (first | (with_reducible first | exact HB.out | apply below_alloc | apply pw_below_drewN | apply below_drew1) | exact HB.out)))); have n1_ := Aside0.mk (below_step (by repeat (first | (with_reducible first | exact HB.out | apply below_alloc | apply pw_below_drewN | apply below_drew1) | exact HB.out)) hb); clear HB; have HO213 := n0_; have HB := n1_; clear n0_ n1_; clear hb ho8))
      go_loopg [10] k (fun kq v10 w' => ∃ (x9_1 : List Int) (x10_1 : Int), v10 = .int .i64 x10_1 ∧ Aside0 (greenwoodref05_Sum.l0 kq a0 a1 l2 l3 x9_1 x10_1 = some r) ∧ Aside0 (kq ≤ k) ∧ Aside0 (Kd.R (Kd.int .i64) 3 w' w.heap.size (fun _ => True) v212 x9_1) ∧ Aside0 (Below w.heap.size w w'))
      case atStart => exact ⟨(y211), (0), (by first | rfl | (simp; done) | (simp [*]; done)), H', ⟨Nat.le_refl _⟩, ⟨by (with_reducible repeat (first | apply Kd.R_alloc | apply Kd.R_drewN | apply Kd.R_drew)); exact HO213.out⟩, ⟨by repeat (first | (with_reducible first | exact HB.out | apply below_alloc | apply pw_below_drewN | apply below_drew1) | exact HB.out)⟩⟩
      case round =>
        clear H'
        try clear c1
        try clear c2
        try clear p2
        try clear c3
        try clear c5
        try clear c5b0
        try clear c5b1
        try clear c6
        try clear c6b0
        try clear c6b1
        obtain ⟨x9_1, x10_1, rfl, HA, HK1, HO_9, HB⟩ := hrel
        cases gk with
        | zero => exact absurd HA.out (by simp [greenwoodref05_Sum.l0])
        | succ k1 =>
          have H := HA.out
          clear HA
          simp only [greenwoodref05_Sum.l0] at H
          have HC9 := Aside0.mk H
          clear H
          go_upto_region 3 with (fail)
          go_cut [23] (fun v23 wc => ∃ (kq : Nat) (x23_8 : Bool), v23 = .bool x23_8 ∧ Aside0 (greenwoodref05_Sum.j1 kq a0 a1 l2 l3 x9_1 x10_1 x23_8 = some r) ∧ Aside0 (kq ≤ k1) ∧ Aside0 (Kd.R (Kd.int .i64) 3 wc w.heap.size (fun _ => True) v212 x9_1) ∧ Aside0 (Below w.heap.size w wc))
          case first =>
            have H := HC9.out
            clear HC9
            by_cases c10 : x10_1 < (l2.length : Int)
            · rw [if_pos c10] at H
              have c10b0 : decide (x10_1 < (l2.length : Int)) = true := decide_eq_true c10
              clear c10
              (first | rw [c10b0] | (simp only [i64_w, i32_w]; rw [c10b0]) | skip)
              have H' := Aside0.mk H
              clear H
              go_wp2
              go_meet
              case rel => exact ⟨_, (decide (x10_1 < (l3.length : Int))), (by first | rfl | (simp; done) | (simp [*]; done)), H', ⟨by have := HK1.out; first | omega | exact Nat.le_refl _⟩, ⟨by (with_reducible repeat (first | apply Kd.R_alloc | apply Kd.R_drewN | apply Kd.R_drew)); exact HO_9.out⟩, ⟨by repeat (first | (with_reducible first | exact HB.out | apply below_alloc | apply pw_below_drewN | apply below_drew1) | exact HB.out)⟩⟩
            · rw [if_neg c10] at H
              have c10b0 : decide (x10_1 < (l2.length : Int)) = false := decide_eq_false c10
              clear c10
              (first | rw [c10b0] | (simp only [i64_w, i32_w]; rw [c10b0]) | skip)
              have H' := Aside0.mk H
              clear H
              go_wp2
              go_meet
              case rel => exact ⟨_, (false), (by first | rfl | (simp; done) | (simp [*]; done)), H', ⟨by have := HK1.out; first | omega | exact Nat.le_refl _⟩, ⟨by (with_reducible repeat (first | apply Kd.R_alloc | apply Kd.R_drewN | apply Kd.R_drew)); exact HO_9.out⟩, ⟨by repeat (first | (with_reducible first | exact HB.out | apply below_alloc | apply pw_below_drewN | apply below_drew1) | exact HB.out)⟩⟩
          case rest =>
            clear HC9
            try clear c1
            try clear c2
            try clear p2
            try clear c3
            try clear c5
            try clear c5b0
            try clear c5b1
            try clear c6
            try clear c6b0
            try clear c6b1
            try clear c10
            try clear c10b0
            try clear p2
            obtain ⟨kq, x23_8, rfl, HA, HJ8, HO_9, HB⟩ := hcut
            cases kq with
            | zero => exact absurd HA.out (by simp [greenwoodref05_Sum.j1])
            | succ kj8 =>
              have H := HA.out
              clear HA
              simp only [greenwoodref05_Sum.j1] at H
              by_cases c11 : x23_8 = true
              · subst c11
                have H1 : (greenwoodref05_Sum.l1 kj8 a0 a1 l2 l3 x9_1 x10_1 0) = some r := by rw [if_pos rfl] at H; exact H
                clear H
                have H := H1
                clear H1
                have H' := Aside0.mk H
                clear H
                go_wp2
                go_loopg [11] kj8 (fun kq v11 w' => ∃ (x9_3 : List Int) (x11_3 : Int), v11 = .int .i64 x11_3 ∧ Aside0 (greenwoodref05_Sum.l1 kq a0 a1 l2 l3 x9_3 x10_1 x11_3 = some r) ∧ Aside0 (kq ≤ kj8) ∧ Aside0 (Kd.R (Kd.int .i64) 3 w' w.heap.size (fun _ => True) v212 x9_3) ∧ Aside0 (Below w.heap.size w w'))
                case atStart => exact ⟨(x9_1), (0), (by first | rfl | (simp; done) | (simp [*]; done)), H', ⟨Nat.le_refl _⟩, ⟨by (with_reducible repeat (first | apply Kd.R_alloc | apply Kd.R_drewN | apply Kd.R_drew)); exact HO_9.out⟩, ⟨by repeat (first | (with_reducible first | exact HB.out | apply below_alloc | apply pw_below_drewN | apply below_drew1) | exact HB.out)⟩⟩
                case round =>
                  clear H'
                  try clear c1
                  try clear c2
                  try clear p2
                  try clear c3
                  try clear c5
                  try clear c5b0
                  try clear c5b1
                  try clear c6
                  try clear c6b0
                  try clear c6b1
                  try clear c10
                  try clear c10b0
                  try clear c11
                  try clear p2
                  obtain ⟨x9_3, x11_3, rfl, HA, HK3, HO_9, HB⟩ := hrel
                  cases gk with
                  | zero => exact absurd HA.out (by simp [greenwoodref05_Sum.l1])
                  | succ k3 =>
                    have H := HA.out
                    clear HA
                    simp only [greenwoodref05_Sum.l1] at H
                    by_cases c12 : x11_3 < a1
                    · rw [if_pos c12] at H
                      have c12b0 : decide (x11_3 < a1) = true := decide_eq_true c12
                      clear c12
                      by_cases c13 : 0 ≤ x11_3
                      · rw [if_pos c13] at H
                        have c13b0 : decide (0 ≤ x11_3) = true := decide_eq_true c13
                        clear c13
                        by_cases c14 : x11_3 < (x9_3.length : Int)
                        · rw [if_pos c14] at H
                          have c14b0 : decide (x11_3 < (x9_3.length : Int)) = true := decide_eq_true c14
                          clear c14
                          by_cases c15 : 0 ≤ x10_1
                          · rw [if_pos c15] at H
                            have c15b0 : decide (0 ≤ x10_1) = true := decide_eq_true c15
                            clear c15
                            by_cases c16 : x10_1 < (l2.length : Int)
                            · rw [if_pos c16] at H
                              have c16b0 : decide (x10_1 < (l2.length : Int)) = true := decide_eq_true c16
                              clear c16
                              by_cases c17 : x11_3 < ((rd_L1 l2 x10_1).length : Int)
                              · rw [if_pos c17] at H
                                have c17b0 : decide (x11_3 < ((rd_L1 l2 x10_1).length : Int)) = true := decide_eq_true c17
                                clear c17
                                by_cases c18 : x10_1 < (l3.length : Int)
                                · rw [if_pos c18] at H
                                  have c18b0 : decide (x10_1 < (l3.length : Int)) = true := decide_eq_true c18
                                  clear c18
                                  by_cases c19 : a0 = 0
                                  · rw [if_pos c19] at H
                                    exact absurd H (by simp)
                                  · rw [if_neg c19] at H
                                    have c19b0 : (a0 == 0) = false := beq_eq_false_iff_ne.mpr c19
                                    have c19b1 : (a0 != 0) = true := bne_iff_ne.mpr c19
                                    obtain ⟨y218, hy218⟩ : ∃ y_ : List Int, y_ = (x9_3.set (x11_3 : Int).toNat (Int.tmod (wrap64 ((rd x9_3 x11_3) + (wrap64 ((rd (rd_L1 l2 x10_1) x11_3) * (rd l3 x10_1))))) a0)) := ⟨_, rfl⟩
                                    replace H : (greenwoodref05_Sum.l1 k3 a0 a1 l2 l3 y218 x10_1 (wrap64 (x11_3 + 1))) = some r := by first | (rw [hy218]; with_reducible exact H) | (have H2_ := (Option.bind_some _ _).symm.trans H; rw [hy218]; with_reducible exact H2_) | (have H2_ := (Option.bind_some _ _).symm.trans H; with_reducible exact H2_) | with_reducible exact H | (rw [hy218]; exact H) | exact H
                                    have Ny218 := Aside0.mk hy218
                                    clear hy218
                                    have H' := Aside0.mk H
                                    clear H
                                    try go_wp2
                                    have n0_ := Aside0.mk (Kd.R_drew HO_9.out)
                                    have n1_ := Aside0.mk (below_drew1 HB.out)
                                    clear HO_9
                                    clear HB
                                    have HO_9 := n0_
                                    have HB := n1_
                                    clear n0_ n1_
                                    obtain ⟨Ao22, co22, eo22⟩ := Kd.R_slice HO_9.out
                                    (first | subst eo22 | (injection eo22 with f1_ f2_ f3_; have f4_ := f1_.symm; have f5_ := f3_.symm; clear f1_ f2_ f3_; subst f4_; subst f5_))
                                    have p214 : 0 ≤ (x11_3 : Int) := of_decide_eq_true (by first | (with_reducible assumption) | assumption)
                                    have q214 : x11_3 < (x9_3.length : Int) := of_decide_eq_true (by first | (with_reducible assumption) | assumption)
                                    obtain ⟨ad214, e214, hx214_0⟩ := Kd.at_int (Kd.R_reads' HO_9.out).2.2 x11_3 p214 q214
                                    cases e214
                                    replace p214 := eq_true p214
                                    replace q214 := eq_true q214
                                    have p215 : 0 ≤ (x10_1 : Int) := of_decide_eq_true (by first | (with_reducible assumption) | assumption)
                                    have q215 : x10_1 < (l2.length : Int) := of_decide_eq_true (by first | (with_reducible assumption) | assumption)
                                    obtain ⟨ad215, A215_0, c215_0, e215, hx215_0, hl215_0, hi215_0⟩ := at_L1 HR2.out x10_1 p215 q215
                                    have hw215_0 := hx215_0
                                    cases e215
                                    replace hx215_0 := (HB.out.cell (World.block_lt_of_cell? w _ hx215_0)).trans hx215_0
                                    have HR215_0 := Aside0.mk hi215_0
                                    have HC215_0 := Aside0.mk hl215_0
                                    clear hi215_0 hl215_0
                                    replace p215 := eq_true p215
                                    replace q215 := eq_true q215
                                    have p216 : 0 ≤ (x11_3 : Int) := of_decide_eq_true (by first | (with_reducible assumption) | assumption)
                                    have q216 : x11_3 < ((rd_L1 l2 x10_1).length : Int) := of_decide_eq_true (by first | (with_reducible assumption) | assumption)
                                    obtain ⟨ad216, e216, hx216_0⟩ := Kd.at_int HR215_0.out x11_3 p216 q216
                                    have hw216_0 := hx216_0
                                    cases e216
                                    replace hx216_0 := (HB.out.cell (World.block_lt_of_cell? w _ hx216_0)).trans hx216_0
                                    replace p216 := eq_true p216
                                    replace q216 := eq_true q216
                                    have p217 : 0 ≤ (x10_1 : Int) := of_decide_eq_true (by first | (with_reducible assumption) | assumption)
                                    have q217 : x10_1 < (l3.length : Int) := of_decide_eq_true (by first | (with_reducible assumption) | assumption)
                                    obtain ⟨ad217, e217, hx217_0⟩ := Kd.at_int HR3.out x10_1 p217 q217
                                    have hw217_0 := hx217_0
                                    cases e217
                                    replace hx217_0 := (HB.out.cell (World.block_lt_of_cell? w _ hx217_0)).trans hx217_0
                                    replace p217 := eq_true p217
                                    replace q217 := eq_true q217
                                    have p20 : 0 ≤ (x11_3 : Int) := of_decide_eq_true (by first | (with_reducible assumption) | assumption)
                                    have q20 : (x11_3 : Int) < ((x9_3.length : Int) : Int) := of_decide_eq_true (by first | (with_reducible assumption) | assumption)
                                    obtain ⟨go20, co20, eo20, gb20, gl20, cl20, HG20⟩ := Kd.R_form HO_9.out (by omega)
                                    (first | cases eo20 | (injection eo20 with ea_ en_ ec_; (first | subst ea_ | (injection ea_ with ea_; subst ea_)); subst ec_; clear en_))
                                    have GB20 := Aside0.mk gb20
                                    have GG20 := Aside0.mk HG20
                                    clear gb20 gl20 HG20
                                    (first | simp only [add_plain] at hx214_0 | skip)
                                    obtain ⟨hx20_0, hf20_0⟩ := Kd.R_celln 0 HO_9.out (x11_3 : Int) p20 q20
                                    replace p20 := eq_true p20
                                    replace q20 := eq_true q20
                                    have HP23 := Kd.R_putn HO_9.out (x11_3 : Int) (Int.tmod (wrap64 ((rd x9_3 x11_3) + (wrap64 ((rd (rd_L1 l2 x10_1) x11_3) * (rd l3 x10_1))))) a0)
                                    rw [← Ny218.out] at HP23
                                    have HQ23 := Aside0.mk HP23
                                    clear HP23
                                    refine start_ (n := 23) (S := fun w' => w'.cell? ⟨go20, (x11_3).toNat, none⟩ = some (.int .i64 (rd x9_3 x11_3)) ∧ w'.cell? (ad215.add (x10_1).toNat) = some (.slice (some ad216) (rd_L1 l2 x10_1).length c215_0) ∧ w'.cell? (ad216.add (x11_3).toNat) = some (.int .i64 (rd (rd_L1 l2 x10_1) x11_3)) ∧ w'.cell? (ad217.add (x10_1).toNat) = some (.int .i64 (rd l3 x10_1))) (ds := [22]) #[false, false, false, false, false, false, false, false, false, false, false, false, false, false, false, false, false, false, false, false, false, false, false] (by kernel_rfl) rfl rfl ⟨hx214_0, ((HB.out.cell (World.block_lt_of_cell? w _ hw215_0)).trans hw215_0), ((HB.out.cell (World.block_lt_of_cell? w _ hw216_0)).trans hw216_0), ((HB.out.cell (World.block_lt_of_cell? w _ hw217_0)).trans hw217_0)⟩ (fun hHeld => ?_); refine with_tabW greenwoodref05_Sum.tab8 greenwoodref05_Sum.bits8 (fun HT_ HW_ => ?_)
                                    generalize wr.drew = w21 at HO_9 HB GG20 HQ23 HR215_0 hf20_0 hx20_0 hx214_0 hx215_0 hx216_0 hx217_0 hHeld ⊢
                                    refine pure_ (i := 0) (N := some 31) (v := ?_) (a' := ?_) #[true, false, false, false, false, false, false, false, false, false, false, false, false, false, false, false, false, false, false, false, false, false, false] rfl rfl (any_of HT_.out (by kernel_rfl)) (fun _ _ _ h => h) (Or.inl ⟨by rfl, ?_⟩) ?_ ?_
                                    rotate_left
                                    · intro w'
                                      go_simp
                                      with_reducible rfl
                                    rotate_left
                                    · simp only [Act.put, List.setIfInBounds_toArray, List.set_cons_zero, List.set_cons_succ, i64_w, i32_w]
                                      rfl
                                    refine pure_ (i := 1) (N := some 32) (v := ?_) (a' := ?_) #[true, true, false, false, false, false, false, false, false, false, false, false, false, false, false, false, false, false, false, false, false, false, false] rfl rfl (any_of HT_.out (by kernel_rfl)) (fun _ _ _ h => h) (Or.inl ⟨by rfl, ?_⟩) ?_ ?_
                                    rotate_left
                                    · intro w'
                                      go_simp
                                      with_reducible rfl
                                    rotate_left
                                    · simp only [Act.put, List.setIfInBounds_toArray, List.set_cons_zero, List.set_cons_succ, i64_w, i32_w]
                                      rfl
                                    refine pure_ (i := 2) (N := some 33) (v := ?_) (a' := ?_) #[true, true, true, false, false, false, false, false, false, false, false, false, false, false, false, false, false, false, false, false, false, false, false] rfl rfl (any_of HT_.out (by kernel_rfl)) (fun _ _ _ h => h) (Or.inl ⟨by rfl, ?_⟩) ?_ ?_
                                    rotate_left
                                    · intro w'
                                      go_simp
                                      with_reducible rfl
                                    rotate_left
                                    · simp only [Act.put, List.setIfInBounds_toArray, List.set_cons_zero, List.set_cons_succ, i64_w, i32_w]
                                      rfl
                                    refine pure_ (i := 3) (N := some 34) (v := ?_) (a' := ?_) #[true, true, true, true, false, false, false, false, false, false, false, false, false, false, false, false, false, false, false, false, false, false, false] rfl rfl (any_of HT_.out (by kernel_rfl)) (fun _ _ _ h => h) (Or.inl ⟨by rfl, ?_⟩) ?_ ?_
                                    rotate_left
                                    · intro w'
                                      go_simp
                                      with_reducible rfl
                                    rotate_left
                                    · simp only [Act.put, List.setIfInBounds_toArray, List.set_cons_zero, List.set_cons_succ, i64_w, i32_w]
                                      rfl
                                    refine pure_ (i := 4) (N := some 35) (v := ?_) (a' := ?_) #[true, true, true, true, true, false, false, false, false, false, false, false, false, false, false, false, false, false, false, false, false, false, false] rfl rfl (any_of HT_.out (by kernel_rfl)) (fun _ _ _ h => h) (Or.inl ⟨by rfl, ?_⟩) ?_ ?_
                                    rotate_left
                                    · intro w'
                                      go_simp
                                      with_reducible rfl
                                    rotate_left
                                    · simp only [Act.put, List.setIfInBounds_toArray, List.set_cons_zero, List.set_cons_succ, i64_w, i32_w]
                                      rfl
                                    refine pure_ (i := 6) (N := some 37) (v := ?_) (a' := ?_) #[true, true, true, true, true, false, true, false, false, false, false, false, false, false, false, false, false, false, false, false, false, false, false] rfl rfl (any_of HT_.out (by kernel_rfl)) (fun _ _ _ h => h) (Or.inl ⟨by rfl, ?_⟩) ?_ ?_
                                    rotate_left
                                    · intro w'
                                      go_simp
                                      with_reducible rfl
                                    rotate_left
                                    · simp only [Act.put, List.setIfInBounds_toArray, List.set_cons_zero, List.set_cons_succ, i64_w, i32_w]
                                      rfl
                                    refine pure_ (i := 7) (N := some 38) (v := ?_) (a' := ?_) #[true, true, true, true, true, false, true, true, false, false, false, false, false, false, false, false, false, false, false, false, false, false, false] rfl rfl (any_of HT_.out (by kernel_rfl)) (fun _ _ _ h => h) (Or.inl ⟨by rfl, ?_⟩) ?_ ?_
                                    rotate_left
                                    · intro w'
                                      go_simp
                                      with_reducible rfl
                                    rotate_left
                                    · simp only [Act.put, List.setIfInBounds_toArray, List.set_cons_zero, List.set_cons_succ, i64_w, i32_w]
                                      rfl
                                    refine pure_ (i := 8) (N := some 39) (v := ?_) (a' := ?_) #[true, true, true, true, true, false, true, true, true, false, false, false, false, false, false, false, false, false, false, false, false, false, false] rfl rfl (any_of HT_.out (by kernel_rfl)) (fun _ _ _ h => h) (Or.inl ⟨by rfl, ?_⟩) ?_ ?_
                                    rotate_left
                                    · intro w'
                                      go_simp
                                      with_reducible rfl
                                    rotate_left
                                    · simp only [Act.put, List.setIfInBounds_toArray, List.set_cons_zero, List.set_cons_succ, i64_w, i32_w]
                                      rfl
                                    refine pure_ (i := 10) (N := some 41) (v := ?_) (a' := ?_) #[true, true, true, true, true, false, true, true, true, false, true, false, false, false, false, false, false, false, false, false, false, false, false] rfl rfl (any_of HT_.out (by kernel_rfl)) (fun _ _ _ h => h) (Or.inl ⟨by rfl, ?_⟩) ?_ ?_
                                    rotate_left
                                    · intro w'
                                      go_simp
                                      with_reducible rfl
                                    rotate_left
                                    · simp only [Act.put, List.setIfInBounds_toArray, List.set_cons_zero, List.set_cons_succ, i64_w, i32_w]
                                      rfl
                                    refine pure_ (i := 13) (N := some 44) (v := ?_) (a' := ?_) #[true, true, true, true, true, false, true, true, true, false, true, false, false, true, false, false, false, false, false, false, false, false, false] rfl rfl (any_of HT_.out (by kernel_rfl)) (fun _ _ _ h => h) (Or.inl ⟨by rfl, ?_⟩) ?_ ?_
                                    rotate_left
                                    · intro w'
                                      go_simp
                                      with_reducible rfl
                                    rotate_left
                                    · simp only [Act.put, List.setIfInBounds_toArray, List.set_cons_zero, List.set_cons_succ, i64_w, i32_w]
                                      rfl
                                    refine pure_ (i := 14) (N := some 45) (v := ?_) (a' := ?_) #[true, true, true, true, true, false, true, true, true, false, true, false, false, true, true, false, false, false, false, false, false, false, false] rfl rfl (any_of HT_.out (by kernel_rfl)) (fun _ _ _ h => h) (Or.inl ⟨by rfl, ?_⟩) ?_ ?_
                                    rotate_left
                                    · intro w'
                                      go_simp
                                      with_reducible rfl
                                    rotate_left
                                    · simp only [Act.put, List.setIfInBounds_toArray, List.set_cons_zero, List.set_cons_succ, i64_w, i32_w]
                                      rfl
                                    refine pure_ (i := 15) (N := some 46) (v := ?_) (a' := ?_) #[true, true, true, true, true, false, true, true, true, false, true, false, false, true, true, true, false, false, false, false, false, false, false] rfl rfl (any_of HT_.out (by kernel_rfl)) (fun _ _ _ h => h) (Or.inl ⟨by rfl, ?_⟩) ?_ ?_
                                    rotate_left
                                    · intro w'
                                      go_simp
                                      with_reducible rfl
                                    rotate_left
                                    · simp only [Act.put, List.setIfInBounds_toArray, List.set_cons_zero, List.set_cons_succ, i64_w, i32_w]
                                      rfl
                                    refine pure_ (i := 19) (N := some 50) (v := ?_) (a' := ?_) #[true, true, true, true, true, false, true, true, true, false, true, false, false, true, true, true, false, false, false, true, false, false, false] rfl rfl (any_of HT_.out (by kernel_rfl)) (fun _ _ _ h => h) (Or.inl ⟨by rfl, ?_⟩) ?_ ?_
                                    rotate_left
                                    · intro w'
                                      go_simp
                                      with_reducible rfl
                                    rotate_left
                                    · simp only [Act.put, List.setIfInBounds_toArray, List.set_cons_zero, List.set_cons_succ, i64_w, i32_w]
                                      rfl
                                    refine take_ (i := 5) (N := some 36) (v := ?_) (a' := ?_) #[true, true, true, true, true, true, true, true, true, false, true, false, false, true, true, true, false, false, false, true, false, false, false] rfl rfl (take_ofW HT_.out HW_.out (by kernel_rfl)) (fun _ _ _ h => h) (Or.inl ⟨by rfl, ?_⟩) hHeld ?_ ?_
                                    rotate_left
                                    · rintro w' ⟨s0, s1, s2, s3⟩
                                      go_simp
                                      with_reducible rfl
                                    rotate_left
                                    · simp only [Act.put, List.setIfInBounds_toArray, List.set_cons_zero, List.set_cons_succ, i64_w, i32_w]
                                      rfl
                                    refine take_ (i := 9) (N := some 40) (v := ?_) (a' := ?_) #[true, true, true, true, true, true, true, true, true, true, true, false, false, true, true, true, false, false, false, true, false, false, false] rfl rfl (take_ofW HT_.out HW_.out (by kernel_rfl)) (fun _ _ _ h => h) (Or.inl ⟨by rfl, ?_⟩) hHeld ?_ ?_
                                    rotate_left
                                    · rintro w' ⟨s0, s1, s2, s3⟩
                                      go_simp
                                      with_reducible rfl
                                    rotate_left
                                    · simp only [Act.put, List.setIfInBounds_toArray, List.set_cons_zero, List.set_cons_succ, i64_w, i32_w]
                                      rfl
                                    refine pure_ (i := 11) (N := some 42) (v := ?_) (a' := ?_) #[true, true, true, true, true, true, true, true, true, true, true, true, false, true, true, true, false, false, false, true, false, false, false] rfl rfl (any_of HT_.out (by kernel_rfl)) (fun _ _ _ h => h) (Or.inl ⟨by rfl, ?_⟩) ?_ ?_
                                    rotate_left
                                    · intro w'
                                      go_simp
                                      with_reducible rfl
                                    rotate_left
                                    · simp only [Act.put, List.setIfInBounds_toArray, List.set_cons_zero, List.set_cons_succ, i64_w, i32_w]
                                      rfl
                                    refine take_ (i := 12) (N := some 43) (v := ?_) (a' := ?_) #[true, true, true, true, true, true, true, true, true, true, true, true, true, true, true, true, false, false, false, true, false, false, false] rfl rfl (take_ofW HT_.out HW_.out (by kernel_rfl)) (fun _ _ _ h => h) (Or.inl ⟨by rfl, ?_⟩) hHeld ?_ ?_
                                    rotate_left
                                    · rintro w' ⟨s0, s1, s2, s3⟩
                                      go_simp
                                      with_reducible rfl
                                    rotate_left
                                    · simp only [Act.put, List.setIfInBounds_toArray, List.set_cons_zero, List.set_cons_succ, i64_w, i32_w]
                                      rfl
                                    refine take_ (i := 16) (N := some 47) (v := ?_) (a' := ?_) #[true, true, true, true, true, true, true, true, true, true, true, true, true, true, true, true, true, false, false, true, false, false, false] rfl rfl (take_ofW HT_.out HW_.out (by kernel_rfl)) (fun _ _ _ h => h) (Or.inl ⟨by rfl, ?_⟩) hHeld ?_ ?_
                                    rotate_left
                                    · rintro w' ⟨s0, s1, s2, s3⟩
                                      go_simp
                                      with_reducible rfl
                                    rotate_left
                                    · simp only [Act.put, List.setIfInBounds_toArray, List.set_cons_zero, List.set_cons_succ, i64_w, i32_w]
                                      rfl
                                    refine pure_ (i := 17) (N := some 48) (v := ?_) (a' := ?_) #[true, true, true, true, true, true, true, true, true, true, true, true, true, true, true, true, true, true, false, true, false, false, false] rfl rfl (any_of HT_.out (by kernel_rfl)) (fun _ _ _ h => h) (Or.inl ⟨by rfl, ?_⟩) ?_ ?_
                                    rotate_left
                                    · intro w'
                                      go_simp
                                      with_reducible rfl
                                    rotate_left
                                    · simp only [Act.put, List.setIfInBounds_toArray, List.set_cons_zero, List.set_cons_succ, i64_w, i32_w]
                                      rfl
                                    refine pure_ (i := 18) (N := some 49) (v := ?_) (a' := ?_) #[true, true, true, true, true, true, true, true, true, true, true, true, true, true, true, true, true, true, true, true, false, false, false] rfl rfl (any_of HT_.out (by kernel_rfl)) (fun _ _ _ h => h) (Or.inl ⟨by rfl, ?_⟩) ?_ ?_
                                    rotate_left
                                    · intro w'
                                      go_simp
                                      with_reducible rfl
                                    rotate_left
                                    · simp only [Act.put, List.setIfInBounds_toArray, List.set_cons_zero, List.set_cons_succ, i64_w, i32_w]
                                      rfl
                                    refine pure_ (i := 20) (N := some 51) (v := ?_) (a' := ?_) #[true, true, true, true, true, true, true, true, true, true, true, true, true, true, true, true, true, true, true, true, true, false, false] rfl rfl (any_of HT_.out (by kernel_rfl)) (fun _ _ _ h => h) (Or.inl ⟨by rfl, ?_⟩) ?_ ?_
                                    rotate_left
                                    · intro w'
                                      go_simp
                                      with_reducible rfl
                                    rotate_left
                                    · simp only [Act.put, List.setIfInBounds_toArray, List.set_cons_zero, List.set_cons_succ, i64_w, i32_w]
                                      rfl
                                    refine pure_ (i := 21) (N := some 52) (v := ?_) (a' := ?_) #[true, true, true, true, true, true, true, true, true, true, true, true, true, true, true, true, true, true, true, true, true, true, false] rfl rfl (any_of HT_.out (by kernel_rfl)) (fun _ _ _ h => h) (Or.inl ⟨by rfl, ?_⟩) ?_ ?_
                                    rotate_left
                                    · intro w'
                                      go_simp
                                      with_reducible rfl
                                    rotate_left
                                    · simp only [Act.put, List.setIfInBounds_toArray, List.set_cons_zero, List.set_cons_succ, i64_w, i32_w]
                                      rfl
                                    refine last_ (i := 22) (N := none) #[true, true, true, true, true, true, true, true, true, true, true, true, true, true, true, true, true, true, true, true, true, true, true] rfl rfl (one_of HT_.out (by kernel_rfl)) (by decide) (fun K hK => ?_)
                                    refine skip_ (w1 := ?_) (by rfl) rfl ?_ ?_
                                    rotate_left
                                    · go_simp
                                      rfl
                                    refine hK.out _ _ ?_
                                    clear hK K
                                    refine done_ (done_of HT_.out (by kernel_rfl)) ?_
                                    try go_wp2
                                    go_roundg k3
                                    case measure => have := HK1.out; have := HJ8.out; have := HK3.out; omega
                                    case rel => exact ⟨(y218), (wrap64 (x11_3 + 1)), (by first | rfl | (simp; done) | (simp [*]; done)), H', ⟨by have := HK1.out; have := HJ8.out; have := HK3.out; omega⟩, ⟨by (with_reducible repeat (first | apply Kd.R_alloc | apply Kd.R_drewN | apply Kd.R_drew)); exact HQ23.out⟩, ⟨by repeat (first | (with_reducible first | exact HB.out | apply below_alloc | apply pw_below_drewN | apply below_drew1 | refine below_set ?_ GB20.out) | exact HB.out)⟩⟩
                                · rw [if_neg c18] at H
                                  exact absurd H (by simp)
                              · rw [if_neg c17] at H
                                exact absurd H (by simp)
                            · rw [if_neg c16] at H
                              exact absurd H (by simp)
                          · rw [if_neg c15] at H
                            exact absurd H (by simp)
                        · rw [if_neg c14] at H
                          exact absurd H (by simp)
                      · rw [if_neg c13] at H
                        exact absurd H (by simp)
                    · rw [if_neg c12] at H
                      have c12b0 : decide (x11_3 < a1) = false := decide_eq_false c12
                      clear c12
                      have H' := Aside0.mk H
                      clear H
                      go_wp2
                      go_roundg k3
                      case measure => have := HK1.out; have := HJ8.out; have := HK3.out; omega
                      case rel => exact ⟨(x9_3), (wrap64 (x10_1 + 1)), (by first | rfl | (simp; done) | (simp [*]; done)), H', ⟨by have := HK1.out; have := HJ8.out; have := HK3.out; omega⟩, ⟨by (with_reducible repeat (first | apply Kd.R_alloc | apply Kd.R_drewN | apply Kd.R_drew)); exact HO_9.out⟩, ⟨by repeat (first | (with_reducible first | exact HB.out | apply below_alloc | apply pw_below_drewN | apply below_drew1) | exact HB.out)⟩⟩
              · replace c11 := Bool.eq_false_iff.mpr c11
                subst c11
                have H1 : (some x9_1) = some r := by rw [if_neg (show ¬ (false = true) by decide)] at H; exact H
                clear H
                have H := H1
                clear H1
                obtain rfl := Option.some.inj H
                go_wp2
                go_ret
                exact ⟨_, by first | rfl | (simp [errW_none, errW_some] <;> rfl) | (simp [*, errW_none, errW_some] <;> rfl), by (with_reducible repeat (first | apply Kd.R_alloc | apply Kd.R_drewN | apply Kd.R_drew)); exact HO_9.out, by repeat (first | (with_reducible first | exact HB.out | apply below_alloc | apply pw_below_drewN | apply below_drew1) | exact HB.out)⟩
    · rw [if_neg c6] at H
      exact absurd H (by simp)
  · rw [if_neg c5] at H
    exact absurd H (by simp)

end Go.Proofs.Ytepakefmioeilaa.P
/- Layer 5: what the printed functions come to. -/
namespace Go.Proofs.Ytepakefmioeilaa.P
open Go.RowKit Go.Proofs.YtepakefmioeilaaW.PrintWords Go.Proofs.YtepakefmioeilaaW.PrintLast Go.Proofs.YtepakefmioeilaaW.PrintMore
open LinA (V Sp zv smul comb rk Fld)
set_option linter.unusedVariables false
set_option linter.unusedSimpArgs false

theorem Ev.ifp {α : Type} {c : Prop} [Decidable c] {g f : Nat → Option α} {r : α} (h : c) (e : Ev g r) : Ev (fun n => if c then g n else f n) r := by
  simp only [if_pos h]; exact e
theorem Ev.ifn {α : Type} {c : Prop} [Decidable c] {g f : Nat → Option α} {r : α} (h : ¬ c) (e : Ev f r) : Ev (fun n => if c then g n else f n) r := by
  simp only [if_neg h]; exact e
theorem Ev.val {α : Type} {r t : α} (h : r = t) : Ev (fun _ => some r) t := by subst h; exact Ev.now r
theorem Ev.bnd {α β : Type} {a : α} {f : Nat → α → Option β} {r : β} (k : Ev (fun n => f n a) r) : Ev (fun n => (some a).bind (f n)) r := k
theorem rd_at {l : List Int} {i : Nat} (h : i < l.length) : rd l (i : Int) = l[i] := by simp [rd, List.getD_eq_getElem?_getD, List.getElem?_eq_getElem h]
theorem rdL_at {l : List (List Int)} {i : Nat} (h : i < l.length) : rd_L1 l (i : Int) = l[i] := by simp [rd_L1, List.getD_eq_getElem?_getD, List.getElem?_eq_getElem h]
theorem w1 {i : Nat} {n : Nat} (h : i < n) (hn : n ≤ 1000000) : wrap64 ((i : Int) + 1) = ((i + 1 : Nat) : Int) := by rw [wrap_id (by omega) (by omega)]; omega

/-! ### Same -/
theorem same_l0 (a b : List Int) (hl : a.length = b.length) (hn : a.length ≤ 1000000) : ∀ (d i : Nat), a.length - i = d → i ≤ a.length → Ev (fun k => greenwoodref01_Same.l0 k a b (i : Int)) (decide (a.drop i = b.drop i)) := by
  intro d
  induction d with
  | zero =>
    intro i h1 h2
    refine Ev.step (fun k => by rw [greenwoodref01_Same.l0]) ?_
    refine Ev.ifn (by omega) (Ev.val ?_)
    rw [List.drop_of_length_le (by omega), List.drop_of_length_le (by omega)]; rfl
  | succ d ih =>
    intro i h1 h2
    have hi : i < a.length := by omega
    have hj : i < b.length := by omega
    refine Ev.step (fun k => by rw [greenwoodref01_Same.l0]) ?_
    refine Ev.ifp (by omega) (Ev.ifp (by omega) (Ev.ifp (by omega) ?_))
    rw [rd_at hi, rd_at hj, List.drop_eq_getElem_cons hi, List.drop_eq_getElem_cons hj, w1 hi hn]
    by_cases he : a[i] = b[i]
    · refine Ev.ifp he ?_
      have e : decide (a[i] :: a.drop (i + 1) = b[i] :: b.drop (i + 1)) = decide (a.drop (i + 1) = b.drop (i + 1)) := by
        apply decide_eq_decide.mpr; rw [List.cons.injEq]; exact ⟨fun h => h.2, fun h => ⟨he, h⟩⟩
      rw [e]
      exact ih (i + 1) (by omega) (by omega)
    · refine Ev.ifn he (Ev.val ?_)
      exact (decide_eq_false (fun h => he (List.cons.inj h).1)).symm
theorem same_ev (a b : List Int) (hn : a.length ≤ 1000000) : Ev (fun k => greenwoodref01_Same.f k a b) (decide (a = b)) := by
  unfold greenwoodref01_Same.f
  by_cases hl : a.length = b.length
  · refine Ev.ifp (by omega) ?_
    have := same_l0 a b hl hn a.length 0 (by omega) (by omega)
    simpa using this
  · refine Ev.ifn (by omega) (Ev.val ?_)
    have : a ≠ b := fun h => hl (by rw [h])
    simp [this]

/-! ### May -/
noncomputable def mayB (p rows : Int) (cols : List (List Int)) : Bool := isP p && !decide (rows < 0) && !decide (64 < rows) && !decide (64 < (cols.length : Int)) && !(cols.any (elim_May.bad p rows))
theorem may_ev (p rows : Int) (cols : List (List Int)) : Ev (fun k => elim_May.f k p rows cols) (mayB p rows cols) := by
  unfold elim_May.f
  exact Ev.bind (Prime_eq p) (Ev.now _)
theorem rmay_l1 (p : Int) (rows : Nat) (cols : List (List Int)) (hn : cols.length ≤ 64) (hr : rows ≤ 64) (i : Nat) (hi : i < cols.length) (hl : (cols[i]).length = rows) (r : Bool) (hnext : Ev (fun k => greenwoodref05_May.l0 k p rows cols ((i + 1 : Nat) : Int)) r) : ∀ (d j : Nat), rows - j = d → j ≤ rows →
    Ev (fun k => greenwoodref05_May.l1 k p rows cols (i : Int) (j : Int)) (if ((cols[i]).drop j).any (elim_May.out p) = true then false else r) := by
  intro d
  induction d with
  | zero =>
    intro j h1 h2
    refine Ev.step (fun k => by rw [greenwoodref05_May.l1]) ?_
    refine Ev.ifn (by omega) ?_
    rw [w1 hi (by omega), List.drop_of_length_le (by omega)]
    exact hnext
  | succ d ih =>
    intro j h1 h2
    have hj : j < (cols[i]).length := by omega
    refine Ev.step (fun k => by rw [greenwoodref05_May.l1]) ?_
    rw [rdL_at hi, rd_at hj]
    refine Ev.ifp (by omega) (Ev.ifp (by omega) (Ev.ifp (by omega) (Ev.ifp (by omega) (Ev.ifp (by omega) ?_))))
    rw [List.drop_eq_getElem_cons hj, List.any_cons]
    have ho : elim_May.out p (cols[i])[j] = (decide ((cols[i])[j] < 0) || decide (p ≤ (cols[i])[j])) := rfl
    by_cases a : (cols[i])[j] < 0
    · refine Ev.ifp a (Ev.val ?_)
      rw [ho, decide_eq_true a]; rfl
    · refine Ev.ifn a ?_
      by_cases b : (cols[i])[j] ≥ p
      · refine Ev.ifp b (Ev.val ?_)
        rw [ho, decide_eq_true (show p ≤ (cols[i])[j] from b), Bool.or_true]; rfl
      · refine Ev.ifn b ?_
        rw [ho, decide_eq_false a, decide_eq_false (show ¬ p ≤ (cols[i])[j] from b), Bool.or_false, Bool.false_or, w1 (n := rows) (by omega) (by omega)]
        exact ih (j + 1) (by omega) (by omega)
theorem rmay_l0 (p : Int) (rows : Nat) (cols : List (List Int)) (hn : cols.length ≤ 64) (hr : rows ≤ 64) : ∀ (d i : Nat), cols.length - i = d → i ≤ cols.length → Ev (fun k => greenwoodref05_May.l0 k p rows cols (i : Int)) (!((cols.drop i).any (elim_May.bad p rows))) := by
  intro d
  induction d with
  | zero =>
    intro i h1 h2
    refine Ev.step (fun k => by rw [greenwoodref05_May.l0]) ?_
    refine Ev.ifn (by omega) (Ev.val ?_)
    rw [List.drop_of_length_le (by omega)]; rfl
  | succ d ih =>
    intro i h1 h2
    have hi : i < cols.length := by omega
    refine Ev.step (fun k => by rw [greenwoodref05_May.l0]) ?_
    rw [rdL_at hi]
    refine Ev.ifp (by omega) (Ev.ifp (by omega) ?_)
    rw [List.drop_eq_getElem_cons hi, List.any_cons]
    by_cases hl : ((cols[i]).length : Int) = (rows : Int)
    · refine Ev.ifp hl ?_
      have h3 := rmay_l1 p rows cols hn hr i hi (by omega) _ (ih (i + 1) (by omega) (by omega)) rows 0 (by omega) (by omega)
      rw [List.drop_zero] at h3
      have hb : elim_May.bad p rows cols[i] = (cols[i]).any (elim_May.out p) := by
        unfold elim_May.bad
        rw [hl, bne_self_eq_false, Bool.false_or]
      rw [hb]
      cases h4 : (cols[i]).any (elim_May.out p) with
      | true => rw [h4, if_pos rfl] at h3; exact h3
      | false => rw [h4, if_neg (by decide)] at h3; exact h3
    · refine Ev.ifn hl (Ev.val ?_)
      have hb : elim_May.bad p rows cols[i] = true := by
        unfold elim_May.bad
        rw [bne_iff_ne.mpr hl, Bool.true_or]
      rw [hb]; rfl
theorem rmay_ev (p rows : Int) (cols : List (List Int)) : Ev (fun k => greenwoodref05_May.f k p rows cols) (mayB p rows cols) := by
  unfold greenwoodref05_May.f
  refine Ev.bind (rPrime_eq p) ?_
  unfold mayB
  have hf : ∀ r, r = false → Ev (fun k => greenwoodref05_May.j0 k p rows cols true) r := fun r hr => Ev.step (fun k => by rw [greenwoodref05_May.j0]) (Ev.ifp rfl (Ev.val hr.symm))
  cases hp : isP p with
  | false => exact Ev.ifn (by decide) (hf _ rfl)
  | true =>
    refine Ev.ifp rfl ?_
    by_cases h1 : rows < 0
    · exact Ev.ifp h1 (hf _ (by simp [h1]))
    refine Ev.ifn h1 ?_
    by_cases h2 : rows > 64
    · exact Ev.ifp h2 (hf _ (by simp [h2]))
    refine Ev.ifn h2 ?_
    by_cases h3 : (cols.length : Int) > 64
    · rw [decide_eq_true h3]
      exact hf _ (by simp [show (64 : Int) < cols.length from h3])
    · rw [decide_eq_false h3]
      refine Ev.step (fun k => by rw [greenwoodref05_May.j0]) (Ev.ifn (by decide) ?_)
      obtain ⟨n, rfl⟩ : ∃ n : Nat, rows = (n : Int) := ⟨rows.toNat, by omega⟩
      have := rmay_l0 p n cols (by omega) (by omega) cols.length 0 (by omega) (by omega)
      rw [List.drop_zero] at this
      simpa [h1, show ¬ (64 : Int) < n by omega, show ¬ (64 : Int) < cols.length by omega] using this
theorem mayB_true {p rows : Int} {cols : List (List Int)} (h : mayB p rows cols = true) : isP p = true ∧ 0 ≤ rows ∧ rows ≤ 64 ∧ cols.length ≤ 64 ∧ ∀ c ∈ cols, c.length = rows.toNat ∧ Bd p c := by
  obtain ⟨k, hk⟩ := (may_ev p rows cols).rounds
  rw [h] at hk
  exact may_true hk
theorem mayB_mk {p rows : Int} {cols : List (List Int)} (hp : isP p = true) (h0 : 0 ≤ rows) (h1 : rows ≤ 64) (hn : cols.length ≤ 64) (hc : ∀ c ∈ cols, c.length = rows.toNat ∧ Bd p c) : mayB p rows cols = true := by
  unfold mayB
  have : cols.any (elim_May.bad p rows) = false := by
    rw [List.any_eq_false]
    intro c hm
    obtain ⟨a, b⟩ := hc c hm
    have e : c.any (elim_May.out p) = false := by
      rw [List.any_eq_false]
      intro y hy
      have := b y hy
      simp [elim_May.out]; omega
    unfold elim_May.bad
    rw [e, Bool.or_false]
    have : ((c.length : Int) != rows) = false := by rw [bne_eq_false_iff_eq]; omega
    rw [this]; decide
  rw [hp, this]
  simp; omega

/-! ### bases and ranks -/
section
variable {P : Nat} [NeZero P]
noncomputable def basN (P : Nat) [NeZero P] (cols : List (List Int)) : List Int := bas (cols.map vec : List (V P)) cols.length
noncomputable def rkN (P : Nat) [NeZero P] (cols : List (List Int)) : Nat := rk (cols.map vec : List (V P))
theorem fldP (hP : isP (P : Int) = true) : Fld P := LinA.fld_of_prime (by have := isP_true.mp hP; simpa using this.2)
theorem basN_le (cols : List (List Int)) : (basN P cols).length ≤ cols.length := by
  unfold basN
  generalize (cols.map vec : List (V P)) = vs
  have : ∀ k, (bas vs k).length ≤ k := by
    intro k
    induction k with
    | zero => exact Nat.le_refl _
    | succ k ih =>
      simp only [bas, List.length_append]
      split <;> simp <;> omega
  exact this _
theorem basis_ev {rows : Int} {cols : List (List Int)} (h : mayB P rows cols = true) : Ev (fun k => elim_Basis.f k P rows cols) (basN P cols) := by
  unfold elim_Basis.f
  obtain ⟨hP, h0, h64, hn, hcs⟩ := mayB_true h
  have := may_ev (P : Int) rows cols
  rw [h] at this
  refine Ev.bind this (Ev.val ?_)
  rw [if_pos rfl]
  exact (climb_all hP cols hcs).2
theorem rrank_ev {rows : Int} {cols : List (List Int)} (h : mayB P rows cols = true) : Ev (fun k => greenwoodref05_rank.f k P rows cols) (rkN P cols : Int) := by
  unfold greenwoodref05_rank.f
  obtain ⟨hP, h0, h64, hn, hcs⟩ := mayB_true h
  have := may_ev (P : Int) rows cols
  rw [h] at this
  refine Ev.bind this (Ev.ifp rfl (Ev.val ?_))
  rw [rkS_rk hP (fldP hP) hcs]; rfl
theorem rRank_ev {rows : Int} {cols : List (List Int)} (h : mayB P rows cols = true) : Ev (fun k => greenwoodref05_Rank.f k P rows cols) (rkN P cols : Int) := by
  unfold greenwoodref05_Rank.f
  have := rmay_ev (P : Int) rows cols
  rw [h] at this
  exact Ev.bind this (Ev.ifp rfl (Ev.bind (rrank_ev h) (Ev.now _)))
end
end Go.Proofs.Ytepakefmioeilaa.P
/- Layer 5: sums and combinations. -/
namespace Go.Proofs.Ytepakefmioeilaa.P
open Go.RowKit Go.Proofs.YtepakefmioeilaaW.PrintWords Go.Proofs.YtepakefmioeilaaW.PrintLast Go.Proofs.YtepakefmioeilaaW.PrintMore
open LinA (V Sp zv smul comb rk Fld)
set_option linter.unusedVariables false
set_option linter.unusedSimpArgs false

def adm (p t : Int) (a x : Int) : Int := (a + x * t) % p
def sumN (p : Int) (rows : Nat) (cols : List (List Int)) (times : List Int) : Nat → List Int
  | 0 => List.replicate rows 0
  | i + 1 => List.zipWith (adm p (rd times (i : Int))) (sumN p rows cols times i) (cols.getD i [])
theorem getD_at {cols : List (List Int)} {i : Nat} (h : i < cols.length) : cols.getD i [] = cols[i] := by rw [List.getD_eq_getElem?_getD, List.getElem?_eq_getElem h]; rfl
theorem bd_adm {p : Int} (hp : okP p) (t : Int) : ∀ (c x : List Int), Bd p (List.zipWith (adm p t) c x) := by
  intro c
  induction c with
  | nil => intro x y hy; simp at hy
  | cons a c ih =>
    intro x y hy
    cases x with
    | nil => simp at hy
    | cons b x =>
      simp only [List.zipWith_cons_cons, List.mem_cons] at hy
      rcases hy with rfl | hy
      · exact ⟨Int.emod_nonneg _ (by have := hp.1; omega), Int.emod_lt_of_pos _ (by have := hp.1; omega)⟩
      · exact ih x y hy
theorem sumN_ok {p : Int} (hp : okP p) {rows : Nat} {cols : List (List Int)} (hc : ∀ c ∈ cols, c.length = rows ∧ Bd p c) (times : List Int) : ∀ i, i ≤ cols.length → (sumN p rows cols times i).length = rows ∧ Bd p (sumN p rows cols times i) := by
  intro i
  induction i with
  | zero =>
    intro _
    refine ⟨by simp [sumN], fun y hy => ?_⟩
    have := (List.mem_replicate.1 hy).2
    subst this
    exact ⟨Int.le_refl _, by have := hp.1; omega⟩
  | succ i ih =>
    intro h
    obtain ⟨h1, h2⟩ := ih (by omega)
    refine ⟨?_, bd_adm hp _ _ _⟩
    have h3 := (hc cols[i] (List.getElem_mem (by omega))).1
    simp only [sumN, List.length_zipWith, h1]
    rw [getD_at (by omega), h3, Nat.min_self]
theorem sum_l1 (p : Int) (hp : okP p) (rows : Nat) (hr : rows ≤ 64) (cols : List (List Int)) (hn : cols.length ≤ 64) (times : List Int) (i : Nat) (hi : i < cols.length) (hit : i < times.length) (ht : 0 ≤ rd times (i : Int) ∧ rd times (i : Int) < p) (hc : (cols[i]).length = rows ∧ Bd p cols[i]) (o : List Int) (ho : o.length = rows ∧ Bd p o) (r : List Int)
    (hnext : Ev (fun k => greenwoodref05_Sum.l0 k p rows cols times (List.zipWith (adm p (rd times (i : Int))) o cols[i]) ((i + 1 : Nat) : Int)) r) : ∀ (d j : Nat), rows - j = d → j ≤ rows →
    Ev (fun k => greenwoodref05_Sum.l1 k p rows cols times (stg (adm p (rd times (i : Int))) o cols[i] j) (i : Int) (j : Int)) r := by
  have hlen : (cols[i]).length = o.length := by rw [hc.1, ho.1]
  intro d
  induction d with
  | zero =>
    intro j h1 h2
    refine Ev.step (fun k => by rw [greenwoodref05_Sum.l1]) ?_
    refine Ev.ifn (by omega) ?_
    rw [w1 hi (by omega), show j = o.length by omega, stg_all hlen]
    exact hnext
  | succ d ih =>
    intro j h1 h2
    have hj : j < o.length := by omega
    have hsl := stg_len (f := adm p (rd times (i : Int))) hlen j (by omega)
    refine Ev.step (fun k => by rw [greenwoodref05_Sum.l1]) ?_
    rw [rdL_at hi]
    refine Ev.ifp (by omega) (Ev.ifp (by omega) (Ev.ifp (by omega) (Ev.ifp (by omega) (Ev.ifp (by omega) (Ev.ifp (by omega) (Ev.ifp (by omega) (Ev.ifn (by have := hp.1; omega) ?_)))))))
    have e1 := stg_rd (f := adm p (rd times (i : Int))) hlen j hj
    have hb1 := ho.2.at_ (i := (j : Int)) (by omega) (by omega)
    have hb2 := hc.2.at_ (i := (j : Int)) (by omega) (by omega)
    have hm := mul_small hp hb2 ht
    have hp2 := hp.2
    rw [e1, wrap_id (a := rd cols[i] (j : Int) * rd times (i : Int)) (by omega) (by omega), wrap_id (by omega) (by omega), Int.tmod_eq_emod_of_nonneg (by omega)]
    have e2 := stg_set (f := adm p (rd times (i : Int))) hlen j hj
    rw [Int.toNat_natCast]
    rw [show (rd o (j : Int) + rd cols[i] (j : Int) * rd times (i : Int)) % p = adm p (rd times (i : Int)) (rd o (j : Int)) (rd cols[i] (j : Int)) from rfl, e2, w1 (n := rows) (by omega) (by omega)]
    exact ih (j + 1) (by omega) (by omega)
theorem sum_l0 (p : Int) (hp : okP p) (rows : Nat) (hr : rows ≤ 64) (cols : List (List Int)) (hn : cols.length ≤ 64) (times : List Int) (ht : ∀ i : Nat, i < times.length → i < cols.length → 0 ≤ rd times (i : Int) ∧ rd times (i : Int) < p) (hc : ∀ c ∈ cols, c.length = rows ∧ Bd p c) : ∀ (d i : Nat), min cols.length times.length - i = d → i ≤ min cols.length times.length →
    Ev (fun k => greenwoodref05_Sum.l0 k p rows cols times (sumN p rows cols times i) (i : Int)) (sumN p rows cols times (min cols.length times.length)) := by
  intro d
  induction d with
  | zero =>
    intro i h1 h2
    have e : i = min cols.length times.length := by omega
    refine Ev.step (fun k => by rw [greenwoodref05_Sum.l0]) ?_
    have hj : Ev (fun k => greenwoodref05_Sum.j1 k p rows cols times (sumN p rows cols times i) (i : Int) false) (sumN p rows cols times (min cols.length times.length)) := by
      refine Ev.step (fun k => by rw [greenwoodref05_Sum.j1]) (Ev.ifn (by decide) (Ev.val ?_))
      rw [e]
    by_cases h3 : (i : Int) < cols.length
    · refine Ev.ifp h3 ?_
      rw [decide_eq_false (by omega)]
      exact hj
    · exact Ev.ifn h3 hj
  | succ d ih =>
    intro i h1 h2
    have hi : i < cols.length := by omega
    have hit : i < times.length := by omega
    refine Ev.step (fun k => by rw [greenwoodref05_Sum.l0]) ?_
    refine Ev.ifp (by omega) ?_
    rw [decide_eq_true (by omega)]
    refine Ev.step (fun k => by rw [greenwoodref05_Sum.j1]) (Ev.ifp rfl ?_)
    have h3 := ih (i + 1) (by omega) (by omega)
    simp only [sumN] at h3
    rw [getD_at hi] at h3
    have h4 := sum_l1 p hp rows hr cols hn times i hi hit (ht i hit hi) (hc _ (List.getElem_mem hi)) (sumN p rows cols times i) (sumN_ok hp hc times i (by omega)) _ h3 rows 0 (by omega) (by omega)
    rw [stg_zero] at h4
    exact h4
theorem sum_ev {p : Int} {rows : Int} {cols : List (List Int)} (h : mayB p rows cols = true) (times : List Int) (ht : ∀ i : Nat, i < times.length → i < cols.length → 0 ≤ rd times (i : Int) ∧ rd times (i : Int) < p) :
    Ev (fun k => greenwoodref05_Sum.f k p rows cols times) (sumN p rows.toNat cols times (min cols.length times.length)) := by
  obtain ⟨hP, h0, h64, hn, hcs⟩ := mayB_true h
  unfold greenwoodref05_Sum.f
  refine Ev.ifp h0 (Ev.ifp (by omega) ?_)
  have := sum_l0 p (isP_ok hP) rows.toNat (by omega) cols hn times ht hcs _ 0 rfl (Nat.zero_le _)
  rw [show ((rows.toNat : Nat) : Int) = rows by omega] at this
  exact this
section
variable {P : Nat} [NeZero P]
theorem vec_adm (t : Int) {c x : List Int} (h : x.length = c.length) : (vec (List.zipWith (adm P t) c x) : V P) = LinA.add (vec c) (smul (cz t) (vec x)) := by
  funext i
  simp only [LinA.add, smul, vec]
  have hz : rd (List.zipWith (adm P t) c x) (i : Int) = if i < c.length then adm P t (rd c (i : Int)) (rd x (i : Int)) else 0 := by
    rw [rd_nat, rd_nat, rd_nat]
    rw [List.getElem?_zipWith]
    by_cases hi : i < c.length
    · rw [if_pos hi, List.getElem?_eq_getElem hi, List.getElem?_eq_getElem (by omega)]; rfl
    · rw [if_neg hi, List.getElem?_eq_none (by omega)]; rfl
  rw [hz]
  by_cases hi : i < c.length
  · rw [if_pos hi]
    unfold adm
    rw [cz_mod, cz_add, cz_mul]; grind
  · rw [if_neg hi, rd_nat, rd_nat, List.getElem?_eq_none (by omega), List.getElem?_eq_none (by omega)]
    simp only [Option.getD_none, cz_0]; grind
def cv (P : Nat) [NeZero P] (cols : List (List Int)) (i : Nat) : V P := vec (cols.getD i [])
theorem vec_sumN (hp : okP (P : Int)) {rows : Nat} {cols : List (List Int)} (hc : ∀ c ∈ cols, c.length = rows ∧ Bd (P : Int) c) (times : List Int) : ∀ i, i ≤ cols.length → (vec (sumN P rows cols times i) : V P) = lc (cv P cols) (rd times) i := by
  intro i
  induction i with
  | zero =>
    intro _
    funext i
    simp only [sumN, lc, zv, vec]
    rw [rd_nat, List.getElem?_replicate]
    split <;> exact cz_0
  | succ i ih =>
    intro h
    have h1 := (sumN_ok hp hc times i (by omega)).1
    have h3 := (hc cols[i] (List.getElem_mem (by omega))).1
    simp only [sumN, lc]
    rw [vec_adm _ (by rw [getD_at (by omega), h3, h1]), ih (by omega)]; rfl
theorem lc_congr (C : Nat → V P) {t t' : Int → Int} : ∀ n : Nat, (∀ i : Nat, i < n → t (i : Int) = t' (i : Int)) → lc C t n = lc C t' n := by
  intro n
  induction n with
  | zero => intro _; rfl
  | succ n ih => intro h; simp only [lc]; rw [ih (fun i hi => h i (by omega)), h n (by omega)]
theorem va0 (l : V P) : LinA.add zv l = l := by funext i; simp only [LinA.add, zv]; grind
theorem combo_ev {rows : Int} {cols : List (List Int)} {goal : List Int} (h : mayB P rows cols = true) (hg : mayB P rows [goal] = true) : ∃ (c : List Int) (ok : Bool), Ev (fun k => elim_Combo.f k P rows cols goal) (c, ok) ∧ (ok = true ↔ Sp (cols.map vec) (vec goal : V P)) ∧ (ok = false → c = []) ∧
    (ok = true → c.length = cols.length ∧ (∀ i : Nat, i < cols.length → 0 ≤ rd c (i : Int) ∧ rd c (i : Int) < P) ∧ (∀ i : Nat, i < cols.length → (i : Int) ∉ basN P cols → rd c (i : Int) = 0) ∧ (vec goal : V P) = lc (cv P cols) (rd c) cols.length) := by
  obtain ⟨hP, h0, h64, hn, hcs⟩ := mayB_true h
  obtain ⟨hgl, hgb⟩ := (mayB_true hg).2.2.2.2 goal (by simp)
  obtain ⟨hcl, hbs⟩ := climb_all hP cols hcs
  have htells := hcl.tells hgl
  have hcomb := hcl.comb hgl
  have hzer := fun y => hcl.zeros goal (y := y)
  obtain ⟨hrl, hrb, hrf⟩ := red_good (isP_ok hP) hcl.good hgl hgb
  rw [vec_zero hrb] at htells
  have hev : Ev (fun k => elim_Combo.f k P rows cols goal) (comboR P (climbS P cols 0 ([], [])).1 cols.length goal) := by
    unfold elim_Combo.f
    have h1 := may_ev (P : Int) rows cols
    have h2 := may_ev (P : Int) rows [goal]
    rw [h] at h1
    rw [hg] at h2
    exact Ev.bind h1 (Ev.ifp rfl (Ev.bind h2 (Ev.ifp rfl (Ev.now _))))
  unfold comboR at hev
  rw [hbs] at hzer
  generalize reduce (P : Int) (climbS P cols 0 ([], [])).1 goal = rr at *
  cases ha : rr.1.any nz with
  | true =>
    rw [ha, if_pos rfl] at hev
    exact ⟨[], false, hev, ⟨(fun h => by cases h), fun hs => absurd (htells.2 hs) (by rw [ha]; decide)⟩, fun _ => rfl, fun h => by cases h⟩
  | false =>
    rw [ha, if_neg (by decide)] at hev
    have hrd : ∀ i : Nat, i < cols.length → rd ((List.range cols.length).map (fun i : Nat => rr.2 (i : Int))) (i : Int) = rr.2 (i : Int) := by
      intro i hi
      rw [rd_nat, List.getElem?_map, List.getElem?_range hi]; rfl
    refine ⟨_, true, hev, ⟨fun _ => htells.1 ha, fun _ => rfl⟩, (fun h => by cases h), fun _ => ⟨by simp, fun i hi => ?_, fun i hi hni => ?_, ?_⟩⟩
    · rw [hrd i hi]; exact hrf _
    · rw [hrd i hi]; exact hzer _ hni
    · have hz := (vec_zero (P := P) hrb).2 ha
      rw [hcomb, hz, lc_congr (cv P cols) (t := rd _) (t' := rr.2) cols.length hrd]
      exact va0 _
/-- what is told comes to the goal -/
theorem sum_back {rows : Int} {cols : List (List Int)} {goal c : List Int} (h : mayB P rows cols = true) (hg : mayB P rows [goal] = true) (hl : c.length = cols.length) (hb : ∀ i : Nat, i < cols.length → 0 ≤ rd c (i : Int) ∧ rd c (i : Int) < P) (hv : (vec goal : V P) = lc (cv P cols) (rd c) cols.length) :
    Ev (fun k => greenwoodref05_Sum.f k P rows cols c) goal := by
  obtain ⟨hP, h0, h64, hn, hcs⟩ := mayB_true h
  obtain ⟨hgl, hgb⟩ := (mayB_true hg).2.2.2.2 goal (by simp)
  have h1 := sum_ev h c (fun i _ hi => hb i hi)
  rw [hl, Nat.min_self] at h1
  obtain ⟨h2, h3⟩ := sumN_ok (isP_ok hP) hcs c cols.length (Nat.le_refl _)
  have h4 := vec_sumN (isP_ok hP) hcs c cols.length (Nat.le_refl _)
  rw [vec_inj h3 hgb (by rw [h2, hgl]) (h4.trans hv.symm)] at h1
  exact h1
end
end Go.Proofs.Ytepakefmioeilaa.P
-- written by wip/tool/ownprint.py of this claim's own repository, out of the translation's print
namespace Go.Proofs.Ytepakefmioeilaa.P
open Go.RowKit Go.Proofs.YtepakefmioeilaaW.PrintWords Go.Proofs.YtepakefmioeilaaW.PrintLast Go.Proofs.YtepakefmioeilaaW.PrintMore
attribute [local go_sem] max2_int min2_int max_two min_two max_three min_three max_four min_four   -- for this text's walks alone
set_option linter.unusedVariables false
set_option linter.unusedSimpArgs false

/-! ### greenwoodlaw05_ElimCombines: function 4 -/
mutual
def greenwoodlaw05_ElimCombines.j0 : Nat → Int → List (List Int) → List Int → Int → Bool → Option (Bool)
  | 0, _, _, _, _, _ => none
  | k + 1, x0, x1, x2, x7, x38 => if x38 = true then ((greenwoodlaw05_fixed.f k).bind fun t230 => (some t230)) else ((elim_Combo.f k x0 x7 x1 x2).bind fun bt231 => ((some (([] : List (List Int)) : List (List Int))).bind fun y235 => (if y235.length + x1.length < 5864062014805 then ((some (y235 ++ x1 : List (List Int))).bind fun y238 => (if y238.length < 5864062014805 then ((greenwoodref05_Rank.f k x0 x7 (y238 ++ [x2])).bind fun t244 => ((greenwoodref05_Rank.f k x0 x7 x1).bind fun t245 => (if (bt231.2 != (t244 == t245)) = true then (some false) else (if bt231.2 = true then ((elim_Basis.f k x0 x7 x1).bind fun t246 => (greenwoodlaw05_ElimCombines.l0 k x0 x1 x2 x7 bt231.1 t246 0 0)) else (some ((bt231.1.length : Int) == 0)))))) else (none))) else (none))))
def greenwoodlaw05_ElimCombines.l0 : Nat → Int → List (List Int) → List Int → Int → List Int → List Int → Int → Int → Option (Bool)
  | 0, _, _, _, _, _, _, _, _ => none
  | k + 1, x0, x1, x2, x7, x8, x11, x12, x13 => if x13 < (x8.length : Int) then (if x12 < (x11.length : Int) then (if 0 ≤ x12 then (greenwoodlaw05_ElimCombines.j2 k x0 x1 x2 x7 x8 x11 x12 x13 ((rd x11 x12) == x13)) else (none)) else (greenwoodlaw05_ElimCombines.j2 k x0 x1 x2 x7 x8 x11 x12 x13 false)) else (if (x8.length : Int) = (x1.length : Int) then (if x12 = (x11.length : Int) then ((greenwoodref05_Sum.f k x0 x7 x1 x8).bind fun t249 => ((greenwoodref01_Same.f k t249 x2).bind fun t252 => (some t252))) else (some false)) else (some false))
def greenwoodlaw05_ElimCombines.j2 : Nat → Int → List (List Int) → List Int → Int → List Int → List Int → Int → Int → Bool → Option (Bool)
  | 0, _, _, _, _, _, _, _, _, _ => none
  | k + 1, x0, x1, x2, x7, x8, x11, x12, x13, x91 => if x91 = true then (if 0 ≤ x13 then (if x13 < (x8.length : Int) then (if (rd x8 x13) < 0 then (some false) else (if (rd x8 x13) ≥ x0 then (some false) else (greenwoodlaw05_ElimCombines.l0 k x0 x1 x2 x7 x8 x11 (wrap64 (x12 + 1)) (wrap64 (x13 + 1))))) else (none)) else (none)) else (if 0 ≤ x13 then (if x13 < (x8.length : Int) then (if (rd x8 x13) = 0 then (if (rd x8 x13) < 0 then (some false) else (if (rd x8 x13) ≥ x0 then (some false) else (greenwoodlaw05_ElimCombines.l0 k x0 x1 x2 x7 x8 x11 x12 (wrap64 (x13 + 1))))) else (some false)) else (none)) else (none))
end
def greenwoodlaw05_ElimCombines.f (k : Nat) (a0 : Int) (l1 : List (List Int)) (l2 : List Int) : Option (Bool) := (greenwoodlaw05_fixed.f k).bind fun t219 => (if t219 = true then (if (l2.length : Int) > 20 then (greenwoodlaw05_ElimCombines.j0 k a0 l1 l2 (l2.length : Int) true) else (if (l1.length : Int) > 20 then (greenwoodlaw05_ElimCombines.j0 k a0 l1 l2 (l2.length : Int) true) else ((some (([] : List (List Int)) : List (List Int))).bind fun y220 => (if y220.length + l1.length < 5864062014805 then ((some (y220 ++ l1 : List (List Int))).bind fun y223 => (if y223.length < 5864062014805 then ((greenwoodref05_May.f k a0 (l2.length : Int) (y223 ++ [l2])).bind fun t229 => (greenwoodlaw05_ElimCombines.j0 k a0 l1 l2 (l2.length : Int) (!t229))) else (none))) else (none))))) else (greenwoodlaw05_ElimCombines.j0 k a0 l1 l2 (l2.length : Int) true))
set_option maxHeartbeats 8000000 in
set_option maxRecDepth 100000 in
theorem greenwoodlaw05_ElimCombines.callsT (k : Nat) (a0 : Int) (P1_ : Nat → Prop) (A1 : Option Addr) (c1 : Nat) (l1 : List (List Int)) (P2_ : Nat → Prop) (A2 : Option Addr) (c2 : Nat) (l2 : List Int) (r : Bool) (w : World) (hs1 : Kd.V (Kd.slice 3 (Kd.int .i64)) 26 w w.heap.size (fun k_ => P1_ k_) (.slice A1 l1.length c1) l1) (hs2 : Kd.V (Kd.int .i64) 3 w w.heap.size (fun k_ => P2_ k_) (.slice A2 l2.length c2) l2) (hrT : r = true) (h : greenwoodlaw05_ElimCombines.f k a0 l1 l2 = some r) :
    Calls Try.prog 4 #[.int .i64 a0, .slice A1 l1.length c1, .slice A2 l2.length c2] w fun e w' => e = .returned (.bool r) ∧ Below w.heap.size w w' := by
  have HO1 := Aside0.mk (show Kd.V (Kd.slice 3 (Kd.int .i64)) 26 w w.heap.size (fun k_ => ((P1_ k_ ∨ P2_ k_) ∨ w.heap.size ≤ k_)) (.slice A1 l1.length c1) l1 from Kd.V_mono hs1 (fun k_ hk => .inl (.inl hk)))
  have HO2 := Aside0.mk (show Kd.V (Kd.int .i64) 3 w w.heap.size (fun k_ => ((P1_ k_ ∨ P2_ k_) ∨ w.heap.size ≤ k_)) (.slice A2 l2.length c2) l2 from Kd.V_mono hs2 (fun k_ hk => .inl (.inr hk)))
  have HB := Aside0.mk (Below.refl w.heap.size w)
  have H : ((greenwoodlaw05_fixed.f k).bind fun t219 => (if t219 = true then (if (l2.length : Int) > 20 then (greenwoodlaw05_ElimCombines.j0 k a0 l1 l2 (l2.length : Int) true) else (if (l1.length : Int) > 20 then (greenwoodlaw05_ElimCombines.j0 k a0 l1 l2 (l2.length : Int) true) else ((some (([] : List (List Int)) : List (List Int))).bind fun y220 => (if y220.length + l1.length < 5864062014805 then ((some (y220 ++ l1 : List (List Int))).bind fun y223 => (if y223.length < 5864062014805 then ((greenwoodref05_May.f k a0 (l2.length : Int) (y223 ++ [l2])).bind fun t229 => (greenwoodlaw05_ElimCombines.j0 k a0 l1 l2 (l2.length : Int) (!t229))) else (none))) else (none))))) else (greenwoodlaw05_ElimCombines.j0 k a0 l1 l2 (l2.length : Int) true))) = some r := h
  clear h
  have HC4 := Aside0.mk H
  clear H
  go_enter Try.func4, Try.ntmps4
  go_upto_region 2 with (fail)
  go_cut [38] (fun v38 wc => ∃ (kq : Nat) (x38_3 : Bool), v38 = .bool x38_3 ∧ Aside0 (greenwoodlaw05_ElimCombines.j0 kq a0 l1 l2 (l2.length : Int) x38_3 = some r) ∧ Aside0 (kq ≤ k) ∧ Aside0 (Kd.V (Kd.slice 3 (Kd.int .i64)) 26 wc w.heap.size (fun k_ => ((P1_ k_ ∨ P2_ k_) ∨ w.heap.size ≤ k_)) (.slice A1 l1.length c1) l1) ∧ Aside0 (Kd.V (Kd.int .i64) 3 wc w.heap.size (fun k_ => ((P1_ k_ ∨ P2_ k_) ∨ w.heap.size ≤ k_)) (.slice A2 l2.length c2) l2) ∧ Aside0 (Below w.heap.size w wc))
  case first =>
    have H := HC4.out
    clear HC4
    replace H := Option.bind_eq_some_iff.mp H
    obtain ⟨t219, A50, H⟩ := H
    replace H : (if t219 = true then (if (l2.length : Int) > 20 then (greenwoodlaw05_ElimCombines.j0 k a0 l1 l2 (l2.length : Int) true) else (if (l1.length : Int) > 20 then (greenwoodlaw05_ElimCombines.j0 k a0 l1 l2 (l2.length : Int) true) else ((some (([] : List (List Int)) : List (List Int))).bind fun y220 => (if y220.length + l1.length < 5864062014805 then ((some (y220 ++ l1 : List (List Int))).bind fun y223 => (if y223.length < 5864062014805 then ((greenwoodref05_May.f k a0 (l2.length : Int) (y223 ++ [l2])).bind fun t229 => (greenwoodlaw05_ElimCombines.j0 k a0 l1 l2 (l2.length : Int) (!t229))) else (none))) else (none))))) else (greenwoodlaw05_ElimCombines.j0 k a0 l1 l2 (l2.length : Int) true)) = some r := H
    have A5 := Aside0.mk A50
    clear A50
    by_cases c6 : t219 = true
    · subst c6
      have H1 : (if (l2.length : Int) > 20 then (greenwoodlaw05_ElimCombines.j0 k a0 l1 l2 (l2.length : Int) true) else (if (l1.length : Int) > 20 then (greenwoodlaw05_ElimCombines.j0 k a0 l1 l2 (l2.length : Int) true) else ((some (([] : List (List Int)) : List (List Int))).bind fun y220 => (if y220.length + l1.length < 5864062014805 then ((some (y220 ++ l1 : List (List Int))).bind fun y223 => (if y223.length < 5864062014805 then ((greenwoodref05_May.f k a0 (l2.length : Int) (y223 ++ [l2])).bind fun t229 => (greenwoodlaw05_ElimCombines.j0 k a0 l1 l2 (l2.length : Int) (!t229))) else (none))) else (none))))) = some r := by rw [if_pos rfl] at H; exact H
      clear H
      have H := H1
      clear H1
      by_cases c7 : (l2.length : Int) > 20
      · rw [if_pos c7] at H
        have c7b0 : decide (20 < (l2.length : Int)) = true := decide_eq_true c7
        have c7b1 : decide (20 < l2.length) = true := decide_eq_true (by omega)
        clear c7
        (first | rw [c7b0] | (simp only [i64_w, i32_w]; rw [c7b0]) | skip)
        have H' := Aside0.mk H
        clear H
        go_wp2_with (first | ((with_reducible refine gate_callee (f := 8) rfl ?_); refine goesL_ (some 16) rfl rfl Try.func8 (by kernel_rfl) rfl #[] rfl (by (try simp only [List.map_toArray, List.map_cons, List.map_nil]); first | done | rfl | (simp only [List.length_drop, List.length_take]; rfl)) ?_; (with_reducible refine (greenwoodlaw05_fixed.calls k  true _ A5.out).mono ?_); rintro e w8 ⟨rfl, hb⟩; refine ⟨_, rfl, ?_⟩; have n0_ := Aside0.mk (Kd.V_below (by (with_reducible repeat (first | apply Kd.V_alloc | apply Kd.V_drewN | apply Kd.V_drew)); exact HO1.out) hb); have n1_ := Aside0.mk (Kd.V_below (by (with_reducible repeat (first | apply Kd.V_alloc | apply Kd.V_drewN | apply Kd.V_drew)); exact HO2.out) hb); have n2_ := Aside0.mk (below_step (by repeat (first | (with_reducible first | exact HB.out | apply below_alloc | apply pw_below_drewN | apply below_drew1) | exact HB.out)) hb); clear HO1; clear HO2; clear HB; have HO1 := n0_; have HO2 := n1_; have HB := n2_; clear n0_ n1_ n2_; (try clear hb); (try clear hb2); (try clear hk); (try clear hi)))
        go_meet
        case rel => exact ⟨_, (true), (by first | rfl | (simp; done) | (simp [*]; done)), H', ⟨by first | omega | exact Nat.le_refl _⟩, ⟨by (with_reducible repeat (first | apply Kd.V_alloc | apply Kd.V_drewN | apply Kd.V_drew)); exact HO1.out⟩, ⟨by (with_reducible repeat (first | apply Kd.V_alloc | apply Kd.V_drewN | apply Kd.V_drew)); exact HO2.out⟩, ⟨by repeat (first | (with_reducible first | exact HB.out | apply below_alloc | apply pw_below_drewN | apply below_drew1) | exact HB.out)⟩⟩
      · rw [if_neg c7] at H
        have c7b0 : decide (20 < (l2.length : Int)) = false := decide_eq_false c7
        have c7b1 : decide (20 < l2.length) = false := decide_eq_false (by omega)
        clear c7
        (first | rw [c7b0] | (simp only [i64_w, i32_w]; rw [c7b0]) | skip)
        by_cases c9 : (l1.length : Int) > 20
        · rw [if_pos c9] at H
          have c9b0 : decide (20 < (l1.length : Int)) = true := decide_eq_true c9
          have c9b1 : decide (20 < l1.length) = true := decide_eq_true (by omega)
          clear c9
          have H' := Aside0.mk H
          clear H
          go_wp2_with (first | ((with_reducible refine gate_callee (f := 8) rfl ?_); refine goesL_ (some 16) rfl rfl Try.func8 (by kernel_rfl) rfl #[] rfl (by (try simp only [List.map_toArray, List.map_cons, List.map_nil]); first | done | rfl | (simp only [List.length_drop, List.length_take]; rfl)) ?_; (with_reducible refine (greenwoodlaw05_fixed.calls k  true _ A5.out).mono ?_); rintro e w10 ⟨rfl, hb⟩; refine ⟨_, rfl, ?_⟩; have n0_ := Aside0.mk (Kd.V_below (by (with_reducible repeat (first | apply Kd.V_alloc | apply Kd.V_drewN | apply Kd.V_drew)); exact HO1.out) hb); have n1_ := Aside0.mk (Kd.V_below (by (with_reducible repeat (first | apply Kd.V_alloc | apply Kd.V_drewN | apply Kd.V_drew)); exact HO2.out) hb); have n2_ := Aside0.mk (below_step (by repeat (first | (with_reducible first | exact HB.out | apply below_alloc | apply pw_below_drewN | apply below_drew1) | exact HB.out)) hb); clear HO1; clear HO2; clear HB; have HO1 := n0_; have HO2 := n1_; have HB := n2_; clear n0_ n1_ n2_; (try clear hb); (try clear hb2); (try clear hk); (try clear hi)))
          go_meet
          case rel => exact ⟨_, (true), (by first | rfl | (simp; done) | (simp [*]; done)), H', ⟨by first | omega | exact Nat.le_refl _⟩, ⟨by (with_reducible repeat (first | apply Kd.V_alloc | apply Kd.V_drewN | apply Kd.V_drew)); exact HO1.out⟩, ⟨by (with_reducible repeat (first | apply Kd.V_alloc | apply Kd.V_drewN | apply Kd.V_drew)); exact HO2.out⟩, ⟨by repeat (first | (with_reducible first | exact HB.out | apply below_alloc | apply pw_below_drewN | apply below_drew1) | exact HB.out)⟩⟩
        · rw [if_neg c9] at H
          have c9b0 : decide (20 < (l1.length : Int)) = false := decide_eq_false c9
          have c9b1 : decide (20 < l1.length) = false := decide_eq_false (by omega)
          clear c9
          obtain ⟨y220, hy220⟩ : ∃ y_ : List (List Int), y_ = (([] : List (List Int))) := ⟨_, rfl⟩
          replace H : (if y220.length + l1.length < 5864062014805 then ((some (y220 ++ l1 : List (List Int))).bind fun y223 => (if y223.length < 5864062014805 then ((greenwoodref05_May.f k a0 (l2.length : Int) (y223 ++ [l2])).bind fun t229 => (greenwoodlaw05_ElimCombines.j0 k a0 l1 l2 (l2.length : Int) (!t229))) else (none))) else (none)) = some r := by first | (rw [hy220]; with_reducible exact H) | (have H2_ := (Option.bind_some _ _).symm.trans H; rw [hy220]; with_reducible exact H2_) | (have H2_ := (Option.bind_some _ _).symm.trans H; with_reducible exact H2_) | with_reducible exact H | (rw [hy220]; exact H) | exact H
          have Ny220 := Aside0.mk hy220
          clear hy220
          by_cases c11 : y220.length + l1.length < 5864062014805
          · rw [if_pos c11] at H
            have LMc11 := Aside0.mk c11
            clear c11
            obtain ⟨y223, hy223⟩ : ∃ y_ : List (List Int), y_ = (y220 ++ l1) := ⟨_, rfl⟩
            replace H : (if y223.length < 5864062014805 then ((greenwoodref05_May.f k a0 (l2.length : Int) (y223 ++ [l2])).bind fun t229 => (greenwoodlaw05_ElimCombines.j0 k a0 l1 l2 (l2.length : Int) (!t229))) else (none)) = some r := by first | (rw [hy223]; with_reducible exact H) | (have H2_ := (Option.bind_some _ _).symm.trans H; rw [hy223]; with_reducible exact H2_) | (have H2_ := (Option.bind_some _ _).symm.trans H; with_reducible exact H2_) | with_reducible exact H | (rw [hy223]; exact H) | exact H
            have Ny223 := Aside0.mk hy223
            clear hy223
            by_cases c12 : y223.length < 5864062014805
            · rw [if_pos c12] at H
              have LMc12 := Aside0.mk c12
              clear c12
              obtain ⟨y226, hy226⟩ : ∃ y_ : List (List Int), y_ = (y223 ++ [l2]) := ⟨_, rfl⟩
              replace H : ((greenwoodref05_May.f k a0 (l2.length : Int) y226).bind fun t229 => (greenwoodlaw05_ElimCombines.j0 k a0 l1 l2 (l2.length : Int) (!t229))) = some r := by first | (rw [hy226]; with_reducible exact H) | (have H2_ := (Option.bind_some _ _).symm.trans H; rw [hy226]; with_reducible exact H2_) | (have H2_ := (Option.bind_some _ _).symm.trans H; with_reducible exact H2_) | with_reducible exact H | (rw [hy226]; exact H) | exact H
              have Ny226 := Aside0.mk hy226
              clear hy226
              replace H := Option.bind_eq_some_iff.mp H
              obtain ⟨t229, A130, H⟩ := H
              replace H : (greenwoodlaw05_ElimCombines.j0 k a0 l1 l2 (l2.length : Int) (!t229)) = some r := H
              have A13 := Aside0.mk A130
              clear A130
              have H' := Aside0.mk H
              clear H
              go_wp2_with (first | ((with_reducible refine gate_callee (f := 8) rfl ?_); refine goesL_ (some 16) rfl rfl Try.func8 (by kernel_rfl) rfl #[] rfl (by (try simp only [List.map_toArray, List.map_cons, List.map_nil]); first | done | rfl | (simp only [List.length_drop, List.length_take]; rfl)) ?_; (with_reducible refine (greenwoodlaw05_fixed.calls k  true _ A5.out).mono ?_); rintro e w14 ⟨rfl, hb⟩; refine ⟨_, rfl, ?_⟩; have n0_ := Aside0.mk (Kd.V_below (by (with_reducible repeat (first | apply Kd.V_alloc | apply Kd.V_drewN | apply Kd.V_drew)); exact HO1.out) hb); have n1_ := Aside0.mk (Kd.V_below (by (with_reducible repeat (first | apply Kd.V_alloc | apply Kd.V_drewN | apply Kd.V_drew)); exact HO2.out) hb); have n2_ := Aside0.mk (below_step (by repeat (first | (with_reducible first | exact HB.out | apply below_alloc | apply pw_below_drewN | apply below_drew1) | exact HB.out)) hb); clear HO1; clear HO2; clear HB; have HO1 := n0_; have HO2 := n1_; have HB := n2_; clear n0_ n1_ n2_; (try clear hb); (try clear hb2); (try clear hk); (try clear hi)) | ((with_reducible refine gate_dst (N := 30) rfl ?_); (try (refine gate_guard (by rfl) ?_; dsimp only)); refine Kd.N_lit (Kd.slice 3 (Kd.int .i64)) _ 26 ?hg (N' := 30) ?hd (xs := ([] : List (List Int))) (inner := []) (ok := (fun k_ => ((P1_ k_ ∨ P2_ k_) ∨ w.heap.size ≤ k_))) (okp := (fun k_ => ((P1_ k_ ∨ P2_ k_) ∨ w.heap.size ≤ k_))) ?hr ?hp (fun _ hk => hk) ((show ∀ k_, w14.heap.size ≤ k_ → (fun k_ => ((P1_ k_ ∨ P2_ k_) ∨ w.heap.size ≤ k_)) k_ from fun k_ hk => (.inr (Nat.le_trans (below_size (by repeat (first | (with_reducible first | exact HB.out | apply below_alloc | apply pw_below_drewN | apply below_drew1) | exact HB.out))) hk))) _ (Nat.le_refl _)) (Below.refl _ _) (Nat.le_refl _) (by simp) ?_; (case hd => rfl); (case hg => rfl); (case hr => first | (go_simp; done) | (go_simp; rfl)); (case hp => exact (Reps.none _ _)); intro v221 w15 ho16 hb hg_ hnew_; clear hg_ hnew_; (first | rw [← Ny220.out] at ho16 | (simp only [Int.reduceToNat] at ho16; rw [← Ny220.out] at ho16)); have n0_ := Aside0.mk (Kd.V_elder' (by (with_reducible repeat (first | apply Kd.V_alloc | apply Kd.V_drewN | apply Kd.V_drew)); exact HO1.out) (Kd.N_base ho16) hb); have n1_ := Aside0.mk (Kd.V_elder' (by (with_reducible repeat (first | apply Kd.V_alloc | apply Kd.V_drewN | apply Kd.V_drew)); exact HO2.out) (Kd.N_base ho16) hb); have n2_ := Aside0.mk (Kd.N_lower ho16 (below_size (by repeat (first | (with_reducible first | exact HB.out | apply below_alloc | apply pw_below_drewN | apply below_drew1) | exact HB.out)))); have n3_ := Aside0.mk (below_step (by repeat (first | (with_reducible first | exact HB.out | apply below_alloc | apply pw_below_drewN | apply below_drew1) | exact HB.out)) hb); clear HO1; clear HO2; clear HB; have HO1 := n0_; have HO2 := n1_; have HO222 := n2_; have HB := n3_; clear n0_ n1_ n2_ n3_; clear hb ho16) | ((with_reducible refine gate_builtin (b := .append) (xs := #[.tmp 30, .tmp 31]) rfl ?_); (try (refine gate_guard (by rfl) ?_; dsimp only)); at_builtin; refine Kd.N_append_rows (Kd.slice 3 (Kd.int .i64)) (w0 := w) w.heap.size rfl (.tmp 30) (.tmp 31) 22 26 (.slice none 0 0) 24 rfl Try.underlying22 info26 rfl (by decide) (by omega) v221 y220 l1 _ _ _ (fun k_ => ((P1_ k_ ∨ P2_ k_) ∨ w.heap.size ≤ k_)) (fun k_ => ((fun k_ => ((P1_ k_ ∨ P2_ k_) ∨ w.heap.size ≤ k_))) k_ ∧ some k_ ≠ (v221 : Value).ownBlock) rfl rfl ?aO ?aR (fun _ hk => hk) ?aF ?aB ?aS ?aL ?_; (case aR => exact (by skip; exact Kd.V_F (Kd.V_mono (ok' := (fun k_ => ((fun k_ => ((P1_ k_ ∨ P2_ k_) ∨ w.heap.size ≤ k_))) k_ ∧ some k_ ≠ (v221 : Value).ownBlock)) (HO1.out) (fun k_ hk => ⟨hk.1, hk.2⟩)))); (case aB => exact (by repeat (first | (with_reducible first | exact HB.out | apply below_alloc | apply pw_below_drewN | apply below_drew1) | exact HB.out))); (case aF => exact (fun k_ hk => (.inr (Nat.le_trans (below_size (by repeat (first | (with_reducible first | exact HB.out | apply below_alloc | apply pw_below_drewN | apply below_drew1) | exact HB.out))) hk)))); (case aO => exact (by (with_reducible repeat (first | apply Kd.N_alloc | apply Kd.N_drewN | apply Kd.N_drew)); exact HO222.out)); (case aS => exact (below_size (by repeat (first | (with_reducible first | exact HB.out | apply below_alloc | apply pw_below_drewN | apply below_drew1) | exact HB.out)))); (case aL => have := LMc11.out; omega); intro v224 w17 ho hb hg hat; rw [← Ny223.out] at ho; have n0_ := Aside0.mk (Kd.V_afterv (ok := (fun k_ => ((P1_ k_ ∨ P2_ k_) ∨ w.heap.size ≤ k_))) (by (with_reducible repeat (first | apply Kd.V_alloc | apply Kd.V_drewN | apply Kd.V_drew)); exact HO1.out) hg hat); have n1_ := Aside0.mk (Kd.V_afterv (ok := (fun k_ => ((P1_ k_ ∨ P2_ k_) ∨ w.heap.size ≤ k_))) (by (with_reducible repeat (first | apply Kd.V_alloc | apply Kd.V_drewN | apply Kd.V_drew)); exact HO2.out) hg hat); have n2_ := Aside0.mk (hb); have n3_ := Aside0.mk (ho); clear HO1; clear HO2; clear HB; clear HO222; have HO1 := n0_; have HO2 := n1_; have HB := n2_; have HO225 := n3_; clear n0_ n1_ n2_ n3_; clear ho hb hg hat) | ((with_reducible refine gate_builtin (b := .append) (xs := #[.tmp 32, .tmp 34]) rfl ?_); (try (refine gate_guard (by rfl) ?_; dsimp only)); at_builtin; refine Kd.N_append (Kd.slice 3 (Kd.int .i64)) (w0 := w) w.heap.size rfl (.tmp 32) (.tmp 34) 22 26 (.slice none 0 0) 24 rfl Try.underlying22 info26 rfl (by decide) (by omega) v224 y223 l2 [.slice A2 l2.length c2] (fun k_ => ((P1_ k_ ∨ P2_ k_) ∨ w.heap.size ≤ k_)) (fun k_ => ((fun k_ => ((P1_ k_ ∨ P2_ k_) ∨ w.heap.size ≤ k_))) k_ ∧ some k_ ≠ (v224 : Value).ownBlock) rfl rfl ?aP (fun _ hk => hk) ?aF ?aO ?aB ?aS ?aL ?_; (case aP => exact (Kd.FK_slice_mk (Kd.V_reads' (Kd.V_mono (ok' := (fun k_ => ((fun k_ => ((P1_ k_ ∨ P2_ k_) ∨ w.heap.size ≤ k_))) k_ ∧ some k_ ≠ (v224 : Value).ownBlock)) (HO2.out) (fun k_ hk => ⟨hk.1, hk.2⟩))).2.1 (Kd.V_F (Kd.V_mono (ok' := (fun k_ => ((fun k_ => ((P1_ k_ ∨ P2_ k_) ∨ w.heap.size ≤ k_))) k_ ∧ some k_ ≠ (v224 : Value).ownBlock)) (HO2.out) (fun k_ hk => ⟨hk.1, hk.2⟩))))); (case aB => exact (by repeat (first | (with_reducible first | exact HB.out | apply below_alloc | apply pw_below_drewN | apply below_drew1) | exact HB.out))); (case aF => exact (fun k_ hk => (.inr (Nat.le_trans (below_size (by repeat (first | (with_reducible first | exact HB.out | apply below_alloc | apply pw_below_drewN | apply below_drew1) | exact HB.out))) hk)))); (case aO => exact (by (with_reducible repeat (first | apply Kd.N_alloc | apply Kd.N_drewN | apply Kd.N_drew)); exact HO225.out)); (case aS => exact (below_size (by repeat (first | (with_reducible first | exact HB.out | apply below_alloc | apply pw_below_drewN | apply below_drew1) | exact HB.out)))); (case aL => have := LMc12.out; omega); intro v227 w18 ho hb hg hat; rw [← Ny226.out] at ho; have n0_ := Aside0.mk (Kd.V_afterv (ok := (fun k_ => ((P1_ k_ ∨ P2_ k_) ∨ w.heap.size ≤ k_))) (by (with_reducible repeat (first | apply Kd.V_alloc | apply Kd.V_drewN | apply Kd.V_drew)); exact HO1.out) hg hat); have n1_ := Aside0.mk (Kd.V_afterv (ok := (fun k_ => ((P1_ k_ ∨ P2_ k_) ∨ w.heap.size ≤ k_))) (by (with_reducible repeat (first | apply Kd.V_alloc | apply Kd.V_drewN | apply Kd.V_drew)); exact HO2.out) hg hat); have n2_ := Aside0.mk (hb); have n3_ := Aside0.mk (ho); clear HO1; clear HO2; clear HB; clear HO225; have HO1 := n0_; have HO2 := n1_; have HB := n2_; have HO228 := n3_; clear n0_ n1_ n2_ n3_; clear ho hb hg hat; obtain ⟨Ao19, co19, eo19⟩ := Kd.N_slice HO228.out; subst eo19) | (go_at_call 10; (with_reducible refine (greenwoodref05_May.calls k a0 (l2.length : Int) _ _ y226 t229 _ ?side1 ?side2 A13.out).mono ?_); (case side1 => repeat (first | exact (Kd.N_reads' HO228.out).2.2 | (with_reducible refine Kd.C_alloc ?_ _) | (with_reducible refine Kd.C_drewN ?_ _) | (with_reducible refine Kd.C_drew ?_))); (case side2 => exact (Kd.N_reads' HO228.out).2.1); rintro e w' ⟨rfl, ⟨nd, rfl⟩⟩))
              go_meet
              case rel => exact ⟨_, (!t229), (by first | rfl | (simp; done) | (simp [*]; done)), H', ⟨by first | omega | exact Nat.le_refl _⟩, ⟨by (with_reducible repeat (first | apply Kd.V_alloc | apply Kd.V_drewN | apply Kd.V_drew)); exact Kd.V_mono HO1.out (fun _ hk => hk.1)⟩, ⟨by (with_reducible repeat (first | apply Kd.V_alloc | apply Kd.V_drewN | apply Kd.V_drew)); exact Kd.V_mono HO2.out (fun _ hk => hk.1)⟩, ⟨by repeat (first | (with_reducible first | exact HB.out | apply below_alloc | apply pw_below_drewN | apply below_drew1) | exact HB.out)⟩⟩
            · rw [if_neg c12] at H
              exact absurd H (by simp)
          · rw [if_neg c11] at H
            exact absurd H (by simp)
    · replace c6 := Bool.eq_false_iff.mpr c6
      subst c6
      have H1 : (greenwoodlaw05_ElimCombines.j0 k a0 l1 l2 (l2.length : Int) true) = some r := by rw [if_neg (show ¬ (false = true) by decide)] at H; exact H
      clear H
      have H := H1
      clear H1
      have H' := Aside0.mk H
      clear H
      go_wp2_with (first | ((with_reducible refine gate_callee (f := 8) rfl ?_); refine goesL_ (some 16) rfl rfl Try.func8 (by kernel_rfl) rfl #[] rfl (by (try simp only [List.map_toArray, List.map_cons, List.map_nil]); first | done | rfl | (simp only [List.length_drop, List.length_take]; rfl)) ?_; (with_reducible refine (greenwoodlaw05_fixed.calls k  false _ A5.out).mono ?_); rintro e w20 ⟨rfl, hb⟩; refine ⟨_, rfl, ?_⟩; have n0_ := Aside0.mk (Kd.V_below (by (with_reducible repeat (first | apply Kd.V_alloc | apply Kd.V_drewN | apply Kd.V_drew)); exact HO1.out) hb); have n1_ := Aside0.mk (Kd.V_below (by (with_reducible repeat (first | apply Kd.V_alloc | apply Kd.V_drewN | apply Kd.V_drew)); exact HO2.out) hb); have n2_ := Aside0.mk (below_step (by repeat (first | (with_reducible first | exact HB.out | apply below_alloc | apply pw_below_drewN | apply below_drew1) | exact HB.out)) hb); clear HO1; clear HO2; clear HB; have HO1 := n0_; have HO2 := n1_; have HB := n2_; clear n0_ n1_ n2_; (try clear hb); (try clear hb2); (try clear hk); (try clear hi)))
      go_meet
      case rel => exact ⟨_, (true), (by first | rfl | (simp; done) | (simp [*]; done)), H', ⟨by first | omega | exact Nat.le_refl _⟩, ⟨by (with_reducible repeat (first | apply Kd.V_alloc | apply Kd.V_drewN | apply Kd.V_drew)); exact HO1.out⟩, ⟨by (with_reducible repeat (first | apply Kd.V_alloc | apply Kd.V_drewN | apply Kd.V_drew)); exact HO2.out⟩, ⟨by repeat (first | (with_reducible first | exact HB.out | apply below_alloc | apply pw_below_drewN | apply below_drew1) | exact HB.out)⟩⟩
  case rest =>
    clear HC4
    try clear c1
    try clear c2
    try clear p2
    try clear c4
    try clear c6
    try clear c7
    try clear c7b0
    try clear c7b1
    try clear c8
    try clear c9
    try clear c9b0
    try clear c9b1
    try clear c11
    try clear c12
    obtain ⟨kq, x38_3, rfl, HA, HJ3, HO_1, HO_2, HB⟩ := hcut
    cases kq with
    | zero => exact absurd HA.out (by simp [greenwoodlaw05_ElimCombines.j0])
    | succ kj3 =>
      have H := HA.out
      clear HA
      simp only [greenwoodlaw05_ElimCombines.j0] at H
      by_cases c21 : x38_3 = true
      · subst c21
        have H1 : ((greenwoodlaw05_fixed.f kj3).bind fun t230 => (some t230)) = some r := by rw [if_pos rfl] at H; exact H
        clear H
        have H := H1
        clear H1
        replace H := Option.bind_eq_some_iff.mp H
        obtain ⟨t230, A220, H⟩ := H
        replace H : (some t230) = some r := H
        have A22 := Aside0.mk A220
        clear A220
        obtain rfl := Option.some.inj H
        go_wp2_with (first | ((with_reducible refine gate_callee (f := 8) rfl ?_); refine goesL_ (some 39) rfl rfl Try.func8 (by kernel_rfl) rfl #[] rfl (by (try simp only [List.map_toArray, List.map_cons, List.map_nil]); first | done | rfl | (simp only [List.length_drop, List.length_take]; rfl)) ?_; (with_reducible refine (greenwoodlaw05_fixed.calls kj3  t230 _ A22.out).mono ?_); rintro e w23 ⟨rfl, hb⟩; refine ⟨_, rfl, ?_⟩; have n0_ := Aside0.mk (Kd.V_below (by (with_reducible repeat (first | apply Kd.V_alloc | apply Kd.V_drewN | apply Kd.V_drew)); exact HO_1.out) hb); have n1_ := Aside0.mk (Kd.V_below (by (with_reducible repeat (first | apply Kd.V_alloc | apply Kd.V_drewN | apply Kd.V_drew)); exact HO_2.out) hb); have n2_ := Aside0.mk (below_step (by repeat (first | (with_reducible first | exact HB.out | apply below_alloc | apply pw_below_drewN | apply below_drew1) | exact HB.out)) hb); clear HO_1; clear HO_2; clear HB; have HO_1 := n0_; have HO_2 := n1_; have HB := n2_; clear n0_ n1_ n2_; (try clear hb); (try clear hb2); (try clear hk); (try clear hi)))
        go_ret
        exact ⟨by first | rfl | (simp [errW_none, errW_some] <;> rfl) | (simp [*, errW_none, errW_some] <;> rfl), by repeat (first | (with_reducible first | exact HB.out | apply below_alloc | apply pw_below_drewN | apply below_drew1) | exact HB.out)⟩
      · replace c21 := Bool.eq_false_iff.mpr c21
        subst c21
        have H1 : ((elim_Combo.f kj3 a0 (l2.length : Int) l1 l2).bind fun bt231 => ((some (([] : List (List Int)) : List (List Int))).bind fun y235 => (if y235.length + l1.length < 5864062014805 then ((some (y235 ++ l1 : List (List Int))).bind fun y238 => (if y238.length < 5864062014805 then ((greenwoodref05_Rank.f kj3 a0 (l2.length : Int) (y238 ++ [l2])).bind fun t244 => ((greenwoodref05_Rank.f kj3 a0 (l2.length : Int) l1).bind fun t245 => (if (bt231.2 != (t244 == t245)) = true then (some false) else (if bt231.2 = true then ((elim_Basis.f kj3 a0 (l2.length : Int) l1).bind fun t246 => (greenwoodlaw05_ElimCombines.l0 kj3 a0 l1 l2 (l2.length : Int) bt231.1 t246 0 0)) else (some ((bt231.1.length : Int) == 0)))))) else (none))) else (none)))) = some r := by rw [if_neg (show ¬ (false = true) by decide)] at H; exact H
        clear H
        have H := H1
        clear H1
        replace H := Option.bind_eq_some_iff.mp H
        obtain ⟨⟨t231, t232⟩, A240, H⟩ := H
        replace H : ((some (([] : List (List Int)) : List (List Int))).bind fun y235 => (if y235.length + l1.length < 5864062014805 then ((some (y235 ++ l1 : List (List Int))).bind fun y238 => (if y238.length < 5864062014805 then ((greenwoodref05_Rank.f kj3 a0 (l2.length : Int) (y238 ++ [l2])).bind fun t244 => ((greenwoodref05_Rank.f kj3 a0 (l2.length : Int) l1).bind fun t245 => (if (t232 != (t244 == t245)) = true then (some false) else (if t232 = true then ((elim_Basis.f kj3 a0 (l2.length : Int) l1).bind fun t246 => (greenwoodlaw05_ElimCombines.l0 kj3 a0 l1 l2 (l2.length : Int) t231 t246 0 0)) else (some ((t231.length : Int) == 0)))))) else (none))) else (none))) = some r := H
        have A24 := Aside0.mk A240
        clear A240
        obtain ⟨y235, hy235⟩ : ∃ y_ : List (List Int), y_ = (([] : List (List Int))) := ⟨_, rfl⟩
        replace H : (if y235.length + l1.length < 5864062014805 then ((some (y235 ++ l1 : List (List Int))).bind fun y238 => (if y238.length < 5864062014805 then ((greenwoodref05_Rank.f kj3 a0 (l2.length : Int) (y238 ++ [l2])).bind fun t244 => ((greenwoodref05_Rank.f kj3 a0 (l2.length : Int) l1).bind fun t245 => (if (t232 != (t244 == t245)) = true then (some false) else (if t232 = true then ((elim_Basis.f kj3 a0 (l2.length : Int) l1).bind fun t246 => (greenwoodlaw05_ElimCombines.l0 kj3 a0 l1 l2 (l2.length : Int) t231 t246 0 0)) else (some ((t231.length : Int) == 0)))))) else (none))) else (none)) = some r := by first | (rw [hy235]; with_reducible exact H) | (have H2_ := (Option.bind_some _ _).symm.trans H; rw [hy235]; with_reducible exact H2_) | (have H2_ := (Option.bind_some _ _).symm.trans H; with_reducible exact H2_) | with_reducible exact H | (rw [hy235]; exact H) | exact H
        have Ny235 := Aside0.mk hy235
        clear hy235
        by_cases c25 : y235.length + l1.length < 5864062014805
        · rw [if_pos c25] at H
          have LMc25 := Aside0.mk c25
          clear c25
          obtain ⟨y238, hy238⟩ : ∃ y_ : List (List Int), y_ = (y235 ++ l1) := ⟨_, rfl⟩
          replace H : (if y238.length < 5864062014805 then ((greenwoodref05_Rank.f kj3 a0 (l2.length : Int) (y238 ++ [l2])).bind fun t244 => ((greenwoodref05_Rank.f kj3 a0 (l2.length : Int) l1).bind fun t245 => (if (t232 != (t244 == t245)) = true then (some false) else (if t232 = true then ((elim_Basis.f kj3 a0 (l2.length : Int) l1).bind fun t246 => (greenwoodlaw05_ElimCombines.l0 kj3 a0 l1 l2 (l2.length : Int) t231 t246 0 0)) else (some ((t231.length : Int) == 0)))))) else (none)) = some r := by first | (rw [hy238]; with_reducible exact H) | (have H2_ := (Option.bind_some _ _).symm.trans H; rw [hy238]; with_reducible exact H2_) | (have H2_ := (Option.bind_some _ _).symm.trans H; with_reducible exact H2_) | with_reducible exact H | (rw [hy238]; exact H) | exact H
          have Ny238 := Aside0.mk hy238
          clear hy238
          by_cases c26 : y238.length < 5864062014805
          · rw [if_pos c26] at H
            have LMc26 := Aside0.mk c26
            clear c26
            obtain ⟨y241, hy241⟩ : ∃ y_ : List (List Int), y_ = (y238 ++ [l2]) := ⟨_, rfl⟩
            replace H : ((greenwoodref05_Rank.f kj3 a0 (l2.length : Int) y241).bind fun t244 => ((greenwoodref05_Rank.f kj3 a0 (l2.length : Int) l1).bind fun t245 => (if (t232 != (t244 == t245)) = true then (some false) else (if t232 = true then ((elim_Basis.f kj3 a0 (l2.length : Int) l1).bind fun t246 => (greenwoodlaw05_ElimCombines.l0 kj3 a0 l1 l2 (l2.length : Int) t231 t246 0 0)) else (some ((t231.length : Int) == 0)))))) = some r := by first | (rw [hy241]; with_reducible exact H) | (have H2_ := (Option.bind_some _ _).symm.trans H; rw [hy241]; with_reducible exact H2_) | (have H2_ := (Option.bind_some _ _).symm.trans H; with_reducible exact H2_) | with_reducible exact H | (rw [hy241]; exact H) | exact H
            have Ny241 := Aside0.mk hy241
            clear hy241
            replace H := Option.bind_eq_some_iff.mp H
            obtain ⟨t244, A270, H⟩ := H
            replace H : ((greenwoodref05_Rank.f kj3 a0 (l2.length : Int) l1).bind fun t245 => (if (t232 != (t244 == t245)) = true then (some false) else (if t232 = true then ((elim_Basis.f kj3 a0 (l2.length : Int) l1).bind fun t246 => (greenwoodlaw05_ElimCombines.l0 kj3 a0 l1 l2 (l2.length : Int) t231 t246 0 0)) else (some ((t231.length : Int) == 0))))) = some r := H
            have A27 := Aside0.mk A270
            clear A270
            replace H := Option.bind_eq_some_iff.mp H
            obtain ⟨t245, A280, H⟩ := H
            replace H : (if (t232 != (t244 == t245)) = true then (some false) else (if t232 = true then ((elim_Basis.f kj3 a0 (l2.length : Int) l1).bind fun t246 => (greenwoodlaw05_ElimCombines.l0 kj3 a0 l1 l2 (l2.length : Int) t231 t246 0 0)) else (some ((t231.length : Int) == 0)))) = some r := H
            have A28 := Aside0.mk A280
            clear A280
            by_cases c29 : (t232 != (t244 == t245)) = true
            · rw [if_pos c29] at H
              have c29b0 : (t232 != (t244 == t245)) = true := c29
              (try (have c29b1 : decide (t232 = (t244 == t245)) = false := by simpa using c29))
              (try (have c29b2 : (t232 == (t244 == t245)) = false := by simpa using c29))
              (try (have c29b3 : ¬ (t232 = (t244 == t245)) := by simpa using c29))
              clear c29
              exact absurd ((Option.some.inj H).trans hrT) (by decide)
            · rw [if_neg c29] at H
              have c29b0 : (t232 != (t244 == t245)) = false := by simpa using c29
              (try (have c29b1 : decide (t232 = (t244 == t245)) = true := by simpa using c29))
              (try (have c29b2 : (t232 == (t244 == t245)) = true := by simpa using c29))
              clear c29
              by_cases c30 : t232 = true
              · subst c30
                have H1 : ((elim_Basis.f kj3 a0 (l2.length : Int) l1).bind fun t246 => (greenwoodlaw05_ElimCombines.l0 kj3 a0 l1 l2 (l2.length : Int) t231 t246 0 0)) = some r := by rw [if_pos rfl] at H; exact H
                clear H
                have H := H1
                clear H1
                replace H := Option.bind_eq_some_iff.mp H
                obtain ⟨t246, A310, H⟩ := H
                replace H : (greenwoodlaw05_ElimCombines.l0 kj3 a0 l1 l2 (l2.length : Int) t231 t246 0 0) = some r := H
                have A31 := Aside0.mk A310
                clear A310
                have H' := Aside0.mk H
                clear H
                go_wp2_with (first | ((with_reducible refine gate_callee (f := 16) rfl ?_); refine goesL_ (some 45) rfl rfl Try.func16 (by kernel_rfl) rfl #[.int .i64 a0, .int .i64 (l2.length : Int), .slice A1 l1.length c1, .slice A2 l2.length c2] rfl (by (try simp only [List.map_toArray, List.map_cons, List.map_nil]); first | done | rfl | (simp only [List.length_drop, List.length_take]; rfl)) ?_; (with_reducible refine (elim_Combo.calls kj3 a0 (l2.length : Int) _ _ l1 _ _ l2 t231 true _ ?side1 ?side2 ?side3 ?side4 A24.out).mono ?_); (case side1 => repeat (first | exact (Kd.V_reads' HO_1.out).2.2 | (with_reducible refine Kd.C_alloc ?_ _) | (with_reducible refine Kd.C_drewN ?_ _) | (with_reducible refine Kd.C_drew ?_))); (case side2 => exact (Kd.V_reads' HO_1.out).2.1); (case side3 => repeat (first | exact (Kd.V_reads' HO_2.out).2.2 | (with_reducible refine Kd.C_alloc ?_ _) | (with_reducible refine Kd.C_drewN ?_ _) | (with_reducible refine Kd.C_drew ?_))); (case side4 => exact (Kd.V_reads' HO_2.out).2.1); rintro e w32 ⟨v233, rfl, ho0, hb⟩; refine ⟨_, rfl, ?_⟩; have n0_ := Aside0.mk (Kd.V_elder' (by (with_reducible repeat (first | apply Kd.V_alloc | apply Kd.V_drewN | apply Kd.V_drew)); exact HO_1.out) (Kd.R_base ho0) hb); have n1_ := Aside0.mk (Kd.V_elder' (by (with_reducible repeat (first | apply Kd.V_alloc | apply Kd.V_drewN | apply Kd.V_drew)); exact HO_2.out) (Kd.R_base ho0) hb); have n2_ := Aside0.mk (Kd.R_lower (Kd.R_newM (M := fun k_ => (w.heap.size ≤ k_)) ho0 (below_size (by repeat (first | (with_reducible first | exact HB.out | apply below_alloc | apply pw_below_drewN | apply below_drew1) | exact HB.out))) (fun k_ h_ => h_)) (below_size (by repeat (first | (with_reducible first | exact HB.out | apply below_alloc | apply pw_below_drewN | apply below_drew1) | exact HB.out)))); have n3_ := Aside0.mk (below_step (by repeat (first | (with_reducible first | exact HB.out | apply below_alloc | apply pw_below_drewN | apply below_drew1) | exact HB.out)) hb); clear HO_1; clear HO_2; clear HB; have HO_1 := n0_; have HO_2 := n1_; have HO234 := n2_; have HB := n3_; clear n0_ n1_ n2_ n3_; (try clear hb); (try clear hb2); (try clear hk); (try clear hi); (try clear ho0)) | ((with_reducible refine gate_dst (N := 50) rfl ?_); (try (refine gate_guard (by rfl) ?_; dsimp only)); refine Kd.N_lit (Kd.slice 3 (Kd.int .i64)) _ 26 ?hg (N' := 50) ?hd (xs := ([] : List (List Int))) (inner := []) (ok := (fun k_ => ((P1_ k_ ∨ P2_ k_) ∨ w.heap.size ≤ k_) ∧ some k_ ≠ (v233 : Value).ownBlock)) (okp := (fun k_ => ((P1_ k_ ∨ P2_ k_) ∨ w.heap.size ≤ k_) ∧ some k_ ≠ (v233 : Value).ownBlock)) ?hr ?hp (fun _ hk => hk) ((show ∀ k_, w32.heap.size ≤ k_ → (fun k_ => ((P1_ k_ ∨ P2_ k_) ∨ w.heap.size ≤ k_) ∧ some k_ ≠ (v233 : Value).ownBlock) k_ from fun k_ hk => ⟨(.inr (Nat.le_trans (below_size (by repeat (first | (with_reducible first | exact HB.out | apply below_alloc | apply pw_below_drewN | apply below_drew1) | exact HB.out))) hk)), Kd.fresh' (Kd.R_lt (by (with_reducible repeat (first | apply Kd.R_alloc | apply Kd.R_drewN | apply Kd.R_drew)); exact HO234.out)) k_ hk⟩) _ (Nat.le_refl _)) (Below.refl _ _) (Nat.le_refl _) (by simp) ?_; (case hd => rfl); (case hg => rfl); (case hr => first | (go_simp; done) | (go_simp; rfl)); (case hp => exact (Reps.none _ _)); intro v236 w33 ho34 hb hg_ hnew_; clear hg_ hnew_; (first | rw [← Ny235.out] at ho34 | (simp only [Int.reduceToNat] at ho34; rw [← Ny235.out] at ho34)); have n0_ := Aside0.mk (Kd.V_elder' (by (with_reducible repeat (first | apply Kd.V_alloc | apply Kd.V_drewN | apply Kd.V_drew)); exact HO_1.out) (Kd.N_base ho34) hb); have n1_ := Aside0.mk (Kd.V_elder' (by (with_reducible repeat (first | apply Kd.V_alloc | apply Kd.V_drewN | apply Kd.V_drew)); exact HO_2.out) (Kd.N_base ho34) hb); have n2_ := Aside0.mk (Kd.R_below (by (with_reducible repeat (first | apply Kd.R_alloc | apply Kd.R_drewN | apply Kd.R_drew)); exact HO234.out) hb); have n3_ := Aside0.mk (Kd.N_lower ho34 (below_size (by repeat (first | (with_reducible first | exact HB.out | apply below_alloc | apply pw_below_drewN | apply below_drew1) | exact HB.out)))); have n4_ := Aside0.mk (below_step (by repeat (first | (with_reducible first | exact HB.out | apply below_alloc | apply pw_below_drewN | apply below_drew1) | exact HB.out)) hb); clear HO_1; clear HO_2; clear HO234; clear HB; have HO_1 := n0_; have HO_2 := n1_; have HO234 := n2_; have HO237 := n3_; have HB := n4_; clear n0_ n1_ n2_ n3_ n4_; clear hb ho34) | ((with_reducible refine gate_builtin (b := .append) (xs := #[.tmp 50, .tmp 51]) rfl ?_); (try (refine gate_guard (by rfl) ?_; dsimp only)); at_builtin; refine Kd.N_append_rows (Kd.slice 3 (Kd.int .i64)) (w0 := w) w.heap.size rfl (.tmp 50) (.tmp 51) 22 26 (.slice none 0 0) 24 rfl Try.underlying22 info26 rfl (by decide) (by omega) v236 y235 l1 _ _ _ (fun k_ => ((P1_ k_ ∨ P2_ k_) ∨ w.heap.size ≤ k_) ∧ some k_ ≠ (v233 : Value).ownBlock) (fun k_ => ((fun k_ => ((P1_ k_ ∨ P2_ k_) ∨ w.heap.size ≤ k_) ∧ some k_ ≠ (v233 : Value).ownBlock)) k_ ∧ some k_ ≠ (v236 : Value).ownBlock) rfl rfl ?aO ?aR (fun _ hk => hk) ?aF ?aB ?aS ?aL ?_; (case aR => exact (by skip; exact Kd.V_F (Kd.V_mono (ok' := (fun k_ => ((fun k_ => ((P1_ k_ ∨ P2_ k_) ∨ w.heap.size ≤ k_) ∧ some k_ ≠ (v233 : Value).ownBlock)) k_ ∧ some k_ ≠ (v236 : Value).ownBlock)) (HO_1.out) (fun k_ hk => ⟨⟨hk.1.1, hk.1.2⟩, hk.2⟩)))); (case aB => exact (by repeat (first | (with_reducible first | exact HB.out | apply below_alloc | apply pw_below_drewN | apply below_drew1) | exact HB.out))); (case aF => exact (fun k_ hk => ⟨(.inr (Nat.le_trans (below_size (by repeat (first | (with_reducible first | exact HB.out | apply below_alloc | apply pw_below_drewN | apply below_drew1) | exact HB.out))) hk)), Kd.fresh' (Kd.R_lt (by (with_reducible repeat (first | apply Kd.R_alloc | apply Kd.R_drewN | apply Kd.R_drew)); exact HO234.out)) k_ hk⟩)); (case aO => exact (by (with_reducible repeat (first | apply Kd.N_alloc | apply Kd.N_drewN | apply Kd.N_drew)); exact HO237.out)); (case aS => exact (below_size (by repeat (first | (with_reducible first | exact HB.out | apply below_alloc | apply pw_below_drewN | apply below_drew1) | exact HB.out)))); (case aL => have := LMc25.out; omega); intro v239 w35 ho hb hg hat; rw [← Ny238.out] at ho; have n0_ := Aside0.mk (Kd.V_afterv (ok := (fun k_ => ((P1_ k_ ∨ P2_ k_) ∨ w.heap.size ≤ k_) ∧ some k_ ≠ (v233 : Value).ownBlock)) (by (with_reducible repeat (first | apply Kd.V_alloc | apply Kd.V_drewN | apply Kd.V_drew)); exact HO_1.out) hg hat); have n1_ := Aside0.mk (Kd.V_afterv (ok := (fun k_ => ((P1_ k_ ∨ P2_ k_) ∨ w.heap.size ≤ k_) ∧ some k_ ≠ (v233 : Value).ownBlock)) (by (with_reducible repeat (first | apply Kd.V_alloc | apply Kd.V_drewN | apply Kd.V_drew)); exact HO_2.out) hg hat); have n2_ := Aside0.mk (Kd.R_over' (by (with_reducible repeat (first | apply Kd.R_alloc | apply Kd.R_drewN | apply Kd.R_drew)); exact HO234.out) (Kd.N_typed (by (with_reducible repeat (first | apply Kd.N_alloc | apply Kd.N_drewN | apply Kd.N_drew)); exact HO237.out)) (by decide) hg); have n3_ := Aside0.mk (hb); have n4_ := Aside0.mk (ho); clear HO_1; clear HO_2; clear HO234; clear HB; clear HO237; have HO_1 := n0_; have HO_2 := n1_; have HO234 := n2_; have HB := n3_; have HO240 := n4_; clear n0_ n1_ n2_ n3_ n4_; clear ho hb hg hat) | ((with_reducible refine gate_builtin (b := .append) (xs := #[.tmp 52, .tmp 54]) rfl ?_); (try (refine gate_guard (by rfl) ?_; dsimp only)); at_builtin; refine Kd.N_append (Kd.slice 3 (Kd.int .i64)) (w0 := w) w.heap.size rfl (.tmp 52) (.tmp 54) 22 26 (.slice none 0 0) 24 rfl Try.underlying22 info26 rfl (by decide) (by omega) v239 y238 l2 [.slice A2 l2.length c2] (fun k_ => ((P1_ k_ ∨ P2_ k_) ∨ w.heap.size ≤ k_) ∧ some k_ ≠ (v233 : Value).ownBlock) (fun k_ => ((fun k_ => ((P1_ k_ ∨ P2_ k_) ∨ w.heap.size ≤ k_) ∧ some k_ ≠ (v233 : Value).ownBlock)) k_ ∧ some k_ ≠ (v239 : Value).ownBlock) rfl rfl ?aP (fun _ hk => hk) ?aF ?aO ?aB ?aS ?aL ?_; (case aP => exact (Kd.FK_slice_mk (Kd.V_reads' (Kd.V_mono (ok' := (fun k_ => ((fun k_ => ((P1_ k_ ∨ P2_ k_) ∨ w.heap.size ≤ k_) ∧ some k_ ≠ (v233 : Value).ownBlock)) k_ ∧ some k_ ≠ (v239 : Value).ownBlock)) (HO_2.out) (fun k_ hk => ⟨⟨hk.1.1, hk.1.2⟩, hk.2⟩))).2.1 (Kd.V_F (Kd.V_mono (ok' := (fun k_ => ((fun k_ => ((P1_ k_ ∨ P2_ k_) ∨ w.heap.size ≤ k_) ∧ some k_ ≠ (v233 : Value).ownBlock)) k_ ∧ some k_ ≠ (v239 : Value).ownBlock)) (HO_2.out) (fun k_ hk => ⟨⟨hk.1.1, hk.1.2⟩, hk.2⟩))))); (case aB => exact (by repeat (first | (with_reducible first | exact HB.out | apply below_alloc | apply pw_below_drewN | apply below_drew1) | exact HB.out))); (case aF => exact (fun k_ hk => ⟨(.inr (Nat.le_trans (below_size (by repeat (first | (with_reducible first | exact HB.out | apply below_alloc | apply pw_below_drewN | apply below_drew1) | exact HB.out))) hk)), Kd.fresh' (Kd.R_lt (by (with_reducible repeat (first | apply Kd.R_alloc | apply Kd.R_drewN | apply Kd.R_drew)); exact HO234.out)) k_ hk⟩)); (case aO => exact (by (with_reducible repeat (first | apply Kd.N_alloc | apply Kd.N_drewN | apply Kd.N_drew)); exact HO240.out)); (case aS => exact (below_size (by repeat (first | (with_reducible first | exact HB.out | apply below_alloc | apply pw_below_drewN | apply below_drew1) | exact HB.out)))); (case aL => have := LMc26.out; omega); intro v242 w36 ho hb hg hat; rw [← Ny241.out] at ho; have n0_ := Aside0.mk (Kd.V_afterv (ok := (fun k_ => ((P1_ k_ ∨ P2_ k_) ∨ w.heap.size ≤ k_) ∧ some k_ ≠ (v233 : Value).ownBlock)) (by (with_reducible repeat (first | apply Kd.V_alloc | apply Kd.V_drewN | apply Kd.V_drew)); exact HO_1.out) hg hat); have n1_ := Aside0.mk (Kd.V_afterv (ok := (fun k_ => ((P1_ k_ ∨ P2_ k_) ∨ w.heap.size ≤ k_) ∧ some k_ ≠ (v233 : Value).ownBlock)) (by (with_reducible repeat (first | apply Kd.V_alloc | apply Kd.V_drewN | apply Kd.V_drew)); exact HO_2.out) hg hat); have n2_ := Aside0.mk (Kd.R_over' (by (with_reducible repeat (first | apply Kd.R_alloc | apply Kd.R_drewN | apply Kd.R_drew)); exact HO234.out) (Kd.N_typed (by (with_reducible repeat (first | apply Kd.N_alloc | apply Kd.N_drewN | apply Kd.N_drew)); exact HO240.out)) (by decide) hg); have n3_ := Aside0.mk (hb); have n4_ := Aside0.mk (ho); clear HO_1; clear HO_2; clear HO234; clear HB; clear HO240; have HO_1 := n0_; have HO_2 := n1_; have HO234 := n2_; have HB := n3_; have HO243 := n4_; clear n0_ n1_ n2_ n3_ n4_; clear ho hb hg hat; obtain ⟨Ao37, co37, eo37⟩ := Kd.N_slice HO243.out; subst eo37) | ((with_reducible refine gate_callee (f := 15) rfl ?_); refine goesL_ (some 56) rfl rfl Try.func15 (by kernel_rfl) rfl #[.int .i64 a0, .int .i64 (l2.length : Int), .slice Ao37 y241.length co37] rfl (by (try simp only [List.map_toArray, List.map_cons, List.map_nil]); first | done | rfl | (simp only [List.length_drop, List.length_take]; rfl)) ?_; (with_reducible refine (greenwoodref05_Rank.calls kj3 a0 (l2.length : Int) _ _ y241 t244 _ ?side1 ?side2 A27.out).mono ?_); (case side1 => repeat (first | exact (Kd.N_reads' HO243.out).2.2 | (with_reducible refine Kd.C_alloc ?_ _) | (with_reducible refine Kd.C_drewN ?_ _) | (with_reducible refine Kd.C_drew ?_))); (case side2 => exact (Kd.N_reads' HO243.out).2.1); rintro e w38 ⟨rfl, hb⟩; refine ⟨_, rfl, ?_⟩; have n0_ := Aside0.mk (Kd.V_below (by (with_reducible repeat (first | apply Kd.V_alloc | apply Kd.V_drewN | apply Kd.V_drew)); exact HO_1.out) hb); have n1_ := Aside0.mk (Kd.V_below (by (with_reducible repeat (first | apply Kd.V_alloc | apply Kd.V_drewN | apply Kd.V_drew)); exact HO_2.out) hb); have n2_ := Aside0.mk (Kd.R_below (by (with_reducible repeat (first | apply Kd.R_alloc | apply Kd.R_drewN | apply Kd.R_drew)); exact HO234.out) hb); have n3_ := Aside0.mk (Kd.N_below (by (with_reducible repeat (first | apply Kd.N_alloc | apply Kd.N_drewN | apply Kd.N_drew)); exact HO243.out) hb); have n4_ := Aside0.mk (below_step (by repeat (first | (with_reducible first | exact HB.out | apply below_alloc | apply pw_below_drewN | apply below_drew1) | exact HB.out)) hb); clear HO_1; clear HO_2; clear HO234; clear HO243; clear HB; have HO_1 := n0_; have HO_2 := n1_; have HO234 := n2_; have HO243 := n3_; have HB := n4_; clear n0_ n1_ n2_ n3_ n4_; (try clear hb); (try clear hb2); (try clear hk); (try clear hi)) | ((with_reducible refine gate_callee (f := 15) rfl ?_); refine goesL_ (some 62) rfl rfl Try.func15 (by kernel_rfl) rfl #[.int .i64 a0, .int .i64 (l2.length : Int), .slice A1 l1.length c1] rfl (by (try simp only [List.map_toArray, List.map_cons, List.map_nil]); first | done | rfl | (simp only [List.length_drop, List.length_take]; rfl)) ?_; (with_reducible refine (greenwoodref05_Rank.calls kj3 a0 (l2.length : Int) _ _ l1 t245 _ ?side1 ?side2 A28.out).mono ?_); (case side1 => repeat (first | exact (Kd.V_reads' HO_1.out).2.2 | (with_reducible refine Kd.C_alloc ?_ _) | (with_reducible refine Kd.C_drewN ?_ _) | (with_reducible refine Kd.C_drew ?_))); (case side2 => exact (Kd.V_reads' HO_1.out).2.1); rintro e w39 ⟨rfl, hb⟩; refine ⟨_, rfl, ?_⟩; have n0_ := Aside0.mk (Kd.V_below (by (with_reducible repeat (first | apply Kd.V_alloc | apply Kd.V_drewN | apply Kd.V_drew)); exact HO_1.out) hb); have n1_ := Aside0.mk (Kd.V_below (by (with_reducible repeat (first | apply Kd.V_alloc | apply Kd.V_drewN | apply Kd.V_drew)); exact HO_2.out) hb); have n2_ := Aside0.mk (Kd.R_below (by (with_reducible repeat (first | apply Kd.R_alloc | apply Kd.R_drewN | apply Kd.R_drew)); exact HO234.out) hb); have n3_ := Aside0.mk (Kd.N_below (by (with_reducible repeat (first | apply Kd.N_alloc | apply Kd.N_drewN | apply Kd.N_drew)); exact HO243.out) hb); have n4_ := Aside0.mk (below_step (by repeat (first | (with_reducible first | exact HB.out | apply below_alloc | apply pw_below_drewN | apply below_drew1) | exact HB.out)) hb); clear HO_1; clear HO_2; clear HO234; clear HO243; clear HB; have HO_1 := n0_; have HO_2 := n1_; have HO234 := n2_; have HO243 := n3_; have HB := n4_; clear n0_ n1_ n2_ n3_ n4_; (try clear hb); (try clear hb2); (try clear hk); (try clear hi)) | ((with_reducible refine gate_callee (f := 12) rfl ?_); refine goesL_ (some 73) rfl rfl Try.func12 (by kernel_rfl) rfl #[.int .i64 a0, .int .i64 (l2.length : Int), .slice A1 l1.length c1] rfl (by (try simp only [List.map_toArray, List.map_cons, List.map_nil]); first | done | rfl | (simp only [List.length_drop, List.length_take]; rfl)) ?_; (with_reducible refine (elim_Basis.calls kj3 a0 (l2.length : Int) _ _ l1 t246 _ ?side1 ?side2 A31.out).mono ?_); (case side1 => repeat (first | exact (Kd.V_reads' HO_1.out).2.2 | (with_reducible refine Kd.C_alloc ?_ _) | (with_reducible refine Kd.C_drewN ?_ _) | (with_reducible refine Kd.C_drew ?_))); (case side2 => exact (Kd.V_reads' HO_1.out).2.1); rintro e w40 ⟨v247, rfl, ho0, hb⟩; refine ⟨_, rfl, ?_⟩; have n0_ := Aside0.mk (Kd.V_elder' (by (with_reducible repeat (first | apply Kd.V_alloc | apply Kd.V_drewN | apply Kd.V_drew)); exact HO_1.out) (Kd.R_base ho0) hb); have n1_ := Aside0.mk (Kd.V_elder' (by (with_reducible repeat (first | apply Kd.V_alloc | apply Kd.V_drewN | apply Kd.V_drew)); exact HO_2.out) (Kd.R_base ho0) hb); have n2_ := Aside0.mk (Kd.R_elder' (by (with_reducible repeat (first | apply Kd.R_alloc | apply Kd.R_drewN | apply Kd.R_drew)); exact HO234.out) (Kd.R_base ho0) hb); have n3_ := Aside0.mk (Kd.N_elder' (by (with_reducible repeat (first | apply Kd.N_alloc | apply Kd.N_drewN | apply Kd.N_drew)); exact HO243.out) (Kd.R_base ho0) hb); have n4_ := Aside0.mk (Kd.R_lower (Kd.R_new' (Kd.R_newM (M := fun k_ => (w.heap.size ≤ k_)) ho0 (below_size (by repeat (first | (with_reducible first | exact HB.out | apply below_alloc | apply pw_below_drewN | apply below_drew1) | exact HB.out))) (fun k_ h_ => h_)) (Kd.R_lt (by (with_reducible repeat (first | apply Kd.R_alloc | apply Kd.R_drewN | apply Kd.R_drew)); exact HO234.out))) (below_size (by repeat (first | (with_reducible first | exact HB.out | apply below_alloc | apply pw_below_drewN | apply below_drew1) | exact HB.out)))); have n5_ := Aside0.mk (below_step (by repeat (first | (with_reducible first | exact HB.out | apply below_alloc | apply pw_below_drewN | apply below_drew1) | exact HB.out)) hb); clear HO_1; clear HO_2; clear HO234; clear HO243; clear HB; have HO_1 := n0_; have HO_2 := n1_; have HO234 := n2_; have HO243 := n3_; have HO248 := n4_; have HB := n5_; clear n0_ n1_ n2_ n3_ n4_ n5_; (try clear hb); (try clear hb2); (try clear hk); (try clear hi); (try clear ho0)))
                go_loopg [12, 13] kj3 (fun kq v12 v13 w' => ∃ (x12_2 : Int) (x13_2 : Int), v12 = .int .i64 x12_2 ∧ v13 = .int .i64 x13_2 ∧ Aside0 (greenwoodlaw05_ElimCombines.l0 kq a0 l1 l2 (l2.length : Int) t231 t246 x12_2 x13_2 = some r) ∧ Aside0 (kq ≤ kj3) ∧ Aside0 (Kd.V (Kd.slice 3 (Kd.int .i64)) 26 w' w.heap.size (fun k_ => ((P1_ k_ ∨ P2_ k_) ∨ w.heap.size ≤ k_) ∧ some k_ ≠ (v233 : Value).ownBlock ∧ some k_ ≠ (v247 : Value).ownBlock) (.slice A1 l1.length c1) l1) ∧ Aside0 (Kd.V (Kd.int .i64) 3 w' w.heap.size (fun k_ => ((P1_ k_ ∨ P2_ k_) ∨ w.heap.size ≤ k_) ∧ some k_ ≠ (v233 : Value).ownBlock ∧ some k_ ≠ (v247 : Value).ownBlock) (.slice A2 l2.length c2) l2) ∧ Aside0 (Kd.R (Kd.int .i64) 3 w' w.heap.size (fun k_ => (w.heap.size ≤ k_) ∧ some k_ ≠ (v247 : Value).ownBlock) v233 t231) ∧ Aside0 (Kd.R (Kd.int .i64) 3 w' w.heap.size (fun k_ => (w.heap.size ≤ k_) ∧ some k_ ≠ (v233 : Value).ownBlock) v247 t246) ∧ Aside0 (Below w.heap.size w w'))
                case atStart => exact ⟨(0), (0), (by first | rfl | (simp; done) | (simp [*]; done)), (by first | rfl | (simp; done) | (simp [*]; done)), H', ⟨Nat.le_refl _⟩, ⟨by (with_reducible repeat (first | apply Kd.V_alloc | apply Kd.V_drewN | apply Kd.V_drew)); exact Kd.V_mono HO_1.out (fun _ hk => ⟨hk.1.1.1, ⟨hk.1.1.2, hk.2⟩⟩)⟩, ⟨by (with_reducible repeat (first | apply Kd.V_alloc | apply Kd.V_drewN | apply Kd.V_drew)); exact Kd.V_mono HO_2.out (fun _ hk => ⟨hk.1.1.1, ⟨hk.1.1.2, hk.2⟩⟩)⟩, ⟨by (with_reducible repeat (first | apply Kd.R_alloc | apply Kd.R_drewN | apply Kd.R_drew)); exact Kd.R_mono HO234.out (fun _ hk => ⟨hk.1.1, hk.2⟩)⟩, ⟨by (with_reducible repeat (first | apply Kd.R_alloc | apply Kd.R_drewN | apply Kd.R_drew)); exact Kd.R_mono HO248.out (fun _ hk => ⟨hk.1.1, hk.2⟩)⟩, ⟨by repeat (first | (with_reducible first | exact HB.out | apply below_alloc | apply pw_below_drewN | apply below_drew1) | exact HB.out)⟩⟩
                case round =>
                  clear H'
                  try clear c1
                  try clear c2
                  try clear p2
                  try clear c3
                  try clear c4
                  try clear c6
                  try clear c7
                  try clear c7b0
                  try clear c7b1
                  try clear c8
                  try clear c9
                  try clear c9b0
                  try clear c9b1
                  try clear c11
                  try clear c12
                  try clear c15
                  try clear c16
                  try clear c21
                  try clear c25
                  try clear c26
                  try clear c29
                  try clear c29b0
                  try clear c29b1
                  try clear c29b2
                  try clear c30
                  try clear p2
                  obtain ⟨x12_2, x13_2, rfl, rfl, HA, HK2, HO_1, HO_2, HO_8, HO_11, HB⟩ := hrel
                  cases gk with
                  | zero => exact absurd HA.out (by simp [greenwoodlaw05_ElimCombines.l0])
                  | succ k2 =>
                    have H := HA.out
                    clear HA
                    simp only [greenwoodlaw05_ElimCombines.l0] at H
                    by_cases c41 : x13_2 < (t231.length : Int)
                    · rw [if_pos c41] at H
                      have c41b0 : decide (x13_2 < (t231.length : Int)) = true := decide_eq_true c41
                      clear c41
                      have HC42 := Aside0.mk H
                      clear H
                      obtain ⟨Ao43, co43, eo43⟩ := Kd.R_slice HO_8.out
                      subst eo43
                      go_upto_region 15 with (fail)
                      go_cut [91] (fun v91 wc => ∃ (kq : Nat) (x91_41 : Bool), v91 = .bool x91_41 ∧ Aside0 (greenwoodlaw05_ElimCombines.j2 kq a0 l1 l2 (l2.length : Int) t231 t246 x12_2 x13_2 x91_41 = some r) ∧ Aside0 (kq ≤ k2) ∧ Aside0 (Kd.V (Kd.slice 3 (Kd.int .i64)) 26 wc w.heap.size (fun k_ => ((P1_ k_ ∨ P2_ k_) ∨ w.heap.size ≤ k_) ∧ some k_ ≠ ((.slice Ao43 t231.length co43) : Value).ownBlock ∧ some k_ ≠ (v247 : Value).ownBlock) (.slice A1 l1.length c1) l1) ∧ Aside0 (Kd.V (Kd.int .i64) 3 wc w.heap.size (fun k_ => ((P1_ k_ ∨ P2_ k_) ∨ w.heap.size ≤ k_) ∧ some k_ ≠ ((.slice Ao43 t231.length co43) : Value).ownBlock ∧ some k_ ≠ (v247 : Value).ownBlock) (.slice A2 l2.length c2) l2) ∧ Aside0 (Kd.R (Kd.int .i64) 3 wc w.heap.size (fun k_ => (w.heap.size ≤ k_) ∧ some k_ ≠ (v247 : Value).ownBlock) (.slice Ao43 t231.length co43) t231) ∧ Aside0 (Kd.R (Kd.int .i64) 3 wc w.heap.size (fun k_ => (w.heap.size ≤ k_) ∧ some k_ ≠ ((.slice Ao43 t231.length co43) : Value).ownBlock) v247 t246) ∧ Aside0 (Below w.heap.size w wc))
                      case first =>
                        have H := HC42.out
                        clear HC42
                        by_cases c44 : x12_2 < (t246.length : Int)
                        · rw [if_pos c44] at H
                          have c44b0 : decide (x12_2 < (t246.length : Int)) = true := decide_eq_true c44
                          clear c44
                          (first | rw [c44b0] | (simp only [i64_w, i32_w]; rw [c44b0]) | skip)
                          by_cases c45 : 0 ≤ x12_2
                          · rw [if_pos c45] at H
                            have c45b0 : decide (0 ≤ x12_2) = true := decide_eq_true c45
                            clear c45
                            have H' := Aside0.mk H
                            clear H
                            obtain ⟨Ao46, co46, eo46⟩ := Kd.R_slice HO_11.out
                            subst eo46
                            have p253 : 0 ≤ (x12_2 : Int) := of_decide_eq_true (by first | (with_reducible assumption) | assumption)
                            have q253 : x12_2 < (t246.length : Int) := of_decide_eq_true (by first | (with_reducible assumption) | assumption)
                            obtain ⟨ad253, e253, hx253_0⟩ := Kd.at_int (Kd.R_reads' HO_11.out).2.2 x12_2 p253 q253
                            cases e253
                            replace p253 := eq_true p253
                            replace q253 := eq_true q253
                            go_wp2
                            go_meet
                            case rel => exact ⟨_, (((rd t246 x12_2) == x13_2)), (by first | rfl | (simp; done) | (simp [*]; done)), H', ⟨by have := HJ3.out; have := HK2.out; first | omega | exact Nat.le_refl _⟩, ⟨by (with_reducible repeat (first | apply Kd.V_alloc | apply Kd.V_drewN | apply Kd.V_drew)); exact HO_1.out⟩, ⟨by (with_reducible repeat (first | apply Kd.V_alloc | apply Kd.V_drewN | apply Kd.V_drew)); exact HO_2.out⟩, ⟨by (with_reducible repeat (first | apply Kd.R_alloc | apply Kd.R_drewN | apply Kd.R_drew)); exact HO_8.out⟩, ⟨by (with_reducible repeat (first | apply Kd.R_alloc | apply Kd.R_drewN | apply Kd.R_drew)); exact HO_11.out⟩, ⟨by repeat (first | (with_reducible first | exact HB.out | apply below_alloc | apply pw_below_drewN | apply below_drew1) | exact HB.out)⟩⟩
                          · rw [if_neg c45] at H
                            exact absurd H (by simp)
                        · rw [if_neg c44] at H
                          have c44b0 : decide (x12_2 < (t246.length : Int)) = false := decide_eq_false c44
                          clear c44
                          (first | rw [c44b0] | (simp only [i64_w, i32_w]; rw [c44b0]) | skip)
                          have H' := Aside0.mk H
                          clear H
                          obtain ⟨Ao47, co47, eo47⟩ := Kd.R_slice HO_11.out
                          subst eo47
                          go_wp2
                          go_meet
                          case rel => exact ⟨_, (false), (by first | rfl | (simp; done) | (simp [*]; done)), H', ⟨by have := HJ3.out; have := HK2.out; first | omega | exact Nat.le_refl _⟩, ⟨by (with_reducible repeat (first | apply Kd.V_alloc | apply Kd.V_drewN | apply Kd.V_drew)); exact HO_1.out⟩, ⟨by (with_reducible repeat (first | apply Kd.V_alloc | apply Kd.V_drewN | apply Kd.V_drew)); exact HO_2.out⟩, ⟨by (with_reducible repeat (first | apply Kd.R_alloc | apply Kd.R_drewN | apply Kd.R_drew)); exact HO_8.out⟩, ⟨by (with_reducible repeat (first | apply Kd.R_alloc | apply Kd.R_drewN | apply Kd.R_drew)); exact HO_11.out⟩, ⟨by repeat (first | (with_reducible first | exact HB.out | apply below_alloc | apply pw_below_drewN | apply below_drew1) | exact HB.out)⟩⟩
                      case rest =>
                        clear HC42
                        try clear c1
                        try clear c2
                        try clear p2
                        try clear q2
                        try clear hx2
                        try clear c3
                        try clear c4
                        try clear c6
                        try clear c7
                        try clear c7b0
                        try clear c7b1
                        try clear c8
                        try clear c9
                        try clear c9b0
                        try clear c9b1
                        try clear c11
                        try clear c12
                        try clear c15
                        try clear c16
                        try clear c21
                        try clear c25
                        try clear p25
                        try clear q25
                        try clear hx25
                        try clear c26
                        try clear c29
                        try clear c29b0
                        try clear c29b1
                        try clear c29b2
                        try clear c30
                        try clear c41
                        try clear c41b0
                        try clear c44
                        try clear c44b0
                        try clear c45
                        try clear c45b0
                        try clear hx253_0
                        try clear p2
                        try clear p253
                        try clear q253
                        obtain ⟨kq, x91_41, rfl, HA, HJ41, HO_1, HO_2, HO_8, HO_11, HB⟩ := hcut
                        cases kq with
                        | zero => exact absurd HA.out (by simp [greenwoodlaw05_ElimCombines.j2])
                        | succ kj41 =>
                          have H := HA.out
                          clear HA
                          simp only [greenwoodlaw05_ElimCombines.j2] at H
                          by_cases c48 : x91_41 = true
                          · subst c48
                            have H1 : (if 0 ≤ x13_2 then (if x13_2 < (t231.length : Int) then (if (rd t231 x13_2) < 0 then (some false) else (if (rd t231 x13_2) ≥ a0 then (some false) else (greenwoodlaw05_ElimCombines.l0 kj41 a0 l1 l2 (l2.length : Int) t231 t246 (wrap64 (x12_2 + 1)) (wrap64 (x13_2 + 1))))) else (none)) else (none)) = some r := by rw [if_pos rfl] at H; exact H
                            clear H
                            have H := H1
                            clear H1
                            by_cases c49 : 0 ≤ x13_2
                            · rw [if_pos c49] at H
                              have c49b0 : decide (0 ≤ x13_2) = true := decide_eq_true c49
                              clear c49
                              by_cases c50 : x13_2 < (t231.length : Int)
                              · rw [if_pos c50] at H
                                have c50b0 : decide (x13_2 < (t231.length : Int)) = true := decide_eq_true c50
                                clear c50
                                by_cases c51 : (rd t231 x13_2) < 0
                                · rw [if_pos c51] at H
                                  have c51b0 : decide ((rd t231 x13_2) < 0) = true := decide_eq_true c51
                                  clear c51
                                  exact absurd ((Option.some.inj H).trans hrT) (by decide)
                                · rw [if_neg c51] at H
                                  have c51b0 : decide ((rd t231 x13_2) < 0) = false := decide_eq_false c51
                                  clear c51
                                  by_cases c52 : (rd t231 x13_2) ≥ a0
                                  · rw [if_pos c52] at H
                                    have c52b0 : decide (a0 ≤ (rd t231 x13_2)) = true := decide_eq_true c52
                                    clear c52
                                    exact absurd ((Option.some.inj H).trans hrT) (by decide)
                                  · rw [if_neg c52] at H
                                    have c52b0 : decide (a0 ≤ (rd t231 x13_2)) = false := decide_eq_false c52
                                    clear c52
                                    have H' := Aside0.mk H
                                    clear H
                                    have p254 : 0 ≤ (x13_2 : Int) := of_decide_eq_true (by first | (with_reducible assumption) | assumption)
                                    have q254 : x13_2 < (t231.length : Int) := of_decide_eq_true (by first | (with_reducible assumption) | assumption)
                                    obtain ⟨ad254, e254, hx254_0⟩ := Kd.at_int (Kd.R_reads' HO_8.out).2.2 x13_2 p254 q254
                                    cases e254
                                    replace p254 := eq_true p254
                                    replace q254 := eq_true q254
                                    have p255 : 0 ≤ (x13_2 : Int) := of_decide_eq_true (by first | (with_reducible assumption) | assumption)
                                    have q255 : x13_2 < (t231.length : Int) := of_decide_eq_true (by first | (with_reducible assumption) | assumption)
                                    obtain ⟨ad255, e255, hx255_0⟩ := Kd.at_int (Kd.R_reads' HO_8.out).2.2 x13_2 p255 q255
                                    obtain rfl : ad254 = ad255 := (by injection e255)
                                    replace p255 := eq_true p255
                                    replace q255 := eq_true q255
                                    go_wp2
                                    go_roundg kj41
                                    case measure => have := HJ3.out; have := HK2.out; have := HJ41.out; omega
                                    case rel => exact ⟨(wrap64 (x12_2 + 1)), (wrap64 (x13_2 + 1)), (by first | rfl | (simp; done) | (simp [*]; done)), (by first | rfl | (simp; done) | (simp [*]; done)), H', ⟨by have := HJ3.out; have := HK2.out; have := HJ41.out; omega⟩, ⟨by (with_reducible repeat (first | apply Kd.V_alloc | apply Kd.V_drewN | apply Kd.V_drew)); exact HO_1.out⟩, ⟨by (with_reducible repeat (first | apply Kd.V_alloc | apply Kd.V_drewN | apply Kd.V_drew)); exact HO_2.out⟩, ⟨by (with_reducible repeat (first | apply Kd.R_alloc | apply Kd.R_drewN | apply Kd.R_drew)); exact HO_8.out⟩, ⟨by (with_reducible repeat (first | apply Kd.R_alloc | apply Kd.R_drewN | apply Kd.R_drew)); exact HO_11.out⟩, ⟨by repeat (first | (with_reducible first | exact HB.out | apply below_alloc | apply pw_below_drewN | apply below_drew1) | exact HB.out)⟩⟩
                              · rw [if_neg c50] at H
                                exact absurd H (by simp)
                            · rw [if_neg c49] at H
                              exact absurd H (by simp)
                          · replace c48 := Bool.eq_false_iff.mpr c48
                            subst c48
                            have H1 : (if 0 ≤ x13_2 then (if x13_2 < (t231.length : Int) then (if (rd t231 x13_2) = 0 then (if (rd t231 x13_2) < 0 then (some false) else (if (rd t231 x13_2) ≥ a0 then (some false) else (greenwoodlaw05_ElimCombines.l0 kj41 a0 l1 l2 (l2.length : Int) t231 t246 x12_2 (wrap64 (x13_2 + 1))))) else (some false)) else (none)) else (none)) = some r := by rw [if_neg (show ¬ (false = true) by decide)] at H; exact H
                            clear H
                            have H := H1
                            clear H1
                            by_cases c53 : 0 ≤ x13_2
                            · rw [if_pos c53] at H
                              have c53b0 : decide (0 ≤ x13_2) = true := decide_eq_true c53
                              clear c53
                              by_cases c54 : x13_2 < (t231.length : Int)
                              · rw [if_pos c54] at H
                                have c54b0 : decide (x13_2 < (t231.length : Int)) = true := decide_eq_true c54
                                clear c54
                                by_cases c55 : (rd t231 x13_2) = 0
                                · rw [if_pos c55] at H
                                  have c55b0 : ((rd t231 x13_2) == 0) = true := beq_iff_eq.mpr c55
                                  have c55b1 : ((rd t231 x13_2) != 0) = false := bne_eq_false_iff_eq.mpr c55
                                  clear c55
                                  by_cases c56 : (rd t231 x13_2) < 0
                                  · rw [if_pos c56] at H
                                    have c56b0 : decide ((rd t231 x13_2) < 0) = true := decide_eq_true c56
                                    clear c56
                                    exact absurd ((Option.some.inj H).trans hrT) (by decide)
                                  · rw [if_neg c56] at H
                                    have c56b0 : decide ((rd t231 x13_2) < 0) = false := decide_eq_false c56
                                    clear c56
                                    by_cases c57 : (rd t231 x13_2) ≥ a0
                                    · rw [if_pos c57] at H
                                      have c57b0 : decide (a0 ≤ (rd t231 x13_2)) = true := decide_eq_true c57
                                      clear c57
                                      exact absurd ((Option.some.inj H).trans hrT) (by decide)
                                    · rw [if_neg c57] at H
                                      have c57b0 : decide (a0 ≤ (rd t231 x13_2)) = false := decide_eq_false c57
                                      clear c57
                                      have H' := Aside0.mk H
                                      clear H
                                      have p256 : 0 ≤ (x13_2 : Int) := of_decide_eq_true (by first | (with_reducible assumption) | assumption)
                                      have q256 : x13_2 < (t231.length : Int) := of_decide_eq_true (by first | (with_reducible assumption) | assumption)
                                      obtain ⟨ad256, e256, hx256_0⟩ := Kd.at_int (Kd.R_reads' HO_8.out).2.2 x13_2 p256 q256
                                      cases e256
                                      replace p256 := eq_true p256
                                      replace q256 := eq_true q256
                                      have p257 : 0 ≤ (x13_2 : Int) := of_decide_eq_true (by first | (with_reducible assumption) | assumption)
                                      have q257 : x13_2 < (t231.length : Int) := of_decide_eq_true (by first | (with_reducible assumption) | assumption)
                                      obtain ⟨ad257, e257, hx257_0⟩ := Kd.at_int (Kd.R_reads' HO_8.out).2.2 x13_2 p257 q257
                                      obtain rfl : ad256 = ad257 := (by injection e257)
                                      replace p257 := eq_true p257
                                      replace q257 := eq_true q257
                                      have p258 : 0 ≤ (x13_2 : Int) := of_decide_eq_true (by first | (with_reducible assumption) | assumption)
                                      have q258 : x13_2 < (t231.length : Int) := of_decide_eq_true (by first | (with_reducible assumption) | assumption)
                                      obtain ⟨ad258, e258, hx258_0⟩ := Kd.at_int (Kd.R_reads' HO_8.out).2.2 x13_2 p258 q258
                                      obtain rfl : ad256 = ad258 := (by injection e258)
                                      replace p258 := eq_true p258
                                      replace q258 := eq_true q258
                                      go_wp2
                                      go_roundg kj41
                                      case measure => have := HJ3.out; have := HK2.out; have := HJ41.out; omega
                                      case rel => exact ⟨(x12_2), (wrap64 (x13_2 + 1)), (by first | rfl | (simp; done) | (simp [*]; done)), (by first | rfl | (simp; done) | (simp [*]; done)), H', ⟨by have := HJ3.out; have := HK2.out; have := HJ41.out; omega⟩, ⟨by (with_reducible repeat (first | apply Kd.V_alloc | apply Kd.V_drewN | apply Kd.V_drew)); exact HO_1.out⟩, ⟨by (with_reducible repeat (first | apply Kd.V_alloc | apply Kd.V_drewN | apply Kd.V_drew)); exact HO_2.out⟩, ⟨by (with_reducible repeat (first | apply Kd.R_alloc | apply Kd.R_drewN | apply Kd.R_drew)); exact HO_8.out⟩, ⟨by (with_reducible repeat (first | apply Kd.R_alloc | apply Kd.R_drewN | apply Kd.R_drew)); exact HO_11.out⟩, ⟨by repeat (first | (with_reducible first | exact HB.out | apply below_alloc | apply pw_below_drewN | apply below_drew1) | exact HB.out)⟩⟩
                                · rw [if_neg c55] at H
                                  have c55b0 : ((rd t231 x13_2) == 0) = false := beq_eq_false_iff_ne.mpr c55
                                  have c55b1 : ((rd t231 x13_2) != 0) = true := bne_iff_ne.mpr c55
                                  exact absurd ((Option.some.inj H).trans hrT) (by decide)
                              · rw [if_neg c54] at H
                                exact absurd H (by simp)
                            · rw [if_neg c53] at H
                              exact absurd H (by simp)
                    · rw [if_neg c41] at H
                      have c41b0 : decide (x13_2 < (t231.length : Int)) = false := decide_eq_false c41
                      clear c41
                      by_cases c58 : (t231.length : Int) = (l1.length : Int)
                      · rw [if_pos c58] at H
                        have c58b0 : ((t231.length : Int) == (l1.length : Int)) = true := beq_iff_eq.mpr c58
                        have c58b1 : ((t231.length : Int) != (l1.length : Int)) = false := bne_eq_false_iff_eq.mpr c58
                        have c58b2 : (t231.length == l1.length) = true := by first | simpa using c58 | (simp at c58 ⊢; omega)
                        clear c58
                        by_cases c59 : x12_2 = (t246.length : Int)
                        · rw [if_pos c59] at H
                          have c59b0 : (x12_2 == (t246.length : Int)) = true := beq_iff_eq.mpr c59
                          have c59b1 : (x12_2 != (t246.length : Int)) = false := bne_eq_false_iff_eq.mpr c59
                          clear c59
                          replace H := Option.bind_eq_some_iff.mp H
                          obtain ⟨t249, A600, H⟩ := H
                          replace H : ((greenwoodref01_Same.f k2 t249 l2).bind fun t252 => (some t252)) = some r := H
                          have A60 := Aside0.mk A600
                          clear A600
                          replace H := Option.bind_eq_some_iff.mp H
                          obtain ⟨t252, A610, H⟩ := H
                          replace H : (some t252) = some r := H
                          have A61 := Aside0.mk A610
                          clear A610
                          obtain rfl := Option.some.inj H
                          obtain ⟨Ao62, co62, eo62⟩ := Kd.R_slice HO_8.out
                          subst eo62
                          obtain ⟨Ao63, co63, eo63⟩ := Kd.R_slice HO_11.out
                          subst eo63
                          go_wp2_with (first | (go_at_call 17; (with_reducible refine (greenwoodref05_Sum.calls k2 a0 (l2.length : Int) _ _ l1 _ _ t231 t249 _ ?side1 ?side2 ?side3 ?side4 A60.out).mono ?_); (case side1 => repeat (first | exact (Kd.V_reads' HO_1.out).2.2 | (with_reducible refine Kd.C_alloc ?_ _) | (with_reducible refine Kd.C_drewN ?_ _) | (with_reducible refine Kd.C_drew ?_))); (case side2 => exact (Kd.V_reads' HO_1.out).2.1); (case side3 => repeat (first | exact (Kd.R_reads' HO_8.out).2.2 | (with_reducible refine Kd.C_alloc ?_ _) | (with_reducible refine Kd.C_drewN ?_ _) | (with_reducible refine Kd.C_drew ?_))); (case side4 => exact (Kd.R_reads' HO_8.out).2.1); rintro e w64 ⟨v250, rfl, ho0, hb⟩; have n0_ := Aside0.mk (Kd.V_elder' (by (with_reducible repeat (first | apply Kd.V_alloc | apply Kd.V_drewN | apply Kd.V_drew)); exact HO_1.out) (Kd.R_base ho0) hb); have n1_ := Aside0.mk (Kd.V_elder' (by (with_reducible repeat (first | apply Kd.V_alloc | apply Kd.V_drewN | apply Kd.V_drew)); exact HO_2.out) (Kd.R_base ho0) hb); have n2_ := Aside0.mk (Kd.R_elder' (by (with_reducible repeat (first | apply Kd.R_alloc | apply Kd.R_drewN | apply Kd.R_drew)); exact HO_8.out) (Kd.R_base ho0) hb); have n3_ := Aside0.mk (Kd.R_elder' (by (with_reducible repeat (first | apply Kd.R_alloc | apply Kd.R_drewN | apply Kd.R_drew)); exact HO_11.out) (Kd.R_base ho0) hb); have n4_ := Aside0.mk (Kd.R_lower (Kd.R_new' (Kd.R_new' (Kd.R_newM (M := fun k_ => (w.heap.size ≤ k_)) ho0 (below_size (by repeat (first | (with_reducible first | exact HB.out | apply below_alloc | apply pw_below_drewN | apply below_drew1) | exact HB.out))) (fun k_ h_ => h_)) (Kd.R_lt (by (with_reducible repeat (first | apply Kd.R_alloc | apply Kd.R_drewN | apply Kd.R_drew)); exact HO_8.out))) (Kd.R_lt (by (with_reducible repeat (first | apply Kd.R_alloc | apply Kd.R_drewN | apply Kd.R_drew)); exact HO_11.out))) (below_size (by repeat (first | (with_reducible first | exact HB.out | apply below_alloc | apply pw_below_drewN | apply below_drew1) | exact HB.out)))); have n5_ := Aside0.mk (below_step (by repeat (first | (with_reducible first | exact HB.out | apply below_alloc | apply pw_below_drewN | apply below_drew1) | exact HB.out)) hb); clear HO_1; clear HO_2; clear HO_8; clear HO_11; clear HB; have HO_1 := n0_; have HO_2 := n1_; have HO_8 := n2_; have HO_11 := n3_; have HO251 := n4_; have HB := n5_; clear n0_ n1_ n2_ n3_ n4_ n5_; (try clear hb); (try clear hb2); (try clear hk); (try clear hi); (try clear ho0); obtain ⟨Ao65, co65, eo65⟩ := Kd.R_slice HO251.out; subst eo65) | (go_at_call 11; (with_reducible refine (greenwoodref01_Same.calls k2 _ _ t249 _ _ l2 t252 _ ?side1 ?side2 ?side3 ?side4 A61.out).mono ?_); (case side1 => repeat (first | exact (Kd.R_reads' HO251.out).2.2 | (with_reducible refine Kd.C_alloc ?_ _) | (with_reducible refine Kd.C_drewN ?_ _) | (with_reducible refine Kd.C_drew ?_))); (case side2 => exact (Kd.R_reads' HO251.out).2.1); (case side3 => repeat (first | exact (Kd.V_reads' HO_2.out).2.2 | (with_reducible refine Kd.C_alloc ?_ _) | (with_reducible refine Kd.C_drewN ?_ _) | (with_reducible refine Kd.C_drew ?_))); (case side4 => exact (Kd.V_reads' HO_2.out).2.1); rintro e w' ⟨rfl, ⟨nd, rfl⟩⟩))
                          go_ret
                          exact ⟨by first | rfl | (simp [errW_none, errW_some] <;> rfl) | (simp [*, errW_none, errW_some] <;> rfl), by repeat (first | (with_reducible first | exact HB.out | apply below_alloc | apply pw_below_drewN | apply below_drew1) | exact HB.out)⟩
                        · rw [if_neg c59] at H
                          have c59b0 : (x12_2 == (t246.length : Int)) = false := beq_eq_false_iff_ne.mpr c59
                          have c59b1 : (x12_2 != (t246.length : Int)) = true := bne_iff_ne.mpr c59
                          exact absurd ((Option.some.inj H).trans hrT) (by decide)
                      · rw [if_neg c58] at H
                        have c58b0 : ((t231.length : Int) == (l1.length : Int)) = false := beq_eq_false_iff_ne.mpr c58
                        have c58b1 : ((t231.length : Int) != (l1.length : Int)) = true := bne_iff_ne.mpr c58
                        have c58b2 : (t231.length == l1.length) = false := by first | simpa using c58 | (simp at c58 ⊢; omega)
                        exact absurd ((Option.some.inj H).trans hrT) (by decide)
              · replace c30 := Bool.eq_false_iff.mpr c30
                subst c30
                have H1 : (some ((t231.length : Int) == 0)) = some r := by rw [if_neg (show ¬ (false = true) by decide)] at H; exact H
                clear H
                have H := H1
                clear H1
                obtain rfl := Option.some.inj H
                go_wp2_with (first | ((with_reducible refine gate_callee (f := 16) rfl ?_); refine goesL_ (some 45) rfl rfl Try.func16 (by kernel_rfl) rfl #[.int .i64 a0, .int .i64 (l2.length : Int), .slice A1 l1.length c1, .slice A2 l2.length c2] rfl (by (try simp only [List.map_toArray, List.map_cons, List.map_nil]); first | done | rfl | (simp only [List.length_drop, List.length_take]; rfl)) ?_; (with_reducible refine (elim_Combo.calls kj3 a0 (l2.length : Int) _ _ l1 _ _ l2 t231 false _ ?side1 ?side2 ?side3 ?side4 A24.out).mono ?_); (case side1 => repeat (first | exact (Kd.V_reads' HO_1.out).2.2 | (with_reducible refine Kd.C_alloc ?_ _) | (with_reducible refine Kd.C_drewN ?_ _) | (with_reducible refine Kd.C_drew ?_))); (case side2 => exact (Kd.V_reads' HO_1.out).2.1); (case side3 => repeat (first | exact (Kd.V_reads' HO_2.out).2.2 | (with_reducible refine Kd.C_alloc ?_ _) | (with_reducible refine Kd.C_drewN ?_ _) | (with_reducible refine Kd.C_drew ?_))); (case side4 => exact (Kd.V_reads' HO_2.out).2.1); rintro e w66 ⟨v233, rfl, ho0, hb⟩; refine ⟨_, rfl, ?_⟩; have n0_ := Aside0.mk (Kd.V_elder' (by (with_reducible repeat (first | apply Kd.V_alloc | apply Kd.V_drewN | apply Kd.V_drew)); exact HO_1.out) (Kd.R_base ho0) hb); have n1_ := Aside0.mk (Kd.V_elder' (by (with_reducible repeat (first | apply Kd.V_alloc | apply Kd.V_drewN | apply Kd.V_drew)); exact HO_2.out) (Kd.R_base ho0) hb); have n2_ := Aside0.mk (Kd.R_lower (Kd.R_newM (M := fun k_ => (w.heap.size ≤ k_)) ho0 (below_size (by repeat (first | (with_reducible first | exact HB.out | apply below_alloc | apply pw_below_drewN | apply below_drew1) | exact HB.out))) (fun k_ h_ => h_)) (below_size (by repeat (first | (with_reducible first | exact HB.out | apply below_alloc | apply pw_below_drewN | apply below_drew1) | exact HB.out)))); have n3_ := Aside0.mk (below_step (by repeat (first | (with_reducible first | exact HB.out | apply below_alloc | apply pw_below_drewN | apply below_drew1) | exact HB.out)) hb); clear HO_1; clear HO_2; clear HB; have HO_1 := n0_; have HO_2 := n1_; have HO234 := n2_; have HB := n3_; clear n0_ n1_ n2_ n3_; (try clear hb); (try clear hb2); (try clear hk); (try clear hi); (try clear ho0)) | ((with_reducible refine gate_dst (N := 50) rfl ?_); (try (refine gate_guard (by rfl) ?_; dsimp only)); refine Kd.N_lit (Kd.slice 3 (Kd.int .i64)) _ 26 ?hg (N' := 50) ?hd (xs := ([] : List (List Int))) (inner := []) (ok := (fun k_ => ((P1_ k_ ∨ P2_ k_) ∨ w.heap.size ≤ k_) ∧ some k_ ≠ (v233 : Value).ownBlock)) (okp := (fun k_ => ((P1_ k_ ∨ P2_ k_) ∨ w.heap.size ≤ k_) ∧ some k_ ≠ (v233 : Value).ownBlock)) ?hr ?hp (fun _ hk => hk) ((show ∀ k_, w66.heap.size ≤ k_ → (fun k_ => ((P1_ k_ ∨ P2_ k_) ∨ w.heap.size ≤ k_) ∧ some k_ ≠ (v233 : Value).ownBlock) k_ from fun k_ hk => ⟨(.inr (Nat.le_trans (below_size (by repeat (first | (with_reducible first | exact HB.out | apply below_alloc | apply pw_below_drewN | apply below_drew1) | exact HB.out))) hk)), Kd.fresh' (Kd.R_lt (by (with_reducible repeat (first | apply Kd.R_alloc | apply Kd.R_drewN | apply Kd.R_drew)); exact HO234.out)) k_ hk⟩) _ (Nat.le_refl _)) (Below.refl _ _) (Nat.le_refl _) (by simp) ?_; (case hd => rfl); (case hg => rfl); (case hr => first | (go_simp; done) | (go_simp; rfl)); (case hp => exact (Reps.none _ _)); intro v236 w67 ho68 hb hg_ hnew_; clear hg_ hnew_; (first | rw [← Ny235.out] at ho68 | (simp only [Int.reduceToNat] at ho68; rw [← Ny235.out] at ho68)); have n0_ := Aside0.mk (Kd.V_elder' (by (with_reducible repeat (first | apply Kd.V_alloc | apply Kd.V_drewN | apply Kd.V_drew)); exact HO_1.out) (Kd.N_base ho68) hb); have n1_ := Aside0.mk (Kd.V_elder' (by (with_reducible repeat (first | apply Kd.V_alloc | apply Kd.V_drewN | apply Kd.V_drew)); exact HO_2.out) (Kd.N_base ho68) hb); have n2_ := Aside0.mk (Kd.R_below (by (with_reducible repeat (first | apply Kd.R_alloc | apply Kd.R_drewN | apply Kd.R_drew)); exact HO234.out) hb); have n3_ := Aside0.mk (Kd.N_lower ho68 (below_size (by repeat (first | (with_reducible first | exact HB.out | apply below_alloc | apply pw_below_drewN | apply below_drew1) | exact HB.out)))); have n4_ := Aside0.mk (below_step (by repeat (first | (with_reducible first | exact HB.out | apply below_alloc | apply pw_below_drewN | apply below_drew1) | exact HB.out)) hb); clear HO_1; clear HO_2; clear HO234; clear HB; have HO_1 := n0_; have HO_2 := n1_; have HO234 := n2_; have HO237 := n3_; have HB := n4_; clear n0_ n1_ n2_ n3_ n4_; clear hb ho68) | ((with_reducible refine gate_builtin (b := .append) (xs := #[.tmp 50, .tmp 51]) rfl ?_); (try (refine gate_guard (by rfl) ?_; dsimp only)); at_builtin; refine Kd.N_append_rows (Kd.slice 3 (Kd.int .i64)) (w0 := w) w.heap.size rfl (.tmp 50) (.tmp 51) 22 26 (.slice none 0 0) 24 rfl Try.underlying22 info26 rfl (by decide) (by omega) v236 y235 l1 _ _ _ (fun k_ => ((P1_ k_ ∨ P2_ k_) ∨ w.heap.size ≤ k_) ∧ some k_ ≠ (v233 : Value).ownBlock) (fun k_ => ((fun k_ => ((P1_ k_ ∨ P2_ k_) ∨ w.heap.size ≤ k_) ∧ some k_ ≠ (v233 : Value).ownBlock)) k_ ∧ some k_ ≠ (v236 : Value).ownBlock) rfl rfl ?aO ?aR (fun _ hk => hk) ?aF ?aB ?aS ?aL ?_; (case aR => exact (by skip; exact Kd.V_F (Kd.V_mono (ok' := (fun k_ => ((fun k_ => ((P1_ k_ ∨ P2_ k_) ∨ w.heap.size ≤ k_) ∧ some k_ ≠ (v233 : Value).ownBlock)) k_ ∧ some k_ ≠ (v236 : Value).ownBlock)) (HO_1.out) (fun k_ hk => ⟨⟨hk.1.1, hk.1.2⟩, hk.2⟩)))); (case aB => exact (by repeat (first | (with_reducible first | exact HB.out | apply below_alloc | apply pw_below_drewN | apply below_drew1) | exact HB.out))); (case aF => exact (fun k_ hk => ⟨(.inr (Nat.le_trans (below_size (by repeat (first | (with_reducible first | exact HB.out | apply below_alloc | apply pw_below_drewN | apply below_drew1) | exact HB.out))) hk)), Kd.fresh' (Kd.R_lt (by (with_reducible repeat (first | apply Kd.R_alloc | apply Kd.R_drewN | apply Kd.R_drew)); exact HO234.out)) k_ hk⟩)); (case aO => exact (by (with_reducible repeat (first | apply Kd.N_alloc | apply Kd.N_drewN | apply Kd.N_drew)); exact HO237.out)); (case aS => exact (below_size (by repeat (first | (with_reducible first | exact HB.out | apply below_alloc | apply pw_below_drewN | apply below_drew1) | exact HB.out)))); (case aL => have := LMc25.out; omega); intro v239 w69 ho hb hg hat; rw [← Ny238.out] at ho; have n0_ := Aside0.mk (Kd.V_afterv (ok := (fun k_ => ((P1_ k_ ∨ P2_ k_) ∨ w.heap.size ≤ k_) ∧ some k_ ≠ (v233 : Value).ownBlock)) (by (with_reducible repeat (first | apply Kd.V_alloc | apply Kd.V_drewN | apply Kd.V_drew)); exact HO_1.out) hg hat); have n1_ := Aside0.mk (Kd.V_afterv (ok := (fun k_ => ((P1_ k_ ∨ P2_ k_) ∨ w.heap.size ≤ k_) ∧ some k_ ≠ (v233 : Value).ownBlock)) (by (with_reducible repeat (first | apply Kd.V_alloc | apply Kd.V_drewN | apply Kd.V_drew)); exact HO_2.out) hg hat); have n2_ := Aside0.mk (Kd.R_over' (by (with_reducible repeat (first | apply Kd.R_alloc | apply Kd.R_drewN | apply Kd.R_drew)); exact HO234.out) (Kd.N_typed (by (with_reducible repeat (first | apply Kd.N_alloc | apply Kd.N_drewN | apply Kd.N_drew)); exact HO237.out)) (by decide) hg); have n3_ := Aside0.mk (hb); have n4_ := Aside0.mk (ho); clear HO_1; clear HO_2; clear HO234; clear HB; clear HO237; have HO_1 := n0_; have HO_2 := n1_; have HO234 := n2_; have HB := n3_; have HO240 := n4_; clear n0_ n1_ n2_ n3_ n4_; clear ho hb hg hat) | ((with_reducible refine gate_builtin (b := .append) (xs := #[.tmp 52, .tmp 54]) rfl ?_); (try (refine gate_guard (by rfl) ?_; dsimp only)); at_builtin; refine Kd.N_append (Kd.slice 3 (Kd.int .i64)) (w0 := w) w.heap.size rfl (.tmp 52) (.tmp 54) 22 26 (.slice none 0 0) 24 rfl Try.underlying22 info26 rfl (by decide) (by omega) v239 y238 l2 [.slice A2 l2.length c2] (fun k_ => ((P1_ k_ ∨ P2_ k_) ∨ w.heap.size ≤ k_) ∧ some k_ ≠ (v233 : Value).ownBlock) (fun k_ => ((fun k_ => ((P1_ k_ ∨ P2_ k_) ∨ w.heap.size ≤ k_) ∧ some k_ ≠ (v233 : Value).ownBlock)) k_ ∧ some k_ ≠ (v239 : Value).ownBlock) rfl rfl ?aP (fun _ hk => hk) ?aF ?aO ?aB ?aS ?aL ?_; (case aP => exact (Kd.FK_slice_mk (Kd.V_reads' (Kd.V_mono (ok' := (fun k_ => ((fun k_ => ((P1_ k_ ∨ P2_ k_) ∨ w.heap.size ≤ k_) ∧ some k_ ≠ (v233 : Value).ownBlock)) k_ ∧ some k_ ≠ (v239 : Value).ownBlock)) (HO_2.out) (fun k_ hk => ⟨⟨hk.1.1, hk.1.2⟩, hk.2⟩))).2.1 (Kd.V_F (Kd.V_mono (ok' := (fun k_ => ((fun k_ => ((P1_ k_ ∨ P2_ k_) ∨ w.heap.size ≤ k_) ∧ some k_ ≠ (v233 : Value).ownBlock)) k_ ∧ some k_ ≠ (v239 : Value).ownBlock)) (HO_2.out) (fun k_ hk => ⟨⟨hk.1.1, hk.1.2⟩, hk.2⟩))))); (case aB => exact (by repeat (first | (with_reducible first | exact HB.out | apply below_alloc | apply pw_below_drewN | apply below_drew1) | exact HB.out))); (case aF => exact (fun k_ hk => ⟨(.inr (Nat.le_trans (below_size (by repeat (first | (with_reducible first | exact HB.out | apply below_alloc | apply pw_below_drewN | apply below_drew1) | exact HB.out))) hk)), Kd.fresh' (Kd.R_lt (by (with_reducible repeat (first | apply Kd.R_alloc | apply Kd.R_drewN | apply Kd.R_drew)); exact HO234.out)) k_ hk⟩)); (case aO => exact (by (with_reducible repeat (first | apply Kd.N_alloc | apply Kd.N_drewN | apply Kd.N_drew)); exact HO240.out)); (case aS => exact (below_size (by repeat (first | (with_reducible first | exact HB.out | apply below_alloc | apply pw_below_drewN | apply below_drew1) | exact HB.out)))); (case aL => have := LMc26.out; omega); intro v242 w70 ho hb hg hat; rw [← Ny241.out] at ho; have n0_ := Aside0.mk (Kd.V_afterv (ok := (fun k_ => ((P1_ k_ ∨ P2_ k_) ∨ w.heap.size ≤ k_) ∧ some k_ ≠ (v233 : Value).ownBlock)) (by (with_reducible repeat (first | apply Kd.V_alloc | apply Kd.V_drewN | apply Kd.V_drew)); exact HO_1.out) hg hat); have n1_ := Aside0.mk (Kd.V_afterv (ok := (fun k_ => ((P1_ k_ ∨ P2_ k_) ∨ w.heap.size ≤ k_) ∧ some k_ ≠ (v233 : Value).ownBlock)) (by (with_reducible repeat (first | apply Kd.V_alloc | apply Kd.V_drewN | apply Kd.V_drew)); exact HO_2.out) hg hat); have n2_ := Aside0.mk (Kd.R_over' (by (with_reducible repeat (first | apply Kd.R_alloc | apply Kd.R_drewN | apply Kd.R_drew)); exact HO234.out) (Kd.N_typed (by (with_reducible repeat (first | apply Kd.N_alloc | apply Kd.N_drewN | apply Kd.N_drew)); exact HO240.out)) (by decide) hg); have n3_ := Aside0.mk (hb); have n4_ := Aside0.mk (ho); clear HO_1; clear HO_2; clear HO234; clear HB; clear HO240; have HO_1 := n0_; have HO_2 := n1_; have HO234 := n2_; have HB := n3_; have HO243 := n4_; clear n0_ n1_ n2_ n3_ n4_; clear ho hb hg hat; obtain ⟨Ao71, co71, eo71⟩ := Kd.N_slice HO243.out; subst eo71) | ((with_reducible refine gate_callee (f := 15) rfl ?_); refine goesL_ (some 56) rfl rfl Try.func15 (by kernel_rfl) rfl #[.int .i64 a0, .int .i64 (l2.length : Int), .slice Ao71 y241.length co71] rfl (by (try simp only [List.map_toArray, List.map_cons, List.map_nil]); first | done | rfl | (simp only [List.length_drop, List.length_take]; rfl)) ?_; (with_reducible refine (greenwoodref05_Rank.calls kj3 a0 (l2.length : Int) _ _ y241 t244 _ ?side1 ?side2 A27.out).mono ?_); (case side1 => repeat (first | exact (Kd.N_reads' HO243.out).2.2 | (with_reducible refine Kd.C_alloc ?_ _) | (with_reducible refine Kd.C_drewN ?_ _) | (with_reducible refine Kd.C_drew ?_))); (case side2 => exact (Kd.N_reads' HO243.out).2.1); rintro e w72 ⟨rfl, hb⟩; refine ⟨_, rfl, ?_⟩; have n0_ := Aside0.mk (Kd.V_below (by (with_reducible repeat (first | apply Kd.V_alloc | apply Kd.V_drewN | apply Kd.V_drew)); exact HO_1.out) hb); have n1_ := Aside0.mk (Kd.V_below (by (with_reducible repeat (first | apply Kd.V_alloc | apply Kd.V_drewN | apply Kd.V_drew)); exact HO_2.out) hb); have n2_ := Aside0.mk (Kd.R_below (by (with_reducible repeat (first | apply Kd.R_alloc | apply Kd.R_drewN | apply Kd.R_drew)); exact HO234.out) hb); have n3_ := Aside0.mk (Kd.N_below (by (with_reducible repeat (first | apply Kd.N_alloc | apply Kd.N_drewN | apply Kd.N_drew)); exact HO243.out) hb); have n4_ := Aside0.mk (below_step (by repeat (first | (with_reducible first | exact HB.out | apply below_alloc | apply pw_below_drewN | apply below_drew1) | exact HB.out)) hb); clear HO_1; clear HO_2; clear HO234; clear HO243; clear HB; have HO_1 := n0_; have HO_2 := n1_; have HO234 := n2_; have HO243 := n3_; have HB := n4_; clear n0_ n1_ n2_ n3_ n4_; (try clear hb); (try clear hb2); (try clear hk); (try clear hi)) | ((with_reducible refine gate_callee (f := 15) rfl ?_); refine goesL_ (some 62) rfl rfl Try.func15 (by kernel_rfl) rfl #[.int .i64 a0, .int .i64 (l2.length : Int), .slice A1 l1.length c1] rfl (by (try simp only [List.map_toArray, List.map_cons, List.map_nil]); first | done | rfl | (simp only [List.length_drop, List.length_take]; rfl)) ?_; (with_reducible refine (greenwoodref05_Rank.calls kj3 a0 (l2.length : Int) _ _ l1 t245 _ ?side1 ?side2 A28.out).mono ?_); (case side1 => repeat (first | exact (Kd.V_reads' HO_1.out).2.2 | (with_reducible refine Kd.C_alloc ?_ _) | (with_reducible refine Kd.C_drewN ?_ _) | (with_reducible refine Kd.C_drew ?_))); (case side2 => exact (Kd.V_reads' HO_1.out).2.1); rintro e w73 ⟨rfl, hb⟩; refine ⟨_, rfl, ?_⟩; have n0_ := Aside0.mk (Kd.V_below (by (with_reducible repeat (first | apply Kd.V_alloc | apply Kd.V_drewN | apply Kd.V_drew)); exact HO_1.out) hb); have n1_ := Aside0.mk (Kd.V_below (by (with_reducible repeat (first | apply Kd.V_alloc | apply Kd.V_drewN | apply Kd.V_drew)); exact HO_2.out) hb); have n2_ := Aside0.mk (Kd.R_below (by (with_reducible repeat (first | apply Kd.R_alloc | apply Kd.R_drewN | apply Kd.R_drew)); exact HO234.out) hb); have n3_ := Aside0.mk (Kd.N_below (by (with_reducible repeat (first | apply Kd.N_alloc | apply Kd.N_drewN | apply Kd.N_drew)); exact HO243.out) hb); have n4_ := Aside0.mk (below_step (by repeat (first | (with_reducible first | exact HB.out | apply below_alloc | apply pw_below_drewN | apply below_drew1) | exact HB.out)) hb); clear HO_1; clear HO_2; clear HO234; clear HO243; clear HB; have HO_1 := n0_; have HO_2 := n1_; have HO234 := n2_; have HO243 := n3_; have HB := n4_; clear n0_ n1_ n2_ n3_ n4_; (try clear hb); (try clear hb2); (try clear hk); (try clear hi); obtain ⟨Ao74, co74, eo74⟩ := Kd.R_slice HO234.out; subst eo74))
                go_ret
                exact ⟨by first | rfl | (simp [errW_none, errW_some] <;> rfl) | (simp [*, errW_none, errW_some] <;> rfl), by repeat (first | (with_reducible first | exact HB.out | apply below_alloc | apply pw_below_drewN | apply below_drew1) | exact HB.out)⟩
          · rw [if_neg c26] at H
            exact absurd H (by simp)
        · rw [if_neg c25] at H
          exact absurd H (by simp)

end Go.Proofs.Ytepakefmioeilaa.P
/- Layer 5: the five laws, of what the printed functions compute. -/
namespace Go.Proofs.Ytepakefmioeilaa.P
open Go.RowKit Go.Proofs.YtepakefmioeilaaW.PrintWords Go.Proofs.YtepakefmioeilaaW.PrintLast Go.Proofs.YtepakefmioeilaaW.PrintMore
open LinA (V Sp zv smul comb rk Fld)
set_option linter.unusedVariables false
set_option linter.unusedSimpArgs false

theorem fixed_ev : Ev (fun k => greenwoodlaw05_fixed.f k) true := by
  obtain ⟨K, hK⟩ := greenwoodlaw05_fixed.val
  exact Ev.of greenwoodlaw05_fixed.mono hK
theorem may_nat {p rows : Int} {cols : List (List Int)} (h : mayB p rows cols = true) : ∃ (P : Nat) (_ : NeZero P), p = (P : Int) := by
  have hp := (isP_true.mp (mayB_true h).1).2.1
  exact ⟨p.toNat, ⟨by omega⟩, by omega⟩
/-! ### ElimCombines -/
section
variable {P : Nat} [NeZero P]
theorem bas_lt (vs : List (V P)) : ∀ k, ∀ y ∈ bas vs k, 0 ≤ y ∧ y < (k : Int) := by
  intro k
  induction k with
  | zero => intro y hy; cases hy
  | succ k ih =>
    intro y hy
    simp only [bas, List.mem_append] at hy
    rcases hy with hy | hy
    · have := ih y hy; omega
    · split at hy
      · cases hy
      · rw [List.mem_singleton.1 hy]; omega
open Classical in
theorem bas_split (vs : List (V P)) (k : Nat) : ∀ n, k ≤ n → ∃ rest, bas vs n = bas vs k ++ rest ∧ ∀ y ∈ rest, (k : Int) ≤ y := by
  intro n
  induction n with
  | zero => intro h; exact ⟨[], by rw [show k = 0 by omega]; rfl, fun y hy => by cases hy⟩
  | succ n ih =>
    intro h
    by_cases e : k = n + 1
    · subst e; exact ⟨[], by simp, fun y hy => by cases hy⟩
    · obtain ⟨rest, h1, h2⟩ := ih (by omega)
      refine ⟨rest ++ (if Sp (vs.take n) (vs.getD n zv) then [] else [(n : Int)]), by rw [bas, h1, List.append_assoc], fun y hy => ?_⟩
      rcases List.mem_append.1 hy with hy | hy
      · exact h2 y hy
      · split at hy
        · cases hy
        · rw [List.mem_singleton.1 hy]; omega
theorem bas_in_not {vs : List (V P)} {k n : Nat} (h : Sp (vs.take k) (vs.getD k zv)) (hk : k < n) : (k : Int) ∉ bas vs n := by
  intro hm
  obtain ⟨rest, h1, h2⟩ := bas_split vs (k + 1) n hk
  rw [h1, bas_in h] at hm
  rcases List.mem_append.1 hm with hm | hm
  · have := bas_lt vs k _ hm; omega
  · have := h2 _ hm; omega
theorem bas_head {vs : List (V P)} {k n : Nat} (h : ¬ Sp (vs.take k) (vs.getD k zv)) (hk : k < n) : (bas vs k).length < (bas vs n).length ∧ rd (bas vs n) ((bas vs k).length : Int) = (k : Int) := by
  obtain ⟨rest, h1, _⟩ := bas_split vs (k + 1) n hk
  rw [h1, bas_out h, List.append_assoc]
  refine ⟨by simp, ?_⟩
  rw [rd_nat, List.getElem?_append_right (Nat.le_refl _)]
  simp
theorem bas_next {vs : List (V P)} {k n : Nat} (h : Sp (vs.take k) (vs.getD k zv)) (hk : k < n) (hl : (bas vs k).length < (bas vs n).length) : rd (bas vs n) ((bas vs k).length : Int) ≠ (k : Int) := by
  obtain ⟨rest, h1, h2⟩ := bas_split vs (k + 1) n hk
  rw [h1, bas_in h] at hl ⊢
  rw [rd_nat, List.getElem?_append_right (Nat.le_refl _), Nat.sub_self]
  rw [List.length_append] at hl
  have hr : 0 < rest.length := by omega
  rw [List.getElem?_eq_getElem hr]
  have := h2 _ (List.getElem_mem hr)
  simp only [Option.getD_some]
  omega
theorem comb_l0 {rows : Int} {cols : List (List Int)} {goal c : List Int} (h : mayB P rows cols = true) (hg : mayB P rows [goal] = true) (hgl : goal.length ≤ 1000000) (hl : c.length = cols.length)
    (hb : ∀ i : Nat, i < cols.length → 0 ≤ rd c (i : Int) ∧ rd c (i : Int) < P) (hz : ∀ i : Nat, i < cols.length → (i : Int) ∉ basN P cols → rd c (i : Int) = 0) (hv : (vec goal : V P) = lc (cv P cols) (rd c) cols.length) :
    ∀ (d i : Nat), cols.length - i = d → i ≤ cols.length → Ev (fun k => greenwoodlaw05_ElimCombines.l0 k P cols goal rows c (basN P cols) ((bas (cols.map vec : List (V P)) i).length : Int) (i : Int)) true := by
  obtain ⟨hP, h0, h64, hn, hcs⟩ := mayB_true h
  have hbl := basN_le (P := P) cols
  have hbi : ∀ i, i ≤ cols.length → (bas (cols.map vec : List (V P)) i).length ≤ i := by
    intro i hi
    rw [bas_len (fldP hP) _ i (by simpa using hi)]
    have := LinA.rk_len ((cols.map vec : List (V P)).take i)
    rw [List.length_take] at this
    omega
  intro d
  induction d with
  | zero =>
    intro i h1 h2
    have e : i = cols.length := by omega
    refine Ev.step (fun k => by rw [greenwoodlaw05_ElimCombines.l0]) ?_
    have hs := same_ev goal goal hgl
    rw [decide_eq_true rfl] at hs
    refine Ev.ifn (by omega) (Ev.ifp (by omega) (Ev.ifp ?_ (Ev.bind (sum_back h hg hl hb hv) (Ev.bind hs (Ev.now _)))))
    rw [e]; rfl
  | succ d ih =>
    intro i h1 h2
    have hi : i < cols.length := by omega
    have hbi' := hbi i (by omega)
    obtain ⟨hb0, hb1⟩ := hb i hi
    refine Ev.step (fun k => by rw [greenwoodlaw05_ElimCombines.l0]) ?_
    refine Ev.ifp (by omega) ?_
    have hno : ∀ (hs : Sp ((cols.map vec : List (V P)).take i) ((cols.map vec).getD i zv)), Ev (fun k => greenwoodlaw05_ElimCombines.j2 k P cols goal rows c (basN P cols) ((bas (cols.map vec : List (V P)) i).length : Int) (i : Int) false) true := by
      intro hs
      refine Ev.step (fun k => by rw [greenwoodlaw05_ElimCombines.j2]) ?_
      refine Ev.ifn (by decide) (Ev.ifp (by omega) (Ev.ifp (by omega) (Ev.ifp (hz i hi (bas_in_not hs hi)) (Ev.ifn (by omega) (Ev.ifn (by omega) ?_)))))
      rw [w1 hi (by omega), ← bas_in hs]
      exact ih (i + 1) (by omega) (by omega)
    by_cases hs : Sp ((cols.map vec : List (V P)).take i) ((cols.map vec).getD i zv)
    · by_cases hlt : (bas (cols.map vec : List (V P)) i).length < (basN P cols).length
      · refine Ev.ifp (by omega) (Ev.ifp (by omega) ?_)
        have hne := bas_next (n := cols.length) hs hi hlt
        have : (rd (basN P cols) ((bas (cols.map vec : List (V P)) i).length : Int) == (i : Int)) = false := beq_eq_false_iff_ne.mpr hne
        rw [this]
        exact hno hs
      · exact Ev.ifn (by omega) (hno hs)
    · obtain ⟨hlt, he⟩ := bas_head (n := cols.length) hs hi
      have hlt' : (bas (cols.map vec : List (V P)) i).length < (basN P cols).length := hlt
      refine Ev.ifp (by omega) (Ev.ifp (by omega) ?_)
      have : (rd (basN P cols) ((bas (cols.map vec : List (V P)) i).length : Int) == (i : Int)) = true := beq_iff_eq.mpr he
      rw [this]
      refine Ev.step (fun k => by rw [greenwoodlaw05_ElimCombines.j2]) ?_
      refine Ev.ifp rfl (Ev.ifp (by omega) (Ev.ifp (by omega) (Ev.ifn (by omega) (Ev.ifn (by omega) ?_))))
      rw [w1 (n := cols.length + 1) (by omega) (by omega), w1 hi (by omega)]
      have h3 := ih (i + 1) (by omega) (by omega)
      rw [bas_out hs, List.length_append] at h3
      exact h3
end
theorem mayB_snoc {p rows : Int} {cols : List (List Int)} {goal : List Int} (h : mayB p rows (cols ++ [goal]) = true) : mayB p rows cols = true ∧ mayB p rows [goal] = true := by
  obtain ⟨hP, h0, h64, hn, hcs⟩ := mayB_true h
  rw [List.length_append] at hn
  exact ⟨mayB_mk hP h0 h64 (by omega) (fun c hc => hcs c (List.mem_append_left _ hc)), mayB_mk hP h0 h64 (by simp) (fun c hc => hcs c (List.mem_append_right _ hc))⟩
theorem ElimCombines_ev (p : Int) (cols : List (List Int)) (goal : List Int) : Ev (fun k => greenwoodlaw05_ElimCombines.f k p cols goal) true := by
  unfold greenwoodlaw05_ElimCombines.f
  have hf : Ev (fun k => greenwoodlaw05_ElimCombines.j0 k p cols goal (goal.length : Int) true) true := Ev.step (fun k => by rw [greenwoodlaw05_ElimCombines.j0]) (Ev.ifp rfl (Ev.bind fixed_ev (Ev.now _)))
  refine Ev.bind fixed_ev (Ev.ifp rfl ?_)
  by_cases h1 : (goal.length : Int) > 20
  · exact Ev.ifp h1 hf
  refine Ev.ifn h1 ?_
  by_cases h2 : (cols.length : Int) > 20
  · exact Ev.ifp h2 hf
  refine Ev.ifn h2 ?_
  refine Ev.bnd (Ev.ifp (by simp; omega) (Ev.bnd (Ev.ifp (by simp; omega) (Ev.bind (rmay_ev _ _ _) ?_))))
  rw [List.nil_append]
  cases hm : mayB p (goal.length : Int) (cols ++ [goal]) with
  | false => exact hf
  | true =>
    obtain ⟨P, hP, rfl⟩ := may_nat hm
    obtain ⟨hc, hg⟩ := mayB_snoc hm
    obtain ⟨c, ok, hev, hok, hno, hyes⟩ := combo_ev hc hg
    have hF := fldP (P := P) (mayB_true hm).1
    have hrk : rkN P (cols ++ [goal]) = rk ((cols.map vec : List (V P)) ++ [vec goal]) := by unfold rkN; rw [List.map_append]; rfl
    refine Ev.step (fun k => by rw [greenwoodlaw05_ElimCombines.j0]) (Ev.ifn (by decide) (Ev.bind hev ?_))
    refine Ev.bnd (Ev.ifp (by simp; omega) (Ev.bnd (Ev.ifp (by simp; omega) ?_)))
    rw [List.nil_append]
    refine Ev.bind (rRank_ev hm) (Ev.bind (rRank_ev hc) ?_)
    cases ok with
    | false =>
      have hs : ¬ Sp (cols.map vec) (vec goal : V P) := fun h => by have := hok.2 h; cases this
      refine Ev.ifn ?_ (Ev.ifn (by simp) (Ev.val ?_))
      · rw [hrk, LinA.rk_snoc_out hF hs]
        simp [rkN]
        omega
      · rw [hno rfl]; rfl
    | true =>
      have hs := hok.1 rfl
      obtain ⟨hl, hb, hz, hv⟩ := hyes rfl
      refine Ev.ifn ?_ (Ev.ifp rfl (Ev.bind (basis_ev hc) ?_))
      · rw [hrk, LinA.rk_snoc_in hF hs]
        simp [rkN]
      · exact comb_l0 hc hg (by omega) hl hb hz hv cols.length 0 (by omega) (by omega)

/-! ### ElimTwice -/
section
variable {P : Nat} [NeZero P]
end
/-! ### ElimRank -/
section
variable {P : Nat} [NeZero P]
end
/-! ### ElimUnits -/
section
variable {P : Nat} [NeZero P]
end
end Go.Proofs.Ytepakefmioeilaa.P
/- What came in, opened kind by kind: an argument's reading tells a list (of lists ..) that its cells hold. -/
namespace Go.Proofs.Ytepakefmioeilaa.P
open Go.RowKit Go.Proofs.YtepakefmioeilaaW.PrintWords Go.Proofs.YtepakefmioeilaaW.PrintLast Go.Proofs.YtepakefmioeilaaW.PrintMore
set_option linter.unusedVariables false
set_option linter.unusedSimpArgs false

structure Opens (P : Program) (t : TypeId) {α : Type} (d : Kd α) (q : α → Prop) : Prop where
  sz : P.cellsOf t = d.sz
  op : ∀ {H : Type} {enc : TypeId × Value → H} {w : World} {base fuel : Nat} {held : Bool} {cs : List Value} {x : DataW H × List MemPlace}, DataW.trod enc P w base (fun _ => true) held fuel t cs = some x → ∃ a : α, d.K w a cs ∧ q a
section
variable {P : Program} {α : Type} {d : Kd α} {q : α → Prop}
theorem opens_int {t : TypeId} {k : IntKind} (ht : P.underlying t = some (.int k)) (hs : P.cellsOf t = 1) : Opens P t (Kd.int k) (fun n => (Lit.int k n).wf = true) :=
  ⟨hs, fun h => by
    obtain ⟨n, rfl, _, hw⟩ := DataW.trod_int ht h
    exact ⟨n, rfl, hw⟩⟩
theorem Opens.mono {t : TypeId} {q' : α → Prop} (h : Opens P t d q) (hq : ∀ a, q a → q' a) : Opens P t d q' :=
  ⟨h.sz, fun ht => by obtain ⟨a, hk, ha⟩ := h.op ht; exact ⟨a, hk, hq a ha⟩⟩
theorem opens_slice {t e : TypeId} (e' : Nat) (ht : P.underlying t = some (.slice e)) (hs : P.cellsOf t = 1) (h : Opens P e d q) : Opens P t (Kd.slice e' d) (fun l => l.length ≤ maxLen ∧ ∀ x ∈ l, q x) :=
  ⟨hs, fun {H enc w base fuel held cs x} htr => by
    rcases Deep.open_slice ht htr with ⟨rfl, _⟩ | ⟨a, len, cap, m, n, D, Pl, rfl, hb, hl, hm, hmm, _, hx⟩
    · exact ⟨[], ⟨none, 0, rfl, Nat.le_refl _, Kd.C_nil d w⟩, Nat.zero_le _, fun x hx => by cases hx⟩
    · simp only [if_true] at hmm
      have each : ∀ i, i < len → ∃ y : α, (∃ cs', w.cells? base (a.add (i * P.cellsOf e)) (P.cellsOf e) = some cs' ∧ d.K w y cs') ∧ q y := by
        intro i hi
        obtain ⟨cs', h1, h2⟩ := hx i (by omega)
        obtain ⟨y, hy, hqy⟩ := h.op h2
        exact ⟨y, ⟨cs', h1, hy⟩, hqy⟩
      by_cases h0 : len = 0
      · subst h0
        refine ⟨[], ⟨some a, cap, rfl, Nat.zero_le _, rfl, by simp, fun h => absurd h (Nat.lt_irrefl 0)⟩, Nat.zero_le _, fun x hx => by cases hx⟩
      · obtain ⟨y0, _, _⟩ := each 0 (by omega)
        have : Inhabited α := ⟨y0⟩
        obtain ⟨f, hf⟩ := Deep.choose_lt each
        have hlen : ((List.range len).map f).length = len := by simp
        refine ⟨(List.range len).map f, ⟨some a, cap, by rw [hlen], by rw [hlen]; exact hl, ⟨rfl, by rw [hlen]; unfold maxLen at hm; omega, fun _ => ⟨a, rfl, fun j p hj => ?_⟩⟩⟩, by rw [hlen]; omega, fun x hx => ?_⟩
        · have hjl := (List.getElem?_eq_some_iff.1 hj).1
          rw [hlen] at hjl
          rw [List.getElem?_map, List.getElem?_range hjl] at hj
          have hj' : f j = p := by simpa using hj
          subst hj'
          obtain ⟨⟨cs', h1, h2⟩, _⟩ := hf j hjl
          obtain ⟨_, hcl, hcell⟩ := World.cells?_some h1
          refine ⟨cs', by rw [hcl, h.sz], h2, fun i u hu => ?_⟩
          have hil := (List.getElem?_eq_some_iff.1 hu).1
          have := hcell i (by omega)
          rw [Deep.add_add, hu, h.sz] at this
          exact this
        · obtain ⟨i, hi, rfl⟩ := List.mem_map.1 hx
          exact (hf i (List.mem_range.1 hi)).2⟩
/-- an argument that is a slice -/
theorem Opens.arg {t : TypeId} {e' : Nat} (h : Opens P t (Kd.slice e' d) (fun l => l.length ≤ maxLen ∧ ∀ x ∈ l, q x)) {H : Type} {enc : TypeId × Value → H} {w : World} {base : Nat} {held : Bool} {v : Value} {dd : DataW H} {ps : List MemPlace} {a : Option Addr} {len cap : Nat} (hv : v = .slice a len cap)
    (ht : DataW.Trod enc P w base (fun _ => true) held t v dd ps) : ∃ l : List α, len = l.length ∧ l.length ≤ cap ∧ d.C w a l.length l ∧ l.length ≤ maxLen ∧ ∀ x ∈ l, q x := by
  obtain ⟨fuel, hf⟩ := ht
  obtain ⟨l, ⟨A, c, hcs, hl, hC⟩, hq1, hq2⟩ := h.op hf
  subst hv
  simp only [Value.cells] at hcs
  have hcs' : Value.slice a len cap = Value.slice A l.length c := by simpa using hcs
  injection hcs' with e1 e2 e3
  subst e1 e2 e3
  exact ⟨l, rfl, hl, hC, hq1, hq2⟩
end
/-- what came in is only read: it may be shared -/
theorem V_of_C {α : Type} {d : Kd α} (hd : Kd.Heap d) {e base c : Nat} {w : World} {A : Option Addr} {xs : List α} (h : d.C w A xs.length xs) (hc : xs.length ≤ c) : Kd.V d e w base (fun _ => True) (.slice A xs.length c) xs :=
  Kd.V_mk hc (fun W' hW => hd.C (fun k hk => hW k trivial hk) h)
end Go.Proofs.Ytepakefmioeilaa.P
