/- A matroid that may be has 0 to 64 elements, is 1 to 4 deep, and what lies within may be, too; one deeper, as its own dual, it may be just if it is not 4 deep. No condition. -/
import Derived.Test.YtgbmlkmkfigolaaDoorRows
import Derived.Test.YtgbmlkmkfigolaaDoorTie
import Derived.Test.YtgbmlkmkfigolaaDoorCards
import Derived.SevenTiedAt
import Derived.WalkKit
import Derived.ProofKit
import Derived.OpenShut
import Derived.ShutString
import Derived.ChangeOld
import Derived.Below
import Derived.SizedLaws
import Derived.Test.YtgbmlkmkfigolaaDoorKMatroidBounds4
namespace Go.Proofs.YtgbmlkmkfigolaaDoor.matroidBounds
open Go.ChangeShapes Go.WideShapes Go.ChangeAt Go.RowKit Go.Proofs.YtgbmlkmkfigolaaDoorW.PrintWords
open Go.ChangeMaps (open_string shut_string)
set_option linter.unusedVariables false
theorem own : ownKnob Tryd.prog.godebug = none := by kernel_rfl
theorem laidOut : laidOutB Tryd.prog = true := by kernel_rfl
set_option maxRecDepth 100000 in
theorem lifted (os : Os) (started : os.Started) (H : Type) (enc : TypeId × Value → H) :
    ReturnsInHanded {} Tryd.checked os 4 .any (fun w args => (Rows.matroidBoundsSpec.pre enc Tryd.prog Tryd.f4 [] false w args ∧ laidMetH Tryd.prog P.laidE w) ∧ sizedMet enc Tryd.prog Tryd.f4 (OpenSpec.ofChange Rows.matroidBoundsSpec) false w args) (Rows.matroidBoundsSpec.post enc Tryd.prog Tryd.f4 false true false false) := by
  refine returnsInHanded_of_change_and (C := Tryd.checked) (X := fun w _ => laidMetH Tryd.prog P.laidE w) (fun _ _ _ hh h => h.of_heap hh) own started (by kernel_rfl) Tryd.func4
    (ChangeSpec.witness_at (enc := enc) (C := Tryd.checked) (os := os) (X := fun w _ => laidMetH Tryd.prog P.laidE w) false (P.laidWorld os) #[.agg #[.int .i64 0, .int .i64 0, .int .i64 0, .int .i64 0, .slice none 0 0, .slice none 0 0]] 8 rfl (by kernel_rfl) (by kernel_rfl) (by kernel_rfl) (by kernel_rfl) (by kernel_rfl) (P.laidWorld_met os _)) ?_
  intro W base args ds gs before hval0 hW _ _ hL _
  have hE := P.ev_of_laid hL
  have hval : ∀ (j : Nat) t v, Tryd.f4.params[j]? = some t → args[j]? = some v → Value.okWide Tryd.prog W .any base t v := hval0
  have hW' := hW
  obtain ⟨p, q, hA0, hV, rfl, hfz, hnd⟩ := hW
  have hA : DataW.TrodAll enc Tryd.prog W 0 (fun _ => true) true Tryd.f4.params.toList args.toList ds p := hA0
  rw [Tryd.params4] at hA hval
  obtain ⟨v0, vs0, d0, ds0, p0, q0, hargs, rfl, rfl, h0, r0⟩ := trodAll_cons hA
  obtain ⟨rfl, rfl, rfl⟩ := trodAll_nil r0
  obtain rfl : args = #[v0] := by cases args; simp_all
  obtain ⟨rfl, rfl⟩ := trodVars_none hV
  have k0 := h0
  have lt0 : ∀ x ∈ p0, x.block < W.heap.size := by obtain ⟨m, hm⟩ := k0; exact DataW.trod_lt m _ _ _ hm
  obtain ⟨a0_0, a0_1, a0_2, a0_3, A0_4, c0_4, l0_4, A0_5, c0_5, l0_5, rfl, hr0_4, hc0_4, hr0_5, hc0_5, ok0, wf0⟩ := P.mat_arg (hval 0 25 v0 rfl rfl) h0
  clear hA0 hval0
  obtain ⟨k, hk⟩ := (P.MatroidBounds_ev ⟨a0_0, a0_1, a0_2, a0_3, l0_4, l0_5⟩ ok0).rounds
  refine (P.greenwoodlaw09_MatroidBounds.callsT k a0_0 a0_1 a0_2 a0_3 (fun _ => True) A0_4 c0_4 l0_4 (fun _ => True) A0_5 c0_5 l0_5 true W hE (P.V_of_C (Kd.heap_slice _ (Kd.heap_int _)) hr0_4 hc0_4) (P.V_of_C P.k25_heap hr0_5 hc0_5) rfl hk).mono fun e W' ⟨he, bel⟩ => ?_
  subst he
  exact ⟨_, rfl, _, _, _, [], _, [], hW', trodAll_mk1 (shut_bool Tryd.underlying4 _), (trodAll_cons_mk (Below.trod laidOut (by kernel_rfl) (of_decide_eq_true (by kernel_rfl)) k0 bel lt0) trodAll_mk0), rfl, bel.frame _, fun h => by cases h⟩
theorem over : Rows.matroidBoundsRow.holds Tryd.pinned (OpenSpec.ofChange Rows.matroidBoundsSpec) :=
  OpenClaim.holds_of_wide 4 Tryd.f4 rfl rfl rfl rfl rfl rfl rfl ⟨rfl, rfl, rfl, rfl, rfl⟩ rfl rfl rfl rfl rfl (by kernel_rfl) Tryd.func4 (by kernel_rfl)
    (of_decide_eq_true (by kernel_rfl)) (by unfold Func.isWrapper; first | (rw [if_pos (by decide +kernel)]; kernel_rfl) | (rw [if_neg (by decide +kernel)]; exact ⟨rfl, rfl⟩))
    (fun os started H enc _ => lifted os started H enc)
theorem proved : Rows.MatroidBoundsSaid := over
theorem card : Rows.MatroidBoundsCardSaid :=
  Claim7.holds_tied_plain_at .later [] [.handle] true (true, "98ad5df1a27f6819b852abcb711e70f66d05fd5b7ded191d6cd989e1cf7f6eee") true
    proved (fun _ h => by cases h) (by kernel_rfl) (fun _ h => by cases h) matroidBounds_row_tie rfl ⟨rfl, rfl⟩ (by kernel_rfl) rfl
    (fun f fn hf hfn => by
      obtain rfl : f = 4 := Option.some.inj ((show Tryd.prog.funcNamed "greenwood/greenwoodlaw09.MatroidBounds" = some 4 by kernel_rfl).symm.trans hf) |>.symm
      obtain rfl : fn = Tryd.f4 := (Option.some.inj (Tryd.func4.symm.trans hfn)).symm
      exact ⟨by kernel_rfl, fun j t ht => by
        rw [Tryd.params4] at ht
        rcases j with _ | j
        · obtain rfl : 25 = t := Option.some.inj ht
          exact (show Tryd.prog.wantsStandIn 25 = false by kernel_rfl)
        · simp at ht⟩)
    (by kernel_rfl)
#print axioms card
end Go.Proofs.YtgbmlkmkfigolaaDoor.matroidBounds
namespace Go.Proofs.YtgbmlkmkfigolaaDoor
/-- The tied card, under a short name, for the claim. -/
theorem matroidBounds_holds : Rows.MatroidBoundsCardSaid := matroidBounds.card
end Go.Proofs.YtgbmlkmkfigolaaDoor
