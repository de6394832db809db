/- Law ModpTells of layer 4: whether any number is a prime, what any number leaves, any power, and the inverse, is as the document says. No condition. -/
import Derived.Test.YtelinpgfjgoofaaPx3
import Derived.Test.YtelinpgfjgoofaaModp
namespace Go.Proofs.Ytelinpgfjgoofaa.Pure
open Go.RowKit Go.Proofs.Ytelinpgfjgoofaa.P Go.Proofs.YtelinpgfjgoofaaW.PrintWords Go.Proofs.YtelinpgfjgoofaaW.PrintLast

theorem fixed04 : Ev (fun k => greenwoodlaw04_fixed.f k) true :=
  Ev.of greenwoodlaw04_fixed.mono (k := 70) (by decide +kernel)

theorem ModpTells : greenwoodlaw04_ModpTells.Pure := by
  intro a n p ha hn hp
  have hn2 := wfI hn
  refine Ev.rounds (g := fun k => greenwoodlaw04_ModpTells.f k a n p) (r := true) ?_
  unfold greenwoodlaw04_ModpTells.f
  refine Ev.bind (Inv_eq a p) ?_
  refine Ev.bind (rInv_eq a p) ?_
  refine Ev.bind fixed04 ?_
  simp only [if_true]
  refine Ev.bind (Prime_eq p) ?_
  refine Ev.bind (rPrime_eq p) ?_
  simp only [beq_self_eq_true, if_true, Mod_eq, rMod_eq, Option.bind_some]
  refine Ev.bind (Pow_eq a p (by omega)) ?_
  refine Ev.bind (rPow_eq a p (by omega)) ?_
  simp only [if_true]
  exact Ev.now true

end Go.Proofs.Ytelinpgfjgoofaa.Pure
