/- Texts of this claim's own repository, merged by wip/tool/pack.py: AnsS, AnsM, AnsN, AnsE, AnsF, AnsG, AnsH, AnsI, AnsO, AnsP, AnsT, Px1, AnsLa, AnsLb, AnsW. -/
import Derived.Deep.RegionHeld
import Derived.Test.YtlekdhejgdfnpaaDoorKAnswerTells2
set_option linter.unusedVariables false
set_option linter.unusedSimpArgs false
/- Lists, counts, and an answer: what is written is read, what is cut is cut, what is read is written. -/
namespace Go.Proofs.YtlekdhejgdfnpaaDoor.P
open Go.RowKit Go.Proofs.YtlekdhejgdfnpaaDoorW.PrintWords Go.Proofs.YtlekdhejgdfnpaaDoorW.PrintLast Go.Proofs.YtlekdhejgdfnpaaDoorW.PrintMore
open Wr

section
variable {α β : Type} {F : Rdr α} {F' : Rdr β} {E : α → List Int} {E' : β → List Int} {P Q : α → Prop} {P' Q' : β → Prop}
theorem EncOk.map2 (f : α → β) (hF : ∀ S st, F' S st = (f (F S st).1, (F S st).2)) (hP : ∀ y, P' y → ∃ x, P x ∧ f x = y ∧ E x = E' y) (h : EncOk F E P) : EncOk F' E' P' := by
 intro A B y hy
 obtain ⟨x, h1, h2, h3⟩ := hP y hy
 have := h A B x h1
 rw [h3] at this
 rw [hF, this, h2]
theorem CutOk.map2 (f : α → β) (hF : ∀ S st, F' S st = (f (F S st).1, (F S st).2)) (hP : ∀ y, P' y → ∃ x, P x ∧ f x = y ∧ E x = E' y) (h : CutOk F E P) : CutOk F' E' P' := by
 intro A y c hy hc
 obtain ⟨x, h1, h2, h3⟩ := hP y hy
 have := h A x c h1 (by rw [h3]; exact hc)
 rw [h3] at this
 obtain ⟨p, q, a, b⟩ := this
 exact ⟨p, q, a, by rw [hF]; exact b⟩
end
/-- alike but for what is told where something is wrong -/
def SimR {α : Type} (F G : Rdr α) : Prop := ∀ S st, (F S st).2 = (G S st).2 ∧ ((G S st).2.2 = none → (F S st).1 = (G S st).1)
section
variable {α : Type} {F G : Rdr α} {E : α → List Int} {P : α → Prop}
theorem EncOk.sim (hs : SimR F G) (h : EncOk G E P) : EncOk F E P := by
 intro A B x hx
 have h1 := h A B x hx
 obtain ⟨a, b⟩ := hs (A ++ (E x ++ B)) (A.length, none)
 rw [h1] at a b
 exact Prod.ext (b rfl) a
theorem CutOk.sim (hs : SimR F G) (h : CutOk G E P) : CutOk F E P := by
 intro A x c hx hc
 obtain ⟨p, q, h1, h2⟩ := h A x c hx hc
 exact ⟨p, q, h1, by rw [(hs _ _).1]; exact h2⟩
theorem BackOk.sim (hs : SimR F G) (h : BackOk G E P) : BackOk F E P := by
 intro S p hb hp hn
 obtain ⟨a, b⟩ := hs S (p, none)
 rw [a] at hn
 rw [a, b hn]
 exact h S p hb hp hn
theorem ErrOk.sim (hs : SimR F G) (h : ErrOk G) : ErrOk F := by
 intro S st hn
 rw [(hs S st).1]; exact h S st hn
end
/-! ### as many -/
def manyR {α : Type} (F : Rdr α) (d : Nat) : Rdr (List α) := fun S st => manyF (F S) d st []
theorem manyF_acc {α : Type} (one : St → α × St) : ∀ (d : Nat) (st : St) (out : List α), manyF one d st out = (out ++ (manyF one d st []).1, (manyF one d st []).2) := by
 intro d
 induction d with
 | zero => intro st out; simp [manyF]
 | succ d ih =>
  intro st out
  show manyF one d _ _ = (out ++ (manyF one d _ _).1, (manyF one d _ _).2)
  rw [ih _ (out ++ _), ih _ ([] ++ _)]
  simp
theorem manyR_succ {α : Type} (F : Rdr α) (d : Nat) (S : List Int) (st : St) : manyR F (d + 1) S st = ((bindR F (fun _ => manyR F d) S st).1.1 :: (bindR F (fun _ => manyR F d) S st).1.2, (bindR F (fun _ => manyR F d) S st).2) := by
 show manyF (F S) d _ _ = _
 rw [manyF_acc]
 rfl
section
variable {α : Type} {F : Rdr α} {E : α → List Int} {P : α → Prop}
def AllP (P : α → Prop) (d : Nat) (l : List α) : Prop := l.length = d ∧ ∀ x ∈ l, P x
theorem many_err (h : ErrOk F) : ∀ d, ErrOk (manyR F d) := by
 intro d
 induction d with
 | zero => intro S st hs; rfl
 | succ d ih => exact ErrOk.map (fun q => q.1 :: q.2) (manyR_succ F d) (h.bind (fun _ => ih))
theorem many_split (E : α → List Int) (P : α → Prop) (d : Nat) : ∀ y, AllP P (d + 1) y → ∃ x : α × List α, (P x.1 ∧ AllP P d x.2) ∧ x.1 :: x.2 = y ∧ E x.1 ++ x.2.flatMap E = y.flatMap E := by
 rintro y ⟨h1, h2⟩
 cases y with
 | nil => simp at h1
 | cons a r => exact ⟨(a, r), ⟨h2 a (List.mem_cons_self ..), by simpa using h1, fun x hx => h2 x (List.mem_cons_of_mem _ hx)⟩, rfl, rfl⟩
theorem many_enc (h : EncOk F E P) : ∀ d, EncOk (manyR F d) (fun l => l.flatMap E) (AllP P d) := by
 intro d
 induction d with
 | zero =>
  rintro A B l ⟨h1, -⟩
  obtain rfl := List.length_eq_zero_iff.1 h1
  rfl
 | succ d ih => exact EncOk.map2 (fun q => q.1 :: q.2) (manyR_succ F d) (many_split E P d) (EncOk.bind h (fun _ _ => ih))
theorem many_cut (h : CutOk F E P) (he : EncOk F E P) (hr : ErrOk F) : ∀ d, CutOk (manyR F d) (fun l => l.flatMap E) (AllP P d) := by
 intro d
 induction d with
 | zero =>
  rintro A l c ⟨h1, -⟩ hc
  obtain rfl := List.length_eq_zero_iff.1 h1
  simp at hc
 | succ d ih => exact CutOk.map2 (fun q => q.1 :: q.2) (manyR_succ F d) (many_split E P d) (CutOk.bind h he (fun _ _ => ih) (fun _ => many_err hr d))
theorem many_back (h : BackOk F E P) (hr : ErrOk F) : ∀ d, BackOk (manyR F d) (fun l => l.flatMap E) (AllP P d) := by
 intro d
 induction d with
 | zero => intro S p hb hp hn; exact ⟨rfl, by simp [manyR, manyF], rfl, fun x hx => by simp [manyR, manyF] at hx⟩
 | succ d ih =>
  refine BackOk.map (E' := fun l => l.flatMap E) (Q' := AllP P (d + 1)) (fun q : α × List α => q.1 :: q.2) (manyR_succ F d) (fun (x : α × List α) (hx : P x.1 ∧ AllP P d x.2) => ⟨⟨by rw [List.length_cons, hx.2.1], fun y hy => ?_⟩, rfl⟩) (BackOk.bind h (fun _ _ => ih) (fun _ => many_err hr d))
  rcases List.mem_cons.1 hy with rfl | hy
  ·exact hx.1
  ·exact hx.2.2 y hy
end
theorem loop_sim (d : Nat) : SimR (fun S st => loopF (intF S) d st []) (manyR intF d) := by
 intro S st
 have key : ∀ (d : Nat) (st : St) (out : List Int), (loopF (intF S) d st out).2 = (manyF (intF S) d st out).2 ∧ ((manyF (intF S) d st out).2.2 = none → (loopF (intF S) d st out).1 = (manyF (intF S) d st out).1) := by
  intro d
  induction d with
  | zero => intro st out; exact ⟨rfl, fun _ => rfl⟩
  | succ d ih =>
   intro st out
   rw [loopF_succ]
   show _ = (manyF (intF S) d _ _).2 ∧ _
   by_cases h : (intF S st).2.2 = none
   ·rw [if_pos h]; exact ih _ _
   ·rw [if_neg h]
    have : (manyF (intF S) d (intF S st).2 (out ++ [(intF S st).1])).2 = (intF S st).2 := by
     rw [manyF_acc]; exact many_err intR_err d S _ h
    refine ⟨this.symm, fun hn => ?_⟩
    exact absurd (by rw [← this]; exact hn) h
 exact key d st []
/-! ### a count -/
def BndP (most : Int) (n : Int) : Prop := 0 ≤ n ∧ n ≤ most
def headR (most : Int) : Rdr Int := fun S st => headF S most st
def countR (most : Int) : Rdr Int := fun S st => countF S most st
theorem head_err (most : Int) : ErrOk (headR most) := by
 intro S st hs
 show (headF S most st).2 = st
 unfold headF
 rw [if_neg (fun h => hs (by rw [← numR_err S st hs]; exact h.1))]
 exact numR_err S st hs
theorem head_enc {most : Int} (hm : most ≤ MX) : EncOk (headR most) encN (BndP most) := by
 intro A B n h
 have h1 := num_enc A B n ⟨h.1, Int.le_trans h.2 hm⟩
 show headF _ most _ = _
 unfold headF
 rw [h1, if_neg (fun h' => by have := h'.2; have := h.2; omega)]
theorem head_cut {most : Int} (hm : most ≤ MX) : CutOk (headR most) encN (BndP most) := by
 intro A n c h hc
 have h1 := numF_cut A n c ⟨h.1, Int.le_trans h.2 hm⟩ hc
 refine ⟨A.length, A.length, by omega, ?_⟩
 show (headF _ most _).2 = _
 unfold headF
 rw [h1, if_neg (fun h' => by cases h'.1)]
theorem head_back (most : Int) : BackOk (headR most) encN (BndP most) := by
 intro S p hb hp hn
 have e : headR most S (p, none) = numF S (p, none) := by
  show headF S most (p, none) = _
  have hn' : (headF S most (p, none)).2.2 = none := hn
  unfold headF at hn' ⊢
  by_cases h : (numF S (p, none)).2.2 = none ∧ (numF S (p, none)).1 > most
  ·rw [if_pos h] at hn'; cases hn'
  ·rw [if_neg h]
 have hle : (headR most S (p, none)).2.2 = none → (numF S (p, none)).1 ≤ most := fun hn => by
  apply Classical.byContradiction
  intro hgt
  have hn2 := hn
  rw [e] at hn2
  have hn' : (headF S most (p, none)).2.2 = none := hn
  unfold headF at hn'
  rw [if_pos ⟨hn2, by omega⟩] at hn'
  cases hn'
 have h1 := hle hn
 rw [e] at hn ⊢
 obtain ⟨a1, a2, a3⟩ := num_back S p hb hp hn
 exact ⟨a1, a2, a3.1, h1⟩
theorem count_sim (most : Int) : SimR (countR most) (headR most) := by
 intro S st
 show (countF S most st).2 = (headF S most st).2 ∧ ((headF S most st).2.2 = none → (countF S most st).1 = (headF S most st).1)
 unfold countF headF
 by_cases h : (numF S st).2.2 = none ∧ (numF S st).1 > most
 ·rw [if_pos h, if_pos h]; exact ⟨rfl, fun h => by cases h⟩
 ·rw [if_neg h, if_neg h]; exact ⟨rfl, fun _ => rfl⟩
/-! ### a list -/
def LE (l : List Int) : List Int := encN (l.length : Int) ++ l.flatMap encI
def LP (l : List Int) : Prop := l.length ≤ 64 ∧ ∀ x ∈ l, IntP x
def lstB : Rdr (Int × List Int) := bindR (headR 64) (fun n => manyR intF n.toNat)
theorem lst_sim : SimR lstF (fun S st => ((lstB S st).1.2, (lstB S st).2)) := fun S st => loop_sim (headF S 64 st).1.toNat S (headF S 64 st).2
theorem lst_split : ∀ y, LP y → ∃ x : Int × List Int, (BndP 64 x.1 ∧ AllP IntP x.1.toNat x.2) ∧ x.2 = y ∧ encN x.1 ++ x.2.flatMap encI = LE y :=
 fun y hy => ⟨((y.length : Int), y), ⟨⟨by dsimp only; omega, by have := hy.1; dsimp only; omega⟩, by simp, hy.2⟩, rfl, rfl⟩
theorem lst_err : ErrOk lstF := ErrOk.sim lst_sim (ErrOk.map Prod.snd (fun _ _ => rfl) (ErrOk.bind (head_err 64) (fun n => many_err intR_err _)))
theorem lst_enc : EncOk lstF LE LP := EncOk.sim lst_sim (EncOk.map2 Prod.snd (fun _ _ => rfl) lst_split (EncOk.bind (head_enc (by decide)) (fun n _ => many_enc int_enc n.toNat)))
theorem lst_cut : CutOk lstF LE LP := CutOk.sim lst_sim (CutOk.map2 Prod.snd (fun _ _ => rfl) lst_split (CutOk.bind (head_cut (by decide)) (head_enc (by decide)) (fun n _ => many_cut int_cut int_enc intR_err n.toNat) (fun n => many_err intR_err _)))
theorem lst_back : BackOk lstF LE LP := by
 refine BackOk.sim lst_sim (BackOk.map (E' := LE) (Q' := LP) Prod.snd (fun _ _ => rfl) ?_ (BackOk.bind (head_back 64) (fun n _ => many_back int_back intR_err n.toNat) (fun n => many_err intR_err _)))
 rintro ⟨n, l⟩ ⟨⟨h0, h1⟩, h2, h3⟩
 dsimp only at *
 refine ⟨⟨by omega, h3⟩, ?_⟩
 show encN (l.length : Int) ++ _ = _
 rw [h2, show ((n.toNat : Nat) : Int) = n by omega]
/-! ### a split, a cut -/
def SE (y : Spl) : List Int := LE y.f0 ++ (LE y.f1 ++ LE y.f2)
def SP (y : Spl) : Prop := LP y.f0 ∧ LP y.f1 ∧ LP y.f2
def CE (c : Cut) : List Int := LE c.f0 ++ encI c.f1
def CP (c : Cut) : Prop := LP c.f0 ∧ IntP c.f1
def splB : Rdr (List Int × (List Int × List Int)) := bindR lstF (fun _ => bindR lstF (fun _ => lstF))
def cutB : Rdr (List Int × Int) := bindR lstF (fun _ => intF)
def toSpl (q : List Int × (List Int × List Int)) : Spl := ⟨q.1, q.2.1, q.2.2⟩
def toCut (q : List Int × Int) : Cut := ⟨q.1, q.2⟩
theorem spl_map (S : List Int) (st : St) : splF S st = (toSpl (splB S st).1, (splB S st).2) := by
 unfold splF splB bindR toSpl
 with_reducible rfl
theorem cut_map (S : List Int) (st : St) : cutF S st = (toCut (cutB S st).1, (cutB S st).2) := by
 unfold cutF cutB bindR toCut
 with_reducible rfl
theorem splB_err : ErrOk splB := ErrOk.bind lst_err (fun _ => ErrOk.bind lst_err (fun _ => lst_err))
theorem cutB_err : ErrOk cutB := ErrOk.bind lst_err (fun _ => intR_err)
theorem spl_err : ErrOk splF := ErrOk.map toSpl spl_map splB_err
theorem cut_err : ErrOk cutF := ErrOk.map toCut cut_map cutB_err
def splE (x : List Int × (List Int × List Int)) : List Int := LE x.1 ++ (LE x.2.1 ++ LE x.2.2)
def splP (x : List Int × (List Int × List Int)) : Prop := LP x.1 ∧ (LP x.2.1 ∧ LP x.2.2)
def cutE (x : List Int × Int) : List Int := LE x.1 ++ encI x.2
def cutP (x : List Int × Int) : Prop := LP x.1 ∧ IntP x.2
theorem splB_enc : EncOk splB splE splP := EncOk.bind lst_enc (fun _ _ => EncOk.bind lst_enc (fun _ _ => lst_enc))
theorem cutB_enc : EncOk cutB cutE cutP := EncOk.bind lst_enc (fun _ _ => int_enc)
theorem splB_cut : CutOk splB splE splP := CutOk.bind lst_cut lst_enc (fun _ _ => CutOk.bind lst_cut lst_enc (fun _ _ => lst_cut) (fun _ => lst_err)) (fun _ => ErrOk.bind lst_err (fun _ => lst_err))
theorem cutB_cut : CutOk cutB cutE cutP := CutOk.bind lst_cut lst_enc (fun _ _ => int_cut) (fun _ => intR_err)
theorem splB_back : BackOk splB splE splP := BackOk.bind lst_back (fun _ _ => BackOk.bind lst_back (fun _ _ => lst_back) (fun _ => lst_err)) (fun _ => ErrOk.bind lst_err (fun _ => lst_err))
theorem cutB_back : BackOk cutB cutE cutP := BackOk.bind lst_back (fun _ _ => int_back) (fun _ => intR_err)
theorem spl_split : ∀ y, SP y → ∃ x, splP x ∧ toSpl x = y ∧ splE x = SE y := fun y hy => ⟨(y.f0, (y.f1, y.f2)), hy, rfl, rfl⟩
theorem cut_split : ∀ y, CP y → ∃ x, cutP x ∧ toCut x = y ∧ cutE x = CE y := fun y hy => ⟨(y.f0, y.f1), hy, rfl, rfl⟩
theorem spl_enc : EncOk splF SE SP := EncOk.map2 toSpl spl_map spl_split splB_enc
theorem cut_enc : EncOk cutF CE CP := EncOk.map2 toCut cut_map cut_split cutB_enc
theorem spl_cut : CutOk splF SE SP := CutOk.map2 toSpl spl_map spl_split splB_cut
theorem cut_cut : CutOk cutF CE CP := CutOk.map2 toCut cut_map cut_split cutB_cut
theorem spl_back : BackOk splF SE SP := BackOk.map toSpl spl_map (fun x hx => ⟨hx, rfl⟩) splB_back
theorem cut_back : BackOk cutF CE CP := BackOk.map toCut cut_map (fun x hx => ⟨hx, rfl⟩) cutB_back
end Go.Proofs.YtlekdhejgdfnpaaDoor.P
/- answer's reader, walked: what the walk of answer stands on. -/
namespace Go.Proofs.YtlekdhejgdfnpaaDoor.P
open Go.RowKit Go.Proofs.YtlekdhejgdfnpaaDoorW.PrintWords Go.Proofs.YtlekdhejgdfnpaaDoorW.PrintLast Go.Proofs.YtlekdhejgdfnpaaDoorW.PrintMore
open Wr

section
variable {w0 W W1 : World} {base G B R0 n1 n2 : Nat} {s : ByteArray} {st st1 : St} {vS vU : Value} {S U : List Int} {K : Nat → Prop}
theorem AR1.kept (h : AR1 W base G B s st) (hk : Kept W W1 K)
 (ht : ∀ k c t, K k → W.heap[k]? = some (.cells c t (0, 0)) → t ≠ 48 ∧ t ≠ 79 ∧ t ≠ 86) : AR1 W1 base G B s st :=
 ⟨h.1, (hk.2 G (blk_lt h.2.1) (fun hK => (ht G _ _ hK h.2.1).1 rfl)).trans h.2.1, h.2.2.1.kept hk (fun k c t hK hc => (ht k c t hK hc).2), h.2.2.2⟩
theorem AR1.keepX {X : Nat} {c : Array Value} {t : TypeId} (h : AR1 W base G B s st) (hbx : W.heap[X]? = some (.cells c t (0, 0))) (ht : t = 27 ∨ t = 43) (hk : Kept W W1 (fun k => k = X)) : AR1 W1 base G B s st :=
 h.kept hk (fun k c' t' a b => by subst a; obtain rfl := blk_t hbx b; rcases ht with rfl | rfl <;> decide)
theorem DC.keepX {X : Nat} {c : Array Value} {t : TypeId} (h : DC w0 W base G B R0 n1 n2 s st vS vU S U) (hX : w0.heap.size ≤ X) (hR : R0 ≠ X) (hbx : W.heap[X]? = some (.cells c t (0, 0))) (ht : t = 27 ∨ t = 43)
 (hk : Kept W W1 (fun k => k = X)) (hb : Below base W W1) : DC w0 W1 base G B R0 n1 n2 s st vS vU S U :=
 h.keep hk hb (fun k e => by rw [e]; exact hX) hR (fun k c' t' a b => by subst a; obtain rfl := blk_t hbx b; rcases ht with rfl | rfl <;> decide)
/- seven cells are written -/
set_option maxHeartbeats 1000000 in
theorem set7 {X : Nat} {c0 c1 c2 c3 c4 c5 c6 u0 u1 u2 u3 u4 u5 u6 : Value} {t : TypeId} (hbx : W.heap[X]? = some (.cells #[c0, c1, c2, c3, c4, c5, c6] t (0, 0))) (hX : base ≤ X) :
 let W1 := (((((((W.setCell ⟨X, 0, none⟩ u0).setCell ⟨X, 1, none⟩ u1).setCell ⟨X, 2, none⟩ u2).setCell ⟨X, 3, none⟩ u3).setCell ⟨X, 4, none⟩ u4).setCell ⟨X, 5, none⟩ u5).setCell ⟨X, 6, none⟩ u6)
 W1.heap[X]? = some (.cells #[u0, u1, u2, u3, u4, u5, u6] t (0, 0)) ∧ Kept W W1 (fun k => k = X) ∧ Below base W W1 := by
 refine ⟨?_, ?_, ?_⟩
 ·have a0 := (blk_set hbx 0 u0).trans (show _ = some (Obj.cells #[u0, c1, c2, c3, c4, c5, c6] t (0, 0)) from rfl)
  have a1 := (blk_set a0 1 u1).trans (show _ = some (Obj.cells #[u0, u1, c2, c3, c4, c5, c6] t (0, 0)) from rfl)
  have a2 := (blk_set a1 2 u2).trans (show _ = some (Obj.cells #[u0, u1, u2, c3, c4, c5, c6] t (0, 0)) from rfl)
  have a3 := (blk_set a2 3 u3).trans (show _ = some (Obj.cells #[u0, u1, u2, u3, c4, c5, c6] t (0, 0)) from rfl)
  have a4 := (blk_set a3 4 u4).trans (show _ = some (Obj.cells #[u0, u1, u2, u3, u4, c5, c6] t (0, 0)) from rfl)
  have a5 := (blk_set a4 5 u5).trans (show _ = some (Obj.cells #[u0, u1, u2, u3, u4, u5, c6] t (0, 0)) from rfl)
  have a6 := (blk_set a5 6 u6).trans (show _ = some (Obj.cells #[u0, u1, u2, u3, u4, u5, u6] t (0, 0)) from rfl)
  exact a6
 ·have h := fun (W2 : World) (j : Nat) (u : Value) (h : Kept W W2 (fun k => k = X)) => Kept.setCell (S := fun k => k = X) (p := ⟨X, j, none⟩) h (.inl rfl) u
  exact h _ _ _ (h _ _ _ (h _ _ _ (h _ _ _ (h _ _ _ (h _ _ _ (h _ _ _ (Kept.refl _ _)))))))
 ·have h := fun (W2 : World) (j : Nat) (u : Value) (h : Below base W W2) => h.setCell (p := ⟨X, j, none⟩) hX u
  exact h _ _ _ (h _ _ _ (h _ _ _ (h _ _ _ (h _ _ _ (h _ _ _ (h _ _ _ (Below.refl _ _)))))))
theorem set1 {X j : Nat} {u : Value} {c : Array Value} {t : TypeId} (hbx : W.heap[X]? = some (.cells c t (0, 0))) (hX : base ≤ X) :
 (W.setCell ⟨X, j, none⟩ u).heap[X]? = some (.cells (c.setIfInBounds j u) t (0, 0)) ∧ Kept W (W.setCell ⟨X, j, none⟩ u) (fun k => k = X) ∧ Below base W (W.setCell ⟨X, j, none⟩ u) :=
 ⟨blk_set hbx j u, Kept.setCell (S := fun k => k = X) (p := ⟨X, j, none⟩) (Kept.refl _ _) (.inl rfl) u, (Below.refl _ _).setCell (p := ⟨X, j, none⟩) hX u⟩
theorem DC.set3 {X : Nat} {kd : Int} {b0 : Bool} {u0 v0 v4 v5 v6 : Value} (h : DC w0 W base G B R0 n1 n2 s st vS vU S U) (hX : w0.heap.size ≤ X) (hR : R0 ≠ X) (hbx : Box W X kd b0 u0 v0 v4 v5 v6) (b : Bool) (u v : Value) :
 DC w0 (((W.setCell ⟨X, 1, none⟩ (.bool b)).setCell ⟨X, 2, none⟩ u).setCell ⟨X, 3, none⟩ v) base G B R0 n1 n2 s st vS vU S U ∧ Box (((W.setCell ⟨X, 1, none⟩ (.bool b)).setCell ⟨X, 2, none⟩ u).setCell ⟨X, 3, none⟩ v) X kd b u v v4 v5 v6 := by
 have a1 := (blk_set hbx 1 (.bool b)).trans (show _ = some (Obj.cells #[.int .i64 kd, .bool b, u0, v0, v4, v5, v6] 27 (0, 0)) from rfl)
 have a2 := (blk_set a1 2 u).trans (show _ = some (Obj.cells #[.int .i64 kd, .bool b, u, v0, v4, v5, v6] 27 (0, 0)) from rfl)
 have h1 := (blk_set a2 3 v).trans (show _ = some (Obj.cells #[.int .i64 kd, .bool b, u, v, v4, v5, v6] 27 (0, 0)) from rfl)
 have hk := fun (W2 : World) (j : Nat) (u : Value) (h : Kept W W2 (fun k => k = X)) => Kept.setCell (S := fun k => k = X) (p := ⟨X, j, none⟩) h (.inl rfl) u
 have hb := fun (W2 : World) (j : Nat) (u : Value) (hq : Below base W W2) => hq.setCell (p := ⟨X, j, none⟩) (Nat.le_trans h.bs hX) u
 exact ⟨h.keepX hX hR hbx (.inl rfl) (hk _ _ _ (hk _ _ _ (hk _ _ _ (Kept.refl _ _)))) (hb _ _ _ (hb _ _ _ (hb _ _ _ (Below.refl _ _)))), h1⟩
end
theorem box_grow {α : Type} {d : Kd α} {e b X : Nat} {ok : Nat → Prop} {v : Value} {xs : List α} {W W1 : World} {c : Array Value} {t : TypeId} (hbx : W.heap[X]? = some (.cells c t (0, 0))) (hS : Kd.S d e W b ok v xs) (hg : W.grownBy W1 v.ownBlock) (ht : e ≠ t) : W1.heap[X]? = some (.cells c t (0, 0)) :=
 blk_grown hbx hg (Kd.S_ne hS hbx ht)
theorem S_grow {α β : Type} {d : Kd α} {d' : Kd β} {e e' b b' : Nat} {ok ok' : Nat → Prop} {v u : Value} {xs : List α} {ys : List β} {W W1 : World} (hu : Kd.S d' e' W b' ok' u ys) (hS : Kd.S d e W b ok v xs) (hg : W.grownBy W1 v.ownBlock) (ht : ∀ q, q ∈ e' :: d'.E → q ≠ e) : Kd.S d' e' W1 b' ok' u ys :=
 Kd.S_over' hu (Kd.S_typed hS) ht hg
theorem DC.growS {α : Type} {d : Kd α} {e b : Nat} {ok : Nat → Prop} {v : Value} {xs : List α} {w0 W W1 : World} {base G B R0 n1 n2 : Nat} {s : ByteArray} {st : St} {vS vU : Value} {S U : List Int} (h : DC w0 W base G B R0 n1 n2 s st vS vU S U) (hS : Kd.S d e W b ok v xs) (hg : W.grownBy W1 v.ownBlock) (hb : w0.heap.size ≤ b)
 (he : e = 22 ∨ e = 41 ∨ e = 43) : DC w0 W1 base G B R0 n1 n2 s st vS vU S U :=
 h.grow hg (fun k ek => ⟨Nat.le_trans hb (Kd.S_base hS k ek), Kd.S_typed hS k ek⟩) he
/-! ### the rows of an answer that is read -/
def RowsA (W : World) (n0 : Nat) (vS vU vSe vSp vCu : Value) (x : AnsV) : Prop := ∃ n1 n2, n0 ≤ n1 ∧ n1 ≤ n2 ∧ n2 ≤ W.heap.size ∧ (Kd.int .i64).R 3 W n0 (fun k => k < n1) vS x.S ∧ (Kd.int .i64).R 3 W n1 (fun k => k < n2) vU x.U ∧
 Kd.S (Kd.slice 3 (Kd.int .i64)) 22 W n2 (fun _ => True) vSe x.Se ∧ Kd.S k41 41 W n2 (fun _ => True) vSp x.Sp ∧ Kd.S k43 43 W n2 (fun _ => True) vCu x.Cu
theorem set2 {W : World} {base X : Nat} {c0 c1 u0 u1 : Value} {t : TypeId} (hbx : W.heap[X]? = some (.cells #[c0, c1] t (0, 0))) (hX : base ≤ X) :
 ((W.setCell ⟨X, 0, none⟩ u0).setCell ⟨X, 1, none⟩ u1).heap[X]? = some (.cells #[u0, u1] t (0, 0)) ∧ Kept W ((W.setCell ⟨X, 0, none⟩ u0).setCell ⟨X, 1, none⟩ u1) (fun k => k = X) ∧ Below base W ((W.setCell ⟨X, 0, none⟩ u0).setCell ⟨X, 1, none⟩ u1) := by
 refine ⟨?_, ?_, ?_⟩
 ·have a0 := (blk_set hbx 0 u0).trans (show _ = some (Obj.cells #[u0, c1] t (0, 0)) from rfl)
  exact (blk_set a0 1 u1).trans (show _ = some (Obj.cells #[u0, u1] t (0, 0)) from rfl)
 ·have h := fun (W2 : World) (j : Nat) (u : Value) (h : Kept W W2 (fun k => k = X)) => Kept.setCell (S := fun k => k = X) (p := ⟨X, j, none⟩) h (.inl rfl) u
  exact h _ _ _ (h _ _ _ (Kept.refl _ _))
 ·have h := fun (W2 : World) (j : Nat) (u : Value) (h : Below base W W2) => h.setCell (p := ⟨X, j, none⟩) hX u
  exact h _ _ _ (h _ _ _ (Below.refl _ _))
theorem R_keepX {W W1 : World} {b X : Nat} {ok : Nat → Prop} {v : Value} {xs : List Int} {c : Array Value} {t : TypeId} (h : (Kd.int .i64).R 3 W b ok v xs) (hbx : W.heap[X]? = some (.cells c t (0, 0))) (ht : t ≠ 3) (hk : Kept W W1 (fun k => k = X)) : (Kd.int .i64).R 3 W1 b ok v xs :=
 R_K h hk (fun k c' t' a hc q hq e => by subst a; rw [int_E hq, ← blk_t hbx hc] at e; exact ht e.symm)
/-- what stands while a cut is read -/
structure CT (w wr W : World) (base G B R0 n1 n2 : Nat) (s : ByteArray) (st : St) (vS vU : Value) (S U : List Int) (vp : Value) (p : List Int) : Prop where
 dc : DC w W base G B R0 n1 n2 s st vS vU S U
 kept : Kept wr W (fun k => k = G ∨ k = B)
 row : (Kd.int .i64).R 3 W wr.heap.size (fun _ => True) vp p
section
variable {w wr W W1 : World} {base G B R0 n1 n2 : Nat} {s : ByteArray} {st st1 : St} {vS vU vp : Value} {S U p : List Int}
theorem CT.below (h : CT w wr W base G B R0 n1 n2 s st vS vU S U vp p) (hb : Below W.heap.size W W1) : CT w wr W1 base G B R0 n1 n2 s st vS vU S U vp p :=
 ⟨h.dc.below hb, h.kept.below hb, Kd.R_below h.row hb⟩
theorem CT.call (h : CT w wr W base G B R0 n1 n2 s st vS vU S U vp p) (har : AR W1 base G B s st1) (hb : Below base W W1) (hk : Kept W W1 (fun k => k = G ∨ k = B)) : CT w wr W1 base G B R0 n1 n2 s st1 vS vU S U vp p :=
 ⟨h.dc.call har hb hk, h.kept.then_ hk (fun k e => .inl e), R_call h.row h.dc.ar hk (by intro q hq; rw [int_E hq]; decide)⟩
theorem CT.keepY {Y : Nat} {c : Array Value} (h : CT w wr W base G B R0 n1 n2 s st vS vU S U vp p) (hY : w.heap.size ≤ Y) (hY2 : wr.heap.size ≤ Y) (hR : R0 ≠ Y) (hbx : W.heap[Y]? = some (.cells c 43 (0, 0))) (hk : Kept W W1 (fun k => k = Y)) (hb : Below base W W1) : CT w wr W1 base G B R0 n1 n2 s st vS vU S U vp p :=
 ⟨h.dc.keepX hY hR hbx (.inr rfl) hk hb, h.kept.then_ hk (fun k e => .inr (by rw [e]; exact hY2)), R_keepX h.row hbx (by decide) hk⟩
end
theorem rowsA_of {w0 W W1 : World} {base G B R0 n1 n2 : Nat} {s : ByteArray} {st : St} {vS vU vSe vSp vCu : Value} {S U : List Int} {Se : List (List Int)} {Sp : List Spl} {Cu : List Cut} {kd no : Int} (h : DC w0 W base G B R0 n1 n2 s st vS vU S U)
 (h4 : Kd.S (Kd.slice 3 (Kd.int .i64)) 22 W n2 (fun _ => True) vSe Se) (h5 : Kd.S k41 41 W n2 (fun _ => True) vSp Sp) (h6 : Kd.S k43 43 W n2 (fun _ => True) vCu Cu) (hk : Kept W W1 (fun k => k = R0)) : RowsA W1 w0.heap.size vS vU vSe vSp vCu ⟨kd, no, S, U, Se, Sp, Cu⟩ := by
 have ht : ∀ (L : List Nat), (∀ q ∈ L, q ≠ 27) → ∀ k c t, k = R0 → W.heap[k]? = some (.cells c t (0, 0)) → ∀ q ∈ L, q ≠ t := fun L hL k c t e hc q hq => by
  subst e
  rw [← blk_t h.res hc]
  exact hL q hq
 exact ⟨n1, n2, h.ln0, h.ln1, Nat.le_trans h.ln2 hk.1, R_K h.rS hk (ht _ (fun q hq => by rw [int_E hq]; decide)), R_K h.rU hk (ht _ (fun q hq => by rw [int_E hq]; decide)), S_K h4 hk (ht _ (by decide)), S_K h5 hk (ht _ (by decide)), S_K h6 hk (ht _ (by decide))⟩
theorem DC.fin {w0 W W1 : World} {base G B R0 n1 n2 : Nat} {s : ByteArray} {st : St} {vS vU : Value} {S U : List Int} (h : DC w0 W base G B R0 n1 n2 s st vS vU S U) (hk : Kept W W1 (fun k => k = R0)) (hb : Below base W W1) : AR W1 base G B s st ∧ Below base w0 W1 ∧ Kept w0 W1 (fun k => k = G ∨ k = B) :=
 ⟨h.ar.kept hk (fun k c t e hc => by subst e; rw [← blk_t h.res hc]; decide), h.bel.trans hb, h.kept.then_ hk (fun k e => .inr (by rw [e]; exact h.wR))⟩
theorem info_Spl : (Tryd.prog.info? 41).map (fun i => (i.zero, i.size, i.bytes)) = some (some (.agg #[.slice none 0 0, .slice none 0 0, .slice none 0 0]), 3, 72) := by kernel_rfl
theorem info_Cut : (Tryd.prog.info? 43).map (fun i => (i.zero, i.size, i.bytes)) = some (some (.agg #[.slice none 0 0, .int .i64 0]), 2, 32) := by kernel_rfl
theorem splF_eq {S : List Int} {a b c d : St} {p1 p2 p3 : List Int} (h1 : lstF S a = (p1, b)) (h2 : lstF S b = (p2, c)) (h3 : lstF S c = (p3, d)) : splF S a = (⟨p1, p2, p3⟩, d) := by
 unfold splF
 rw [h1]; dsimp only
 rw [h2]; dsimp only
 rw [h3]
theorem cutF_ok {S : List Int} {a b c : St} {p : List Int} {y : Int} (h1 : lstF S a = (p, b)) (h2 : intF S b = (y, c)) : cutF S a = (⟨p, y⟩, c) := by
 unfold cutF
 rw [h1]; dsimp only
 rw [h2]
theorem cutF_no {S : List Int} {a b : St} {p : List Int} (h1 : lstF S a = (p, b)) (h2 : b.2 ≠ none) : cutF S a = (⟨p, 0⟩, b) := cutF_ok h1 (by unfold intF; rw [numF_err h2]; rfl)
theorem manyF_succ {α : Type} (one : St → α × St) (d : Nat) (st : St) (out : List α) : manyF one (d + 1) st out = manyF one d (one st).2 (out ++ [(one st).1]) := rfl
theorem countF_ok {s : ByteArray} {st : St} (most : Int) (ho : Ok s st) : Ok s (countF (bytesOf s) most st).2 := by
 unfold countF
 have := refnum_ok ho
 split
 ·exact ⟨this.1, fun pc h => by obtain rfl := Option.some.inj h; exact .inr (.inr rfl)⟩
 ·exact this
theorem countF_le {s : ByteArray} {st : St} (most : Int) (hm : 0 ≤ most) (ho : Ok s st) : 0 ≤ (countF (bytesOf s) most st).1 ∧ (countF (bytesOf s) most st).1 ≤ most := by
 unfold countF
 obtain ⟨-, -, h0, -, -⟩ := numF_at (bytesOf_in s) st (by rw [bytesOf_length]; exact ho.1)
 by_cases hn : (numF (bytesOf s) st).2.2 = none
 ·by_cases h1 : (numF (bytesOf s) st).1 > most
  ·rw [if_pos ⟨hn, h1⟩]; exact ⟨Int.le_refl _, hm⟩
  ·rw [if_neg (fun h => h1 h.2)]; exact ⟨h0, by omega⟩
 ·rw [if_neg (fun h => hn h.1)]
  have : (numF (bytesOf s) st).1 = 0 := by
   obtain ⟨p, er⟩ := st
   cases er with
   | some pc => rfl
   | none =>
    by_cases hc : (tk (bytesOf s) p).2.2 = 0
    ·simp [numF, hc] at hn
    ·simp [numF, hc]
  rw [this]; exact ⟨Int.le_refl _, hm⟩
end Go.Proofs.YtlekdhejgdfnpaaDoor.P
/- answer's reader, walked: answer. (Written by wip/tool/ansn.py.) -/
namespace Go.Proofs.YtlekdhejgdfnpaaDoor.P
open Go.RowKit Go.Proofs.YtlekdhejgdfnpaaDoorW.PrintWords Go.Proofs.YtlekdhejgdfnpaaDoorW.PrintLast Go.Proofs.YtlekdhejgdfnpaaDoorW.PrintMore
open Wr

set_option maxHeartbeats 16000000 in
set_option maxRecDepth 100000 in
theorem answer_c {w : World} {base G B : Nat} {s : ByteArray} {st : St} (hb0 : 0 < base) (hE : EV w) (h : AR1 w base G B s st) (hs : s.size ≤ 1000000000) (hbase : base ≤ w.heap.size) :
 Calls Tryd.prog 17 #[.pointer (some ⟨G, 0, none⟩)] w fun e w' => ∃ vS vU vSe vSp vCu, e = .returned (.tuple #[.agg #[.int .i64 (ansF (bytesOf s) st).1.kd, .bool ((ansF (bytesOf s) st).1.no == 1), vS, vU, vSe, vSp, vCu], .int .i64 (ansF (bytesOf s) st).1.no]) ∧
  RowsA w' w.heap.size vS vU vSe vSp vCu (ansF (bytesOf s) st).1 ∧ AR w' base G B s (ansF (bytesOf s) st).2 ∧ Below base w w' ∧ Kept w w' (fun k => k = G ∨ k = B) := by
 have HP := Aside0.mk (And.intro hE hb0)
 have HS := Aside0.mk (And.intro hs hbase)
 have HN : Aside0 (∀ (W : World) (st : St), AR1 W base G B s st → Below base w W → Calls Tryd.prog 42 #[.pointer (some ⟨B, 0, none⟩)] W fun e w' => e = .returned (.int .i64 (numF (bytesOf s) st).1) ∧ AR1 w' base G B s (numF (bytesOf s) st).2 ∧ Below base W w' ∧ Kept W w' (fun k => k = G ∨ k = B)) :=
  ⟨fun W st h hb => num_a h hs (Nat.le_trans hbase hb.size)⟩
 have HLs : Aside0 (∀ (W : World) (st : St), AR W base G B s st → Below base w W → Calls Tryd.prog 43 #[.pointer (some ⟨G, 0, none⟩)] W fun e w' => ∃ v, e = .returned v ∧ (Kd.int .i64).R 3 w' W.heap.size (fun k => k < w'.heap.size) v (lstF (bytesOf s) st).1 ∧ AR w' base G B s (lstF (bytesOf s) st).2 ∧ Below base W w' ∧ Kept W w' (fun k => k = G ∨ k = B)) :=
  ⟨fun W st h hb => list_a (hE.below hb hb0) h hs (Nat.le_trans hbase hb.size)⟩
 have HC : Aside0 (∀ (most : Int) (W : World) (st : St), AR W base G B s st → Below base w W → Calls Tryd.prog 44 #[.pointer (some ⟨G, 0, none⟩), .int .i64 most] W fun e w' => e = .returned (.int .i64 (countF (bytesOf s) most st).1) ∧ AR w' base G B s (countF (bytesOf s) most st).2 ∧ Below base W w' ∧ Kept W w' (fun k => k = G ∨ k = B)) :=
  ⟨fun most W st h hb => count_a most hb0 (hE.below hb hb0) h hs (Nat.le_trans hbase hb.size)⟩
 have HIs : Aside0 (∀ (W : World) (st : St), AR W base G B s st → st.2 = none → Below base w W → Calls Tryd.prog 46 #[.pointer (some ⟨B, 0, none⟩)] W fun e w' => e = .returned (.int .i64 (intF (bytesOf s) st).1) ∧ AR w' base G B s (intF (bytesOf s) st).2 ∧ Below base W w' ∧ Kept W w' (fun k => k = G ∨ k = B)) :=
  ⟨fun W st h hn hb => int_a h hn hs (Nat.le_trans hbase hb.size)⟩
 have HFs : Aside0 (∀ (W : World) (st : St), AR W base G B s st → Below base w W → Calls Tryd.prog 45 #[.pointer (some ⟨G, 0, none⟩)] W fun e w' => e = .returned (.bool st.2.isNone) ∧ Below W.heap.size W w') :=
  ⟨fun W st h hb => fine_a (hE.below hb hb0) h⟩
 have HCN : Aside0 (∀ (most : Int), 0 ≤ most → ∀ (st : St), Ok s st → ∃ N : Nat, (countF (bytesOf s) most st).1 = (N : Int) ∧ (N : Int) ≤ most) :=
  ⟨fun most hm st ho => by obtain ⟨h1, h2⟩ := countF_le most hm ho; exact ⟨(countF (bytesOf s) most st).1.toNat, by omega, by omega⟩⟩
 have H0 := Aside0.mk h
 have g0 : w.cell? ⟨G, 0, none⟩ = some (.pointer (some ⟨B, 0, none⟩)) := (blk_cell h.2.1 0).trans rfl
 obtain ⟨S, hS⟩ : ∃ S, S = bytesOf s := ⟨_, rfl⟩
 unfold ansF
 rw [← hS] at HN HLs HC HIs HCN ⊢
 dsimp only
 obtain ⟨kd, hkd⟩ : ∃ kd, kd = (numF S st).1 := ⟨_, rfl⟩
 obtain ⟨no, hno⟩ : ∃ no, no = (numF S (numF S st).2).1 := ⟨_, rfl⟩
 obtain ⟨bno, hbno⟩ : ∃ b, b = (no == 1) := ⟨_, rfl⟩
 rw [← hkd, ← hno, ← hbno]
 have HE1 : Aside0 ((numF S st).1 = kd) := ⟨hkd.symm⟩
 have HE2 : Aside0 ((numF S (numF S st).2).1 = no) := ⟨hno.symm⟩
 have hbno' : (no == 1) = bno := hbno.symm
 clear hE hb0 h hs hbase hkd hno hbno hS
 go_enter Tryd.func17, Tryd.ntmps17
 go_wp2_with (first
  | (go_at_call 44; (have z_ := H7.out); clear z_; refine (HC.out 200 _ _ ((H7.out.1.set3 HX.out.1 HX.out.2.1 H7.out.2 bno (.slice A6 (lstF S (numF S (numF S st).2).2).1.length c6) (.slice A7 (lstF S (lstF S (numF S (numF S st).2).2).2).1.length c7)).1).ar ((H7.out.1.set3 HX.out.1 HX.out.2.1 H7.out.2 bno (.slice A6 (lstF S (numF S (numF S st).2).2).1.length c6) (.slice A7 (lstF S (lstF S (numF S (numF S st).2).2).2).1.length c7)).1).bel).mono ?_; rintro e w9 ⟨hret, har, hb, hk⟩; (obtain ⟨N9, hN9, hM9⟩ := HCN.out 200 (by decide) _ ((H7.out.1.set3 HX.out.1 HX.out.2.1 H7.out.2 bno (.slice A6 (lstF S (numF S (numF S st).2).2).1.length c6) (.slice A7 (lstF S (lstF S (numF S (numF S st).2).2).2).1.length c7)).1).ar.ok); (have hE_ := hN9); (rw [hN9] at hret); (subst hret); (have H9 := Aside0.mk (And.intro ((H7.out.1.set3 HX.out.1 HX.out.2.1 H7.out.2 bno (.slice A6 (lstF S (numF S (numF S st).2).2).1.length c6) (.slice A7 (lstF S (lstF S (numF S (numF S st).2).2).2).1.length c7)).1.call har hb hk) (box_call (H7.out.1.set3 HX.out.1 HX.out.2.1 H7.out.2 bno (.slice A6 (lstF S (numF S (numF S st).2).2).1.length c6) (.slice A7 (lstF S (lstF S (numF S (numF S st).2).2).2).1.length c7)).2 (H7.out.1.set3 HX.out.1 HX.out.2.1 H7.out.2 bno (.slice A6 (lstF S (numF S (numF S st).2).2).1.length c6) (.slice A7 (lstF S (lstF S (numF S (numF S st).2).2).2).1.length c7)).1.ar hk (by decide)))); (have HN9 := Aside0.mk hE_); clear hE_; clear y1 yf1 y2 yf2 y3 yf3; clear har hb hk)
  | (go_at_call 43; (have z_ := H6.out); clear z_; refine (HLs.out _ _ H6.out.1.ar H6.out.1.bel).mono ?_; rintro e w7 ⟨v7, rfl, hr, har, hb, hk⟩; (have hS7 := R_call H6.out.2.2 H6.out.1.ar hk (by intro q hq; obtain rfl := int_E hq; decide)); (have hbx := box_call H6.out.2.1 H6.out.1.ar hk (by decide)); (have hd := H6.out.1.call har hb hk); (have H7 : Aside0 (DC w w7 base G B R0 w6.heap.size w7.heap.size s _ _ v7 _ _ ∧ Box w7 X kd false (.slice none 0 0) (.slice none 0 0) (.slice none 0 0) (.slice none 0 0) (.slice none 0 0)) := ⟨⟨{ hd with rS := hS7, rU := hr, ln0 := Nat.le_trans H6.out.1.kept.1 (Nat.le_refl _), ln1 := hk.1, ln2 := Nat.le_refl _ }, hbx⟩⟩); clear y1 yf1 y2 yf2 y3 yf3; (have hB7 := H7.out.2); (have y1 : w7.cell? ⟨X, 1, none⟩ = _ := (blk_cell hB7 1).trans rfl); (have yf1 : w7.frozen? ⟨X, 1, none⟩ = false := blk_frozen hB7 1); (have y2 : w7.cell? ⟨X, 2, none⟩ = _ := (blk_cell hB7 2).trans rfl); (have yf2 : w7.frozen? ⟨X, 2, none⟩ = false := blk_frozen hB7 2); (have y3 : w7.cell? ⟨X, 3, none⟩ = _ := (blk_cell hB7 3).trans rfl); (have yf3 : w7.frozen? ⟨X, 3, none⟩ = false := blk_frozen hB7 3);  (obtain ⟨A7, c7, rfl⟩ := Kd.R_slice hr); clear hr har hb hk hS7 hbx hd hB7)
  | (go_at_call 43; (have z_ := H5.out); clear z_; refine (HLs.out _ _ H5.out.2.1.ar H5.out.2.1.bel).mono ?_; rintro e w6 ⟨v6, rfl, hr, har, hb, hk⟩; (have hbx := box_call H5.out.2.2 H5.out.2.1.ar hk (by decide)); (have H6 := Aside0.mk (And.intro (H5.out.2.1.call har hb hk) (And.intro hbx (Kd.R_lower hr H5.out.2.1.kept.1)))); (obtain ⟨A6, c6, rfl⟩ := Kd.R_slice hr); clear y1 yf1 y2 yf2 y3 yf3; (have y1 : w6.cell? ⟨X, 1, none⟩ = _ := (blk_cell hbx 1).trans rfl); (have yf1 : w6.frozen? ⟨X, 1, none⟩ = false := blk_frozen hbx 1); (have y2 : w6.cell? ⟨X, 2, none⟩ = _ := (blk_cell hbx 2).trans rfl); (have yf2 : w6.frozen? ⟨X, 2, none⟩ = false := blk_frozen hbx 2); (have y3 : w6.cell? ⟨X, 3, none⟩ = _ := (blk_cell hbx 3).trans rfl); (have yf3 : w6.frozen? ⟨X, 3, none⟩ = false := blk_frozen hbx 3);  clear hr har hb hk hbx)
  | (go_at_call 42; (have z_ := H4.out); clear z_; refine (HN.out _ _ H4.out.1 H4.out.2.1.bel).mono ?_; rintro e w5 ⟨hret, h5, hb, hk⟩; (have hbx := box_call H4.out.2.2 H4.out.1.ar hk (by decide)); (have H5 := Aside0.mk (And.intro h5 (And.intro (H4.out.2.1.call h5.ar hb hk) hbx))); (rw [HE2.out] at hret); (subst hret); (have g5 : w5.cell? ⟨G, 0, none⟩ = some (.pointer (some ⟨B, 0, none⟩)) := (blk_cell h5.2.1 0).trans rfl); (have y1 : w5.cell? ⟨X, 1, none⟩ = _ := (blk_cell hbx 1).trans rfl); (have yf1 : w5.frozen? ⟨X, 1, none⟩ = false := blk_frozen hbx 1); (have y2 : w5.cell? ⟨X, 2, none⟩ = _ := (blk_cell hbx 2).trans rfl); (have yf2 : w5.frozen? ⟨X, 2, none⟩ = false := blk_frozen hbx 2); (have y3 : w5.cell? ⟨X, 3, none⟩ = _ := (blk_cell hbx 3).trans rfl); (have yf3 : w5.frozen? ⟨X, 3, none⟩ = false := blk_frozen hbx 3);  clear h5 hb hk hbx g4)
  | ((with_reducible refine gate_store (t := 27) (p := 4) rfl ?_); refine store_event (t := 27) (p := 4) (v := ?vo_) (w1 := (((((((w3.setCell ⟨X, 0, none⟩ (.int .i64 kd)).setCell ⟨X, 1, none⟩ (.bool false)).setCell ⟨X, 2, none⟩ (.slice none 0 0)).setCell ⟨X, 3, none⟩ (.slice none 0 0)).setCell ⟨X, 4, none⟩ (.slice none 0 0)).setCell ⟨X, 5, none⟩ (.slice none 0 0)).setCell ⟨X, 6, none⟩ (.slice none 0 0))) ?hg ?ho ?hn ?hr ?_; (case ho => rfl); (case hg => rfl); (case hn => rfl); (case hr => first | (go_simp; done) | (go_simp; rfl)); intro w4 hw; (have h7 := set7 (base := base) (u0 := .int .i64 kd) (u1 := .bool false) (u2 := .slice none 0 0) (u3 := .slice none 0 0) (u4 := .slice none 0 0) (u5 := .slice none 0 0) (u6 := .slice none 0 0) H3.out.2.2.1 (Nat.le_trans H3.out.2.1.bs HX.out.1)); (dsimp only at h7); (rw [← hw] at h7); (have H4 := Aside0.mk (And.intro (H3.out.1.keepX H3.out.2.2.1 (.inl rfl) h7.2.1) (And.intro (H3.out.2.1.keepX HX.out.1 HX.out.2.1 H3.out.2.2.1 (.inl rfl) h7.2.1 h7.2.2) h7.1))); (have g4 : w4.cell? ⟨G, 0, none⟩ = some (.pointer (some ⟨B, 0, none⟩)) := (blk_cell H4.out.1.2.1 0).trans rfl); clear hw h7; clear x0 xf0 x1 xf1 x2 xf2 x3 xf3 x4 xf4 x5 xf5 x6 xf6; clear g3)
  | ((with_reducible refine gate_dst (N := 4) rfl ?_); (try (refine gate_guard (by rfl) ?_; dsimp only)); refine box_event ?hg (N := 4) ?hd (cs := #[.int .i64 0, .bool false, .slice none 0 0, .slice none 0 0, .slice none 0 0, .slice none 0 0, .slice none 0 0]) (t := 27) ?hr ?_; (case hd => rfl); (case hg => rfl); (case hr => first | (go_simp; done) | (go_simp; rfl)); intro X hgX w3 hboxX hbX; (have HX : Aside0 (w.heap.size ≤ X ∧ R0 ≠ X ∧ True) := ⟨by rw [hgX]; exact H2.out.2.kept.1, by rw [hgX]; exact Nat.ne_of_lt (blk_lt H2.out.2.res), trivial⟩); (have H3 := Aside0.mk (And.intro (H2.out.1.below hbX) (And.intro (H2.out.2.below hbX) (And.intro hboxX True.intro)))); (have g3 : w3.cell? ⟨G, 0, none⟩ = some (.pointer (some ⟨B, 0, none⟩)) := (blk_cell H3.out.1.2.1 0).trans rfl); (have x0 : w3.cell? ⟨X, 0, none⟩ = _ := (blk_cell hboxX 0).trans rfl); (have xf0 : w3.frozen? ⟨X, 0, none⟩ = false := blk_frozen hboxX 0); (have x1 : w3.cell? ⟨X, 1, none⟩ = _ := (blk_cell hboxX 1).trans rfl); (have xf1 : w3.frozen? ⟨X, 1, none⟩ = false := blk_frozen hboxX 1); (have x2 : w3.cell? ⟨X, 2, none⟩ = _ := (blk_cell hboxX 2).trans rfl); (have xf2 : w3.frozen? ⟨X, 2, none⟩ = false := blk_frozen hboxX 2); (have x3 : w3.cell? ⟨X, 3, none⟩ = _ := (blk_cell hboxX 3).trans rfl); (have xf3 : w3.frozen? ⟨X, 3, none⟩ = false := blk_frozen hboxX 3); (have x4 : w3.cell? ⟨X, 4, none⟩ = _ := (blk_cell hboxX 4).trans rfl); (have xf4 : w3.frozen? ⟨X, 4, none⟩ = false := blk_frozen hboxX 4); (have x5 : w3.cell? ⟨X, 5, none⟩ = _ := (blk_cell hboxX 5).trans rfl); (have xf5 : w3.frozen? ⟨X, 5, none⟩ = false := blk_frozen hboxX 5); (have x6 : w3.cell? ⟨X, 6, none⟩ = _ := (blk_cell hboxX 6).trans rfl); (have xf6 : w3.frozen? ⟨X, 6, none⟩ = false := blk_frozen hboxX 6);  clear hgX hboxX hbX g2)
  | (go_at_call 42; (have z_ := HA.out); clear z_; refine (HN.out _ _ HA.out.1 (HA.out.2.1.mono HS.out.2)).mono ?_; rintro e w2 ⟨hret, h2, hb, hk⟩; (have H2 : Aside0 (AR1 w2 base G B s _ ∧ DC w w2 base G B R0 w.heap.size w.heap.size s _ (.slice none 0 0) (.slice none 0 0) [] []) := ⟨h2, { ar := h2.ar, bel := (HA.out.2.1.mono HS.out.2).trans hb, kept := (Kept.of_below HA.out.2.1 _).then_ hk (fun k hk => .inl hk), bs := HS.out.2, wR := Nat.le_of_eq HA.out.2.2.2.symm, res := box_call HA.out.2.2.1 HA.out.1.ar hk (by decide), rS := Kd.R_nil _ _ _ _ _, rU := Kd.R_nil _ _ _ _ _, ln0 := Nat.le_refl _, ln1 := Nat.le_refl _, ln2 := Nat.le_trans HA.out.2.1.size hk.1 }⟩); (rw [HE1.out] at hret); (subst hret); (have g2 : w2.cell? ⟨G, 0, none⟩ = some (.pointer (some ⟨B, 0, none⟩)) := (blk_cell h2.2.1 0).trans rfl); clear h2 hb hk gA)
  | ((with_reducible refine gate_dst (N := 2) rfl ?_); (try (refine gate_guard (by rfl) ?_; dsimp only)); refine box_event ?hg (N := 2) ?hd (cs := #[.int .i64 0, .bool false, .slice none 0 0, .slice none 0 0, .slice none 0 0, .slice none 0 0, .slice none 0 0]) (t := 27) ?hr ?_; (case hd => rfl); (case hg => rfl); (case hr => first | (go_simp; done) | (go_simp; rfl)); intro R0 hgR wA hboxR hbR; (have HA := Aside0.mk (And.intro (H0.out.below hbR) (And.intro hbR (And.intro hboxR hgR)))); (have gA : wA.cell? ⟨G, 0, none⟩ = some (.pointer (some ⟨B, 0, none⟩)) := (blk_cell HA.out.1.2.1 0).trans rfl); clear hgR hboxR hbR))
 obtain ⟨n1, hn1⟩ : ∃ n, n = w6.heap.size := ⟨_, rfl⟩
 obtain ⟨n2, hn2⟩ : ∃ n, n = w7.heap.size := ⟨_, rfl⟩
 rw [← hn1, ← hn2] at H9
 clear hn1 hn2 H0 HA H2 H3 H4 H5 H6 H7 hN9 g0 g5
 go_loopw [29] (fun v29 wr => ∃ (d : Nat) (sx : St) (out : List (List Int)) (v : Value), d ≤ N9 ∧ v29 = .int .i64 (d : Int) ∧ Aside0 (DC w wr base G B R0 n1 n2 s sx (.slice A6 ((lstF S (numF S (numF S st).2).2).1).length c6) (.slice A7 ((lstF S (lstF S (numF S (numF S st).2).2).2).1).length c7) (lstF S (numF S (numF S st).2).2).1 (lstF S (lstF S (numF S (numF S st).2).2).2).1) ∧ Aside0 (Box wr X kd bno (.slice A6 ((lstF S (numF S (numF S st).2).2).1).length c6) (.slice A7 ((lstF S (lstF S (numF S (numF S st).2).2).2).1).length c7) v (.slice none 0 0) (.slice none 0 0)) ∧
  Aside0 (Kd.S (Kd.slice 3 (Kd.int .i64)) 22 wr n2 (fun _ => True) v out ∧ out.length = d ∧ manyF (lstF S) N9 (countF S 200 (lstF S (lstF S (numF S (numF S st).2).2).2).2).2 [] = manyF (lstF S) (N9 - d) sx out)) (fun v29 _ => (N9 - (intOf v29).toNat))
 case atStart => exact ⟨0, _, [], _, Nat.zero_le _, rfl, ⟨H9.out.1⟩, ⟨H9.out.2⟩, ⟨Kd.S_nil _ _ _ _ _, rfl, rfl⟩⟩
 case round =>
  clear H9
  obtain ⟨d, st6, Se, v, hd, rfl, HR, HB, HS1⟩ := hrel
  obtain ⟨A4, c4, rfl⟩ := Kd.S_slice HS1.out.1
  by_cases hlt : d < N9
  ·have hd200 : d < 200 := by omega
   have HD : Aside0 (DC w wr.drew base G B R0 n1 n2 s st6 _ _ (lstF S (numF S (numF S st).2).2).1 (lstF S (lstF S (numF S (numF S st).2).2).2).1) := ⟨HR.out.below (Below.refl _ _).drew⟩
   have x4 : wr.cell? ⟨X, 4, none⟩ = some (.slice A4 Se.length c4) := (blk_cell HB.out 4).trans rfl
   have xf4 : wr.frozen? ⟨X, 4, none⟩ = false := blk_frozen HB.out 4
   obtain ⟨p, st', hp⟩ : ∃ p st', lstF S st6 = (p, st') := ⟨_, _, rfl⟩
   have HLp := HLs.out wr.drew st6 HD.out.ar HD.out.bel
   rw [hp] at HLp
   have HLp := Aside0.mk HLp
   have HM : Aside0 (manyF (lstF S) N9 (countF S 200 (lstF S (lstF S (numF S (numF S st).2).2).2).2).2 [] = manyF (lstF S) (N9 - (d + 1)) st' (Se ++ [p])) := ⟨by rw [HS1.out.2.2, show N9 - d = (N9 - (d + 1)) + 1 by omega, manyF_succ, hp]⟩
   have HSd : Aside0 (Kd.S (Kd.slice 3 (Kd.int .i64)) 22 wr.drew n2 (fun k => k < wr.drew.heap.size) (.slice A4 Se.length c4) Se) := ⟨Kd.S_mono (Kd.S_bound (Kd.S_drew HS1.out.1)) (fun k hk => hk.2.2.1)⟩
   have HN2 : Aside0 (n2 ≤ wr.drew.heap.size ∧ w.heap.size ≤ n2) := ⟨HD.out.ln2, Nat.le_trans HD.out.ln0 HD.out.ln1⟩
   have HBd : Aside0 (Box wr.drew X kd bno (.slice A6 ((lstF S (numF S (numF S st).2).2).1).length c6) (.slice A7 ((lstF S (lstF S (numF S (numF S st).2).2).2).1).length c7) (.slice A4 Se.length c4) (.slice none 0 0) (.slice none 0 0)) := ⟨HB.out⟩
   have HLen : Aside0 (Se.length = d) := ⟨HS1.out.2.1⟩
   clear hp HS1
   go_wp2
   go_region_law (first
    | (rw [if_pos (by rfl)]; go_simp; go_at_call 43; refine HLp.out.mono ?_; rintro e w2 ⟨vp, rfl, hr, har, hb, hk⟩; (have hbx := box_call HBd.out HD.out.ar hk (by decide)); (have hd2 := HD.out.call har hb hk); (have hs2 := S_call HSd.out HD.out.ar hk (by decide)); (obtain ⟨Ap, cp, rfl⟩ := Kd.R_slice hr); (have z4 : w2.cell? ⟨X, 4, none⟩ = some (.slice A4 Se.length c4) := (blk_cell hbx 4).trans rfl); (have q4 : (w2.alloc (.cells #[.slice Ap p.length cp] 22)).cell? ⟨X, 4, none⟩ = some (.slice A4 Se.length c4) := (blk_cell (blk_alloc hbx _) 4).trans rfl); (have zf4 : w2.frozen? ⟨X, 4, none⟩ = false := blk_frozen hbx 4); (have HW2 := Aside0.mk (And.intro hd2 (And.intro hbx (And.intro hs2 (And.intro hr hk.1))))); clear hbx hd2 hs2 hr har hb hk)
    | (refine Kd.S_append_step (Kd.slice 3 (Kd.int .i64)) (w0 := w2) (W := w2) n2 (by rfl) (.tmp 32) (.tmp 35) 23 22 (.slice none 0 0) 24 rfl Tryd.underlying23 info22 rfl (by decide) (by decide) (.slice A4 Se.length c4) Se p [.slice Ap p.length cp] (fun _ => True) (fun k => wr.drew.heap.size ≤ k) (by first | rfl | simp [Act.eval, Act.put]) (by first | rfl | simp [Act.eval, Act.put]) ?aP ?aK (fun _ _ => trivial) ?aO (Below.refl _ _) ?aB ?aL ?_; (case aP => exact Kd.M_row (Kd.R_lower (Kd.R_mono (Kd.R_bound HW2.out.2.2.2.1) (fun k hk => hk.2.1)) HN2.out.1)); (case aK => exact (fun k hk => ⟨trivial, fun e => by have := Kd.S_lt HSd.out k e.symm; omega⟩)); (case aO => exact Kd.S_mono HW2.out.2.2.1 (fun k hk => ⟨trivial, Nat.not_le.2 hk⟩)); (case aB => exact Nat.le_trans HN2.out.1 HW2.out.2.2.2.2); (case aL => have := HLen.out; omega); intro v1 w3 ho hb hg hat; (have hb4 := box_grow HW2.out.2.1 HW2.out.2.2.1 hg (by decide)); (have hd4 := HW2.out.1.growS HW2.out.2.2.1 hg HN2.out.2 (.inl rfl)); (obtain ⟨A5, c5, rfl⟩ := Kd.S_slice ho); (rw [show (Se ++ [p]).length = Se.length + 1 from by simp] at ho); (have u4 : w3.cell? ⟨X, 4, none⟩ = some (.slice A4 Se.length c4) := (blk_cell hb4 4).trans rfl); (have uf4 : w3.frozen? ⟨X, 4, none⟩ = false := blk_frozen hb4 4); (have HW3 := Aside0.mk (And.intro hd4 (And.intro hb4 ho))); clear hb hg hat hb4 hd4 ho))
   all_goals go_wp2
   all_goals go_roundw
   case rel | rel | rel => exact ⟨d + 1, st', Se ++ [p], _, by omega, by go_num, ⟨HW3.out.1.put HX.out.1 HX.out.2.1 HW3.out.2.1 (.inl rfl) 4 _⟩, ⟨(set1 (base := 0) HW3.out.2.1 (Nat.zero_le _)).1.trans rfl⟩, ⟨S_put HW3.out.2.2 HW3.out.2.1 (by decide) 4 _, by rw [List.length_append, HLen.out]; rfl, HM.out⟩⟩
   case measure | measure | measure => simp [intOf]; omega
  ·have HM1 : Aside0 (manyF (lstF S) (countF S 200 (lstF S (lstF S (numF S (numF S st).2).2).2).2).1.toNat (countF S 200 (lstF S (lstF S (numF S (numF S st).2).2).2).2).2 [] = (Se, st6)) := ⟨by rw [HN9.out, Int.toNat_natCast]; have h := HS1.out.2.2; rw [show N9 - d = 0 by omega] at h; exact h⟩
   go_wp2_with (go_at_call 44; refine (HC.out 65 _ _ HR.out.ar HR.out.bel).mono ?_; rintro e w10 ⟨hret, har, hb, hk⟩; (obtain ⟨N10, hN10, hM10⟩ := HCN.out 65 (by decide) _ HR.out.ar.ok); (have HN10 := Aside0.mk hN10); (rw [hN10] at hret); (subst hret); (have H10 := Aside0.mk (And.intro (HR.out.call har hb hk) (And.intro (box_call HB.out HR.out.ar hk (by decide)) (S_call HS1.out.1 HR.out.ar hk (by decide))))); clear har hb hk hN10)
   clear HR HB HS1
   go_loopw [41] (fun v41 wr => ∃ (d : Nat) (sx : St) (out : List Spl) (v : Value), d ≤ N10 ∧ v41 = .int .i64 (d : Int) ∧ Aside0 (DC w wr base G B R0 n1 n2 s sx (.slice A6 ((lstF S (numF S (numF S st).2).2).1).length c6) (.slice A7 ((lstF S (lstF S (numF S (numF S st).2).2).2).1).length c7) (lstF S (numF S (numF S st).2).2).1 (lstF S (lstF S (numF S (numF S st).2).2).2).1) ∧ Aside0 (Box wr X kd bno (.slice A6 ((lstF S (numF S (numF S st).2).2).1).length c6) (.slice A7 ((lstF S (lstF S (numF S (numF S st).2).2).2).1).length c7) (.slice A4 Se.length c4) v (.slice none 0 0)) ∧
    Aside0 (Kd.S (Kd.slice 3 (Kd.int .i64)) 22 wr n2 (fun _ => True) (.slice A4 Se.length c4) Se) ∧ Aside0 (Kd.S k41 41 wr n2 (fun _ => True) v out ∧ out.length = d ∧ manyF (splF S) N10 (countF S 65 st6).2 [] = manyF (splF S) (N10 - d) sx out)) (fun v41 _ => (N10 - (intOf v41).toNat))
   case atStart => exact ⟨0, _, [], _, Nat.zero_le _, rfl, ⟨H10.out.1⟩, ⟨H10.out.2.1⟩, ⟨H10.out.2.2⟩, ⟨Kd.S_nil _ _ _ _ _, rfl, rfl⟩⟩
   case round =>
    clear H10
    obtain ⟨d2, st7, Sp, v, hd2, rfl, HR, HB, HSe, HS2⟩ := hrel
    obtain ⟨B5, e5, rfl⟩ := Kd.S_slice HS2.out.1
    by_cases hlt2 : d2 < N10
    ·have hd65 : d2 < 65 := by omega
     have HD : Aside0 (DC w wr.drew base G B R0 n1 n2 s st7 _ _ (lstF S (numF S (numF S st).2).2).1 (lstF S (lstF S (numF S (numF S st).2).2).2).1) := ⟨HR.out.below (Below.refl _ _).drew⟩
     have x5 : wr.cell? ⟨X, 5, none⟩ = some (.slice B5 Sp.length e5) := (blk_cell HB.out 5).trans rfl
     have xf5 : wr.frozen? ⟨X, 5, none⟩ = false := blk_frozen HB.out 5
     obtain ⟨p1, s1, hp1⟩ : ∃ p st', lstF S st7 = (p, st') := ⟨_, _, rfl⟩
     obtain ⟨p2, s2, hp2⟩ : ∃ p st', lstF S s1 = (p, st') := ⟨_, _, rfl⟩
     obtain ⟨p3, s3, hp3⟩ : ∃ p st', lstF S s2 = (p, st') := ⟨_, _, rfl⟩
     have hspl := splF_eq hp1 hp2 hp3
     have HL1 := Aside0.mk (fun (W : World) (h : AR W base G B s st7) (hb : Below base w W) => by have h1 := HLs.out W st7 h hb; rw [hp1] at h1; exact h1)
     have HL2 := Aside0.mk (fun (W : World) (h : AR W base G B s s1) (hb : Below base w W) => by have h1 := HLs.out W s1 h hb; rw [hp2] at h1; exact h1)
     have HL3 := Aside0.mk (fun (W : World) (h : AR W base G B s s2) (hb : Below base w W) => by have h1 := HLs.out W s2 h hb; rw [hp3] at h1; exact h1)
     have HM : Aside0 (manyF (splF S) N10 (countF S 65 st6).2 [] = manyF (splF S) (N10 - (d2 + 1)) s3 (Sp ++ [⟨p1, p2, p3⟩])) := ⟨by rw [HS2.out.2.2, show N10 - d2 = (N10 - (d2 + 1)) + 1 by omega, manyF_succ, hspl]⟩
     have HSd : Aside0 (Kd.S k41 41 wr.drew n2 (fun k => k < wr.drew.heap.size) (.slice B5 Sp.length e5) Sp) := ⟨Kd.S_mono (Kd.S_bound (Kd.S_drew HS2.out.1)) (fun k hk => hk.2.2.1)⟩
     have HSe2 : Aside0 (Kd.S (Kd.slice 3 (Kd.int .i64)) 22 wr.drew n2 (fun _ => True) (.slice A4 Se.length c4) Se) := ⟨Kd.S_drew HSe.out⟩
     have HN2 : Aside0 (n2 ≤ wr.drew.heap.size ∧ w.heap.size ≤ n2) := ⟨HD.out.ln2, Nat.le_trans HD.out.ln0 HD.out.ln1⟩
     have HBd : Aside0 (Box wr.drew X kd bno (.slice A6 ((lstF S (numF S (numF S st).2).2).1).length c6) (.slice A7 ((lstF S (lstF S (numF S (numF S st).2).2).2).1).length c7) (.slice A4 Se.length c4) (.slice B5 Sp.length e5) (.slice none 0 0)) := ⟨HB.out⟩
     have HLen : Aside0 (Sp.length = d2) := ⟨HS2.out.2.1⟩
     clear hp1 hp2 hp3 hspl HS2 HSe
     go_wp2
     go_region_law (first
      | (rw [if_pos (by rfl)]; go_simp; go_at_call 43; (have z_ := HW3.out); clear z_; refine (HL3.out _ HW3.out.1.ar HW3.out.1.bel).mono ?_; rintro e w4 ⟨vp, rfl, hr, har, hb, hk⟩; (have hbx := box_call HW3.out.2.1 HW3.out.1.ar hk (by decide)); (have hd3 := HW3.out.1.call har hb hk); (have hs2 := S_call HW3.out.2.2.1 HW3.out.1.ar hk (by decide)); (have he2 := S_call HW3.out.2.2.2.1 HW3.out.1.ar hk (by decide)); (have hr1 := R_call HW3.out.2.2.2.2.1 HW3.out.1.ar hk (by decide)); (have hr2 := R_call HW3.out.2.2.2.2.2.1 HW3.out.1.ar hk (by decide)); (have hr3 := Kd.R_lower hr HW3.out.2.2.2.2.2.2); (obtain ⟨Ap3, cp3, rfl⟩ := Kd.R_slice hr); (have z45 : w4.cell? ⟨X, 5, none⟩ = some (.slice B5 Sp.length e5) := (blk_cell hbx 5).trans rfl); (have q45 : (w4.alloc (.cells #[.slice Ap1 p1.length cp1, .slice Ap2 p2.length cp2, .slice Ap3 p3.length cp3] 41)).cell? ⟨X, 5, none⟩ = some (.slice B5 Sp.length e5) := (blk_cell (blk_alloc hbx _) 5).trans rfl); (have HW4 := Aside0.mk (And.intro hd3 (And.intro hbx (And.intro hs2 (And.intro he2 (And.intro hr1 (And.intro hr2 (And.intro hr3 (Nat.le_trans HW3.out.2.2.2.2.2.2 hk.1))))))))); clear hbx hd3 hs2 he2 hr hr1 hr2 hr3 har hb hk)
      | (rw [if_pos (by rfl)]; go_simp; go_at_call 43; (have z_ := HW2.out); clear z_; refine (HL2.out _ HW2.out.1.ar HW2.out.1.bel).mono ?_; rintro e w3 ⟨vp, rfl, hr, har, hb, hk⟩; (have hbx := box_call HW2.out.2.1 HW2.out.1.ar hk (by decide)); (have hd3 := HW2.out.1.call har hb hk); (have hs2 := S_call HW2.out.2.2.1 HW2.out.1.ar hk (by decide)); (have he2 := S_call HW2.out.2.2.2.1 HW2.out.1.ar hk (by decide)); (have hr1 := R_call HW2.out.2.2.2.2.1 HW2.out.1.ar hk (by decide)); (have hr2 := Kd.R_lower hr HW2.out.2.2.2.2.2); (obtain ⟨Ap2, cp2, rfl⟩ := Kd.R_slice hr); (have z35 : w3.cell? ⟨X, 5, none⟩ = some (.slice B5 Sp.length e5) := (blk_cell hbx 5).trans rfl); (have HW3 := Aside0.mk (And.intro hd3 (And.intro hbx (And.intro hs2 (And.intro he2 (And.intro hr1 (And.intro hr2 (Nat.le_trans HW2.out.2.2.2.2.2 hk.1)))))))); clear hbx hd3 hs2 he2 hr hr1 hr2 har hb hk)
      | (rw [if_pos (by rfl)]; go_simp; go_at_call 43; refine (HL1.out _ HD.out.ar HD.out.bel).mono ?_; rintro e w2 ⟨vp, rfl, hr, har, hb, hk⟩; (have hbx := box_call HBd.out HD.out.ar hk (by decide)); (have hd3 := HD.out.call har hb hk); (have hs2 := S_call HSd.out HD.out.ar hk (by decide)); (have he2 := S_call HSe2.out HD.out.ar hk (by decide)); (obtain ⟨Ap1, cp1, rfl⟩ := Kd.R_slice hr); (have z25 : w2.cell? ⟨X, 5, none⟩ = some (.slice B5 Sp.length e5) := (blk_cell hbx 5).trans rfl); (have HW2 := Aside0.mk (And.intro hd3 (And.intro hbx (And.intro hs2 (And.intro he2 (And.intro hr hk.1)))))); clear hbx hd3 hs2 he2 hr har hb hk)
      | (refine Kd.S_append_step k41 (w0 := w4) (W := w4) n2 (by rfl) (.tmp 44) (.tmp 52) 24 41 (.agg #[.slice none 0 0, .slice none 0 0, .slice none 0 0]) 72 rfl Tryd.underlying24 info_Spl rfl (by decide) (by decide) (.slice B5 Sp.length e5) Sp ⟨p1, p2, p3⟩ [.slice Ap1 p1.length cp1, .slice Ap2 p2.length cp2, .slice Ap3 p3.length cp3] (fun _ => True) (fun k => wr.drew.heap.size ≤ k) (by first | rfl | simp [Act.eval, Act.put]) (by first | rfl | simp [Act.eval, Act.put]) ?aP ?aK (fun _ _ => trivial) ?aO (Below.refl _ _) ?aB ?aL ?_; (case aP => exact k41_mkM _ _ _ ⟨p1, p2, p3⟩ (Kd.R_lower (Kd.R_mono (Kd.R_bound HW4.out.2.2.2.2.1) (fun k hk => hk.2.1)) HN2.out.1) (Kd.R_lower (Kd.R_mono (Kd.R_bound HW4.out.2.2.2.2.2.1) (fun k hk => hk.2.1)) HN2.out.1) (Kd.R_lower (Kd.R_mono (Kd.R_bound HW4.out.2.2.2.2.2.2.1) (fun k hk => hk.2.1)) HN2.out.1)); (case aK => exact (fun k hk => ⟨trivial, fun e => by have := Kd.S_lt HSd.out k e.symm; omega⟩)); (case aO => exact Kd.S_mono HW4.out.2.2.1 (fun k hk => ⟨trivial, Nat.not_le.2 hk⟩)); (case aB => exact Nat.le_trans HN2.out.1 HW4.out.2.2.2.2.2.2.2); (case aL => have := HLen.out; omega); intro v1 w5 ho hb hg hat; (have hb4 := box_grow HW4.out.2.1 HW4.out.2.2.1 hg (by decide)); (have hd4 := HW4.out.1.growS HW4.out.2.2.1 hg HN2.out.2 (.inr (.inl rfl))); (have he4 := S_grow HW4.out.2.2.2.1 HW4.out.2.2.1 hg (by decide)); (obtain ⟨A5, c5, rfl⟩ := Kd.S_slice ho); (rw [show (Sp ++ [(⟨p1, p2, p3⟩ : Spl)]).length = Sp.length + 1 from by simp] at ho); (have u5 : w5.cell? ⟨X, 5, none⟩ = some (.slice B5 Sp.length e5) := (blk_cell hb4 5).trans rfl); (have uf5 : w5.frozen? ⟨X, 5, none⟩ = false := blk_frozen hb4 5); (have HW5 := Aside0.mk (And.intro hd4 (And.intro hb4 (And.intro he4 ho)))); clear hb hg hat hb4 hd4 he4 ho))
     all_goals go_wp2
     all_goals go_roundw
     case rel | rel | rel | rel | rel => exact ⟨d2 + 1, s3, Sp ++ [⟨p1, p2, p3⟩], _, by omega, by go_num, ⟨HW5.out.1.put HX.out.1 HX.out.2.1 HW5.out.2.1 (.inl rfl) 5 _⟩, ⟨(set1 (base := 0) HW5.out.2.1 (Nat.zero_le _)).1.trans rfl⟩, ⟨S_put HW5.out.2.2.1 HW5.out.2.1 (by decide) 5 _⟩, ⟨S_put HW5.out.2.2.2 HW5.out.2.1 (by decide) 5 _, by rw [List.length_append, HLen.out]; rfl, HM.out⟩⟩
     case measure | measure | measure | measure | measure => simp [intOf]; omega
    ·have HM2 : Aside0 (manyF (splF S) (countF S 65 st6).1.toNat (countF S 65 st6).2 [] = (Sp, st7)) := ⟨by rw [HN10.out, Int.toNat_natCast]; have h := HS2.out.2.2; rw [show N10 - d2 = 0 by omega] at h; exact h⟩
     go_wp2_with (go_at_call 44; refine (HC.out 200 _ _ HR.out.ar HR.out.bel).mono ?_; rintro e w11 ⟨hret, har, hb, hk⟩; (obtain ⟨N11, hN11, hM11⟩ := HCN.out 200 (by decide) _ HR.out.ar.ok); (have HN11 := Aside0.mk hN11); (rw [hN11] at hret); (subst hret); (have H11 := Aside0.mk (And.intro (HR.out.call har hb hk) (And.intro (box_call HB.out HR.out.ar hk (by decide)) (And.intro (S_call HSe.out HR.out.ar hk (by decide)) (S_call HS2.out.1 HR.out.ar hk (by decide)))))); clear har hb hk hN11)
     clear HR HB HSe HS2
     go_loopw [58] (fun v58 wr => ∃ (d : Nat) (sx : St) (out : List Cut) (v : Value), d ≤ N11 ∧ v58 = .int .i64 (d : Int) ∧ Aside0 (DC w wr base G B R0 n1 n2 s sx (.slice A6 ((lstF S (numF S (numF S st).2).2).1).length c6) (.slice A7 ((lstF S (lstF S (numF S (numF S st).2).2).2).1).length c7) (lstF S (numF S (numF S st).2).2).1 (lstF S (lstF S (numF S (numF S st).2).2).2).1) ∧ Aside0 (Box wr X kd bno (.slice A6 ((lstF S (numF S (numF S st).2).2).1).length c6) (.slice A7 ((lstF S (lstF S (numF S (numF S st).2).2).2).1).length c7) (.slice A4 Se.length c4) (.slice B5 Sp.length e5) v) ∧
      Aside0 (Kd.S (Kd.slice 3 (Kd.int .i64)) 22 wr n2 (fun _ => True) (.slice A4 Se.length c4) Se ∧ Kd.S k41 41 wr n2 (fun _ => True) (.slice B5 Sp.length e5) Sp) ∧ Aside0 (Kd.S k43 43 wr n2 (fun _ => True) v out ∧ out.length = d ∧ manyF (cutF S) N11 (countF S 200 st7).2 [] = manyF (cutF S) (N11 - d) sx out)) (fun v58 _ => (N11 - (intOf v58).toNat))
     case atStart => exact ⟨0, _, [], _, Nat.zero_le _, rfl, ⟨H11.out.1⟩, ⟨H11.out.2.1⟩, ⟨H11.out.2.2⟩, ⟨Kd.S_nil _ _ _ _ _, rfl, rfl⟩⟩
     case round =>
      clear H11
      obtain ⟨d3, st8, Cu, v, hd3, rfl, HR, HB, HSS, HS3⟩ := hrel
      obtain ⟨C6, f6, rfl⟩ := Kd.S_slice HS3.out.1
      by_cases hlt3 : d3 < N11
      ·have hd200 : d3 < 200 := by omega
       obtain ⟨p, s1, hp⟩ : ∃ p st', lstF S st8 = (p, st') := ⟨_, _, rfl⟩
       obtain ⟨y, s2, hy⟩ : ∃ y st', intF S s1 = (y, st') := ⟨_, _, rfl⟩
       have HL1 := HLs.out wr st8 HR.out.ar HR.out.bel
       rw [hp] at HL1
       have HL1 := Aside0.mk HL1
       have HSd : Aside0 (Kd.S k43 43 wr n2 (fun k => k < wr.heap.size) (.slice C6 Cu.length f6) Cu) := ⟨Kd.S_mono (Kd.S_bound HS3.out.1) (fun k hk => hk.2.2.1)⟩
       have HN2 : Aside0 (n2 ≤ wr.heap.size ∧ w.heap.size ≤ n2 ∧ w.heap.size ≤ wr.heap.size) := ⟨HR.out.ln2, Nat.le_trans HR.out.ln0 HR.out.ln1, HR.out.kept.1⟩
       have HLen : Aside0 (Cu.length = d3) := ⟨HS3.out.2.1⟩
       have HP3 := Aside0.mk hp
       by_cases hf : s1.2 = none
       ·have HI := Aside0.mk (fun (W : World) (h : AR W base G B s s1) (hb : Below base w W) => by have h1 := HIs.out W s1 h hf hb; rw [hy] at h1; exact h1)
        have HF := Aside0.mk (fun (W : World) (h : AR W base G B s s1) (hb : Below base w W) => by have h1 := HFs.out W s1 h hb; rw [hf] at h1; exact h1)
        have HM : Aside0 (manyF (cutF S) N11 (countF S 200 st7).2 [] = manyF (cutF S) (N11 - (d3 + 1)) s2 (Cu ++ [⟨p, y⟩])) := ⟨by rw [HS3.out.2.2, show N11 - d3 = (N11 - (d3 + 1)) + 1 by omega, manyF_succ, cutF_ok hp hy]⟩
        have HN := Aside0.mk hf
        clear hp hy HS3 hf
        go_wp2_with (first
         | ((with_reducible refine gate_dst (N := 75) rfl ?_); refine Kd.S_append k43 (w0 := w7) (W := w7) n2 rfl (.tmp 72) (.tmp 74) 25 43 (.agg #[.slice none 0 0, .int .i64 0]) 32 rfl Tryd.underlying25 info_Cut rfl (by decide) (by decide) (.slice C6 Cu.length f6) Cu ⟨p, y⟩ [.slice Ap p.length cp, .int .i64 y] (fun _ => True) (fun k => wr.heap.size ≤ k) rfl rfl ?aP ?aK (fun _ _ => trivial) ?aO (Below.refl _ _) ?aB ?aL ?_; (case aP => exact k43_mkM _ _ _ ⟨p, y⟩ (Kd.R_lower (Kd.R_mono (Kd.R_bound HW7.out.1.row) (fun k hk => hk.2.1)) HN2.out.1)); (case aK => exact (fun k hk => ⟨trivial, fun e => by have := Kd.S_lt HSd.out k e.symm; omega⟩)); (case aO => exact Kd.S_mono (S_call HSd.out HR.out.ar HW7.out.1.kept (by decide)) (fun k hk => ⟨trivial, Nat.not_le.2 hk⟩)); (case aB => exact Nat.le_trans HN2.out.1 HW7.out.1.kept.1); (case aL => have := HLen.out; omega); intro v1 w8 ho hb hg hat; (have hs7 := S_call HSd.out HR.out.ar HW7.out.1.kept (by decide)); (have hb4 := box_grow (box_call HB.out HR.out.ar HW7.out.1.kept (by decide)) hs7 hg (by decide)); (have hd4 := HW7.out.1.dc.growS hs7 hg HN2.out.2.1 (.inr (.inr rfl))); (have he4 := S_grow (S_call HSS.out.1 HR.out.ar HW7.out.1.kept (by decide)) hs7 hg (by decide)); (have he5 := S_grow (S_call HSS.out.2 HR.out.ar HW7.out.1.kept (by decide)) hs7 hg (by decide)); (obtain ⟨A8, c8, rfl⟩ := Kd.S_slice ho); (rw [show (Cu ++ [(⟨p, y⟩ : Cut)]).length = Cu.length + 1 from by simp] at ho); (have u6 : w8.cell? ⟨X, 6, none⟩ = some (.slice C6 Cu.length f6) := (blk_cell hb4 6).trans rfl); (have uf6 : w8.frozen? ⟨X, 6, none⟩ = false := blk_frozen hb4 6); (have HW8 := Aside0.mk (And.intro hd4 (And.intro hb4 (And.intro he4 (And.intro he5 ho))))); clear hs7 hb hg hat hb4 hd4 he4 he5 ho)
         | ((with_reducible refine gate_store (t := 3) (p := 70) rfl ?_); refine store_event (t := 3) (p := 70) (v := ?vo_i) (w1 := (w6.setCell ⟨Y, 1, none⟩ (.int .i64 y))) ?hg ?ho ?hn ?hr ?_; (case ho => rfl); (case hg => rfl); (case hn => rfl); (case hr => first | (go_simp; done) | (go_simp; rfl)); intro w7 hw; (have h2 := set1 (base := base) (j := 1) (u := .int .i64 y) HW6.out.2 (Nat.le_trans HR.out.bs HY.out.1)); (rw [← hw] at h2); (have HW7 : Aside0 ((CT w wr w7 base G B R0 n1 n2 s s2 (.slice A6 ((lstF S (numF S (numF S st).2).2).1).length c6) (.slice A7 ((lstF S (lstF S (numF S (numF S st).2).2).2).1).length c7) (lstF S (numF S (numF S st).2).2).1 (lstF S (lstF S (numF S (numF S st).2).2).2).1 (.slice Ap p.length cp) p) ∧ w7.heap[Y]? = some (.cells #[.slice Ap p.length cp, .int .i64 y] 43 (0, 0))) := ⟨HW6.out.1.keepY HY.out.1 HY.out.2.1 HY.out.2.2 HW6.out.2 h2.2.1 h2.2.2, h2.1.trans rfl⟩); (have r70 : w7.cell? ⟨Y, 0, none⟩ = some (.slice Ap p.length cp) := (blk_cell HW7.out.2 0).trans rfl); (have r71 : w7.cell? ⟨Y, 1, none⟩ = _ := (blk_cell HW7.out.2 1).trans rfl); (have q6w7 : w7.cell? ⟨X, 6, none⟩ = some (.slice C6 Cu.length f6) := (blk_cell (box_call HB.out HR.out.ar HW7.out.1.kept (by decide)) 6).trans rfl); clear hw h2 y61 yf61)
         | (go_at_call 46; (have z_ := HW5.out); clear z_; refine (HI.out _ HW5.out.1.dc.ar HW5.out.1.dc.bel).mono ?_; rintro e w6 ⟨rfl, har, hb, hk⟩; (have HW6 := Aside0.mk (And.intro (HW5.out.1.call har hb hk) (box_call HW5.out.2 HW5.out.1.dc.ar hk (by decide)))); (have y61 : w6.cell? ⟨Y, 1, none⟩ = some (.int .i64 0) := (blk_cell HW6.out.2 1).trans rfl); (have yf61 : w6.frozen? ⟨Y, 1, none⟩ = false := blk_frozen HW6.out.2 1); clear har hb hk g5)
         | (go_at_call 45; refine (HF.out _ HW4.out.1.dc.ar HW4.out.1.dc.bel).mono ?_; rintro e w5 ⟨rfl, hb⟩; (have HW5 := Aside0.mk (And.intro (HW4.out.1.below hb) (blk_below HW4.out.2 hb))); (have g5 : w5.cell? ⟨G, 0, none⟩ = some (.pointer (some ⟨B, 0, none⟩)) := (blk_cell (HW5.out.1.dc.ar.none HN.out).2.1 0).trans rfl); clear hb)
         | ((with_reducible refine gate_store (t := 43) (p := 6) rfl ?_); refine store_event (t := 43) (p := 6) (v := ?vo_c) (w1 := ((w3.setCell ⟨Y, 0, none⟩ (.slice Ap p.length cp)).setCell ⟨Y, 1, none⟩ (.int .i64 0))) ?hg ?ho ?hn ?hr ?_; (case ho => rfl); (case hg => rfl); (case hn => rfl); (case hr => first | (go_simp; done) | (go_simp; rfl)); intro w4 hw; (have h2 := set2 (base := base) (u0 := .slice Ap p.length cp) (u1 := .int .i64 0) HW3.out.2 (Nat.le_trans HR.out.bs HY.out.1)); (rw [← hw] at h2); (have HW4 : Aside0 ((CT w wr w4 base G B R0 n1 n2 s s1 (.slice A6 ((lstF S (numF S (numF S st).2).2).1).length c6) (.slice A7 ((lstF S (lstF S (numF S (numF S st).2).2).2).1).length c7) (lstF S (numF S (numF S st).2).2).1 (lstF S (lstF S (numF S (numF S st).2).2).2).1 (.slice Ap p.length cp) p) ∧ w4.heap[Y]? = some (.cells #[.slice Ap p.length cp, .int .i64 0] 43 (0, 0))) := ⟨HW3.out.1.keepY HY.out.1 HY.out.2.1 HY.out.2.2 HW3.out.2 h2.2.1 h2.2.2, h2.1⟩); clear hw h2 y30 y31 yf30 yf31)
         | ((with_reducible refine gate_dst (N := 6) rfl ?_); (try (refine gate_guard (by rfl) ?_; dsimp only)); refine box_event ?hg (N := 6) ?hd (cs := #[.slice none 0 0, .int .i64 0]) (t := 43) ?hr ?_; (case hd => rfl); (case hg => rfl); (case hr => first | (go_simp; done) | (go_simp; rfl)); intro Y hgY w3 hboxY hbY; (have HY : Aside0 (w.heap.size ≤ Y ∧ wr.heap.size ≤ Y ∧ R0 ≠ Y) := ⟨by rw [hgY]; exact Nat.le_trans HN2.out.2.2 HW2.out.kept.1, by rw [hgY]; exact HW2.out.kept.1, by rw [hgY]; exact Nat.ne_of_lt (blk_lt HW2.out.dc.res)⟩); (have HW3 := Aside0.mk (And.intro (HW2.out.below hbY) hboxY)); (have y30 : w3.cell? ⟨Y, 0, none⟩ = some (.slice none 0 0) := (blk_cell hboxY 0).trans rfl); (have y31 : w3.cell? ⟨Y, 1, none⟩ = some (.int .i64 0) := (blk_cell hboxY 1).trans rfl); (have yf30 : w3.frozen? ⟨Y, 0, none⟩ = false := blk_frozen hboxY 0); (have yf31 : w3.frozen? ⟨Y, 1, none⟩ = false := blk_frozen hboxY 1); clear hgY hboxY hbY)
         | (go_at_call 43; refine HL1.out.mono ?_; rintro e w2 ⟨vp, rfl, hr, har, hb, hk⟩; (obtain ⟨Ap, cp, rfl⟩ := Kd.R_slice hr); (have HW2 : Aside0 (CT w wr w2 base G B R0 n1 n2 s s1 (.slice A6 ((lstF S (numF S (numF S st).2).2).1).length c6) (.slice A7 ((lstF S (lstF S (numF S (numF S st).2).2).2).1).length c7) (lstF S (numF S (numF S st).2).2).1 (lstF S (lstF S (numF S (numF S st).2).2).2).1 (.slice Ap p.length cp) p) := ⟨⟨HR.out.call har hb hk, hk, Kd.R_mono hr (fun _ _ => trivial)⟩⟩); clear hr har hb hk))
        go_roundw
        case rel => exact ⟨d3 + 1, s2, Cu ++ [⟨p, y⟩], _, by omega, by go_num, ⟨HW8.out.1.put HX.out.1 HX.out.2.1 HW8.out.2.1 (.inl rfl) 6 _⟩, ⟨(set1 (base := 0) HW8.out.2.1 (Nat.zero_le _)).1.trans rfl⟩, ⟨S_put HW8.out.2.2.1 HW8.out.2.1 (by decide) 6 _, S_put HW8.out.2.2.2.1 HW8.out.2.1 (by decide) 6 _⟩, ⟨S_put HW8.out.2.2.2.2 HW8.out.2.1 (by decide) 6 _, by rw [List.length_append, HLen.out]; rfl, HM.out⟩⟩
        case measure => simp [intOf]; omega
       ·have HF := Aside0.mk (fun (W : World) (h : AR W base G B s s1) (hb : Below base w W) => by have h1 := HFs.out W s1 h hb; rw [isNone_no hf] at h1; exact h1)
        have HM : Aside0 (manyF (cutF S) N11 (countF S 200 st7).2 [] = manyF (cutF S) (N11 - (d3 + 1)) s1 (Cu ++ [⟨p, 0⟩])) := ⟨by rw [HS3.out.2.2, show N11 - d3 = (N11 - (d3 + 1)) + 1 by omega, manyF_succ, cutF_no hp hf]⟩
        clear hp hy HS3 hf
        go_wp2_with (first
         | ((with_reducible refine gate_dst (N := 75) rfl ?_); refine Kd.S_append k43 (w0 := w5) (W := w5) n2 rfl (.tmp 72) (.tmp 74) 25 43 (.agg #[.slice none 0 0, .int .i64 0]) 32 rfl Tryd.underlying25 info_Cut rfl (by decide) (by decide) (.slice C6 Cu.length f6) Cu ⟨p, 0⟩ [.slice Ap p.length cp, .int .i64 0] (fun _ => True) (fun k => wr.heap.size ≤ k) rfl rfl ?aP ?aK (fun _ _ => trivial) ?aO (Below.refl _ _) ?aB ?aL ?_; (case aP => exact k43_mkM _ _ _ ⟨p, 0⟩ (Kd.R_lower (Kd.R_mono (Kd.R_bound HW5.out.1.row) (fun k hk => hk.2.1)) HN2.out.1)); (case aK => exact (fun k hk => ⟨trivial, fun e => by have := Kd.S_lt HSd.out k e.symm; omega⟩)); (case aO => exact Kd.S_mono (S_call HSd.out HR.out.ar HW5.out.1.kept (by decide)) (fun k hk => ⟨trivial, Nat.not_le.2 hk⟩)); (case aB => exact Nat.le_trans HN2.out.1 HW5.out.1.kept.1); (case aL => have := HLen.out; omega); intro v1 w8 ho hb hg hat; (have hs7 := S_call HSd.out HR.out.ar HW5.out.1.kept (by decide)); (have hb4 := box_grow (box_call HB.out HR.out.ar HW5.out.1.kept (by decide)) hs7 hg (by decide)); (have hd4 := HW5.out.1.dc.growS hs7 hg HN2.out.2.1 (.inr (.inr rfl))); (have he4 := S_grow (S_call HSS.out.1 HR.out.ar HW5.out.1.kept (by decide)) hs7 hg (by decide)); (have he5 := S_grow (S_call HSS.out.2 HR.out.ar HW5.out.1.kept (by decide)) hs7 hg (by decide)); (obtain ⟨A8, c8, rfl⟩ := Kd.S_slice ho); (rw [show (Cu ++ [(⟨p, 0⟩ : Cut)]).length = Cu.length + 1 from by simp] at ho); (have u6 : w8.cell? ⟨X, 6, none⟩ = some (.slice C6 Cu.length f6) := (blk_cell hb4 6).trans rfl); (have uf6 : w8.frozen? ⟨X, 6, none⟩ = false := blk_frozen hb4 6); (have HW8 := Aside0.mk (And.intro hd4 (And.intro hb4 (And.intro he4 (And.intro he5 ho))))); clear hs7 hb hg hat hb4 hd4 he4 he5 ho)
         | (go_at_call 45; refine (HF.out _ HW4.out.1.dc.ar HW4.out.1.dc.bel).mono ?_; rintro e w5 ⟨rfl, hb⟩; (have HW5 := Aside0.mk (And.intro (HW4.out.1.below hb) (blk_below HW4.out.2 hb))); (have r50 : w5.cell? ⟨Y, 0, none⟩ = some (.slice Ap p.length cp) := (blk_cell HW5.out.2 0).trans rfl); (have r51 : w5.cell? ⟨Y, 1, none⟩ = _ := (blk_cell HW5.out.2 1).trans rfl); (have q6w5 : w5.cell? ⟨X, 6, none⟩ = some (.slice C6 Cu.length f6) := (blk_cell (box_call HB.out HR.out.ar HW5.out.1.kept (by decide)) 6).trans rfl);  clear hb)
         | ((with_reducible refine gate_store (t := 43) (p := 6) rfl ?_); refine store_event (t := 43) (p := 6) (v := ?vo_c) (w1 := ((w3.setCell ⟨Y, 0, none⟩ (.slice Ap p.length cp)).setCell ⟨Y, 1, none⟩ (.int .i64 0))) ?hg ?ho ?hn ?hr ?_; (case ho => rfl); (case hg => rfl); (case hn => rfl); (case hr => first | (go_simp; done) | (go_simp; rfl)); intro w4 hw; (have h2 := set2 (base := base) (u0 := .slice Ap p.length cp) (u1 := .int .i64 0) HW3.out.2 (Nat.le_trans HR.out.bs HY.out.1)); (rw [← hw] at h2); (have HW4 : Aside0 ((CT w wr w4 base G B R0 n1 n2 s s1 (.slice A6 ((lstF S (numF S (numF S st).2).2).1).length c6) (.slice A7 ((lstF S (lstF S (numF S (numF S st).2).2).2).1).length c7) (lstF S (numF S (numF S st).2).2).1 (lstF S (lstF S (numF S (numF S st).2).2).2).1 (.slice Ap p.length cp) p) ∧ w4.heap[Y]? = some (.cells #[.slice Ap p.length cp, .int .i64 0] 43 (0, 0))) := ⟨HW3.out.1.keepY HY.out.1 HY.out.2.1 HY.out.2.2 HW3.out.2 h2.2.1 h2.2.2, h2.1⟩); clear hw h2 y30 y31 yf30 yf31)
         | ((with_reducible refine gate_dst (N := 6) rfl ?_); (try (refine gate_guard (by rfl) ?_; dsimp only)); refine box_event ?hg (N := 6) ?hd (cs := #[.slice none 0 0, .int .i64 0]) (t := 43) ?hr ?_; (case hd => rfl); (case hg => rfl); (case hr => first | (go_simp; done) | (go_simp; rfl)); intro Y hgY w3 hboxY hbY; (have HY : Aside0 (w.heap.size ≤ Y ∧ wr.heap.size ≤ Y ∧ R0 ≠ Y) := ⟨by rw [hgY]; exact Nat.le_trans HN2.out.2.2 HW2.out.kept.1, by rw [hgY]; exact HW2.out.kept.1, by rw [hgY]; exact Nat.ne_of_lt (blk_lt HW2.out.dc.res)⟩); (have HW3 := Aside0.mk (And.intro (HW2.out.below hbY) hboxY)); (have y30 : w3.cell? ⟨Y, 0, none⟩ = some (.slice none 0 0) := (blk_cell hboxY 0).trans rfl); (have y31 : w3.cell? ⟨Y, 1, none⟩ = some (.int .i64 0) := (blk_cell hboxY 1).trans rfl); (have yf30 : w3.frozen? ⟨Y, 0, none⟩ = false := blk_frozen hboxY 0); (have yf31 : w3.frozen? ⟨Y, 1, none⟩ = false := blk_frozen hboxY 1); clear hgY hboxY hbY)
         | (go_at_call 43; refine HL1.out.mono ?_; rintro e w2 ⟨vp, rfl, hr, har, hb, hk⟩; (obtain ⟨Ap, cp, rfl⟩ := Kd.R_slice hr); (have HW2 : Aside0 (CT w wr w2 base G B R0 n1 n2 s s1 (.slice A6 ((lstF S (numF S (numF S st).2).2).1).length c6) (.slice A7 ((lstF S (lstF S (numF S (numF S st).2).2).2).1).length c7) (lstF S (numF S (numF S st).2).2).1 (lstF S (lstF S (numF S (numF S st).2).2).2).1 (.slice Ap p.length cp) p) := ⟨⟨HR.out.call har hb hk, hk, Kd.R_mono hr (fun _ _ => trivial)⟩⟩); clear hr har hb hk))
        go_roundw
        case rel => exact ⟨d3 + 1, s1, Cu ++ [⟨p, 0⟩], _, by omega, by go_num, ⟨HW8.out.1.put HX.out.1 HX.out.2.1 HW8.out.2.1 (.inl rfl) 6 _⟩, ⟨(set1 (base := 0) HW8.out.2.1 (Nat.zero_le _)).1.trans rfl⟩, ⟨S_put HW8.out.2.2.1 HW8.out.2.1 (by decide) 6 _, S_put HW8.out.2.2.2.1 HW8.out.2.1 (by decide) 6 _⟩, ⟨S_put HW8.out.2.2.2.2 HW8.out.2.1 (by decide) 6 _, by rw [List.length_append, HLen.out]; rfl, HM.out⟩⟩
        case measure => simp [intOf]; omega
      ·have HM3 : Aside0 (manyF (cutF S) (countF S 200 st7).1.toNat (countF S 200 st7).2 [] = (Cu, st8)) := ⟨by rw [HN11.out, Int.toNat_natCast]; have h := HS3.out.2.2; rw [show N11 - d3 = 0 by omega] at h; exact h⟩
       have hbx := HB.out
       have hres := HR.out.res
       have x0 : wr.cell? ⟨X, 0, none⟩ = _ := (blk_cell hbx 0).trans rfl
       have x1 : wr.cell? ⟨X, 1, none⟩ = _ := (blk_cell hbx 1).trans rfl
       have x2 : wr.cell? ⟨X, 2, none⟩ = _ := (blk_cell hbx 2).trans rfl
       have x3 : wr.cell? ⟨X, 3, none⟩ = _ := (blk_cell hbx 3).trans rfl
       have x4 : wr.cell? ⟨X, 4, none⟩ = _ := (blk_cell hbx 4).trans rfl
       have x5 : wr.cell? ⟨X, 5, none⟩ = _ := (blk_cell hbx 5).trans rfl
       have x6 : wr.cell? ⟨X, 6, none⟩ = _ := (blk_cell hbx 6).trans rfl
       have r0 : wr.cell? ⟨R0, 0, none⟩ = _ := (blk_cell hres 0).trans rfl
       have r1 : wr.cell? ⟨R0, 1, none⟩ = _ := (blk_cell hres 1).trans rfl
       have r2 : wr.cell? ⟨R0, 2, none⟩ = _ := (blk_cell hres 2).trans rfl
       have r3 : wr.cell? ⟨R0, 3, none⟩ = _ := (blk_cell hres 3).trans rfl
       have r4 : wr.cell? ⟨R0, 4, none⟩ = _ := (blk_cell hres 4).trans rfl
       have r5 : wr.cell? ⟨R0, 5, none⟩ = _ := (blk_cell hres 5).trans rfl
       have r6 : wr.cell? ⟨R0, 6, none⟩ = _ := (blk_cell hres 6).trans rfl
       have rf0 : wr.frozen? ⟨R0, 0, none⟩ = false := blk_frozen hres 0
       have rf1 : wr.frozen? ⟨R0, 1, none⟩ = false := blk_frozen hres 1
       have rf2 : wr.frozen? ⟨R0, 2, none⟩ = false := blk_frozen hres 2
       have rf3 : wr.frozen? ⟨R0, 3, none⟩ = false := blk_frozen hres 3
       have rf4 : wr.frozen? ⟨R0, 4, none⟩ = false := blk_frozen hres 4
       have rf5 : wr.frozen? ⟨R0, 5, none⟩ = false := blk_frozen hres 5
       have rf6 : wr.frozen? ⟨R0, 6, none⟩ = false := blk_frozen hres 6
       clear hbx hres
       go_wp2_with ((with_reducible refine gate_store (t := 27) (p := 2) rfl ?_); refine store_event (t := 27) (p := 2) (v := ?vo_f) (w1 := (((((((wr.setCell ⟨R0, 0, none⟩ (.int .i64 kd)).setCell ⟨R0, 1, none⟩ (.bool bno)).setCell ⟨R0, 2, none⟩ (.slice A6 ((lstF S (numF S (numF S st).2).2).1).length c6)).setCell ⟨R0, 3, none⟩ (.slice A7 ((lstF S (lstF S (numF S (numF S st).2).2).2).1).length c7)).setCell ⟨R0, 4, none⟩ (.slice A4 Se.length c4)).setCell ⟨R0, 5, none⟩ (.slice B5 Sp.length e5)).setCell ⟨R0, 6, none⟩ (.slice C6 Cu.length f6))) ?hg ?ho ?hn ?hr ?_; (case ho => rfl); (case hg => rfl); (case hn => rfl); (case hr => first | (go_simp; done) | (go_simp; rfl)); intro wf hw; (have h7 := set7 (base := base) (u0 := .int .i64 kd) (u1 := .bool bno) (u2 := .slice A6 ((lstF S (numF S (numF S st).2).2).1).length c6) (u3 := .slice A7 ((lstF S (lstF S (numF S (numF S st).2).2).2).1).length c7) (u4 := .slice A4 Se.length c4) (u5 := .slice B5 Sp.length e5) (u6 := .slice C6 Cu.length f6) HR.out.res (Nat.le_trans HR.out.bs HR.out.wR)); (dsimp only at h7); (rw [← hw] at h7); (have HWF := Aside0.mk h7); clear r0 rf0 r1 rf1 r2 rf2 r3 rf3 r4 rf4 r5 rf5 r6 rf6; (have r0 : wf.cell? ⟨R0, 0, none⟩ = _ := (blk_cell h7.1 0).trans rfl); (have r1 : wf.cell? ⟨R0, 1, none⟩ = _ := (blk_cell h7.1 1).trans rfl); (have r2 : wf.cell? ⟨R0, 2, none⟩ = _ := (blk_cell h7.1 2).trans rfl); (have r3 : wf.cell? ⟨R0, 3, none⟩ = _ := (blk_cell h7.1 3).trans rfl); (have r4 : wf.cell? ⟨R0, 4, none⟩ = _ := (blk_cell h7.1 4).trans rfl); (have r5 : wf.cell? ⟨R0, 5, none⟩ = _ := (blk_cell h7.1 5).trans rfl); (have r6 : wf.cell? ⟨R0, 6, none⟩ = _ := (blk_cell h7.1 6).trans rfl); clear hw h7)
       ((try simp only [Exit.inBlock, Exit.then]); refine bodyPost_ret (results_ct rfl _ _ R0 27 #[.int .i64 kd, .bool bno, .slice A6 ((lstF S (numF S (numF S st).2).2).1).length c6, .slice A7 ((lstF S (lstF S (numF S (numF S st).2).2).2).1).length c7, .slice A4 Se.length c4, .slice B5 Sp.length e5, .slice C6 Cu.length f6] (0, 0) _ rfl HWF.out.1 Tryd.underlying27 rfl (by kernel_rfl)) rfl ?_)
       obtain ⟨hq1, hq2, hq3⟩ := HWF.out
       rw [HM1.out]; dsimp only
       rw [HM2.out]; dsimp only
       rw [HM3.out]
       exact ⟨_, _, _, _, _, rfl, rowsA_of HR.out HSS.out.1 HSS.out.2 HS3.out.1 hq2, HR.out.fin hq2 hq3⟩

end Go.Proofs.YtlekdhejgdfnpaaDoor.P
/- answer.Encode, walked. -/
namespace Go.Proofs.YtlekdhejgdfnpaaDoor.P
open Go.RowKit Go.Lib Go.Proofs.YtlekdhejgdfnpaaDoorW.PrintWords Go.Proofs.YtlekdhejgdfnpaaDoorW.PrintLast Go.Proofs.YtlekdhejgdfnpaaDoorW.PrintMore
open Wr

/-- what stands while Encode writes: the builder, what lay there, the rows that are no bytes -/
def EncAt (B : Nat) (acc : List Int) (wB W : World) : Prop := (Lib.IsBuilder 64 5 B B (Lib.strCells (strOfNums acc)) W ∧ Below B wB W) ∧ Keep8 B wB W
theorem EncAt.lists {B : Nat} {acc : List Int} {wB W : World} (h : EncAt B acc wB W) (hB : B ≤ wB.heap.size) (l : List (List Int)) (A : Option Addr) (c : Nat) (hC : ∀ w1, Below B W w1 → Keep8 B W w1 → Kd.C (Kd.slice 3 (Kd.int .i64)) w1 A l.length l) (h64 : ∀ x ∈ l, x.length ≤ 64) (hn : l.length ≤ 1000) (hlen : acc.length ≤ 1000000000) :
 Calls Tryd.prog 31 #[.slice A l.length c, .pointer (some ⟨B, 0, none⟩)] W fun e w' => e = .returned (.tuple #[]) ∧ EncAt B (acc ++ listsB l) wB w' ∧ Keep8 B W w' := by
 refine (elists_c l A c B B acc W hC h64 hn h.1.1 hlen (Nat.le_trans hB h.1.2.size)).mono ?_
 rintro e w' ⟨rfl, ⟨h1, h2⟩, h3⟩
 exact ⟨rfl, ⟨⟨h1, h.1.2.trans h2⟩, h.2.trans h3⟩, h3⟩
theorem EncAt.num {B : Nat} {acc : List Int} {wB W : World} (h : EncAt B acc wB W) (hB : B ≤ wB.heap.size) (n : Int) (hlen : acc.length ≤ 1000000000) :
 Calls Tryd.prog 28 #[.int .i64 n, .pointer (some ⟨B, 0, none⟩)] W fun e w' => e = .returned (.tuple #[]) ∧ EncAt B (acc ++ encN n) wB w' ∧ Below B W w' := by
 refine (enum_c n B B acc W h.1.1 hlen (Nat.le_trans hB h.1.2.size)).mono ?_
 rintro e w' ⟨rfl, ⟨h1, h2⟩, h3⟩
 exact ⟨rfl, ⟨⟨h1, h.1.2.trans h2⟩, h.2.trans h3⟩, h2⟩
theorem EncAt.write {B : Nat} {acc s : List Int} {wB W : World} (h : EncAt B acc wB W) (hB : B ≤ wB.heap.size) (hs : s.length ≤ 1000) (hlen : acc.length ≤ 1000000000) :
 Calls Tryd.prog 29 #[.pointer (some ⟨B, 0, none⟩), .string (strOfNums s)] W fun e w' => e = .returned (.tuple #[.int .i64 (strOfNums s).size, .nilIface]) ∧ EncAt B (acc ++ s) wB w' ∧ Below B W w' := by
 refine (bwrite2_c B B _ _ W h.1.1 (by rw [Lib.strCells_length, strOfNums_size, strOfNums_size]; omega) (Nat.le_trans hB h.1.2.size)).mono ?_
 rintro e w' ⟨rfl, ⟨h1, h2⟩, h3⟩
 rw [strCells_sn] at h1
 exact ⟨rfl, ⟨⟨.inr h1, h.1.2.trans h2⟩, h.2.trans h3⟩, h2⟩
theorem EncAt.later {B : Nat} {acc : List Int} {wB W W1 : World} (h : EncAt B acc wB W) (hB : B ≤ wB.heap.size) (hb : Below W.heap.size W W1) : EncAt B acc wB W1 :=
 ⟨⟨h.1.1.below hb, h.1.2.trans (hb.mono (Nat.le_trans hB h.1.2.size))⟩, h.2.trans (Keep8.below hb)⟩
theorem EncAt.fresh (w : World) : EncAt w.heap.size [] (w.alloc (.cells #[.pointer none, .slice none 0 0] 64)) (w.alloc (.cells #[.pointer none, .slice none 0 0] 64)) :=
 ⟨⟨Lib.fresh_isBuilder _ _ w, Below.refl _ _⟩, Keep8.refl _ _⟩
theorem alloc_size (w : World) (o : Obj) : (w.alloc o).heap.size = w.heap.size + 1 := Array.size_push ..
/-- a literal of rows, told in a world behind: its own cells stay (they are no bytes), its rows' too -/
theorem lit_later {B : Nat} {W : World} {vs : Array Value} (hB : B < W.heap.size) {w1 : World} (hk : Keep8 B (W.alloc (.cells vs 22 (0, 0))) w1) : w1.heap[W.heap.size]? = some (.cells vs 22 (0, 0)) :=
 hk _ _ _ _ (by omega) (by decide) (blk_new W _)
end Go.Proofs.YtlekdhejgdfnpaaDoor.P
/- answer.Encode, walked: all that may be. (Written by wip/tool/ansf.py.) -/
namespace Go.Proofs.YtlekdhejgdfnpaaDoor.P
open Go.RowKit Go.Lib Go.Proofs.YtlekdhejgdfnpaaDoorW.PrintWords Go.Proofs.YtlekdhejgdfnpaaDoorW.PrintLast Go.Proofs.YtlekdhejgdfnpaaDoorW.PrintMore
open Wr

theorem EncAt.ex {B : Nat} {acc : List Int} {wB W : World} (h : Aside0 (EncAt B acc wB W)) : ∃ Q, Q = acc ∧ Aside0 (EncAt B Q wB W) := ⟨acc, rfl, h⟩
def spB (y : Spl) : List Int := listsB [y.f0, y.f1, y.f2]
def cuB (c : Cut) : List Int := listsB [c.f0] ++ encI c.f1
theorem flat_len {α : Type} (f : α → List Int) (m : Nat) : ∀ (l : List α), (∀ x ∈ l, (f x).length ≤ m) → (l.flatMap f).length ≤ m * l.length := by
 intro l
 induction l with
 | nil => intro _; simp
 | cons x r ih =>
  intro h
  have h1 := h x (List.mem_cons_self ..)
  have h2 := ih (fun y hy => h y (List.mem_cons_of_mem _ hy))
  rw [List.flatMap_cons, List.length_append, List.length_cons, Nat.mul_add]
  omega
theorem flat_snoc {α : Type} (f : α → List Int) (l : List α) {i : Nat} (h : i < l.length) : (l.take (i + 1)).flatMap f = (l.take i).flatMap f ++ f l[i] := by
 rw [List.take_succ_eq_append_getElem h, List.flatMap_append]; simp
theorem EncAt.lt {B : Nat} {acc : List Int} {wB W : World} (h : EncAt B acc wB W) : B < W.heap.size := by
 rcases h.1.1 with h | h <;> exact h.lt
theorem EncAt.rows0 {B b0 : Nat} {acc : List Int} {w wB W w1 : World} (h : EncAt B acc wB W) (hb : Below B W w1) (hw : Below b0 w wB ∧ b0 ≤ B) : Below b0 w w1 := hw.1.trans ((h.1.2.trans hb).mono hw.2)
theorem EncAt.rows {B b0 : Nat} {acc : List Int} {w wB W w1 : World} {o : Obj} (h : EncAt B acc wB W) (hb : Below B (W.alloc o) w1) (hw : Below b0 w wB ∧ b0 ≤ B) : Below b0 w w1 :=
 hw.1.trans ((h.1.2.trans (((Below.refl B W).alloc (Nat.le_of_lt h.lt) o).trans hb)).mono hw.2)
set_option maxHeartbeats 16000000 in
set_option maxRecDepth 100000 in
theorem encode_ok (k : Nat) (a0 : Int) (no : Bool) (A2 : Option Addr) (c2 : Nat) (S : List Int) (A3 : Option Addr) (c3 : Nat) (U : List Int) (A4 : Option Addr) (c4 : Nat) (Se : List (List Int)) (A5 : Option Addr) (c5 : Nat) (Sp : List Spl) (A6 : Option Addr) (c6 : Nat) (Cu : List Cut) (w : World)
 (hr2 : Kd.C (Kd.int .i64) w A2 S.length S) (hc2 : S.length ≤ c2) (hr3 : Kd.C (Kd.int .i64) w A3 U.length U) (hc3 : U.length ≤ c3) (hr4 : Kd.C (Kd.slice 3 (Kd.int .i64)) w A4 Se.length Se) (hc4 : Se.length ≤ c4) (hr5 : Kd.C k41 w A5 Sp.length Sp) (hc5 : Sp.length ≤ c5) (hr6 : Kd.C k43 w A6 Cu.length Cu) (hc6 : Cu.length ≤ c6)
 (hck : answer_Check.f k a0 no S U Se Sp Cu = some 0) (h64SU : ∀ x ∈ [S, U], x.length ≤ 64) (h64e : ∀ x ∈ Se, x.length ≤ 64) (hle : Se.length ≤ 200) (h64p : ∀ y ∈ Sp, ∀ x ∈ [y.f0, y.f1, y.f2], x.length ≤ 64) (hlp : Sp.length ≤ 65) (h64c : ∀ c ∈ Cu, c.f0.length ≤ 64) (hlc : Cu.length ≤ 200) :
 Calls Tryd.prog 13 #[.agg #[.int .i64 a0, .bool no, .slice A2 S.length c2, .slice A3 U.length c3, .slice A4 Se.length c4, .slice A5 Sp.length c5, .slice A6 Cu.length c6]] w fun e w' => e = .returned (.string (strOfNums (encAns a0 no S U Se Sp Cu))) ∧ Below w.heap.size w w' := by
 obtain ⟨W1, hW1⟩ : ∃ W1, W1 = w.alloc (Obj.cells #[.int .i64 a0, .bool no, .slice A2 S.length c2, .slice A3 U.length c3, .slice A4 Se.length c4, .slice A5 Sp.length c5, .slice A6 Cu.length c6] 27) := ⟨_, rfl⟩
 have hB1 : Below w.heap.size w W1 := by subst hW1; exact (Below.refl _ _).alloc (Nat.le_refl _) _
 have hbx : W1.heap[w.heap.size]? = some (.cells #[.int .i64 a0, .bool no, .slice A2 S.length c2, .slice A3 U.length c3, .slice A4 Se.length c4, .slice A5 Sp.length c5, .slice A6 Cu.length c6] 27 (0, 0)) := by subst hW1; exact blk_new w _
 have hsz : W1.heap.size = w.heap.size + 1 := by subst hW1; exact alloc_size _ _
 have HCK := Aside0.mk (fun (W : World) (hW : Below w.heap.size w W) => answer_Check.calls k a0 no (fun _ => True) A2 c2 S (fun _ => True) A3 c3 U (fun _ => True) A4 c4 Se (fun _ => True) A5 c5 Sp (fun _ => True) A6 c6 Cu 0 W (V_of_C (Kd.heap_int _) (Kd.C_below hr2 hW) hc2) (V_of_C (Kd.heap_int _) (Kd.C_below hr3 hW) hc3) (V_of_C (Kd.heap_slice _ (Kd.heap_int _)) (Kd.C_below hr4 hW) hc4) (V_of_C (Kd.heap_iso _ (Kd.heap_pair (Kd.heap_slice _ (Kd.heap_int _)) (Kd.heap_pair (Kd.heap_slice _ (Kd.heap_int _)) (Kd.heap_slice _ (Kd.heap_int _))))) (Kd.C_below hr5 hW) hc5) (V_of_C (Kd.heap_iso _ (Kd.heap_pair (Kd.heap_slice _ (Kd.heap_int _)) (Kd.heap_int _))) (Kd.C_below hr6 hW) hc6) hck)
 have HR2 := Aside0.mk hr2
 have HC2 := Aside0.mk hc2
 have HR3 := Aside0.mk hr3
 have HC3 := Aside0.mk hc3
 have HR4 := Aside0.mk hr4
 have HR5 := Aside0.mk hr5
 have HR6 := Aside0.mk hr6
 have H64SU := Aside0.mk h64SU
 have H64E := Aside0.mk h64e
 have H64P := Aside0.mk h64p
 have H64C := Aside0.mk h64c
 have HLE := Aside0.mk hle
 have HLP := Aside0.mk hlp
 have HLC := Aside0.mk hlc
 have HBX := Aside0.mk (And.intro hB1 (And.intro hbx hsz))
 have HW1 := Aside0.mk hW1
 obtain ⟨NO, hNO⟩ : ∃ NO : Int, NO = if no = true then 1 else 0 := ⟨_, rfl⟩
 have lN := fun n => encN_len n
 have lS := listsB_len [S, U] h64SU
 have lE := listsB_len Se h64e
 have lP : (encN (Sp.length : Int)).length ≤ 8 := encN_len _
 have HL0 := Aside0.mk (show (([] : List Int)).length ≤ 1000000 from by have e1 := encN_len a0; have e2 := encN_len NO; have e3 := encN_len (Se.length : Int); simp only [List.length_append, List.length_nil, List.length_cons] at *; omega)
 have HL1 := Aside0.mk (show ([] ++ encN a0).length ≤ 1000000 from by have e1 := encN_len a0; have e2 := encN_len NO; have e3 := encN_len (Se.length : Int); simp only [List.length_append, List.length_nil, List.length_cons] at *; omega)
 have HL2 := Aside0.mk (show (([] ++ encN a0) ++ encN NO).length ≤ 1000000 from by have e1 := encN_len a0; have e2 := encN_len NO; have e3 := encN_len (Se.length : Int); simp only [List.length_append, List.length_nil, List.length_cons] at *; omega)
 have HL3 := Aside0.mk (show ((([] ++ encN a0) ++ encN NO) ++ listsB [S, U]).length ≤ 1000000 from by have e1 := encN_len a0; have e2 := encN_len NO; have e3 := encN_len (Se.length : Int); simp only [List.length_append, List.length_nil, List.length_cons] at *; omega)
 have HL4 := Aside0.mk (show (((([] ++ encN a0) ++ encN NO) ++ listsB [S, U]) ++ encN (Se.length : Int)).length ≤ 1000000 from by have e1 := encN_len a0; have e2 := encN_len NO; have e3 := encN_len (Se.length : Int); simp only [List.length_append, List.length_nil, List.length_cons] at *; omega)
 have HL5 := Aside0.mk (show ((((([] ++ encN a0) ++ encN NO) ++ listsB [S, U]) ++ encN (Se.length : Int)) ++ listsB Se).length ≤ 1000000 from by have e1 := encN_len a0; have e2 := encN_len NO; have e3 := encN_len (Se.length : Int); simp only [List.length_append, List.length_nil, List.length_cons] at *; omega)
 have HL6 := Aside0.mk (show (((((([] ++ encN a0) ++ encN NO) ++ listsB [S, U]) ++ encN (Se.length : Int)) ++ listsB Se) ++ encN (Sp.length : Int)).length ≤ 1000000 from by have e1 := encN_len a0; have e2 := encN_len NO; have e3 := encN_len (Se.length : Int); simp only [List.length_append, List.length_nil, List.length_cons] at *; omega)
 clear hr2 hc2 hr3 hc3 hr4 hc4 hr5 hc5 hr6 hc6 hck h64SU h64e hle h64p hlp h64c hlc hB1 hbx hsz hW1 lN lS lE lP
 go_enter Tryd.func13, Tryd.ntmps13
 go_upto_region 3 with (go_at_call 11; rw [← HW1.out]; refine (HCK.out _ HBX.out.1).mono ?_; rintro e w2 ⟨rfl, hb⟩; (have HB2 := Aside0.mk hb); clear hb)
 go_upto_region 4 with (fail)
 have hwB := EncAt.fresh w2
 have hbB : Below W1.heap.size W1 (w2.alloc (.cells #[.pointer none, .slice none 0 0] 64)) := HB2.out.trans ((Below.refl _ _).alloc HB2.out.size _)
 have hsB := HB2.out.size
 have hszB := alloc_size w2 (.cells #[.pointer none, .slice none 0 0] 64)
 generalize w2.alloc (.cells #[.pointer none, .slice none 0 0] 64) = wB at *
 generalize w2.heap.size = B at *
 have hX : w.heap.size < B := by have := HBX.out.2.2; omega
 have HWB : Aside0 (Below w.heap.size w wB ∧ w.heap.size ≤ B) := ⟨HBX.out.1.trans (hbB.mono HBX.out.1.size), Nat.le_of_lt hX⟩
 have HBw : Aside0 (B ≤ wB.heap.size) := ⟨by omega⟩
 have hbx2 : wB.heap[w.heap.size]? = some (.cells #[.int .i64 a0, .bool no, .slice A2 S.length c2, .slice A3 U.length c3, .slice A4 Se.length c4, .slice A5 Sp.length c5, .slice A6 Cu.length c6] 27 (0, 0)) := (hbB.block _ (by have := HBX.out.2.2; omega)).trans HBX.out.2.1
 have HX : Aside0 (∀ W, Below B wB W → W.cell? ⟨w.heap.size, 0, none⟩ = some (.int .i64 a0) ∧ W.cell? ⟨w.heap.size, 1, none⟩ = some (.bool no) ∧ W.cell? ⟨w.heap.size, 2, none⟩ = some (.slice A2 S.length c2) ∧ W.cell? ⟨w.heap.size, 3, none⟩ = some (.slice A3 U.length c3) ∧ W.cell? ⟨w.heap.size, 4, none⟩ = some (.slice A4 Se.length c4) ∧ W.cell? ⟨w.heap.size, 5, none⟩ = some (.slice A5 Sp.length c5) ∧ W.cell? ⟨w.heap.size, 6, none⟩ = some (.slice A6 Cu.length c6)) := ⟨fun W hW => by
  have h := (hW.block w.heap.size hX).trans hbx2
  exact ⟨(blk_cell h 0).trans rfl, (blk_cell h 1).trans rfl, (blk_cell h 2).trans rfl, (blk_cell h 3).trans rfl, (blk_cell h 4).trans rfl, (blk_cell h 5).trans rfl, (blk_cell h 6).trans rfl⟩⟩
 have H0 := Aside0.mk hwB
 obtain ⟨z0, z1, z2, z3, z4, z5, z6⟩ := HX.out wB (Below.refl _ _)
 clear hwB hbB hsB hszB hX hbx2 HBX HB2 HCK
 cases no
 all_goals
  first | obtain rfl : NO = 0 := hNO | obtain rfl : NO = 1 := hNO
  go_wp2_with (first
   | (go_at_call 28; (have z_ := H5.out); clear z_; refine (H5.out.num HBw.out _ (Nat.le_trans HL5.out (by decide))).mono ?_; rintro e w16 ⟨rfl, hE, _⟩; (have H6 := Aside0.mk hE); (clear z0 z1 z2 z3 z4 z5 z6); (obtain ⟨z0, z1, z2, z3, z4, z5, z6⟩ := HX.out _ hE.1.2); clear hE)
   | (go_at_call 31; (have z_ := H4.out); clear z_; refine (H4.out.lists HBw.out Se A4 c4 (fun w1 hb hk => Kd.C_below HR4.out (H4.out.rows0 hb HWB.out)) H64E.out (Nat.le_trans HLE.out (by decide)) (Nat.le_trans HL4.out (by decide))).mono ?_; rintro e w15 ⟨rfl, hE, _⟩; (have H5 := Aside0.mk hE); (clear z0 z1 z2 z3 z4 z5 z6); (obtain ⟨z0, z1, z2, z3, z4, z5, z6⟩ := HX.out _ hE.1.2); clear hE)
   | (go_at_call 28; (have z_ := H3.out); clear z_; refine (H3.out.num HBw.out _ (Nat.le_trans HL3.out (by decide))).mono ?_; rintro e w14 ⟨rfl, hE, _⟩; (have H4 := Aside0.mk hE); (clear z0 z1 z2 z3 z4 z5 z6); (obtain ⟨z0, z1, z2, z3, z4, z5, z6⟩ := HX.out _ hE.1.2); clear hE)
   | (go_at_call 31; (have z_ := H2.out); clear z_; refine ((H2.out.later HBw.out (below_alloc (Below.refl _ _) _)).lists HBw.out [S, U] _ _ (fun w1 hb hk => C_two (lit_later H2.out.lt hk) (Kd.C_below HR2.out (H2.out.rows hb HWB.out)) HC2.out (Kd.C_below HR3.out (H2.out.rows hb HWB.out)) HC3.out) H64SU.out (by simp) (Nat.le_trans HL2.out (by decide))).mono ?_; rintro e w13 ⟨rfl, hE, _⟩; (have H3 := Aside0.mk hE); (clear z0 z1 z2 z3 z4 z5 z6); (obtain ⟨z0, z1, z2, z3, z4, z5, z6⟩ := HX.out _ hE.1.2); clear hE)
   | (go_at_call 28; (have z_ := H1.out); clear z_; refine (H1.out.num HBw.out _ (Nat.le_trans HL1.out (by decide))).mono ?_; rintro e w12 ⟨rfl, hE, _⟩; (have H2 := Aside0.mk hE); (clear z0 z1 z2 z3 z4 z5 z6); (obtain ⟨z0, z1, z2, z3, z4, z5, z6⟩ := HX.out _ hE.1.2); clear hE)
   | (go_at_call 28; (have z_ := H0.out); clear z_; refine (H0.out.num HBw.out _ (Nat.le_trans HL0.out (by decide))).mono ?_; rintro e w11 ⟨rfl, hE, _⟩; (have H1 := Aside0.mk hE); (clear z0 z1 z2 z3 z4 z5 z6); (obtain ⟨z0, z1, z2, z3, z4, z5, z6⟩ := HX.out _ hE.1.2); clear hE))
  obtain ⟨Q6, hQ6, HQ⟩ := EncAt.ex H6
  have HLQ : Aside0 (Q6.length ≤ 1000000) := ⟨by rw [hQ6]; exact HL6.out⟩
  have HQ6 := Aside0.mk hQ6
  clear hQ6 H0 H1 H2 H3 H4 H5 H6 HL0 HL1 HL2 HL3 HL4 HL5 HL6
  go_loopw [49] (fun v49 wr => ∃ (i : Nat), i ≤ Sp.length ∧ v49 = .int .i64 (i : Int) ∧ Aside0 (EncAt B (Q6 ++ (Sp.take i).flatMap spB) wB wr)) (fun v49 _ => (Sp.length - (RowKit.intOf v49).toNat))
  case atStart => exact ⟨0, Nat.zero_le _, rfl, ⟨by simpa using HQ.out⟩⟩
  case round =>
   obtain ⟨i, hi, rfl, HR⟩ := hrel
   obtain ⟨z0, z1, z2, z3, z4, z5, z6⟩ := HX.out _ HR.out.1.2
   by_cases hlt : i < Sp.length
   ·obtain ⟨ad, B0, d0, B1, d1, B2, d2, rfl, hx0, hx1, hx2, l0, g0, l1, g1, l2, g2⟩ := at_T41 HR5.out (i : Int) (by omega) (by omega)
    have hWr := HR.out.rows0 (Below.refl _ _) HWB.out
    replace hx0 := (hWr.cell (World.block_lt_of_cell? w _ hx0)).trans hx0
    replace hx1 := (hWr.cell (World.block_lt_of_cell? w _ hx1)).trans hx1
    replace hx2 := (hWr.cell (World.block_lt_of_cell? w _ hx2)).trans hx2
    clear hWr
    have hi65 : i < 65 := by have := HLP.out; omega
    have hel : rd_T41 Sp (i : Int) = Sp[i] := by simp [rd_T41, List.getD_eq_getElem?_getD, List.getElem?_eq_getElem hlt]
    rw [hel] at hx0 hx1 hx2 l0 g0 l1 g1 l2 g2
    rw [show ((i : Int)).toNat = i from rfl] at hx0 hx1 hx2
    have H64Y := Aside0.mk (H64P.out Sp[i] (List.getElem_mem hlt))
    have HSN := Aside0.mk (flat_snoc spB Sp hlt)
    have HG := Aside0.mk (And.intro (And.intro l0 g0) (And.intro (And.intro l1 g1) (And.intro l2 g2)))
    have HLA := Aside0.mk (flat_len spB 1560 (Sp.take i) (fun y hy => listsB_len _ (H64P.out y (List.mem_of_mem_take hy))))
    have HSY : Aside0 (spB Sp[i] = listsB [Sp[i].f0, Sp[i].f1, Sp[i].f2]) := ⟨rfl⟩
    clear hel l0 g0 l1 g1 l2 g2
    generalize Sp[i] = y at *
    go_wp2_with (first
     | ((with_reducible refine gate_dst (N := 7) rfl ?_); (try (refine gate_guard (by rfl) ?_; dsimp only)); refine box_event ?hg (N := 7) ?hd (cs := #[.slice none 0 0, .slice none 0 0, .slice none 0 0]) (t := 41) ?hr ?_; (case hd => rfl); (case hg => rfl); (case hr => first | (go_simp; done) | (go_simp; rfl)); intro gb hg w31 hbox hb; (have HBX2 := Aside0.mk (And.intro hg (And.intro hbox hb))); (have hy0 := (blk_cell hbox 0).trans rfl); (have hy1 := (blk_cell hbox 1).trans rfl); (have hy2 := (blk_cell hbox 2).trans rfl); (have hf0 := blk_frozen hbox 0); (have hf1 := blk_frozen hbox 1); (have hf2 := blk_frozen hbox 2); clear hg hbox hb)
     | ((with_reducible refine gate_store (t := 41) (p := 7) rfl ?_); refine store_event (t := 41) (p := 7) (v := ?vo_) (w1 := (((w31.setCell ⟨gb, 0, none⟩ (.slice B0 y.f0.length d0)).setCell ⟨gb, 1, none⟩ (.slice B1 y.f1.length d1)).setCell ⟨gb, 2, none⟩ (.slice B2 y.f2.length d2))) ?hg ?ho ?hn ?hr ?_; (case ho => rfl); (case hg => rfl); (case hn => rfl); (case hr => first | (go_simp; done) | (go_simp; rfl)); intro w32 hw; (have hb32 : Below wr.heap.size wr w32 := by rw [hw]; exact ((HBX2.out.2.2.setCell (p := ⟨gb, 0, none⟩) (Nat.le_of_eq HBX2.out.1.symm) _).setCell (p := ⟨gb, 1, none⟩) (Nat.le_of_eq HBX2.out.1.symm) _).setCell (p := ⟨gb, 2, none⟩) (Nat.le_of_eq HBX2.out.1.symm) _); (have hq32 : w32.heap[gb]? = some (.cells #[.slice B0 y.f0.length d0, .slice B1 y.f1.length d1, .slice B2 y.f2.length d2] 41 (0, 0)) := by rw [hw]; exact blk_set (blk_set (blk_set HBX2.out.2.1 0 _) 1 _) 2 _); (have HE := Aside0.mk (HR.out.later HBw.out hb32)); clear hy0 hy1 hy2 hf0 hf1 hf2 hw; (have hy0 := (blk_cell hq32 0).trans rfl); (have hy1 := (blk_cell hq32 1).trans rfl); (have hy2 := (blk_cell hq32 2).trans rfl); clear z0 z1 z2 z3 z4 z5 z6; (obtain ⟨z0, z1, z2, z3, z4, z5, z6⟩ := HX.out _ HE.out.1.2); clear hq32 hb32)
     | (go_at_call 31; refine ((HE.out.later HBw.out (below_alloc (Below.refl _ _) _)).lists HBw.out [y.f0, y.f1, y.f2] _ _ (fun w1 hb hk => C_three (lit_later HE.out.lt hk) (Kd.C_below HG.out.1.2 (HE.out.rows hb HWB.out)) HG.out.1.1 (Kd.C_below HG.out.2.1.2 (HE.out.rows hb HWB.out)) HG.out.2.1.1 (Kd.C_below HG.out.2.2.2 (HE.out.rows hb HWB.out)) HG.out.2.2.1) H64Y.out (by simp) (by have e1 := HLQ.out; have e2 := HLA.out; have e3 := HLP.out; rw [List.length_take] at e2; rw [List.length_append]; omega)).mono ?_; rintro e w33 ⟨rfl, hE, _⟩; (have HE3 := Aside0.mk hE); clear hE))
    go_roundw
    case rel => exact ⟨i + 1, by omega, by go_num, ⟨by rw [HSN.out, HSY.out, ← List.append_assoc]; exact HE3.out⟩⟩
    case measure => simp [RowKit.intOf]; omega
   ·have e : Sp.take i = Sp := List.take_of_length_le (by omega)
    have HR7 := HR.out
    rw [e] at HR7
    have HR7 := Aside0.mk HR7
    have HL7 : Aside0 ((Q6 ++ Sp.flatMap spB).length ≤ 2000000) := ⟨by rw [List.length_append]; have e1 := flat_len spB 1560 Sp (fun y hy => listsB_len _ (H64P.out y hy)); have e2 := HLQ.out; have e3 := HLP.out; omega⟩
    clear e HR
    go_wp2_with (go_at_call 28; refine (HR7.out.num HBw.out _ (Nat.le_trans HL7.out (by decide))).mono ?_; rintro e w40 ⟨rfl, hE, _⟩; (have H8 := Aside0.mk hE); clear z0 z1 z2 z3 z4 z5 z6; (obtain ⟨z0, z1, z2, z3, z4, z5, z6⟩ := HX.out _ hE.1.2); clear hE)
    obtain ⟨Q8, hQ8, HQ'⟩ := EncAt.ex H8
    have HLQ8 : Aside0 (Q8.length ≤ 3000000) := ⟨by rw [hQ8, List.length_append]; have e1 := HL7.out; have e2 := encN_len (Cu.length : Int); omega⟩
    have HQ8 := Aside0.mk hQ8
    clear hQ8 HR7 H8 HL7
    go_loopw [71] (fun v71 wr => ∃ (j : Nat), j ≤ Cu.length ∧ v71 = .int .i64 (j : Int) ∧ Aside0 (EncAt B (Q8 ++ (Cu.take j).flatMap cuB) wB wr)) (fun v71 _ => (Cu.length - (RowKit.intOf v71).toNat))
    case atStart => exact ⟨0, Nat.zero_le _, rfl, ⟨by simpa using HQ'.out⟩⟩
    case round =>
     obtain ⟨j, hj, rfl, HR⟩ := hrel
     obtain ⟨z0, z1, z2, z3, z4, z5, z6⟩ := HX.out _ HR.out.1.2
     have HLA := Aside0.mk (flat_len cuB 528 (Cu.take j) (fun y hy => by have h1 := listsB_len [y.f0] (fun x hx => by rw [List.mem_singleton.1 hx]; exact H64C.out y (List.mem_of_mem_take hy)); have h2 := encI_len y.f1; unfold cuB; rw [List.length_append]; simp only [List.length_cons, List.length_nil] at h1; omega))
     by_cases hlt : j < Cu.length
     ·obtain ⟨ad2, B0, d0, rfl, hx0, hx1, l0, g0⟩ := at_T43 HR6.out (j : Int) (by omega) (by omega)
      have hWr := HR.out.rows0 (Below.refl _ _) HWB.out
      replace hx0 := (hWr.cell (World.block_lt_of_cell? w _ hx0)).trans hx0
      replace hx1 := (hWr.cell (World.block_lt_of_cell? w _ hx1)).trans hx1
      clear hWr
      have hj200 : j < 200 := by have := HLC.out; omega
      have hel : rd_T43 Cu (j : Int) = Cu[j] := by simp [rd_T43, List.getD_eq_getElem?_getD, List.getElem?_eq_getElem hlt]
      rw [hel] at hx0 hx1 l0 g0
      rw [show ((j : Int)).toNat = j from rfl] at hx0 hx1
      have H64Y := Aside0.mk (H64C.out Cu[j] (List.getElem_mem hlt))
      have HSN := Aside0.mk (flat_snoc cuB Cu hlt)
      have HG := Aside0.mk (And.intro l0 g0)
      have HSY : Aside0 (cuB Cu[j] = listsB [Cu[j].f0] ++ encI Cu[j].f1) := ⟨rfl⟩
      clear hel l0 g0
      generalize Cu[j] = y at *
      go_wp2_with (first
       | ((with_reducible refine gate_dst (N := 9) rfl ?_); (try (refine gate_guard (by rfl) ?_; dsimp only)); refine box_event ?hg (N := 9) ?hd (cs := #[.slice none 0 0, .int .i64 0]) (t := 43) ?hr ?_; (case hd => rfl); (case hg => rfl); (case hr => first | (go_simp; done) | (go_simp; rfl)); intro gb hg w51 hbox hb; (have HBX2 := Aside0.mk (And.intro hg (And.intro hbox hb))); (have hy0 := (blk_cell hbox 0).trans rfl); (have hy1 := (blk_cell hbox 1).trans rfl); (have hf0 := blk_frozen hbox 0); (have hf1 := blk_frozen hbox 1); clear hg hbox hb)
       | ((with_reducible refine gate_store (t := 43) (p := 9) rfl ?_); refine store_event (t := 43) (p := 9) (v := ?vo_c) (w1 := ((w51.setCell ⟨gb, 0, none⟩ (.slice B0 y.f0.length d0)).setCell ⟨gb, 1, none⟩ (.int .i64 y.f1))) ?hg ?ho ?hn ?hr ?_; (case ho => rfl); (case hg => rfl); (case hn => rfl); (case hr => first | (go_simp; done) | (go_simp; rfl)); intro w52 hw; (have hb52 : Below wr.heap.size wr w52 := by rw [hw]; exact (HBX2.out.2.2.setCell (p := ⟨gb, 0, none⟩) (Nat.le_of_eq HBX2.out.1.symm) _).setCell (p := ⟨gb, 1, none⟩) (Nat.le_of_eq HBX2.out.1.symm) _); (have HQ52 : Aside0 (w52.heap[gb]? = some (.cells #[.slice B0 y.f0.length d0, .int .i64 y.f1] 43 (0, 0))) := ⟨by rw [hw]; exact blk_set (blk_set HBX2.out.2.1 0 _) 1 _⟩); (have HE := Aside0.mk (HR.out.later HBw.out hb52)); clear hy0 hy1 hf0 hf1 hw; (have hy0 := (blk_cell HQ52.out 0).trans rfl); (have hy1 := (blk_cell HQ52.out 1).trans rfl); clear z0 z1 z2 z3 z4 z5 z6 hb52)
       | (go_at_call 29; refine (H54.out.write HBw.out (by have := encI_len y.f1; omega) (by have e1 := HLQ8.out; have e2 := HLA.out; have e3 := HLC.out; have e4 := listsB_len [y.f0] (fun x hx => by rw [List.mem_singleton.1 hx]; exact H64Y.out); simp only [List.length_cons, List.length_nil] at e4; rw [List.length_take] at e2; rw [List.length_append, List.length_append]; omega)).mono ?_; rintro e w55 ⟨rfl, hE, _⟩; (have HE5 := Aside0.mk hE); clear hE)
       | (go_at_call 33; refine (wint_c _ _).mono ?_; rintro e w54 ⟨rfl, hb⟩; (have H54 := Aside0.mk (HE3.out.later HBw.out hb)); clear hb)
       | (go_at_call 31; refine ((HE.out.later HBw.out (below_alloc (Below.refl _ _) _)).lists HBw.out [y.f0] _ _ (fun w1 hb hk => C_one (lit_later HE.out.lt hk) (Kd.C_below HG.out.2 (HE.out.rows hb HWB.out)) HG.out.1) (fun x hx => by rw [List.mem_singleton.1 hx]; exact H64Y.out) (by simp) (by have e1 := HLQ8.out; have e2 := HLA.out; have e3 := HLC.out; rw [List.length_take] at e2; rw [List.length_append]; omega)).mono ?_; rintro e w53 ⟨rfl, hE, hk⟩; (have HE3 := Aside0.mk hE); (have hne : gb ≠ B := by have e1 := HBX2.out.1; have e2 := HR.out.lt; omega); (have hq53 := hk gb #[.slice B0 y.f0.length d0, .int .i64 y.f1] 43 (0, 0) hne (by decide) (blk_alloc HQ52.out _)); clear hne; clear hy0 hy1; (have hy0 := (blk_cell hq53 0).trans rfl); (have hy1 := (blk_cell hq53 1).trans rfl); clear hE hk hq53))
      go_roundw
      case rel => exact ⟨j + 1, by omega, by go_num, ⟨by rw [HSN.out, HSY.out]; have h := HE5.out; simpa [List.append_assoc] using h⟩⟩
      case measure => simp [RowKit.intOf]; omega
     ·have e : Cu.take j = Cu := List.take_of_length_le (by omega)
      have HR9 := HR.out
      rw [e] at HR9
      have HR9 := Aside0.mk HR9
      clear e HR
      go_wp2_with (go_at_call 34; refine (Tryd.Builder_String_any B B (strOfNums (Q8 ++ Cu.flatMap cuB)).data.toList _ HR9.out.1.1 (Nat.le_trans HBw.out HR9.out.1.2.size)).mono ?_; rintro e w60 ⟨rfl, hb⟩; (have H60 := Aside0.mk (HR9.out.rows0 hb HWB.out)); clear hb)
      go_ret
      have hfin : ∀ n, Q6 = (((((([] ++ encN a0) ++ encN (if n = true then 1 else 0)) ++ listsB [S, U]) ++ encN (Se.length : Int)) ++ listsB Se) ++ encN (Sp.length : Int)) → Q8 ++ Cu.flatMap cuB = encAns a0 n S U Se Sp Cu := fun n hn => by
       rw [HQ8.out, hn]
       unfold encAns
       simp only [List.nil_append, List.append_assoc]
       rfl
      first | rw [← hfin false HQ6.out] | rw [← hfin true HQ6.out]
      exact ⟨rfl, H60.out⟩
end Go.Proofs.YtlekdhejgdfnpaaDoor.P
/- answer.Encode, walked: what may not be. -/
namespace Go.Proofs.YtlekdhejgdfnpaaDoor.P
open Go.RowKit Go.Lib Go.Proofs.YtlekdhejgdfnpaaDoorW.PrintWords Go.Proofs.YtlekdhejgdfnpaaDoorW.PrintLast Go.Proofs.YtlekdhejgdfnpaaDoorW.PrintMore
open Wr

set_option maxHeartbeats 4000000 in
set_option maxRecDepth 100000 in
theorem encode_no (k : Nat) (c : Int) (hc0 : c ≠ 0) (a0 : Int) (no : Bool) (A2 : Option Addr) (c2 : Nat) (S : List Int) (A3 : Option Addr) (c3 : Nat) (U : List Int) (A4 : Option Addr) (c4 : Nat) (Se : List (List Int)) (A5 : Option Addr) (c5 : Nat) (Sp : List Spl) (A6 : Option Addr) (c6 : Nat) (Cu : List Cut) (w : World)
 (hr2 : Kd.C (Kd.int .i64) w A2 S.length S) (hc2 : S.length ≤ c2) (hr3 : Kd.C (Kd.int .i64) w A3 U.length U) (hc3 : U.length ≤ c3) (hr4 : Kd.C (Kd.slice 3 (Kd.int .i64)) w A4 Se.length Se) (hc4 : Se.length ≤ c4) (hr5 : Kd.C k41 w A5 Sp.length Sp) (hc5 : Sp.length ≤ c5) (hr6 : Kd.C k43 w A6 Cu.length Cu) (hc6 : Cu.length ≤ c6)
 (hck : answer_Check.f k a0 no S U Se Sp Cu = some c) :
 Calls Tryd.prog 13 #[.agg #[.int .i64 a0, .bool no, .slice A2 S.length c2, .slice A3 U.length c3, .slice A4 Se.length c4, .slice A5 Sp.length c5, .slice A6 Cu.length c6]] w fun e w' => e = .returned (.string (strOfNums [])) ∧ Below w.heap.size w w' := by
 obtain ⟨W1, hW1⟩ : ∃ W1, W1 = w.alloc (Obj.cells #[.int .i64 a0, .bool no, .slice A2 S.length c2, .slice A3 U.length c3, .slice A4 Se.length c4, .slice A5 Sp.length c5, .slice A6 Cu.length c6] 27) := ⟨_, rfl⟩
 have hB1 : Below w.heap.size w W1 := by subst hW1; exact (Below.refl _ _).alloc (Nat.le_refl _) _
 have HCK := Aside0.mk (fun (W : World) (hW : Below w.heap.size w W) => answer_Check.calls k a0 no (fun _ => True) A2 c2 S (fun _ => True) A3 c3 U (fun _ => True) A4 c4 Se (fun _ => True) A5 c5 Sp (fun _ => True) A6 c6 Cu c W (V_of_C (Kd.heap_int _) (Kd.C_below hr2 hW) hc2) (V_of_C (Kd.heap_int _) (Kd.C_below hr3 hW) hc3) (V_of_C (Kd.heap_slice _ (Kd.heap_int _)) (Kd.C_below hr4 hW) hc4) (V_of_C (Kd.heap_iso _ (Kd.heap_pair (Kd.heap_slice _ (Kd.heap_int _)) (Kd.heap_pair (Kd.heap_slice _ (Kd.heap_int _)) (Kd.heap_slice _ (Kd.heap_int _))))) (Kd.C_below hr5 hW) hc5) (V_of_C (Kd.heap_iso _ (Kd.heap_pair (Kd.heap_slice _ (Kd.heap_int _)) (Kd.heap_int _))) (Kd.C_below hr6 hW) hc6) hck)
 have HBX := Aside0.mk hB1
 have HW1 := Aside0.mk hW1
 have hcb : (c != 0) = true := bne_iff_ne.mpr hc0
 have hcb2 : (c == 0) = false := beq_eq_false_iff_ne.mpr hc0
 clear hr2 hc2 hr3 hc3 hr4 hc4 hr5 hc5 hr6 hc6 hck hB1 hW1 hc0
 go_enter Tryd.func13, Tryd.ntmps13
 go_wp2_with (go_at_call 11; rw [← HW1.out]; refine (HCK.out _ HBX.out).mono ?_; rintro e w2 ⟨rfl, hb⟩; (have HB2 := Aside0.mk (HBX.out.trans (hb.mono HBX.out.size))); clear hb)
 go_ret
 exact ⟨rfl, HB2.out⟩
end Go.Proofs.YtlekdhejgdfnpaaDoor.P
/- answer.Check's value. -/
namespace Go.Proofs.YtlekdhejgdfnpaaDoor.P
open Go.RowKit Go.Proofs.YtlekdhejgdfnpaaDoorW.PrintWords Go.Proofs.YtlekdhejgdfnpaaDoorW.PrintLast Go.Proofs.YtlekdhejgdfnpaaDoorW.PrintMore

theorem rd_41 {l : List Spl} {i : Nat} (h : i < l.length) : rd_T41 l (i : Int) = l[i] := by simp [rd_T41, List.getD_eq_getElem?_getD, List.getElem?_eq_getElem h]
theorem rd_43 {l : List Cut} {i : Nat} (h : i < l.length) : rd_T43 l (i : Int) = l[i] := by simp [rd_T43, List.getD_eq_getElem?_getD, List.getElem?_eq_getElem h]
def spL (y : Spl) : List (List Int) := [y.f0, y.f1, y.f2]
def cuL (c : Cut) : List (List Int) := [c.f0, [c.f1]]
theorem flat_len' {α β : Type} (f : α → List β) (m : Nat) : ∀ (l : List α), (∀ x ∈ l, (f x).length ≤ m) → (l.flatMap f).length ≤ m * l.length := by
 intro l
 induction l with
 | nil => intro _; simp
 | cons x r ih =>
  intro h
  have h1 := h x (List.mem_cons_self ..)
  have h2 := ih (fun y hy => h y (List.mem_cons_of_mem _ hy))
  rw [List.flatMap_cons, List.length_append, List.length_cons, Nat.mul_add]
  omega
theorem chk_l1 (a0 : Int) (no : Bool) (S U : List Int) (Se : List (List Int)) (Sp : List Spl) (Cu : List Cut) (hc : Cu.length ≤ 1000000) (L : List (List Int)) (hL : L.length ≤ 10000000) : ∀ (d i : Nat), Cu.length - i = d → i ≤ Cu.length →
 Ev (fun k => answer_Check.l1 k (L ++ (Cu.take i).flatMap cuL) Cu (Cu.length : Int) (i : Int) a0 no S U Se Sp Cu) (if (decide (0 ≤ a0) && decide (a0 < 6) && decide (Se.length ≤ 200) && decide (Sp.length ≤ 65) && decide (Cu.length ≤ 200) && !((L ++ Cu.flatMap cuL).any badA)) = true then 0 else 230) := by
 intro d
 induction d with
 | zero =>
  intro i h1 h2
  have e : Cu.take i = Cu := List.take_of_length_le (by omega)
  rw [e]
  refine Ev.step (fun k => by rw [answer_Check.l1]) ?_
  refine Ev.ifn (by omega) ?_
  by_cases c1 : a0 < 0
  ·refine Ev.ifp c1 (Ev.val ?_)
   rw [decide_eq_false (show ¬ 0 ≤ a0 by omega)]; rfl
  refine Ev.ifn c1 ?_
  rw [decide_eq_true (show 0 ≤ a0 by omega), Bool.true_and]
  by_cases c2 : a0 ≥ 6
  ·refine Ev.ifp c2 (Ev.val ?_)
   rw [decide_eq_false (show ¬ a0 < 6 by omega)]; rfl
  refine Ev.ifn c2 ?_
  rw [decide_eq_true (show a0 < 6 by omega), Bool.true_and]
  by_cases c3 : (Se.length : Int) > 200
  ·refine Ev.ifp c3 (Ev.val ?_)
   rw [decide_eq_false (show ¬ Se.length ≤ 200 by omega)]; rfl
  refine Ev.ifn c3 ?_
  rw [decide_eq_true (show Se.length ≤ 200 by omega), Bool.true_and]
  by_cases c4 : (Sp.length : Int) > 65
  ·refine Ev.ifp c4 (Ev.val ?_)
   rw [decide_eq_false (show ¬ Sp.length ≤ 65 by omega)]; rfl
  refine Ev.ifn c4 ?_
  rw [decide_eq_true (show Sp.length ≤ 65 by omega), Bool.true_and]
  by_cases c5 : (Cu.length : Int) > 200
  ·refine Ev.ifp c5 (Ev.val ?_)
   rw [decide_eq_false (show ¬ Cu.length ≤ 200 by omega)]; rfl
  refine Ev.ifn c5 ?_
  rw [decide_eq_true (show Cu.length ≤ 200 by omega), Bool.true_and]
  refine Ev.bnd ?_
  cases (L ++ Cu.flatMap cuL).any badA with
  | true => exact Ev.ifp rfl (Ev.val rfl)
  | false => exact Ev.ifn (by decide) (Ev.val rfl)
 | succ d ih =>
  intro i h1 h2
  have hi : i < Cu.length := by omega
  have hl : ((Cu.take i).flatMap cuL).length ≤ 2 * i := by
   have := flat_len' cuL 2 (Cu.take i) (fun x _ => Nat.le_refl _)
   rw [List.length_take] at this; omega
  refine Ev.step (fun k => by rw [answer_Check.l1]) ?_
  refine Ev.ifp (by omega) ?_
  refine Ev.ifp (by omega) ?_
  refine Ev.ifp (by omega) ?_
  rw [rd_43 hi]
  refine Ev.bnd ?_
  refine Ev.ifp (by rw [List.length_append]; simp only [List.length_cons, List.length_nil]; omega) ?_
  have hw : wrap64 ((i : Int) + 1) = ((i + 1 : Nat) : Int) := by unfold wrap64; omega
  have e : L ++ (Cu.take i).flatMap cuL ++ [Cu[i].f0, [Cu[i].f1]] = L ++ (Cu.take (i + 1)).flatMap cuL := by
   rw [List.take_succ_eq_append_getElem hi, List.flatMap_append, List.append_assoc]; simp [cuL]
  rw [hw, e]
  exact ih (i + 1) (by omega) (by omega)
theorem chk_l0 (a0 : Int) (no : Bool) (S U : List Int) (Se : List (List Int)) (Sp : List Spl) (Cu : List Cut) (hs : Sp.length ≤ 1000000) (hc : Cu.length ≤ 1000000) (L : List (List Int)) (hL : L.length ≤ 5000000) : ∀ (d i : Nat), Sp.length - i = d → i ≤ Sp.length →
 Ev (fun k => answer_Check.l0 k (L ++ (Sp.take i).flatMap spL) Sp (Sp.length : Int) (i : Int) a0 no S U Se Sp Cu) (if (decide (0 ≤ a0) && decide (a0 < 6) && decide (Se.length ≤ 200) && decide (Sp.length ≤ 65) && decide (Cu.length ≤ 200) && !((L ++ Sp.flatMap spL ++ Cu.flatMap cuL).any badA)) = true then 0 else 230) := by
 intro d
 induction d with
 | zero =>
  intro i h1 h2
  have e : Sp.take i = Sp := List.take_of_length_le (by omega)
  have hl := flat_len' spL 3 Sp (fun x _ => Nat.le_refl _)
  rw [e]
  refine Ev.step (fun k => by rw [answer_Check.l0]) ?_
  refine Ev.ifn (by omega) ?_
  have := chk_l1 a0 no S U Se Sp Cu hc (L ++ Sp.flatMap spL) (by rw [List.length_append]; omega) Cu.length 0 rfl (Nat.zero_le _)
  simpa using this
 | succ d ih =>
  intro i h1 h2
  have hi : i < Sp.length := by omega
  have hl : ((Sp.take i).flatMap spL).length ≤ 3 * i := by
   have := flat_len' spL 3 (Sp.take i) (fun x _ => Nat.le_refl _)
   rw [List.length_take] at this; omega
  refine Ev.step (fun k => by rw [answer_Check.l0]) ?_
  refine Ev.ifp (by omega) ?_
  refine Ev.ifp (by omega) ?_
  refine Ev.ifp (by omega) ?_
  rw [rd_41 hi]
  refine Ev.bnd ?_
  refine Ev.ifp (by rw [List.length_append]; simp only [List.length_cons, List.length_nil]; omega) ?_
  have hw : wrap64 ((i : Int) + 1) = ((i + 1 : Nat) : Int) := by unfold wrap64; omega
  have e : L ++ (Sp.take i).flatMap spL ++ [Sp[i].f0, Sp[i].f1, Sp[i].f2] = L ++ (Sp.take (i + 1)).flatMap spL := by
   rw [List.take_succ_eq_append_getElem hi, List.flatMap_append, List.append_assoc]; simp [spL]
  rw [hw, e]
  exact ih (i + 1) (by omega) (by omega)
theorem check_ev (a0 : Int) (no : Bool) (S U : List Int) (Se : List (List Int)) (Sp : List Spl) (Cu : List Cut) (he : Se.length ≤ 1000000) (hs : Sp.length ≤ 1000000) (hc : Cu.length ≤ 1000000) :
 Ev (fun k => answer_Check.f k a0 no S U Se Sp Cu) (if okAns a0 S U Se Sp Cu = true then 0 else 230) := by
 unfold answer_Check.f
 refine Ev.bnd ?_
 refine Ev.ifp (by simp only [List.length_cons, List.length_nil]; omega) ?_
 have := chk_l0 a0 no S U Se Sp Cu hs hc ([S, U] ++ Se) (by rw [List.length_append]; simp only [List.length_cons, List.length_nil]; omega) Sp.length 0 rfl (Nat.zero_le _)
 unfold okAns
 simpa [spL, cuL] using this
end Go.Proofs.YtlekdhejgdfnpaaDoor.P
/- answer.Encode's contract. -/
namespace Go.Proofs.YtlekdhejgdfnpaaDoor.P
open Go.RowKit Go.Proofs.YtlekdhejgdfnpaaDoorW.PrintWords Go.Proofs.YtlekdhejgdfnpaaDoorW.PrintLast Go.Proofs.YtlekdhejgdfnpaaDoorW.PrintMore
open Wr

theorem okAns_len {a0 : Int} {S U : List Int} {Se : List (List Int)} {Sp : List Spl} {Cu : List Cut} (h : okAns a0 S U Se Sp Cu = true) :
 (∀ x ∈ [S, U], x.length ≤ 64) ∧ (∀ x ∈ Se, x.length ≤ 64) ∧ Se.length ≤ 200 ∧ (∀ y ∈ Sp, ∀ x ∈ [y.f0, y.f1, y.f2], x.length ≤ 64) ∧ Sp.length ≤ 65 ∧ (∀ c ∈ Cu, c.f0.length ≤ 64) ∧ Cu.length ≤ 200 := by
 unfold okAns at h
 simp only [Bool.and_eq_true, decide_eq_true_eq, Bool.not_eq_true', List.any_eq_false] at h
 obtain ⟨⟨⟨⟨⟨_, _⟩, h1⟩, h2⟩, h3⟩, h4⟩ := h
 have key : ∀ x, x ∈ ([S, U] ++ Se ++ Sp.flatMap (fun y => [y.f0, y.f1, y.f2]) ++ Cu.flatMap (fun c => [c.f0, [c.f1]])) → x.length ≤ 64 := fun x hx => few_len (by have := h4 x hx; simpa using this)
 refine ⟨fun x hx => key x ?_, fun x hx => key x ?_, h1, fun y hy x hx => key x ?_, h2, fun c hc => key _ ?_, h3⟩
 ·exact List.mem_append_left _ (List.mem_append_left _ (List.mem_append_left _ hx))
 ·exact List.mem_append_left _ (List.mem_append_left _ (List.mem_append_right _ hx))
 ·exact List.mem_append_left _ (List.mem_append_right _ (List.mem_flatMap.2 ⟨y, hy, hx⟩))
 ·exact List.mem_append_right _ (List.mem_flatMap.2 ⟨c, hc, List.mem_cons_self ..⟩)
def answer_Encode.f (a0 : Int) (no : Bool) (S U : List Int) (Se : List (List Int)) (Sp : List Spl) (Cu : List Cut) : Option ByteArray :=
 if Se.length ≤ 1000000 ∧ Sp.length ≤ 1000000 ∧ Cu.length ≤ 1000000 then some (strOfNums (if okAns a0 S U Se Sp Cu = true then encAns a0 no S U Se Sp Cu else [])) else none
theorem answer_Encode.calls (a0_0 : Int) (a0_1 : Bool) (A0_2 : Option Addr) (c0_2 : Nat) (l0_2 : List Int) (A0_3 : Option Addr) (c0_3 : Nat) (l0_3 : List Int) (A0_4 : Option Addr) (c0_4 : Nat) (l0_4 : List (List Int)) (A0_5 : Option Addr) (c0_5 : Nat) (l0_5 : List Spl) (A0_6 : Option Addr) (c0_6 : Nat) (l0_6 : List Cut) (r : ByteArray) (w : World)
 (hr0_2 : Kd.C (Kd.int .i64) w A0_2 l0_2.length l0_2) (hc0_2 : l0_2.length ≤ c0_2) (hr0_3 : Kd.C (Kd.int .i64) w A0_3 l0_3.length l0_3) (hc0_3 : l0_3.length ≤ c0_3) (hr0_4 : Kd.C (Kd.slice 3 (Kd.int .i64)) w A0_4 l0_4.length l0_4) (hc0_4 : l0_4.length ≤ c0_4) (hr0_5 : Kd.C k41 w A0_5 l0_5.length l0_5) (hc0_5 : l0_5.length ≤ c0_5) (hr0_6 : Kd.C k43 w A0_6 l0_6.length l0_6) (hc0_6 : l0_6.length ≤ c0_6)
 (h : answer_Encode.f a0_0 a0_1 l0_2 l0_3 l0_4 l0_5 l0_6 = some r) :
 Calls Tryd.prog 13 #[.agg #[.int .i64 a0_0, .bool a0_1, .slice A0_2 l0_2.length c0_2, .slice A0_3 l0_3.length c0_3, .slice A0_4 l0_4.length c0_4, .slice A0_5 l0_5.length c0_5, .slice A0_6 l0_6.length c0_6]] w fun e w' => e = .returned (.string r) ∧ Below w.heap.size w w' := by
 unfold answer_Encode.f at h
 by_cases hl : l0_4.length ≤ 1000000 ∧ l0_5.length ≤ 1000000 ∧ l0_6.length ≤ 1000000
 ·rw [if_pos hl] at h
  obtain rfl := Option.some.inj h
  obtain ⟨k, hk⟩ := (check_ev a0_0 a0_1 l0_2 l0_3 l0_4 l0_5 l0_6 hl.1 hl.2.1 hl.2.2).rounds
  cases ho : okAns a0_0 l0_2 l0_3 l0_4 l0_5 l0_6 with
  | true =>
   rw [ho, if_pos rfl] at hk
   rw [if_pos rfl]
   obtain ⟨h1, h2, h3, h4, h5, h6, h7⟩ := okAns_len ho
   exact encode_ok k a0_0 a0_1 A0_2 c0_2 l0_2 A0_3 c0_3 l0_3 A0_4 c0_4 l0_4 A0_5 c0_5 l0_5 A0_6 c0_6 l0_6 w hr0_2 hc0_2 hr0_3 hc0_3 hr0_4 hc0_4 hr0_5 hc0_5 hr0_6 hc0_6 hk h1 h2 h3 h4 h5 h6 h7
  | false =>
   rw [ho, if_neg (by decide)] at hk
   rw [if_neg (by decide)]
   exact encode_no k 230 (by decide) a0_0 a0_1 A0_2 c0_2 l0_2 A0_3 c0_3 l0_3 A0_4 c0_4 l0_4 A0_5 c0_5 l0_5 A0_6 c0_6 l0_6 w hr0_2 hc0_2 hr0_3 hc0_3 hr0_4 hc0_4 hr0_5 hc0_5 hr0_6 hc0_6 hk
 ·rw [if_neg hl] at h; cases h
end Go.Proofs.YtlekdhejgdfnpaaDoor.P
/- answer.Decode: what it tells, in closed words; what its walk stands on. -/
namespace Go.Proofs.YtlekdhejgdfnpaaDoor.P
open Go.RowKit Go.Proofs.YtlekdhejgdfnpaaDoorW.PrintWords Go.Proofs.YtlekdhejgdfnpaaDoorW.PrintLast Go.Proofs.YtlekdhejgdfnpaaDoorW.PrintMore
open Wr

def zeroV : AnsV := ⟨0, 0, [], [], [], [], []⟩
def okV (x : AnsV) : Bool := okAns x.kd x.S x.U x.Se x.Sp x.Cu
def decV (S : List Int) : AnsV × Int × Int :=
 match (ansF S (0, none)).2 with
 | (_, some pc) => (zeroV, pc.2, (pc.1 : Int))
 | (p, none) => if p < S.length then (zeroV, 13, (p : Int)) else if (ansF S (0, none)).1.no > 1 ∨ okV (ansF S (0, none)).1 = false then (zeroV, 230, 0) else ((ansF S (0, none)).1, 0, (p : Int))

theorem RowsA.keep {W W1 : World} {n0 : Nat} {vS vU vSe vSp vCu : Value} {x : AnsV} {K : Nat → Prop} (h : RowsA W n0 vS vU vSe vSp vCu x) (hk : Kept W W1 K)
 (ht : ∀ k c t, K k → W.heap[k]? = some (.cells c t (0, 0)) → t = 27 ∨ t = 48 ∨ t = 79) : RowsA W1 n0 vS vU vSe vSp vCu x := by
 obtain ⟨n1, n2, a1, a2, a3, h1, h2, h3, h4, h5⟩ := h
 have hg : ∀ (L : List Nat), (∀ q ∈ L, q ≠ 27 ∧ q ≠ 48 ∧ q ≠ 79) → ∀ k c t, K k → W.heap[k]? = some (.cells c t (0, 0)) → ∀ q ∈ L, q ≠ t := fun L hL k c t e hc q hq => by
  have := hL q hq
  rcases ht k c t e hc with e | e | e <;> rw [e]
  ·exact this.1
  ·exact this.2.1
  ·exact this.2.2
 exact ⟨n1, n2, a1, a2, Nat.le_trans a3 hk.1, R_K h1 hk (hg _ (fun q hq => by rw [int_E hq]; decide)), R_K h2 hk (hg _ (fun q hq => by rw [int_E hq]; decide)), S_K h3 hk (hg _ (by decide)), S_K h4 hk (hg _ (by decide)), S_K h5 hk (hg _ (by decide))⟩
theorem RowsA.below {W W1 : World} {n0 : Nat} {vS vU vSe vSp vCu : Value} {x : AnsV} (h : RowsA W n0 vS vU vSe vSp vCu x) (hb : Below W.heap.size W W1) : RowsA W1 n0 vS vU vSe vSp vCu x :=
 h.keep (K := fun _ => False) (Kept.of_below hb _) (fun _ _ _ hk => hk.elim)
theorem RowsA.keepX {W W1 : World} {n0 X : Nat} {vS vU vSe vSp vCu : Value} {x : AnsV} {c : Array Value} (h : RowsA W n0 vS vU vSe vSp vCu x) (hbx : W.heap[X]? = some (.cells c 27 (0, 0))) (hk : Kept W W1 (fun k => k = X)) : RowsA W1 n0 vS vU vSe vSp vCu x :=
 h.keep hk (fun k c' t e hc => by subst e; exact .inl (blk_t hc hbx))
theorem RowsA.lower {W : World} {n0 m0 : Nat} {vS vU vSe vSp vCu : Value} {x : AnsV} (h : RowsA W n0 vS vU vSe vSp vCu x) (hm : m0 ≤ n0) : RowsA W m0 vS vU vSe vSp vCu x := by
 obtain ⟨n1, n2, a1, a2, a3, h1, h2, h3, h4, h5⟩ := h
 exact ⟨n1, n2, Nat.le_trans hm a1, a2, a3, Kd.R_lower h1 hm, h2, h3, h4, h5⟩
theorem RowsA.nil (W : World) (n0 : Nat) (h : n0 ≤ W.heap.size) : RowsA W n0 (.slice none 0 0) (.slice none 0 0) (.slice none 0 0) (.slice none 0 0) (.slice none 0 0) zeroV :=
 ⟨n0, n0, Nat.le_refl _, Nat.le_refl _, h, Kd.R_nil _ _ _ _ _, Kd.R_nil _ _ _ _ _, Kd.S_nil _ _ _ _ _, Kd.S_nil _ _ _ _ _, Kd.S_nil _ _ _ _ _⟩
theorem RowsA.slices {W : World} {n0 : Nat} {vS vU vSe vSp vCu : Value} {x : AnsV} (h : RowsA W n0 vS vU vSe vSp vCu x) : ∃ A2 c2 A3 c3 A4 c4 A5 c5 A6 c6, vS = .slice A2 x.S.length c2 ∧ vU = .slice A3 x.U.length c3 ∧ vSe = .slice A4 x.Se.length c4 ∧ vSp = .slice A5 x.Sp.length c5 ∧ vCu = .slice A6 x.Cu.length c6 := by
 obtain ⟨n1, n2, a1, a2, a3, h1, h2, h3, h4, h5⟩ := h
 obtain ⟨A2, c2, rfl⟩ := Kd.R_slice h1
 obtain ⟨A3, c3, rfl⟩ := Kd.R_slice h2
 obtain ⟨A4, c4, rfl⟩ := Kd.S_slice h3
 obtain ⟨A5, c5, rfl⟩ := Kd.S_slice h4
 obtain ⟨A6, c6, rfl⟩ := Kd.S_slice h5
 exact ⟨A2, c2, A3, c3, A4, c4, A5, c5, A6, c6, rfl, rfl, rfl, rfl, rfl⟩
/-! ### lengths -/
theorem manyF_len {α : Type} (one : St → α × St) : ∀ (d : Nat) (st : St) (out : List α), (manyF one d st out).1.length = out.length + d := by
 intro d
 induction d with
 | zero => intro st out; rfl
 | succ d ih => intro st out; rw [manyF_succ, ih, List.length_append]; simp; omega
theorem manyF_ok {α : Type} {s : ByteArray} (one : St → α × St) (h1 : ∀ st, Ok s st → Ok s (one st).2) : ∀ (d : Nat) (st : St) (out : List α), Ok s st → Ok s (manyF one d st out).2 := by
 intro d
 induction d with
 | zero => intro st out h; exact h
 | succ d ih => intro st out h; rw [manyF_succ]; exact ih _ _ (h1 st h)
theorem lstF_ok {s : ByteArray} {st : St} (ho : Ok s st) : Ok s (lstF (bytesOf s) st).2 := ints_ok 64 ho
theorem splF_ok {s : ByteArray} {st : St} (ho : Ok s st) : Ok s (splF (bytesOf s) st).2 := lstF_ok (lstF_ok (lstF_ok ho))
theorem cutF_ok2 {s : ByteArray} {st : St} (ho : Ok s st) : Ok s (cutF (bytesOf s) st).2 := refnum_ok (lstF_ok ho)
theorem ansF_len (s : ByteArray) (st : St) (ho : Ok s st) : (ansF (bytesOf s) st).1.Se.length ≤ 200 ∧ (ansF (bytesOf s) st).1.Sp.length ≤ 65 ∧ (ansF (bytesOf s) st).1.Cu.length ≤ 200 ∧ Ok s (ansF (bytesOf s) st).2 := by
 unfold ansF
 dsimp only
 have o1 := lstF_ok (lstF_ok (refnum_ok (refnum_ok ho)))
 generalize (lstF (bytesOf s) (lstF (bytesOf s) (numF (bytesOf s) (numF (bytesOf s) st).2).2).2).2 = a at *
 have k1 := countF_le 200 (by decide) o1
 have o2 := manyF_ok (lstF (bytesOf s)) (fun _ h => lstF_ok h) (countF (bytesOf s) 200 a).1.toNat (countF (bytesOf s) 200 a).2 [] (countF_ok 200 o1)
 have l1 := manyF_len (lstF (bytesOf s)) (countF (bytesOf s) 200 a).1.toNat (countF (bytesOf s) 200 a).2 []
 generalize manyF (lstF (bytesOf s)) (countF (bytesOf s) 200 a).1.toNat (countF (bytesOf s) 200 a).2 [] = b at *
 have k2 := countF_le 65 (by decide) o2
 have o3 := manyF_ok (splF (bytesOf s)) (fun _ h => splF_ok h) (countF (bytesOf s) 65 b.2).1.toNat (countF (bytesOf s) 65 b.2).2 [] (countF_ok 65 o2)
 have l2 := manyF_len (splF (bytesOf s)) (countF (bytesOf s) 65 b.2).1.toNat (countF (bytesOf s) 65 b.2).2 []
 generalize manyF (splF (bytesOf s)) (countF (bytesOf s) 65 b.2).1.toNat (countF (bytesOf s) 65 b.2).2 [] = c at *
 have k3 := countF_le 200 (by decide) o3
 have o4 := manyF_ok (cutF (bytesOf s)) (fun _ h => cutF_ok2 h) (countF (bytesOf s) 200 c.2).1.toNat (countF (bytesOf s) 200 c.2).2 [] (countF_ok 200 o3)
 have l3 := manyF_len (cutF (bytesOf s)) (countF (bytesOf s) 200 c.2).1.toNat (countF (bytesOf s) 200 c.2).2 []
 refine ⟨?_, ?_, ?_, o4⟩
 ·simp only [List.length_nil] at l1; omega
 ·simp only [List.length_nil] at l2; omega
 ·simp only [List.length_nil] at l3; omega
/-! ### Check, of an answer that has been read -/
theorem check_rows {W : World} {n0 : Nat} {A2 A3 A4 A5 A6 : Option Addr} {c2 c3 c4 c5 c6 : Nat} {x : AnsV} (no : Bool) (h : RowsA W n0 (.slice A2 x.S.length c2) (.slice A3 x.U.length c3) (.slice A4 x.Se.length c4) (.slice A5 x.Sp.length c5) (.slice A6 x.Cu.length c6) x)
 (he : x.Se.length ≤ 1000000) (hs : x.Sp.length ≤ 1000000) (hc : x.Cu.length ≤ 1000000) :
 Calls Tryd.prog 11 #[.agg #[.int .i64 x.kd, .bool no, .slice A2 x.S.length c2, .slice A3 x.U.length c3, .slice A4 x.Se.length c4, .slice A5 x.Sp.length c5, .slice A6 x.Cu.length c6]] W fun e w' => e = .returned (.int .i64 (if okV x = true then 0 else 230)) ∧ Below W.heap.size W w' := by
 obtain ⟨n1, n2, a1, a2, a3, h1, h2, h3, h4, h5⟩ := h
 obtain ⟨k, hk⟩ := (check_ev x.kd no x.S x.U x.Se x.Sp x.Cu he hs hc).rounds
 exact answer_Check.calls k x.kd no (fun _ => True) A2 c2 x.S (fun _ => True) A3 c3 x.U (fun _ => True) A4 c4 x.Se (fun _ => True) A5 c5 x.Sp (fun _ => True) A6 c6 x.Cu _ W (Kd.R_V (Kd.R_mono h1 (fun _ _ => trivial))) (Kd.R_V (Kd.R_mono h2 (fun _ _ => trivial))) (Kd.S_V h3) (Kd.S_V h4) (Kd.S_V h5) hk
end Go.Proofs.YtlekdhejgdfnpaaDoor.P
/- answer.Decode, walked. (Written by wip/tool/ansp.py.) -/
namespace Go.Proofs.YtlekdhejgdfnpaaDoor.P
open Go.RowKit Go.Proofs.YtlekdhejgdfnpaaDoorW.PrintWords Go.Proofs.YtlekdhejgdfnpaaDoorW.PrintLast Go.Proofs.YtlekdhejgdfnpaaDoorW.PrintMore
open Wr

theorem store_step {P : Program} {ops : Array Oper} {o : Oper} {a : Act} {W w1 : World} {K : Act → World → Prop} {Q : Exit → Act → World → Prop} (hw : Region.wanted o (yielded ops a.tmps) = true) (hN : o.dst = none)
 (hrun : (execOp a.eval o).run P W = .ok .skip w1) (h : K a w1) : if Region.wanted o (yielded ops a.tmps) = true then Oper.wp P o a W K Q else K (a.put o.dst undef) W := by
 rw [if_pos hw]
 unfold Oper.wp
 rw [hrun]
 show K (a.put o.dst undef) w1
 rw [hN]
 exact h
theorem decV_err {S : List Int} {x : AnsV} {p : Nat} {pc : Nat × Int} (h : ansF S (0, none) = (x, (p, some pc))) : decV S = (zeroV, pc.2, (pc.1 : Int)) := by unfold decV; rw [h]
theorem decV_ok {S : List Int} {x : AnsV} {p : Nat} (h : ansF S (0, none) = (x, (p, none))) : decV S = if p < S.length then (zeroV, 13, (p : Int)) else if x.no > 1 ∨ okV x = false then (zeroV, 230, 0) else (x, 0, (p : Int)) := by unfold decV; rw [h]
set_option maxHeartbeats 16000000 in
set_option maxRecDepth 100000 in
theorem decode_c {w : World} (s : ByteArray) (hE : EV w) (hs : s.size ≤ 1000000000) :
 Calls Tryd.prog 9 #[.string s] w fun e w' => ∃ vS vU vSe vSp vCu, e = .returned (.tuple #[.agg #[.int .i64 (decV (bytesOf s)).1.kd, .bool ((decV (bytesOf s)).1.no == 1), vS, vU, vSe, vSp, vCu], .int .i64 (decV (bytesOf s)).2.1, .int .i64 (decV (bytesOf s)).2.2]) ∧
  RowsA w' w.heap.size vS vU vSe vSp vCu (decV (bytesOf s)).1 ∧ Below w.heap.size w w' := by
 have HP := Aside0.mk (And.intro hE hE.pos)
 have hlen := ansF_len s (0, none) ⟨Nat.zero_le _, fun pc h => by cases h⟩
 obtain ⟨x, stA, hx⟩ : ∃ x stA, ansF (bytesOf s) (0, none) = (x, stA) := ⟨_, _, rfl⟩
 rw [hx] at hlen
 have HLN : Aside0 (x.Se.length ≤ 1000000 ∧ x.Sp.length ≤ 1000000 ∧ x.Cu.length ≤ 1000000) := ⟨Nat.le_trans hlen.1 (by decide), Nat.le_trans hlen.2.1 (by decide), Nat.le_trans hlen.2.2.1 (by decide)⟩
 have HANS : Aside0 (∀ (W : World) (G B : Nat), AR1 W w.heap.size G B s (0, none) → Below w.heap.size w W → Calls Tryd.prog 17 #[.pointer (some ⟨G, 0, none⟩)] W fun e w' => ∃ vS vU vSe vSp vCu, e = .returned (.tuple #[.agg #[.int .i64 x.kd, .bool (x.no == 1), vS, vU, vSe, vSp, vCu], .int .i64 x.no]) ∧
  RowsA w' W.heap.size vS vU vSe vSp vCu x ∧ AR w' w.heap.size G B s stA ∧ Below w.heap.size W w' ∧ Kept W w' (fun k => k = G ∨ k = B)) :=
  ⟨fun W G B h hb => by
   have h1 := answer_c hE.pos (hE.below hb hE.pos) h hs hb.size
   rw [hx] at h1; exact h1⟩
 have HX0 := Aside0.mk hx
 have HS := Aside0.mk hs
 obtain ⟨bno, hbno⟩ : ∃ b, b = (x.no == 1) := ⟨_, rfl⟩
 rw [← hbno] at HANS
 have HBN := Aside0.mk hbno
 clear hE hs hlen hx hbno
 go_enter Tryd.func9, Tryd.ntmps9
 go_upto_region 3 with (first
  | ((with_reducible refine gate_store (t := 27) (p := 6) rfl ?_); refine store_event (t := 27) (p := 6) (v := ?vo_x) (w1 := (((((((w5.setCell ⟨X, 0, none⟩ (.int .i64 x.kd)).setCell ⟨X, 1, none⟩ (.bool bno)).setCell ⟨X, 2, none⟩ (.slice A2 x.S.length c2)).setCell ⟨X, 3, none⟩ (.slice A3 x.U.length c3)).setCell ⟨X, 4, none⟩ (.slice A4 x.Se.length c4)).setCell ⟨X, 5, none⟩ (.slice A5 x.Sp.length c5)).setCell ⟨X, 6, none⟩ (.slice A6 x.Cu.length c6))) ?hg ?ho ?hn ?hr ?_; (case ho => rfl); (case hg => rfl); (case hn => rfl); (case hr => first | (go_simp; done) | (go_simp; rfl)); intro w6 hw; (have h7 := set7 (base := w.heap.size) (u0 := .int .i64 x.kd) (u1 := .bool bno) (u2 := .slice A2 x.S.length c2) (u3 := .slice A3 x.U.length c3) (u4 := .slice A4 x.Se.length c4) (u5 := .slice A5 x.Sp.length c5) (u6 := .slice A6 x.Cu.length c6) H5.out.2.2.2.1 HX.out.1); (dsimp only at h7); (rw [← hw] at h7); (have H6 := Aside0.mk (And.intro (H5.out.1.kept h7.2.1 (fun k c t e hc => by subst e; rw [← blk_t H5.out.2.2.2.1 hc]; decide)) (And.intro (H5.out.2.1.keepX H5.out.2.2.2.1 h7.2.1) (And.intro (blk_kept H5.out.2.2.1 h7.2.1 HX.out.2) (And.intro h7.1 (And.intro (H5.out.2.2.2.2.trans h7.2.2) True.intro)))))); clear x0 xf0 x1 xf1 x2 xf2 x3 xf3 x4 xf4 x5 xf5 x6 xf6; clear hw h7)
  | ((with_reducible refine gate_dst (N := 6) rfl ?_); (try (refine gate_guard (by rfl) ?_; dsimp only)); refine box_event ?hg (N := 6) ?hd (cs := #[.int .i64 0, .bool false, .slice none 0 0, .slice none 0 0, .slice none 0 0, .slice none 0 0, .slice none 0 0]) (t := 27) ?hr ?_; (case hd => rfl); (case hg => rfl); (case hr => first | (go_simp; done) | (go_simp; rfl)); intro X hgX w5 hboxX hbX; (have HX : Aside0 (w.heap.size ≤ X ∧ R0 ≠ X) := ⟨by rw [hgX]; exact H4.out.2.2.2.size, by rw [hgX]; exact Nat.ne_of_lt (blk_lt H4.out.2.2.1)⟩); (have H5 := Aside0.mk (And.intro (H4.out.1.below hbX) (And.intro (H4.out.2.1.below hbX) (And.intro (blk_below H4.out.2.2.1 hbX) (And.intro hboxX (H4.out.2.2.2.trans (hbX.mono H4.out.2.2.2.size))))))); (have x0 : w5.cell? ⟨X, 0, none⟩ = _ := (blk_cell hboxX 0).trans rfl); (have xf0 : w5.frozen? ⟨X, 0, none⟩ = false := blk_frozen hboxX 0); (have x1 : w5.cell? ⟨X, 1, none⟩ = _ := (blk_cell hboxX 1).trans rfl); (have xf1 : w5.frozen? ⟨X, 1, none⟩ = false := blk_frozen hboxX 1); (have x2 : w5.cell? ⟨X, 2, none⟩ = _ := (blk_cell hboxX 2).trans rfl); (have xf2 : w5.frozen? ⟨X, 2, none⟩ = false := blk_frozen hboxX 2); (have x3 : w5.cell? ⟨X, 3, none⟩ = _ := (blk_cell hboxX 3).trans rfl); (have xf3 : w5.frozen? ⟨X, 3, none⟩ = false := blk_frozen hboxX 3); (have x4 : w5.cell? ⟨X, 4, none⟩ = _ := (blk_cell hboxX 4).trans rfl); (have xf4 : w5.frozen? ⟨X, 4, none⟩ = false := blk_frozen hboxX 4); (have x5 : w5.cell? ⟨X, 5, none⟩ = _ := (blk_cell hboxX 5).trans rfl); (have xf5 : w5.frozen? ⟨X, 5, none⟩ = false := blk_frozen hboxX 5); (have x6 : w5.cell? ⟨X, 6, none⟩ = _ := (blk_cell hboxX 6).trans rfl); (have xf6 : w5.frozen? ⟨X, 6, none⟩ = false := blk_frozen hboxX 6);  clear hgX hboxX hbX)
  | (go_at_call 17; (have z_ := H3.out); clear z_; refine (HANS.out _ _ _ H3.out.1 H3.out.2.2).mono ?_; rintro e w4 ⟨vS, vU, vSe, vSp, vCu, rfl, hrow, har, hb, hk⟩; (have hres := box_call H3.out.2.1 H3.out.1.ar hk (by decide)); (have hrow' := hrow.lower H3.out.2.2.size); (obtain ⟨A2, c2, A3, c3, A4, c4, A5, c5, A6, c6, rfl, rfl, rfl, rfl, rfl⟩ := hrow.slices); (have H4 := Aside0.mk (And.intro har (And.intro hrow' (And.intro hres (H3.out.2.2.trans hb))))); clear har hrow hrow' hres hb hk)
  | ((with_reducible refine gate_dst (N := 13) rfl ?_); (try (refine gate_guard (by rfl) ?_; dsimp only)); refine box_event ?hg (N := 13) ?hd (cs := #[.pointer (some ⟨B, 0, none⟩), .int .i64 (-1)]) (t := 48) ?hr ?_; (case hd => rfl); (case hg => rfl); (case hr => first | (go_simp; done) | (go_simp; rfl)); intro G hgG w3 hboxG hbG; (have H3 : Aside0 (AR1 w3 w.heap.size G B s (0, none) ∧ w3.heap[R0]? = some (.cells #[.int .i64 0, .bool false, .slice none 0 0, .slice none 0 0, .slice none 0 0, .slice none 0 0, .slice none 0 0] 27 (0, 0)) ∧ Below w.heap.size w w3) := ⟨⟨by rw [hgG]; exact H2.out.2.2.size, hboxG, H2.out.1.below hbG, Nat.zero_le _, fun pc h => by cases h⟩, blk_below H2.out.2.1 hbG, H2.out.2.2.trans (hbG.mono H2.out.2.2.size)⟩); clear hgG hboxG hbG)
  | (go_at_call 16; (have z_ := HA.out); clear z_; refine (read_c (base := w.heap.size) HA.out.2.size s).mono ?_; rintro e w2 ⟨hret, hrd, hb⟩; (obtain ⟨B, hB⟩ : ∃ B, B = wA.heap.size := ⟨_, rfl⟩); (rw [← hB] at hret hrd); (subst hret); (have H2 := Aside0.mk (And.intro hrd (And.intro (blk_below HA.out.1 hb) (HA.out.2.trans (hb.mono HA.out.2.size))))); clear hB hrd hb)
  | ((with_reducible refine gate_dst (N := 2) rfl ?_); (try (refine gate_guard (by rfl) ?_; dsimp only)); refine box_event ?hg (N := 2) ?hd (cs := #[.int .i64 0, .bool false, .slice none 0 0, .slice none 0 0, .slice none 0 0, .slice none 0 0, .slice none 0 0]) (t := 27) ?hr ?_; (case hd => rfl); (case hg => rfl); (case hr => first | (go_simp; done) | (go_simp; rfl)); intro R0 hgR wA hboxR hbR; (have HA := Aside0.mk (And.intro hboxR hbR)); (have HRg : Aside0 (w.heap.size ≤ R0) := ⟨by rw [hgR]; exact Nat.le_refl _⟩); clear hgR hboxR hbR))
 clear HANS HA H2 H3 H4 H5
 obtain ⟨h0, many, sw, hra, hrd, ho, hst⟩ := H6.out.1
 have HRA := Aside0.mk hra
 have g60 : w6.cell? ⟨G, 0, none⟩ = some (.pointer (some ⟨B, 0, none⟩)) := (blk_cell hra 0).trans rfl
 have HEND := end_c (HP.out.1.below H6.out.2.2.2.2.1 HP.out.2) hrd ho.2
 have HBB : Aside0 (Below w.heap.size w w6) := ⟨H6.out.2.2.2.2.1⟩
 clear h0 hra hrd
 rcases hst with ⟨rfl, rfl⟩ | ⟨m, rfl, hn, rfl⟩
 ·obtain ⟨p, er⟩ := stA
  cases er with
  | some pc =>
   have HDEC := Aside0.mk (decV_err HX0.out)
   have hc : pc.2 = 10 ∨ pc.2 = 11 ∨ pc.2 = 12 := ho.2 pc rfl
   obtain ⟨pl, c⟩ := pc
   have HEND : Aside0 (Calls Tryd.prog 18 #[.pointer (some ⟨B, 0, none⟩)] w6 fun e w' => e = .returned (.tuple #[.int .i64 c, .int .i64 (pl : Int)]) ∧ Below w6.heap.size w6 w') := ⟨HEND⟩
   have hc0 : (c != 0) = true := bne_iff_ne.mpr (by have hc' : c = 10 ∨ c = 11 ∨ c = 12 := hc; omega)
   clear ho hc
   go_wp2_with (first
    | ((with_reducible refine gate_store (t := 27) (p := 2) rfl ?_); refine store_event (t := 27) (p := 2) (v := ?vo_f1) (w1 := (((((((w7.setCell ⟨R0, 0, none⟩ (.int .i64 0)).setCell ⟨R0, 1, none⟩ (.bool false)).setCell ⟨R0, 2, none⟩ (.slice none 0 0)).setCell ⟨R0, 3, none⟩ (.slice none 0 0)).setCell ⟨R0, 4, none⟩ (.slice none 0 0)).setCell ⟨R0, 5, none⟩ (.slice none 0 0)).setCell ⟨R0, 6, none⟩ (.slice none 0 0))) ?hg ?ho ?hn ?hr ?_; (case ho => rfl); (case hg => rfl); (case hn => rfl); (case hr => first | (go_simp; done) | (go_simp; rfl)); intro wf hw; (have h7 := set7 (base := w.heap.size) (u0 := .int .i64 0) (u1 := .bool false) (u2 := .slice none 0 0) (u3 := .slice none 0 0) (u4 := .slice none 0 0) (u5 := .slice none 0 0) (u6 := .slice none 0 0) H7.out.2.2.1 HRg.out); (dsimp only at h7); (rw [← hw] at h7); (have HF := Aside0.mk h7); clear r0 rf0 r1 rf1 r2 rf2 r3 rf3 r4 rf4 r5 rf5 r6 rf6;  clear hw h7)
    | (go_at_call 18; refine HEND.out.mono ?_; rintro e w7 ⟨rfl, hb⟩; (have H7 := Aside0.mk (And.intro (H6.out.1.below hb) (And.intro (H6.out.2.1.below hb) (And.intro (blk_below H6.out.2.2.1 hb) (And.intro (blk_below H6.out.2.2.2.1 hb) (H6.out.2.2.2.2.1.trans (hb.mono H6.out.2.2.2.2.1.size))))))); (have hr7 := H7.out.2.2.1); (have hx7 := H7.out.2.2.2.1); (have g71 : w7.cell? ⟨G, 1, none⟩ = some (.int .i64 (-1)) := (blk_cell (blk_below HRA.out hb) 1).trans rfl); (have r0 : w7.cell? ⟨R0, 0, none⟩ = _ := (blk_cell hr7 0).trans rfl); (have rf0 : w7.frozen? ⟨R0, 0, none⟩ = false := blk_frozen hr7 0); (have r1 : w7.cell? ⟨R0, 1, none⟩ = _ := (blk_cell hr7 1).trans rfl); (have rf1 : w7.frozen? ⟨R0, 1, none⟩ = false := blk_frozen hr7 1); (have r2 : w7.cell? ⟨R0, 2, none⟩ = _ := (blk_cell hr7 2).trans rfl); (have rf2 : w7.frozen? ⟨R0, 2, none⟩ = false := blk_frozen hr7 2); (have r3 : w7.cell? ⟨R0, 3, none⟩ = _ := (blk_cell hr7 3).trans rfl); (have rf3 : w7.frozen? ⟨R0, 3, none⟩ = false := blk_frozen hr7 3); (have r4 : w7.cell? ⟨R0, 4, none⟩ = _ := (blk_cell hr7 4).trans rfl); (have rf4 : w7.frozen? ⟨R0, 4, none⟩ = false := blk_frozen hr7 4); (have r5 : w7.cell? ⟨R0, 5, none⟩ = _ := (blk_cell hr7 5).trans rfl); (have rf5 : w7.frozen? ⟨R0, 5, none⟩ = false := blk_frozen hr7 5); (have r6 : w7.cell? ⟨R0, 6, none⟩ = _ := (blk_cell hr7 6).trans rfl); (have rf6 : w7.frozen? ⟨R0, 6, none⟩ = false := blk_frozen hr7 6); clear hr7 hx7 hb))
   ((try simp only [Exit.inBlock, Exit.then]); refine bodyPost_ret (results_ctt rfl _ _ R0 27 #[.int .i64 0, .bool false, .slice none 0 0, .slice none 0 0, .slice none 0 0, .slice none 0 0, .slice none 0 0] (0, 0) _ rfl HF.out.1 Tryd.underlying27 rfl (by kernel_rfl)) rfl ?_)
   have HBB := Aside0.mk H7.out.2.2.2.2
   rw [HDEC.out]; exact ⟨_, _, _, _, _, rfl, RowsA.nil _ _ (Nat.le_trans HBB.out.size HF.out.2.1.1), HBB.out.trans HF.out.2.2⟩
  | none =>
   have hd := decV_ok HX0.out
   rw [bytesOf_length] at hd
   by_cases hl : p < s.size
   ·rw [if_pos hl] at hd
    have HDEC := Aside0.mk hd
    clear hd
    have HEND : Aside0 (Calls Tryd.prog 18 #[.pointer (some ⟨B, 0, none⟩)] w6 fun e w' => e = .returned (.tuple #[.int .i64 13, .int .i64 (p : Int)]) ∧ Below w6.heap.size w6 w') := ⟨by
     simp only [endF, bytesOf_length, if_pos hl] at HEND; exact HEND⟩
    clear ho hl
    go_wp2_with (first
     | ((with_reducible refine gate_store (t := 27) (p := 2) rfl ?_); refine store_event (t := 27) (p := 2) (v := ?vo_f2) (w1 := (((((((w7.setCell ⟨R0, 0, none⟩ (.int .i64 0)).setCell ⟨R0, 1, none⟩ (.bool false)).setCell ⟨R0, 2, none⟩ (.slice none 0 0)).setCell ⟨R0, 3, none⟩ (.slice none 0 0)).setCell ⟨R0, 4, none⟩ (.slice none 0 0)).setCell ⟨R0, 5, none⟩ (.slice none 0 0)).setCell ⟨R0, 6, none⟩ (.slice none 0 0))) ?hg ?ho ?hn ?hr ?_; (case ho => rfl); (case hg => rfl); (case hn => rfl); (case hr => first | (go_simp; done) | (go_simp; rfl)); intro wf hw; (have h7 := set7 (base := w.heap.size) (u0 := .int .i64 0) (u1 := .bool false) (u2 := .slice none 0 0) (u3 := .slice none 0 0) (u4 := .slice none 0 0) (u5 := .slice none 0 0) (u6 := .slice none 0 0) H7.out.2.2.1 HRg.out); (dsimp only at h7); (rw [← hw] at h7); (have HF := Aside0.mk h7); clear r0 rf0 r1 rf1 r2 rf2 r3 rf3 r4 rf4 r5 rf5 r6 rf6;  clear hw h7)
     | (go_at_call 18; refine HEND.out.mono ?_; rintro e w7 ⟨rfl, hb⟩; (have H7 := Aside0.mk (And.intro (H6.out.1.below hb) (And.intro (H6.out.2.1.below hb) (And.intro (blk_below H6.out.2.2.1 hb) (And.intro (blk_below H6.out.2.2.2.1 hb) (H6.out.2.2.2.2.1.trans (hb.mono H6.out.2.2.2.2.1.size))))))); (have hr7 := H7.out.2.2.1); (have hx7 := H7.out.2.2.2.1); (have g71 : w7.cell? ⟨G, 1, none⟩ = some (.int .i64 (-1)) := (blk_cell (blk_below HRA.out hb) 1).trans rfl); (have r0 : w7.cell? ⟨R0, 0, none⟩ = _ := (blk_cell hr7 0).trans rfl); (have rf0 : w7.frozen? ⟨R0, 0, none⟩ = false := blk_frozen hr7 0); (have r1 : w7.cell? ⟨R0, 1, none⟩ = _ := (blk_cell hr7 1).trans rfl); (have rf1 : w7.frozen? ⟨R0, 1, none⟩ = false := blk_frozen hr7 1); (have r2 : w7.cell? ⟨R0, 2, none⟩ = _ := (blk_cell hr7 2).trans rfl); (have rf2 : w7.frozen? ⟨R0, 2, none⟩ = false := blk_frozen hr7 2); (have r3 : w7.cell? ⟨R0, 3, none⟩ = _ := (blk_cell hr7 3).trans rfl); (have rf3 : w7.frozen? ⟨R0, 3, none⟩ = false := blk_frozen hr7 3); (have r4 : w7.cell? ⟨R0, 4, none⟩ = _ := (blk_cell hr7 4).trans rfl); (have rf4 : w7.frozen? ⟨R0, 4, none⟩ = false := blk_frozen hr7 4); (have r5 : w7.cell? ⟨R0, 5, none⟩ = _ := (blk_cell hr7 5).trans rfl); (have rf5 : w7.frozen? ⟨R0, 5, none⟩ = false := blk_frozen hr7 5); (have r6 : w7.cell? ⟨R0, 6, none⟩ = _ := (blk_cell hr7 6).trans rfl); (have rf6 : w7.frozen? ⟨R0, 6, none⟩ = false := blk_frozen hr7 6); clear hr7 hx7 hb))
    ((try simp only [Exit.inBlock, Exit.then]); refine bodyPost_ret (results_ctt rfl _ _ R0 27 #[.int .i64 0, .bool false, .slice none 0 0, .slice none 0 0, .slice none 0 0, .slice none 0 0, .slice none 0 0] (0, 0) _ rfl HF.out.1 Tryd.underlying27 rfl (by kernel_rfl)) rfl ?_)
    have HBB := Aside0.mk H7.out.2.2.2.2
    rw [HDEC.out]; exact ⟨_, _, _, _, _, rfl, RowsA.nil _ _ (Nat.le_trans HBB.out.size HF.out.2.1.1), HBB.out.trans HF.out.2.2⟩
   ·rw [if_neg hl] at hd
    have HEND : Aside0 (Calls Tryd.prog 18 #[.pointer (some ⟨B, 0, none⟩)] w6 fun e w' => e = .returned (.tuple #[.int .i64 0, .int .i64 (p : Int)]) ∧ Below w6.heap.size w6 w') := ⟨by
     simp only [endF, bytesOf_length, if_neg hl] at HEND; exact HEND⟩
    clear ho hl
    by_cases hno : x.no > 1
    ·rw [if_pos (.inl hno)] at hd
     have HDEC := Aside0.mk hd
     clear hd
     have y1 : decide (1 < x.no) = true := decide_eq_true hno
     clear hno
     go_wp2_with (first
      | ((with_reducible refine gate_store (t := 27) (p := 2) rfl ?_); refine store_event (t := 27) (p := 2) (v := ?vo_f3) (w1 := (((((((w7.setCell ⟨R0, 0, none⟩ (.int .i64 0)).setCell ⟨R0, 1, none⟩ (.bool false)).setCell ⟨R0, 2, none⟩ (.slice none 0 0)).setCell ⟨R0, 3, none⟩ (.slice none 0 0)).setCell ⟨R0, 4, none⟩ (.slice none 0 0)).setCell ⟨R0, 5, none⟩ (.slice none 0 0)).setCell ⟨R0, 6, none⟩ (.slice none 0 0))) ?hg ?ho ?hn ?hr ?_; (case ho => rfl); (case hg => rfl); (case hn => rfl); (case hr => first | (go_simp; done) | (go_simp; rfl)); intro wf hw; (have h7 := set7 (base := w.heap.size) (u0 := .int .i64 0) (u1 := .bool false) (u2 := .slice none 0 0) (u3 := .slice none 0 0) (u4 := .slice none 0 0) (u5 := .slice none 0 0) (u6 := .slice none 0 0) H7.out.2.2.1 HRg.out); (dsimp only at h7); (rw [← hw] at h7); (have HF := Aside0.mk h7); clear r0 rf0 r1 rf1 r2 rf2 r3 rf3 r4 rf4 r5 rf5 r6 rf6;  clear hw h7)
      | (go_at_call 18; refine HEND.out.mono ?_; rintro e w7 ⟨rfl, hb⟩; (have H7 := Aside0.mk (And.intro (H6.out.1.below hb) (And.intro (H6.out.2.1.below hb) (And.intro (blk_below H6.out.2.2.1 hb) (And.intro (blk_below H6.out.2.2.2.1 hb) (H6.out.2.2.2.2.1.trans (hb.mono H6.out.2.2.2.2.1.size))))))); (have hr7 := H7.out.2.2.1); (have hx7 := H7.out.2.2.2.1); (have g71 : w7.cell? ⟨G, 1, none⟩ = some (.int .i64 (-1)) := (blk_cell (blk_below HRA.out hb) 1).trans rfl); (have r0 : w7.cell? ⟨R0, 0, none⟩ = _ := (blk_cell hr7 0).trans rfl); (have rf0 : w7.frozen? ⟨R0, 0, none⟩ = false := blk_frozen hr7 0); (have r1 : w7.cell? ⟨R0, 1, none⟩ = _ := (blk_cell hr7 1).trans rfl); (have rf1 : w7.frozen? ⟨R0, 1, none⟩ = false := blk_frozen hr7 1); (have r2 : w7.cell? ⟨R0, 2, none⟩ = _ := (blk_cell hr7 2).trans rfl); (have rf2 : w7.frozen? ⟨R0, 2, none⟩ = false := blk_frozen hr7 2); (have r3 : w7.cell? ⟨R0, 3, none⟩ = _ := (blk_cell hr7 3).trans rfl); (have rf3 : w7.frozen? ⟨R0, 3, none⟩ = false := blk_frozen hr7 3); (have r4 : w7.cell? ⟨R0, 4, none⟩ = _ := (blk_cell hr7 4).trans rfl); (have rf4 : w7.frozen? ⟨R0, 4, none⟩ = false := blk_frozen hr7 4); (have r5 : w7.cell? ⟨R0, 5, none⟩ = _ := (blk_cell hr7 5).trans rfl); (have rf5 : w7.frozen? ⟨R0, 5, none⟩ = false := blk_frozen hr7 5); (have r6 : w7.cell? ⟨R0, 6, none⟩ = _ := (blk_cell hr7 6).trans rfl); (have rf6 : w7.frozen? ⟨R0, 6, none⟩ = false := blk_frozen hr7 6); clear hr7 hx7 hb))
     ((try simp only [Exit.inBlock, Exit.then]); refine bodyPost_ret (results_ctt rfl _ _ R0 27 #[.int .i64 0, .bool false, .slice none 0 0, .slice none 0 0, .slice none 0 0, .slice none 0 0, .slice none 0 0] (0, 0) _ rfl HF.out.1 Tryd.underlying27 rfl (by kernel_rfl)) rfl ?_)
     have HBB := Aside0.mk H7.out.2.2.2.2
     rw [HDEC.out]; exact ⟨_, _, _, _, _, rfl, RowsA.nil _ _ (Nat.le_trans HBB.out.size HF.out.2.1.1), HBB.out.trans HF.out.2.2⟩
    ·have y1 : decide (1 < x.no) = false := decide_eq_false hno
     cases hk : okV x with
     | false =>
      rw [if_pos (.inr hk)] at hd
      have HDEC := Aside0.mk hd
      clear hd
      have HOK : Aside0 ((if okV x = true then (0 : Int) else 230) = 230) := ⟨by rw [hk]; rfl⟩
      clear hno hk
      go_wp2_with (first
       | ((with_reducible refine gate_store (t := 27) (p := 2) rfl ?_); refine store_event (t := 27) (p := 2) (v := ?vo_f4) (w1 := (((((((w8.setCell ⟨R0, 0, none⟩ (.int .i64 0)).setCell ⟨R0, 1, none⟩ (.bool false)).setCell ⟨R0, 2, none⟩ (.slice none 0 0)).setCell ⟨R0, 3, none⟩ (.slice none 0 0)).setCell ⟨R0, 4, none⟩ (.slice none 0 0)).setCell ⟨R0, 5, none⟩ (.slice none 0 0)).setCell ⟨R0, 6, none⟩ (.slice none 0 0))) ?hg ?ho ?hn ?hr ?_; (case ho => rfl); (case hg => rfl); (case hn => rfl); (case hr => first | (go_simp; done) | (go_simp; rfl)); intro wf hw; (have h7 := set7 (base := w.heap.size) (u0 := .int .i64 0) (u1 := .bool false) (u2 := .slice none 0 0) (u3 := .slice none 0 0) (u4 := .slice none 0 0) (u5 := .slice none 0 0) (u6 := .slice none 0 0) H8.out.2.1 HRg.out); (dsimp only at h7); (rw [← hw] at h7); (have HF := Aside0.mk h7); clear r0 rf0 r1 rf1 r2 rf2 r3 rf3 r4 rf4 r5 rf5 r6 rf6;  clear hw h7)
       | (go_at_call 11; (have z_ := H7.out); clear z_; refine (check_rows bno H7.out.2.1 HLN.out.1 HLN.out.2.1 HLN.out.2.2).mono ?_; rintro e w8 ⟨hret, hb⟩; (rw [HOK.out] at hret); (subst hret); (have H8 := Aside0.mk (And.intro (H7.out.2.1.below hb) (And.intro (blk_below H7.out.2.2.1 hb) (And.intro (blk_below H7.out.2.2.2.1 hb) (H7.out.2.2.2.2.trans (hb.mono H7.out.2.2.2.2.size)))))); (have hr8 := H8.out.2.1); (have hx8 := H8.out.2.2.1); clear r0 rf0 r1 rf1 r2 rf2 r3 rf3 r4 rf4 r5 rf5 r6 rf6 g71; clear x0 x1 x2 x3 x4 x5 x6; (have r0 : w8.cell? ⟨R0, 0, none⟩ = _ := (blk_cell hr8 0).trans rfl); (have rf0 : w8.frozen? ⟨R0, 0, none⟩ = false := blk_frozen hr8 0); (have r1 : w8.cell? ⟨R0, 1, none⟩ = _ := (blk_cell hr8 1).trans rfl); (have rf1 : w8.frozen? ⟨R0, 1, none⟩ = false := blk_frozen hr8 1); (have r2 : w8.cell? ⟨R0, 2, none⟩ = _ := (blk_cell hr8 2).trans rfl); (have rf2 : w8.frozen? ⟨R0, 2, none⟩ = false := blk_frozen hr8 2); (have r3 : w8.cell? ⟨R0, 3, none⟩ = _ := (blk_cell hr8 3).trans rfl); (have rf3 : w8.frozen? ⟨R0, 3, none⟩ = false := blk_frozen hr8 3); (have r4 : w8.cell? ⟨R0, 4, none⟩ = _ := (blk_cell hr8 4).trans rfl); (have rf4 : w8.frozen? ⟨R0, 4, none⟩ = false := blk_frozen hr8 4); (have r5 : w8.cell? ⟨R0, 5, none⟩ = _ := (blk_cell hr8 5).trans rfl); (have rf5 : w8.frozen? ⟨R0, 5, none⟩ = false := blk_frozen hr8 5); (have r6 : w8.cell? ⟨R0, 6, none⟩ = _ := (blk_cell hr8 6).trans rfl); (have rf6 : w8.frozen? ⟨R0, 6, none⟩ = false := blk_frozen hr8 6); (have x0 : w8.cell? ⟨X, 0, none⟩ = _ := (blk_cell hx8 0).trans rfl); (have x1 : w8.cell? ⟨X, 1, none⟩ = _ := (blk_cell hx8 1).trans rfl); (have x2 : w8.cell? ⟨X, 2, none⟩ = _ := (blk_cell hx8 2).trans rfl); (have x3 : w8.cell? ⟨X, 3, none⟩ = _ := (blk_cell hx8 3).trans rfl); (have x4 : w8.cell? ⟨X, 4, none⟩ = _ := (blk_cell hx8 4).trans rfl); (have x5 : w8.cell? ⟨X, 5, none⟩ = _ := (blk_cell hx8 5).trans rfl); (have x6 : w8.cell? ⟨X, 6, none⟩ = _ := (blk_cell hx8 6).trans rfl);  clear hr8 hx8 hb)
       | (go_at_call 18; refine HEND.out.mono ?_; rintro e w7 ⟨rfl, hb⟩; (have H7 := Aside0.mk (And.intro (H6.out.1.below hb) (And.intro (H6.out.2.1.below hb) (And.intro (blk_below H6.out.2.2.1 hb) (And.intro (blk_below H6.out.2.2.2.1 hb) (H6.out.2.2.2.2.1.trans (hb.mono H6.out.2.2.2.2.1.size))))))); (have hr7 := H7.out.2.2.1); (have hx7 := H7.out.2.2.2.1); (have g71 : w7.cell? ⟨G, 1, none⟩ = some (.int .i64 (-1)) := (blk_cell (blk_below HRA.out hb) 1).trans rfl); (have r0 : w7.cell? ⟨R0, 0, none⟩ = _ := (blk_cell hr7 0).trans rfl); (have rf0 : w7.frozen? ⟨R0, 0, none⟩ = false := blk_frozen hr7 0); (have r1 : w7.cell? ⟨R0, 1, none⟩ = _ := (blk_cell hr7 1).trans rfl); (have rf1 : w7.frozen? ⟨R0, 1, none⟩ = false := blk_frozen hr7 1); (have r2 : w7.cell? ⟨R0, 2, none⟩ = _ := (blk_cell hr7 2).trans rfl); (have rf2 : w7.frozen? ⟨R0, 2, none⟩ = false := blk_frozen hr7 2); (have r3 : w7.cell? ⟨R0, 3, none⟩ = _ := (blk_cell hr7 3).trans rfl); (have rf3 : w7.frozen? ⟨R0, 3, none⟩ = false := blk_frozen hr7 3); (have r4 : w7.cell? ⟨R0, 4, none⟩ = _ := (blk_cell hr7 4).trans rfl); (have rf4 : w7.frozen? ⟨R0, 4, none⟩ = false := blk_frozen hr7 4); (have r5 : w7.cell? ⟨R0, 5, none⟩ = _ := (blk_cell hr7 5).trans rfl); (have rf5 : w7.frozen? ⟨R0, 5, none⟩ = false := blk_frozen hr7 5); (have r6 : w7.cell? ⟨R0, 6, none⟩ = _ := (blk_cell hr7 6).trans rfl); (have rf6 : w7.frozen? ⟨R0, 6, none⟩ = false := blk_frozen hr7 6); (have x0 : w7.cell? ⟨X, 0, none⟩ = _ := (blk_cell hx7 0).trans rfl); (have x1 : w7.cell? ⟨X, 1, none⟩ = _ := (blk_cell hx7 1).trans rfl); (have x2 : w7.cell? ⟨X, 2, none⟩ = _ := (blk_cell hx7 2).trans rfl); (have x3 : w7.cell? ⟨X, 3, none⟩ = _ := (blk_cell hx7 3).trans rfl); (have x4 : w7.cell? ⟨X, 4, none⟩ = _ := (blk_cell hx7 4).trans rfl); (have x5 : w7.cell? ⟨X, 5, none⟩ = _ := (blk_cell hx7 5).trans rfl); (have x6 : w7.cell? ⟨X, 6, none⟩ = _ := (blk_cell hx7 6).trans rfl); clear hr7 hx7 hb))
      ((try simp only [Exit.inBlock, Exit.then]); refine bodyPost_ret (results_ctt rfl _ _ R0 27 #[.int .i64 0, .bool false, .slice none 0 0, .slice none 0 0, .slice none 0 0, .slice none 0 0, .slice none 0 0] (0, 0) _ rfl HF.out.1 Tryd.underlying27 rfl (by kernel_rfl)) rfl ?_)
      have HBB := Aside0.mk H8.out.2.2.2
      rw [HDEC.out]; exact ⟨_, _, _, _, _, rfl, RowsA.nil _ _ (Nat.le_trans HBB.out.size HF.out.2.1.1), HBB.out.trans HF.out.2.2⟩
     | true =>
      rw [if_neg (fun h => by rcases h with h | h; (exact hno h); (rw [hk] at h; cases h))] at hd
      have HDEC := Aside0.mk hd
      clear hd
      have HOK : Aside0 ((if okV x = true then (0 : Int) else 230) = 0) := ⟨by rw [hk]; rfl⟩
      clear hno hk
      go_wp2_with (first
       | ((with_reducible refine gate_store (t := 27) (p := 2) rfl ?_); refine store_event (t := 27) (p := 2) (v := ?vo_f5) (w1 := (((((((w8.setCell ⟨R0, 0, none⟩ (.int .i64 x.kd)).setCell ⟨R0, 1, none⟩ (.bool bno)).setCell ⟨R0, 2, none⟩ (.slice A2 x.S.length c2)).setCell ⟨R0, 3, none⟩ (.slice A3 x.U.length c3)).setCell ⟨R0, 4, none⟩ (.slice A4 x.Se.length c4)).setCell ⟨R0, 5, none⟩ (.slice A5 x.Sp.length c5)).setCell ⟨R0, 6, none⟩ (.slice A6 x.Cu.length c6))) ?hg ?ho ?hn ?hr ?_; (case ho => rfl); (case hg => rfl); (case hn => rfl); (case hr => first | (go_simp; done) | (go_simp; rfl)); intro wf hw; (have h7 := set7 (base := w.heap.size) (u0 := .int .i64 x.kd) (u1 := .bool bno) (u2 := .slice A2 x.S.length c2) (u3 := .slice A3 x.U.length c3) (u4 := .slice A4 x.Se.length c4) (u5 := .slice A5 x.Sp.length c5) (u6 := .slice A6 x.Cu.length c6) H8.out.2.1 HRg.out); (dsimp only at h7); (rw [← hw] at h7); (have HF := Aside0.mk h7); clear r0 rf0 r1 rf1 r2 rf2 r3 rf3 r4 rf4 r5 rf5 r6 rf6;  clear hw h7)
       | (go_at_call 11; (have z_ := H7.out); clear z_; refine (check_rows bno H7.out.2.1 HLN.out.1 HLN.out.2.1 HLN.out.2.2).mono ?_; rintro e w8 ⟨hret, hb⟩; (rw [HOK.out] at hret); (subst hret); (have H8 := Aside0.mk (And.intro (H7.out.2.1.below hb) (And.intro (blk_below H7.out.2.2.1 hb) (And.intro (blk_below H7.out.2.2.2.1 hb) (H7.out.2.2.2.2.trans (hb.mono H7.out.2.2.2.2.size)))))); (have hr8 := H8.out.2.1); (have hx8 := H8.out.2.2.1); clear r0 rf0 r1 rf1 r2 rf2 r3 rf3 r4 rf4 r5 rf5 r6 rf6 g71; clear x0 x1 x2 x3 x4 x5 x6; (have r0 : w8.cell? ⟨R0, 0, none⟩ = _ := (blk_cell hr8 0).trans rfl); (have rf0 : w8.frozen? ⟨R0, 0, none⟩ = false := blk_frozen hr8 0); (have r1 : w8.cell? ⟨R0, 1, none⟩ = _ := (blk_cell hr8 1).trans rfl); (have rf1 : w8.frozen? ⟨R0, 1, none⟩ = false := blk_frozen hr8 1); (have r2 : w8.cell? ⟨R0, 2, none⟩ = _ := (blk_cell hr8 2).trans rfl); (have rf2 : w8.frozen? ⟨R0, 2, none⟩ = false := blk_frozen hr8 2); (have r3 : w8.cell? ⟨R0, 3, none⟩ = _ := (blk_cell hr8 3).trans rfl); (have rf3 : w8.frozen? ⟨R0, 3, none⟩ = false := blk_frozen hr8 3); (have r4 : w8.cell? ⟨R0, 4, none⟩ = _ := (blk_cell hr8 4).trans rfl); (have rf4 : w8.frozen? ⟨R0, 4, none⟩ = false := blk_frozen hr8 4); (have r5 : w8.cell? ⟨R0, 5, none⟩ = _ := (blk_cell hr8 5).trans rfl); (have rf5 : w8.frozen? ⟨R0, 5, none⟩ = false := blk_frozen hr8 5); (have r6 : w8.cell? ⟨R0, 6, none⟩ = _ := (blk_cell hr8 6).trans rfl); (have rf6 : w8.frozen? ⟨R0, 6, none⟩ = false := blk_frozen hr8 6); (have x0 : w8.cell? ⟨X, 0, none⟩ = _ := (blk_cell hx8 0).trans rfl); (have x1 : w8.cell? ⟨X, 1, none⟩ = _ := (blk_cell hx8 1).trans rfl); (have x2 : w8.cell? ⟨X, 2, none⟩ = _ := (blk_cell hx8 2).trans rfl); (have x3 : w8.cell? ⟨X, 3, none⟩ = _ := (blk_cell hx8 3).trans rfl); (have x4 : w8.cell? ⟨X, 4, none⟩ = _ := (blk_cell hx8 4).trans rfl); (have x5 : w8.cell? ⟨X, 5, none⟩ = _ := (blk_cell hx8 5).trans rfl); (have x6 : w8.cell? ⟨X, 6, none⟩ = _ := (blk_cell hx8 6).trans rfl);  clear hr8 hx8 hb)
       | (go_at_call 18; refine HEND.out.mono ?_; rintro e w7 ⟨rfl, hb⟩; (have H7 := Aside0.mk (And.intro (H6.out.1.below hb) (And.intro (H6.out.2.1.below hb) (And.intro (blk_below H6.out.2.2.1 hb) (And.intro (blk_below H6.out.2.2.2.1 hb) (H6.out.2.2.2.2.1.trans (hb.mono H6.out.2.2.2.2.1.size))))))); (have hr7 := H7.out.2.2.1); (have hx7 := H7.out.2.2.2.1); (have g71 : w7.cell? ⟨G, 1, none⟩ = some (.int .i64 (-1)) := (blk_cell (blk_below HRA.out hb) 1).trans rfl); (have r0 : w7.cell? ⟨R0, 0, none⟩ = _ := (blk_cell hr7 0).trans rfl); (have rf0 : w7.frozen? ⟨R0, 0, none⟩ = false := blk_frozen hr7 0); (have r1 : w7.cell? ⟨R0, 1, none⟩ = _ := (blk_cell hr7 1).trans rfl); (have rf1 : w7.frozen? ⟨R0, 1, none⟩ = false := blk_frozen hr7 1); (have r2 : w7.cell? ⟨R0, 2, none⟩ = _ := (blk_cell hr7 2).trans rfl); (have rf2 : w7.frozen? ⟨R0, 2, none⟩ = false := blk_frozen hr7 2); (have r3 : w7.cell? ⟨R0, 3, none⟩ = _ := (blk_cell hr7 3).trans rfl); (have rf3 : w7.frozen? ⟨R0, 3, none⟩ = false := blk_frozen hr7 3); (have r4 : w7.cell? ⟨R0, 4, none⟩ = _ := (blk_cell hr7 4).trans rfl); (have rf4 : w7.frozen? ⟨R0, 4, none⟩ = false := blk_frozen hr7 4); (have r5 : w7.cell? ⟨R0, 5, none⟩ = _ := (blk_cell hr7 5).trans rfl); (have rf5 : w7.frozen? ⟨R0, 5, none⟩ = false := blk_frozen hr7 5); (have r6 : w7.cell? ⟨R0, 6, none⟩ = _ := (blk_cell hr7 6).trans rfl); (have rf6 : w7.frozen? ⟨R0, 6, none⟩ = false := blk_frozen hr7 6); (have x0 : w7.cell? ⟨X, 0, none⟩ = _ := (blk_cell hx7 0).trans rfl); (have x1 : w7.cell? ⟨X, 1, none⟩ = _ := (blk_cell hx7 1).trans rfl); (have x2 : w7.cell? ⟨X, 2, none⟩ = _ := (blk_cell hx7 2).trans rfl); (have x3 : w7.cell? ⟨X, 3, none⟩ = _ := (blk_cell hx7 3).trans rfl); (have x4 : w7.cell? ⟨X, 4, none⟩ = _ := (blk_cell hx7 4).trans rfl); (have x5 : w7.cell? ⟨X, 5, none⟩ = _ := (blk_cell hx7 5).trans rfl); (have x6 : w7.cell? ⟨X, 6, none⟩ = _ := (blk_cell hx7 6).trans rfl); clear hr7 hx7 hb))
      ((try simp only [Exit.inBlock, Exit.then]); refine bodyPost_ret (results_ctt rfl _ _ R0 27 #[.int .i64 x.kd, .bool bno, .slice A2 x.S.length c2, .slice A3 x.U.length c3, .slice A4 x.Se.length c4, .slice A5 x.Sp.length c5, .slice A6 x.Cu.length c6] (0, 0) _ rfl HF.out.1 Tryd.underlying27 rfl (by kernel_rfl)) rfl ?_)
      rw [HDEC.out]; dsimp only; rw [← HBN.out]; exact ⟨_, _, _, _, _, rfl, H8.out.1.keepX H8.out.2.1 HF.out.2.1, H8.out.2.2.2.trans HF.out.2.2⟩
 ·have HDEC := Aside0.mk (decV_err HX0.out)
  obtain ⟨c, q, hcq⟩ : ∃ c q, endF (bytesOf s) sw = (c, q) := ⟨_, _, rfl⟩
  rw [hcq] at HEND
  have HEND := Aside0.mk HEND
  have hm0 : decide (0 ≤ (m : Int)) = true := decide_eq_true (by omega)
  clear ho hn hcq
  go_wp2_with ((go_at_call 18; refine HEND.out.mono ?_; rintro e w7 ⟨rfl, hb⟩; (have H7 := Aside0.mk (And.intro (H6.out.1.below hb) (And.intro (H6.out.2.1.below hb) (And.intro (blk_below H6.out.2.2.1 hb) (And.intro (blk_below H6.out.2.2.2.1 hb) (H6.out.2.2.2.2.1.trans (hb.mono H6.out.2.2.2.2.1.size))))))); (have hr7 := H7.out.2.2.1); (have hx7 := H7.out.2.2.2.1); (have HRA7 := Aside0.mk (blk_below HRA.out hb)); (have g71 : w7.cell? ⟨G, 1, none⟩ = some (.int .i64 (m : Int)) := (blk_cell (blk_below HRA.out hb) 1).trans rfl); (have r0 : w7.cell? ⟨R0, 0, none⟩ = _ := (blk_cell hr7 0).trans rfl); (have rf0 : w7.frozen? ⟨R0, 0, none⟩ = false := blk_frozen hr7 0); (have r1 : w7.cell? ⟨R0, 1, none⟩ = _ := (blk_cell hr7 1).trans rfl); (have rf1 : w7.frozen? ⟨R0, 1, none⟩ = false := blk_frozen hr7 1); (have r2 : w7.cell? ⟨R0, 2, none⟩ = _ := (blk_cell hr7 2).trans rfl); (have rf2 : w7.frozen? ⟨R0, 2, none⟩ = false := blk_frozen hr7 2); (have r3 : w7.cell? ⟨R0, 3, none⟩ = _ := (blk_cell hr7 3).trans rfl); (have rf3 : w7.frozen? ⟨R0, 3, none⟩ = false := blk_frozen hr7 3); (have r4 : w7.cell? ⟨R0, 4, none⟩ = _ := (blk_cell hr7 4).trans rfl); (have rf4 : w7.frozen? ⟨R0, 4, none⟩ = false := blk_frozen hr7 4); (have r5 : w7.cell? ⟨R0, 5, none⟩ = _ := (blk_cell hr7 5).trans rfl); (have rf5 : w7.frozen? ⟨R0, 5, none⟩ = false := blk_frozen hr7 5); (have r6 : w7.cell? ⟨R0, 6, none⟩ = _ := (blk_cell hr7 6).trans rfl); (have rf6 : w7.frozen? ⟨R0, 6, none⟩ = false := blk_frozen hr7 6); clear hr7 hx7 hb))
  have h7 := set7 (W := w7.drew) (base := w.heap.size) (u0 := .int .i64 0) (u1 := .bool false) (u2 := .slice none 0 0) (u3 := .slice none 0 0) (u4 := .slice none 0 0) (u5 := .slice none 0 0) (u6 := .slice none 0 0) H7.out.2.2.1 HRg.out
  dsimp only at h7
  have hra7 : w7.heap[G]? = some (.cells #[.pointer (some ⟨B, 0, none⟩), .int .i64 (m : Int)] 48 (0, 0)) := HRA7.out
  have HGZ : Aside0 ((((((((w7.drew.setCell ⟨R0, 0, none⟩ (.int .i64 0)).setCell ⟨R0, 1, none⟩ (.bool false)).setCell ⟨R0, 2, none⟩ (.slice none 0 0)).setCell ⟨R0, 3, none⟩ (.slice none 0 0)).setCell ⟨R0, 4, none⟩ (.slice none 0 0)).setCell ⟨R0, 5, none⟩ (.slice none 0 0)).setCell ⟨R0, 6, none⟩ (.slice none 0 0)).cell? ⟨G, 1, none⟩ = some (.int .i64 (m : Int))) := ⟨(blk_cell (blk_kept (W := w7.drew) hra7 h7.2.1 (blk_ne hra7 H7.out.2.2.1 (by decide))) 1).trans rfl⟩
  have HF := Aside0.mk h7
  clear h7 hra7
  refine wp_region_held_drew (S := fun w' => Aside0 (w'.cell? ⟨G, 1, none⟩ = some (.int .i64 (m : Int)))) (by kernel_rfl) (⟨g71⟩) (fun hHeld => ?_)
  (refine wpAnyH_take (i := 0) (v := ?_) rfl (by kernel_rfl) (by kernel_rfl) (by kernel_rfl) (fun _ _ _ h => h) (Or.inl ⟨by rfl, ?_⟩) hHeld ?_; rotate_left; focus (intro w_ hSw_; have z_ := hSw_.out; clear hSw_; go_simp; try with_reducible rfl)); (try simp only [Act.put, zA, zB, zC, zD, zE, zF])
  (refine wpAnyH_take (i := 1) (v := ?_) rfl (by kernel_rfl) (by kernel_rfl) (by kernel_rfl) (fun _ _ _ h => h) (Or.inl ⟨by rfl, ?_⟩) hHeld ?_; rotate_left; focus (intro w_ hSw_; have z_ := hSw_.out; clear hSw_; go_simp; try with_reducible rfl)); (try simp only [Act.put, zA, zB, zC, zD, zE, zF])
  (refine wpAnyH_take (i := 2) (v := ?_) rfl (by kernel_rfl) (by kernel_rfl) (by kernel_rfl) (fun _ _ _ h => h) (Or.inl ⟨by rfl, ?_⟩) hHeld ?_; rotate_left; focus (intro w_ hSw_; have z_ := hSw_.out; clear hSw_; go_simp; try with_reducible rfl)); (try simp only [Act.put, zA, zB, zC, zD, zE, zF])
  (refine wpAnyH_take (i := 3) (v := ?_) rfl (by kernel_rfl) (by kernel_rfl) (by kernel_rfl) (fun _ _ _ h => h) (Or.inl ⟨by rfl, ?_⟩) hHeld ?_; rotate_left; focus (intro w_ hSw_; have z_ := hSw_.out; clear hSw_; go_simp; try with_reducible rfl)); (try simp only [Act.put, zA, zB, zC, zD, zE, zF])
  (refine wpAnyH_take (i := 4) (v := ?_) rfl (by kernel_rfl) (by kernel_rfl) (by kernel_rfl) (fun _ _ _ h => h) (Or.inl ⟨by rfl, ?_⟩) hHeld ?_; rotate_left; focus (intro w_ hSw_; have z_ := hSw_.out; clear hSw_; go_simp; try with_reducible rfl)); (try simp only [Act.put, zA, zB, zC, zD, zE, zF])
  refine wpAnyH_ready (rs := [5]) (by kernel_rfl) (by simp) ?_; refine AllReadyH.cons rfl (fun K hK => ?_) AllReadyH.nil
  refine store_step (w1 := (((((((w7.drew.setCell ⟨R0, 0, none⟩ (.int .i64 0)).setCell ⟨R0, 1, none⟩ (.bool false)).setCell ⟨R0, 2, none⟩ (.slice none 0 0)).setCell ⟨R0, 3, none⟩ (.slice none 0 0)).setCell ⟨R0, 4, none⟩ (.slice none 0 0)).setCell ⟨R0, 5, none⟩ (.slice none 0 0)).setCell ⟨R0, 6, none⟩ (.slice none 0 0))) (by rfl) rfl ?hr ?_
  case hr => first | (go_simp; done) | (go_simp; rfl)
  refine hK.out _ _ HGZ (fun hHeld => ?_)
  clear hK K
  (try simp only [Act.put, zA, zB, zC, zD, zE, zF])
  (refine wpAnyH_take (i := 6) (v := ?_) rfl (by kernel_rfl) (by kernel_rfl) (by kernel_rfl) (fun _ _ _ h => h) (Or.inl ⟨by rfl, ?_⟩) hHeld ?_; rotate_left; focus (intro w_ hSw_; have z_ := hSw_.out; clear hSw_; go_simp; try with_reducible rfl)); (try simp only [Act.put, zA, zB, zC, zD, zE, zF])
  (refine wpAnyH_take (i := 7) (v := ?_) rfl (by kernel_rfl) (by kernel_rfl) (by kernel_rfl) (fun _ _ _ h => h) (Or.inl ⟨by rfl, ?_⟩) hHeld ?_; rotate_left; focus (intro w_ hSw_; have z_ := hSw_.out; clear hSw_; go_simp; try with_reducible rfl)); (try simp only [Act.put, zA, zB, zC, zD, zE, zF])
  refine wpAnyH_done (by kernel_rfl) ?_ _
  go_wp2
  ((try simp only [Exit.inBlock, Exit.then]); refine bodyPost_ret (results_ctt rfl _ _ R0 27 #[.int .i64 0, .bool false, .slice none 0 0, .slice none 0 0, .slice none 0 0, .slice none 0 0, .slice none 0 0] (0, 0) _ rfl HF.out.1 Tryd.underlying27 rfl (by kernel_rfl)) rfl ?_)
  exact ⟨_, _, _, _, _, by rw [HDEC.out]; rfl, by rw [HDEC.out]; exact RowsA.nil _ _ (Nat.le_trans H7.out.2.2.2.2.size HF.out.2.1.1), (below_drew1 H7.out.2.2.2.2).trans HF.out.2.2⟩
/-- the rows of a result, as the print tells them -/
theorem RowsA.told {W : World} {n0 : Nat} {vS vU vSe vSp vCu : Value} {x : AnsV} (h : RowsA W n0 vS vU vSe vSp vCu x) :
 (Kd.int .i64).R 3 W n0 (fun k_ => some k_ ≠ (vU : Value).ownBlock) vS x.S ∧ (Kd.int .i64).R 3 W n0 (fun k_ => some k_ ≠ (vS : Value).ownBlock) vU x.U ∧
 Kd.S (Kd.slice 3 (Kd.int .i64)) 22 W n0 (fun k_ => some k_ ≠ (vS : Value).ownBlock ∧ some k_ ≠ (vU : Value).ownBlock) vSe x.Se ∧
 Kd.S k41 41 W n0 (fun k_ => some k_ ≠ (vS : Value).ownBlock ∧ some k_ ≠ (vU : Value).ownBlock) vSp x.Sp ∧
 Kd.S k43 43 W n0 (fun k_ => some k_ ≠ (vS : Value).ownBlock ∧ some k_ ≠ (vU : Value).ownBlock) vCu x.Cu := by
 obtain ⟨n1, n2, a1, a2, a3, h1, h2, h3, h4, h5⟩ := h
 have hS : ∀ k, some k = vS.ownBlock → k < n1 := fun k e => h1.1 k e.symm
 have hU : ∀ k, some k = vU.ownBlock → n1 ≤ k ∧ k < n2 := fun k e => ⟨Kd.R_base h2 k e.symm, h2.1 k e.symm⟩
 have hg : ∀ k, n2 ≤ k → some k ≠ vS.ownBlock ∧ some k ≠ vU.ownBlock := fun k hk => ⟨fun e => by have := hS k e; omega, fun e => by have := hU k e; omega⟩
 exact ⟨Kd.R_mono h1 (fun k hk e => by have := hU k e; omega), Kd.R_lower (Kd.R_mono (Kd.R_bound h2) (fun k hk e => by have := hS k e; have := hk.2.1; omega)) a1,
  Kd.S_lower (Kd.S_mono (Kd.S_bound h3) (fun k hk => hg k hk.2.1)) (Nat.le_trans a1 a2), Kd.S_lower (Kd.S_mono (Kd.S_bound h4) (fun k hk => hg k hk.2.1)) (Nat.le_trans a1 a2), Kd.S_lower (Kd.S_mono (Kd.S_bound h5) (fun k hk => hg k hk.2.1)) (Nat.le_trans a1 a2)⟩
end Go.Proofs.YtlekdhejgdfnpaaDoor.P
/- Layer 23: an answer's bytes, read and written. -/
namespace Go.Proofs.YtlekdhejgdfnpaaDoor.P
open Go.RowKit Go.Proofs.YtlekdhejgdfnpaaDoorW.PrintWords Go.Proofs.YtlekdhejgdfnpaaDoorW.PrintLast Go.Proofs.YtlekdhejgdfnpaaDoorW.PrintMore
open Wr

section
variable {α : Type} {F : Rdr α} {E : α → List Int} {P : α → Prop} {most : Int}
def cntB (most : Int) (F : Rdr α) : Rdr (Int × List α) := bindR (countR most) (fun n => manyR F n.toNat)
def cntL (most : Int) (F : Rdr α) : Rdr (List α) := fun S st => ((cntB most F S st).1.2, (cntB most F S st).2)
def cntE (E : α → List Int) (l : List α) : List Int := encN (l.length : Int) ++ l.flatMap E
def cntP (most : Int) (P : α → Prop) (l : List α) : Prop := (l.length : Int) ≤ most ∧ ∀ x ∈ l, P x
theorem count_err : ErrOk (countR most) := ErrOk.sim (count_sim most) (head_err most)
theorem cnt_err (h : ErrOk F) : ErrOk (cntL most F) := ErrOk.map (F := cntB most F) Prod.snd (fun _ _ => rfl) (ErrOk.bind count_err (fun n => many_err h _))
theorem cnt_split : ∀ y, cntP most P y → ∃ x : Int × List α, (BndP most x.1 ∧ AllP P x.1.toNat x.2) ∧ x.2 = y ∧ encN x.1 ++ x.2.flatMap E = cntE E y :=
 fun y hy => ⟨((y.length : Int), y), ⟨⟨by dsimp only; omega, hy.1⟩, by simp, hy.2⟩, rfl, rfl⟩
theorem cntB_enc (hm : most ≤ MX) (h : EncOk F E P) : EncOk (cntB most F) (fun x => encN x.1 ++ x.2.flatMap E) (fun x => BndP most x.1 ∧ AllP P x.1.toNat x.2) := EncOk.bind (EncOk.sim (count_sim most) (head_enc hm)) (fun n _ => many_enc h n.toNat)
theorem cnt_enc (hm : most ≤ MX) (h : EncOk F E P) : EncOk (cntL most F) (cntE E) (cntP most P) := EncOk.map2 Prod.snd (fun _ _ => rfl) cnt_split (cntB_enc hm h)
theorem cntB_cut (hm : most ≤ MX) (h : CutOk F E P) (he : EncOk F E P) (hr : ErrOk F) : CutOk (cntB most F) (fun x => encN x.1 ++ x.2.flatMap E) (fun x => BndP most x.1 ∧ AllP P x.1.toNat x.2) :=
 CutOk.bind (CutOk.sim (count_sim most) (head_cut hm)) (EncOk.sim (count_sim most) (head_enc hm)) (fun n _ => many_cut h he hr n.toNat) (fun n => many_err hr _)
theorem cnt_cut (hm : most ≤ MX) (h : CutOk F E P) (he : EncOk F E P) (hr : ErrOk F) : CutOk (cntL most F) (cntE E) (cntP most P) := CutOk.map2 Prod.snd (fun _ _ => rfl) cnt_split (cntB_cut hm h he hr)
theorem cntB_back (h : BackOk F E P) (hr : ErrOk F) : BackOk (cntB most F) (fun x => encN x.1 ++ x.2.flatMap E) (fun x => BndP most x.1 ∧ AllP P x.1.toNat x.2) :=
 BackOk.bind (BackOk.sim (count_sim most) (head_back most)) (fun n _ => many_back h hr n.toNat) (fun n => many_err hr _)
theorem cnt_back (h : BackOk F E P) (hr : ErrOk F) : BackOk (cntL most F) (cntE E) (cntP most P) := by
 refine BackOk.map Prod.snd (fun _ _ => rfl) ?_ (cntB_back h hr)
 rintro ⟨n, l⟩ ⟨⟨h0, h1⟩, h2, h3⟩
 dsimp only at *
 refine ⟨⟨by omega, h3⟩, ?_⟩
 show encN (l.length : Int) ++ _ = _
 rw [h2, show ((n.toNat : Nat) : Int) = n by omega]
end
/-! ### an answer -/
def a5 : Rdr (List Spl × List Cut) := bindR (cntL 65 splF) (fun _ => cntL 200 cutF)
def a4 : Rdr (List (List Int) × (List Spl × List Cut)) := bindR (cntL 200 lstF) (fun _ => a5)
def a3 : Rdr (List Int × (List (List Int) × (List Spl × List Cut))) := bindR lstF (fun _ => a4)
def a2 : Rdr (List Int × (List Int × (List (List Int) × (List Spl × List Cut)))) := bindR lstF (fun _ => a3)
def a1 : Rdr (Int × (List Int × (List Int × (List (List Int) × (List Spl × List Cut))))) := bindR numF (fun _ => a2)
def a0 : Rdr (Int × (Int × (List Int × (List Int × (List (List Int) × (List Spl × List Cut)))))) := bindR numF (fun _ => a1)
def toV (q : Int × (Int × (List Int × (List Int × (List (List Int) × (List Spl × List Cut)))))) : AnsV := ⟨q.1, q.2.1, q.2.2.1, q.2.2.2.1, q.2.2.2.2.1, q.2.2.2.2.2.1, q.2.2.2.2.2.2⟩
theorem ans_map (S : List Int) (st : St) : ansF S st = (toV (a0 S st).1, (a0 S st).2) := by
 unfold ansF toV a0 a1 a2 a3 a4 a5 cntL cntB bindR manyR countR
 dsimp only
def e5 (x : List Spl × List Cut) : List Int := cntE SE x.1 ++ cntE CE x.2
def e4 (x : List (List Int) × (List Spl × List Cut)) : List Int := cntE LE x.1 ++ e5 x.2
def e3 (x : List Int × (List (List Int) × (List Spl × List Cut))) : List Int := LE x.1 ++ e4 x.2
def e2 (x : List Int × (List Int × (List (List Int) × (List Spl × List Cut)))) : List Int := LE x.1 ++ e3 x.2
def e1 (x : Int × (List Int × (List Int × (List (List Int) × (List Spl × List Cut))))) : List Int := encN x.1 ++ e2 x.2
def e0 (x : Int × (Int × (List Int × (List Int × (List (List Int) × (List Spl × List Cut)))))) : List Int := encN x.1 ++ e1 x.2
def p5 (x : List Spl × List Cut) : Prop := cntP 65 SP x.1 ∧ cntP 200 CP x.2
def p4 (x : List (List Int) × (List Spl × List Cut)) : Prop := cntP 200 LP x.1 ∧ p5 x.2
def p3 (x : List Int × (List (List Int) × (List Spl × List Cut))) : Prop := LP x.1 ∧ p4 x.2
def p2 (x : List Int × (List Int × (List (List Int) × (List Spl × List Cut)))) : Prop := LP x.1 ∧ p3 x.2
def p1 (x : Int × (List Int × (List Int × (List (List Int) × (List Spl × List Cut))))) : Prop := NumP x.1 ∧ p2 x.2
def p0 (x : Int × (Int × (List Int × (List Int × (List (List Int) × (List Spl × List Cut)))))) : Prop := NumP x.1 ∧ p1 x.2
theorem r5 : ErrOk a5 := ErrOk.bind (cnt_err spl_err) (fun _ => cnt_err cut_err)
theorem r4 : ErrOk a4 := ErrOk.bind (cnt_err lst_err) (fun _ => r5)
theorem r3 : ErrOk a3 := ErrOk.bind lst_err (fun _ => r4)
theorem r2 : ErrOk a2 := ErrOk.bind lst_err (fun _ => r3)
theorem r1 : ErrOk a1 := ErrOk.bind numR_err (fun _ => r2)
theorem n5 : EncOk a5 e5 p5 := EncOk.bind (cnt_enc (by decide) spl_enc) (fun _ _ => cnt_enc (by decide) cut_enc)
theorem n4 : EncOk a4 e4 p4 := EncOk.bind (cnt_enc (by decide) lst_enc) (fun _ _ => n5)
theorem n3 : EncOk a3 e3 p3 := EncOk.bind lst_enc (fun _ _ => n4)
theorem n2 : EncOk a2 e2 p2 := EncOk.bind lst_enc (fun _ _ => n3)
theorem n1 : EncOk a1 e1 p1 := EncOk.bind num_enc (fun _ _ => n2)
theorem n0 : EncOk a0 e0 p0 := EncOk.bind num_enc (fun _ _ => n1)
theorem c5 : CutOk a5 e5 p5 := CutOk.bind (cnt_cut (by decide) spl_cut spl_enc spl_err) (cnt_enc (by decide) spl_enc) (fun _ _ => cnt_cut (by decide) cut_cut cut_enc cut_err) (fun _ => cnt_err cut_err)
theorem c4 : CutOk a4 e4 p4 := CutOk.bind (cnt_cut (by decide) lst_cut lst_enc lst_err) (cnt_enc (by decide) lst_enc) (fun _ _ => c5) (fun _ => r5)
theorem c3 : CutOk a3 e3 p3 := CutOk.bind lst_cut lst_enc (fun _ _ => c4) (fun _ => r4)
theorem c2 : CutOk a2 e2 p2 := CutOk.bind lst_cut lst_enc (fun _ _ => c3) (fun _ => r3)
theorem c1 : CutOk a1 e1 p1 := CutOk.bind num_cut num_enc (fun _ _ => c2) (fun _ => r2)
theorem c0 : CutOk a0 e0 p0 := CutOk.bind num_cut num_enc (fun _ _ => c1) (fun _ => r1)
theorem b5 : BackOk a5 e5 p5 := BackOk.bind (cnt_back spl_back spl_err) (fun _ _ => cnt_back cut_back cut_err) (fun _ => cnt_err cut_err)
theorem b4 : BackOk a4 e4 p4 := BackOk.bind (cnt_back lst_back lst_err) (fun _ _ => b5) (fun _ => r5)
theorem b3 : BackOk a3 e3 p3 := BackOk.bind lst_back (fun _ _ => b4) (fun _ => r4)
theorem b2 : BackOk a2 e2 p2 := BackOk.bind lst_back (fun _ _ => b3) (fun _ => r3)
theorem b1 : BackOk a1 e1 p1 := BackOk.bind num_back (fun _ _ => b2) (fun _ => r2)
theorem b0 : BackOk a0 e0 p0 := BackOk.bind num_back (fun _ _ => b1) (fun _ => r1)
def ofV (x : AnsV) : Int × (Int × (List Int × (List Int × (List (List Int) × (List Spl × List Cut))))) := (x.kd, x.no, x.S, x.U, x.Se, x.Sp, x.Cu)
def encV (x : AnsV) : List Int := e0 (ofV x)
def PV (x : AnsV) : Prop := p0 (ofV x)
theorem ans_back : BackOk ansF encV PV := BackOk.map toV ans_map (fun x hx => ⟨hx, rfl⟩) b0
/-! ### what may be -/
theorem few_LP (l : List Int) : badA l = false ↔ LP l := by
 unfold badA fewB LP
 rw [Bool.not_eq_false', Bool.and_eq_true, decide_eq_true_eq, Bool.not_eq_true', List.any_eq_false]
 constructor
 ·rintro ⟨h1, h2⟩
  refine ⟨by omega, fun x hx => ?_⟩
  have := h2 x hx
  simp [outA] at this
  unfold IntP
  omega
 ·rintro ⟨h1, h2⟩
  refine ⟨by omega, fun x hx => ?_⟩
  have := h2 x hx
  unfold IntP at this
  simp [outA]
  omega
theorem ok_iff (x : AnsV) : okV x = true ↔ (0 ≤ x.kd ∧ x.kd < 6) ∧ p2 (x.S, x.U, x.Se, x.Sp, x.Cu) := by
 unfold okV okAns p2 p3 p4 p5 cntP SP CP
 simp only [Bool.and_eq_true, decide_eq_true_eq, Bool.not_eq_true', List.any_eq_false]
 constructor
 ·rintro ⟨⟨⟨⟨⟨h0, h1⟩, h2⟩, h3⟩, h4⟩, h5⟩
  have key : ∀ l, l ∈ ([x.S, x.U] ++ x.Se ++ x.Sp.flatMap (fun y => [y.f0, y.f1, y.f2]) ++ x.Cu.flatMap (fun c => [c.f0, [c.f1]])) → LP l := fun l hl => (few_LP l).1 (by have := h5 l hl; simpa using this)
  refine ⟨⟨h0, h1⟩, key _ ?_, key _ ?_, ⟨by omega, fun l hl => key _ ?_⟩, ⟨by omega, fun y hy => ⟨key _ ?_, key _ ?_, key _ ?_⟩⟩, by omega, fun c hc => ⟨key _ ?_, ?_⟩⟩
  ·simp
  ·simp
  ·simp [hl]
  ·exact List.mem_append_left _ (List.mem_append_right _ (List.mem_flatMap.2 ⟨y, hy, by simp⟩))
  ·exact List.mem_append_left _ (List.mem_append_right _ (List.mem_flatMap.2 ⟨y, hy, by simp⟩))
  ·exact List.mem_append_left _ (List.mem_append_right _ (List.mem_flatMap.2 ⟨y, hy, by simp⟩))
  ·exact List.mem_append_right _ (List.mem_flatMap.2 ⟨c, hc, by simp⟩)
  ·exact (key [c.f1] (List.mem_append_right _ (List.mem_flatMap.2 ⟨c, hc, by simp⟩))).2 _ (by simp)
 ·rintro ⟨⟨h0, h1⟩, h2, h3, ⟨h4, h5⟩, ⟨h6, h7⟩, h8, h9⟩
  refine ⟨⟨⟨⟨⟨h0, h1⟩, by omega⟩, by omega⟩, by omega⟩, fun l hl => ?_⟩
  have : LP l := by
   rcases List.mem_append.1 hl with hl | hl
   ·rcases List.mem_append.1 hl with hl | hl
    ·rcases List.mem_append.1 hl with hl | hl
     ·rcases List.mem_cons.1 hl with rfl | hl
      ·exact h2
      ·rcases List.mem_cons.1 hl with rfl | hl
       ·exact h3
       ·cases hl
     ·exact h5 l hl
    ·obtain ⟨y, hy, hl⟩ := List.mem_flatMap.1 hl
     obtain ⟨q0, q1, q2⟩ := h7 y hy
     rcases List.mem_cons.1 hl with rfl | hl
     ·exact q0
     ·rcases List.mem_cons.1 hl with rfl | hl
      ·exact q1
      ·rcases List.mem_cons.1 hl with rfl | hl
       ·exact q2
       ·cases hl
   ·obtain ⟨c, hc, hl⟩ := List.mem_flatMap.1 hl
    obtain ⟨q0, q1⟩ := h9 c hc
    rcases List.mem_cons.1 hl with rfl | hl
    ·exact q0
    ·rcases List.mem_cons.1 hl with rfl | hl
     ·exact ⟨by simp, fun z hz => by obtain rfl := List.mem_singleton.1 hz; exact q1⟩
     ·cases hl
  have := (few_LP l).2 this
  simpa using this
theorem dec_back (s : ByteArray) (h : (decV (bytesOf s)).2.1 = 0) : okV (decV (bytesOf s)).1 = true ∧ 0 ≤ (decV (bytesOf s)).1.no ∧ (decV (bytesOf s)).1.no ≤ 1 ∧ encV (decV (bytesOf s)).1 = bytesOf s ∧ (decV (bytesOf s)).2.2 = ((bytesOf s).length : Int) := by
 have hb := bytesOf_in s
 have hok := (ansF_len s (0, none) ⟨Nat.zero_le _, fun pc h => by cases h⟩).2.2.2
 generalize bytesOf s = S at *
 obtain ⟨x, stA, hx⟩ : ∃ x stA, ansF S (0, none) = (x, stA) := ⟨_, _, rfl⟩
 obtain ⟨p, er⟩ := stA
 cases er with
 | some pc =>
  have e := decV_err hx
  rw [e] at h
  exfalso
  have h' : pc.2 = 0 := h
  rw [hx] at hok
  have := hok.2 pc rfl
  rw [h'] at this
  rcases this with h | h | h <;> exact absurd h (by decide)
 | none =>
  have e := decV_ok hx
  have hbk := ans_back S 0 hb (Nat.zero_le _) (by rw [hx])
  rw [hx] at hbk
  obtain ⟨a1, a2, a3⟩ := hbk
  dsimp only at a1 a2 a3
  by_cases hl : p < S.length
  ·rw [e, if_pos hl] at h; exact absurd (show (13 : Int) = 0 from h) (by decide)
  rw [if_neg hl] at e
  by_cases hk : x.no > 1 ∨ okV x = false
  ·rw [e, if_pos hk] at h; exact absurd (show (230 : Int) = 0 from h) (by decide)
  rw [if_neg hk] at e
  rw [e]
  have hS : encV x = S := by
   rw [← a2, List.drop_zero]
   exact List.take_of_length_le (by omega)
  refine ⟨?_, a3.2.1.1, ?_, hS, ?_⟩
  ·cases ho : okV x with
   | true => rfl
   | false => exact absurd (.inr ho) hk
  ·show x.no ≤ 1
   have : ¬ x.no > 1 := fun h => hk (.inl h)
   omega
  ·show (p : Int) = _
   rw [a1, hS]; simp
theorem lists_LE {l : List Int} (h : LP l) : encL encI l = LE l := encL_all (fun x hx => by
 obtain ⟨m, h1, h2, h3⟩ := encI_enc (h.2 x hx)
 rw [h2, Ne, encN_nil]
 have := h1.1; have := h1.2; omega)
end Go.Proofs.YtlekdhejgdfnpaaDoor.P
namespace Go.Proofs.YtlekdhejgdfnpaaDoor.P
open Go.RowKit Go.Proofs.YtlekdhejgdfnpaaDoorW.PrintWords Go.Proofs.YtlekdhejgdfnpaaDoorW.PrintLast Go.Proofs.YtlekdhejgdfnpaaDoorW.PrintMore
attribute [local go_sem] max2_int min2_int max_two min_two max_three min_three max_four min_four   -- for this text's walks alone

/-! ### greenwoodref23_Small: function 7 -/
mutual
def greenwoodref23_Small.j1 : Nat → Int → Int → Bool → List Int → List Int → List (List Int) → List (S41) → List (S43) → Option (Bool)
 | 0, _, _, _, _, _, _, _, _ => none
 | k + 1, x3, x102000, x102001, x102002, x102003, x102004, x102005, x102006 => greenwoodref23_Small.l1 k x3 0 x102000 x102001 x102002 x102003 x102004 x102005 x102006
def greenwoodref23_Small.j3 : Nat → Int → Int → Bool → List Int → List Int → List (List Int) → List (S41) → List (S43) → Option (Bool)
 | 0, _, _, _, _, _, _, _, _ => none
 | k + 1, x3, x102000, x102001, x102002, x102003, x102004, x102005, x102006 => greenwoodref23_Small.l2 k x3 0 x102000 x102001 x102002 x102003 x102004 x102005 x102006
def greenwoodref23_Small.l2 : Nat → Int → Int → Int → Bool → List Int → List Int → List (List Int) → List (S41) → List (S43) → Option (Bool)
 | 0, _, _, _, _, _, _, _, _, _ => none
 | k + 1, x3, x6, x102000, x102001, x102002, x102003, x102004, x102005, x102006 => if x6 < (x102006.length : Int) then (if x3 < 1000 then (if 0 ≤ x6 then (greenwoodref23_Small.l2 k (wrap64 (x3 + (((rd_T43 x102006 x6).f0).length : Int))) (wrap64 (x6 + 1)) x102000 x102001 x102002 x102003 x102004 x102005 x102006) else (none)) else (some (decide (x3 ≤ 500)))) else (some (decide (x3 ≤ 500)))
def greenwoodref23_Small.l1 : Nat → Int → Int → Int → Bool → List Int → List Int → List (List Int) → List (S41) → List (S43) → Option (Bool)
 | 0, _, _, _, _, _, _, _, _, _ => none
 | k + 1, x3, x5, x102000, x102001, x102002, x102003, x102004, x102005, x102006 => if x5 < (x102005.length : Int) then (if x3 < 1000 then (if 0 ≤ x5 then (greenwoodref23_Small.l1 k (wrap64 (x3 + (wrap64 ((wrap64 ((((rd_T41 x102005 x5).f0).length : Int) + (((rd_T41 x102005 x5).f1).length : Int))) + (((rd_T41 x102005 x5).f2).length : Int))))) (wrap64 (x5 + 1)) x102000 x102001 x102002 x102003 x102004 x102005 x102006) else (none)) else (greenwoodref23_Small.j3 k x3 x102000 x102001 x102002 x102003 x102004 x102005 x102006)) else (greenwoodref23_Small.j3 k x3 x102000 x102001 x102002 x102003 x102004 x102005 x102006)
def greenwoodref23_Small.l0 : Nat → Int → Int → Int → Bool → List Int → List Int → List (List Int) → List (S41) → List (S43) → Option (Bool)
 | 0, _, _, _, _, _, _, _, _, _ => none
 | k + 1, x3, x4, x102000, x102001, x102002, x102003, x102004, x102005, x102006 => if x4 < (x102004.length : Int) then (if x3 < 1000 then (if 0 ≤ x4 then (greenwoodref23_Small.l0 k (wrap64 (x3 + ((rd_L1 x102004 x4).length : Int))) (wrap64 (x4 + 1)) x102000 x102001 x102002 x102003 x102004 x102005 x102006) else (none)) else (greenwoodref23_Small.j1 k x3 x102000 x102001 x102002 x102003 x102004 x102005 x102006)) else (greenwoodref23_Small.j1 k x3 x102000 x102001 x102002 x102003 x102004 x102005 x102006)
end
def greenwoodref23_Small.f (k : Nat) (a0_0 : Int) (a0_1 : Bool) (l0_2 : List Int) (l0_3 : List Int) (l0_4 : List (List Int)) (l0_5 : List (S41)) (l0_6 : List (S43)) : Option (Bool) := greenwoodref23_Small.l0 k (wrap64 ((wrap64 ((wrap64 ((wrap64 ((l0_2.length : Int) + (l0_3.length : Int))) + (l0_4.length : Int))) + (l0_5.length : Int))) + (l0_6.length : Int))) 0 a0_0 a0_1 l0_2 l0_3 l0_4 l0_5 l0_6
set_option maxHeartbeats 8000000 in
set_option maxRecDepth 100000 in
theorem greenwoodref23_Small.calls (k : Nat) (a0_0 : Int) (a0_1 : Bool) (A0_2 : Option Addr) (c0_2 : Nat) (l0_2 : List Int) (A0_3 : Option Addr) (c0_3 : Nat) (l0_3 : List Int) (A0_4 : Option Addr) (c0_4 : Nat) (l0_4 : List (List Int)) (A0_5 : Option Addr) (c0_5 : Nat) (l0_5 : List (S41)) (A0_6 : Option Addr) (c0_6 : Nat) (l0_6 : List (S43)) (r : Bool) (w : World) (hr0_2 : Kd.C (Kd.int .i64) w A0_2 l0_2.length l0_2) (hc0_2 : l0_2.length ≤ c0_2) (hr0_3 : Kd.C (Kd.int .i64) w A0_3 l0_3.length l0_3) (hc0_3 : l0_3.length ≤ c0_3) (hr0_4 : Kd.C (Kd.slice 3 (Kd.int .i64)) w A0_4 l0_4.length l0_4) (hc0_4 : l0_4.length ≤ c0_4) (hr0_5 : Kd.C k41 w A0_5 l0_5.length l0_5) (hc0_5 : l0_5.length ≤ c0_5) (hr0_6 : Kd.C k43 w A0_6 l0_6.length l0_6) (hc0_6 : l0_6.length ≤ c0_6) (h : greenwoodref23_Small.f k a0_0 a0_1 l0_2 l0_3 l0_4 l0_5 l0_6 = some r) :
 Calls Tryd.prog 7 #[.agg #[.int .i64 a0_0, .bool a0_1, .slice A0_2 l0_2.length c0_2, .slice A0_3 l0_3.length c0_3, .slice A0_4 l0_4.length c0_4, .slice A0_5 l0_5.length c0_5, .slice A0_6 l0_6.length c0_6]] w fun e w' => e = .returned (.bool r) ∧ Below w.heap.size w w' := by
 have hu27 := Tryd.underlying27
 have HR0_2 := Aside0.mk hr0_2
 have HC0_2 := Aside0.mk hc0_2
 clear hr0_2 hc0_2
 have HR0_3 := Aside0.mk hr0_3
 have HC0_3 := Aside0.mk hc0_3
 clear hr0_3 hc0_3
 have HR0_4 := Aside0.mk hr0_4
 have HC0_4 := Aside0.mk hc0_4
 clear hr0_4 hc0_4
 have HR0_5 := Aside0.mk hr0_5
 have HC0_5 := Aside0.mk hc0_5
 clear hr0_5 hc0_5
 have HR0_6 := Aside0.mk hr0_6
 have HC0_6 := Aside0.mk hc0_6
 clear hr0_6 hc0_6
 have HB := Aside0.mk (Below.refl w.heap.size w)
 have H : (greenwoodref23_Small.l0 k (wrap64 ((wrap64 ((wrap64 ((wrap64 ((l0_2.length : Int) + (l0_3.length : Int))) + (l0_4.length : Int))) + (l0_5.length : Int))) + (l0_6.length : Int))) 0 a0_0 a0_1 l0_2 l0_3 l0_4 l0_5 l0_6) = some r := h
 clear h
 have HC2 := Aside0.mk H
 clear H
 go_enter Tryd.func7, Tryd.ntmps7
 go_upto_block 0 with (first | ((with_reducible refine gate_dst (N := 1) rfl ?_); refine box_event ?hg (N := 1) ?hd (cs := #[.int .i64 a0_0, .bool a0_1, .slice A0_2 l0_2.length c0_2, .slice A0_3 l0_3.length c0_3, .slice A0_4 l0_4.length c0_4, .slice A0_5 l0_5.length c0_5, .slice A0_6 l0_6.length c0_6]) (t := 27) ?hr ?_; (case hd => rfl); (case hg => rfl); (case hr => first | (go_simp; done) | (go_simp; rfl)); intro gb101 hg w3 hbox hb; have n0_ := Aside0.mk (below_step (by repeat (first | (with_reducible first | exact HB.out | apply below_alloc | apply pw_below_drewN | apply below_drew1) | exact HB.out)) hb); have n1_ := Aside0.mk (hbox); have n2_ := Aside0.mk ((by rw [hg]; exact (below_size (by repeat (first | (with_reducible first | exact HB.out | apply below_alloc | apply pw_below_drewN | apply below_drew1) | exact HB.out))) : w.heap.size ≤ gb101)); have n3_ := Aside0.mk ((by rw [hg]; exact (below_size (by repeat (first | (with_reducible first | exact HB.out | apply below_alloc | apply pw_below_drewN | apply below_drew1) | exact HB.out))) : w.heap.size ≤ gb101)); clear HB; have HB := n0_; have BK101 := n1_; have GW101 := n2_; have GE101 := n3_; clear n0_ n1_ n2_ n3_; clear hb hbox hg; have hcz4_0 : w3.cell? ⟨gb101, 0, none⟩ = some (.int .i64 a0_0) := (blk_cell BK101.out 0).trans rfl; have hcz4_1 : w3.cell? ⟨gb101, 1, none⟩ = some (.bool a0_1) := (blk_cell BK101.out 1).trans rfl; have hcz4_2 : w3.cell? ⟨gb101, 2, none⟩ = some (.slice A0_2 l0_2.length c0_2) := (blk_cell BK101.out 2).trans rfl; have hcz4_3 : w3.cell? ⟨gb101, 3, none⟩ = some (.slice A0_3 l0_3.length c0_3) := (blk_cell BK101.out 3).trans rfl; have hcz4_4 : w3.cell? ⟨gb101, 4, none⟩ = some (.slice A0_4 l0_4.length c0_4) := (blk_cell BK101.out 4).trans rfl; have hcz4_5 : w3.cell? ⟨gb101, 5, none⟩ = some (.slice A0_5 l0_5.length c0_5) := (blk_cell BK101.out 5).trans rfl; have hcz4_6 : w3.cell? ⟨gb101, 6, none⟩ = some (.slice A0_6 l0_6.length c0_6) := (blk_cell BK101.out 6).trans rfl; have hfz4_0 := blk_frozen BK101.out 0; have hfz4_1 := blk_frozen BK101.out 1; have hfz4_2 := blk_frozen BK101.out 2; have hfz4_3 := blk_frozen BK101.out 3; have hfz4_4 := blk_frozen BK101.out 4; have hfz4_5 := blk_frozen BK101.out 5; have hfz4_6 := blk_frozen BK101.out 6))
 repeat (go_quiet (first | ((with_reducible refine gate_dst (N := 1) rfl ?_); refine box_event ?hg (N := 1) ?hd (cs := #[.int .i64 a0_0, .bool a0_1, .slice A0_2 l0_2.length c0_2, .slice A0_3 l0_3.length c0_3, .slice A0_4 l0_4.length c0_4, .slice A0_5 l0_5.length c0_5, .slice A0_6 l0_6.length c0_6]) (t := 27) ?hr ?_; (case hd => rfl); (case hg => rfl); (case hr => first | (go_simp; done) | (go_simp; rfl)); intro gb101 hg w3 hbox hb; have n0_ := Aside0.mk (below_step (by repeat (first | (with_reducible first | exact HB.out | apply below_alloc | apply pw_below_drewN | apply below_drew1) | exact HB.out)) hb); have n1_ := Aside0.mk (hbox); have n2_ := Aside0.mk ((by rw [hg]; exact (below_size (by repeat (first | (with_reducible first | exact HB.out | apply below_alloc | apply pw_below_drewN | apply below_drew1) | exact HB.out))) : w.heap.size ≤ gb101)); have n3_ := Aside0.mk ((by rw [hg]; exact (below_size (by repeat (first | (with_reducible first | exact HB.out | apply below_alloc | apply pw_below_drewN | apply below_drew1) | exact HB.out))) : w.heap.size ≤ gb101)); clear HB; have HB := n0_; have BK101 := n1_; have GW101 := n2_; have GE101 := n3_; clear n0_ n1_ n2_ n3_; clear hb hbox hg; have hcz4_0 : w3.cell? ⟨gb101, 0, none⟩ = some (.int .i64 a0_0) := (blk_cell BK101.out 0).trans rfl; have hcz4_1 : w3.cell? ⟨gb101, 1, none⟩ = some (.bool a0_1) := (blk_cell BK101.out 1).trans rfl; have hcz4_2 : w3.cell? ⟨gb101, 2, none⟩ = some (.slice A0_2 l0_2.length c0_2) := (blk_cell BK101.out 2).trans rfl; have hcz4_3 : w3.cell? ⟨gb101, 3, none⟩ = some (.slice A0_3 l0_3.length c0_3) := (blk_cell BK101.out 3).trans rfl; have hcz4_4 : w3.cell? ⟨gb101, 4, none⟩ = some (.slice A0_4 l0_4.length c0_4) := (blk_cell BK101.out 4).trans rfl; have hcz4_5 : w3.cell? ⟨gb101, 5, none⟩ = some (.slice A0_5 l0_5.length c0_5) := (blk_cell BK101.out 5).trans rfl; have hcz4_6 : w3.cell? ⟨gb101, 6, none⟩ = some (.slice A0_6 l0_6.length c0_6) := (blk_cell BK101.out 6).trans rfl; have hfz4_0 := blk_frozen BK101.out 0; have hfz4_1 := blk_frozen BK101.out 1; have hfz4_2 := blk_frozen BK101.out 2; have hfz4_3 := blk_frozen BK101.out 3; have hfz4_4 := blk_frozen BK101.out 4; have hfz4_5 := blk_frozen BK101.out 5; have hfz4_6 := blk_frozen BK101.out 6)); go_upto_block 0 with (first | ((with_reducible refine gate_dst (N := 1) rfl ?_); refine box_event ?hg (N := 1) ?hd (cs := #[.int .i64 a0_0, .bool a0_1, .slice A0_2 l0_2.length c0_2, .slice A0_3 l0_3.length c0_3, .slice A0_4 l0_4.length c0_4, .slice A0_5 l0_5.length c0_5, .slice A0_6 l0_6.length c0_6]) (t := 27) ?hr ?_; (case hd => rfl); (case hg => rfl); (case hr => first | (go_simp; done) | (go_simp; rfl)); intro gb101 hg w3 hbox hb; have n0_ := Aside0.mk (below_step (by repeat (first | (with_reducible first | exact HB.out | apply below_alloc | apply pw_below_drewN | apply below_drew1) | exact HB.out)) hb); have n1_ := Aside0.mk (hbox); have n2_ := Aside0.mk ((by rw [hg]; exact (below_size (by repeat (first | (with_reducible first | exact HB.out | apply below_alloc | apply pw_below_drewN | apply below_drew1) | exact HB.out))) : w.heap.size ≤ gb101)); have n3_ := Aside0.mk ((by rw [hg]; exact (below_size (by repeat (first | (with_reducible first | exact HB.out | apply below_alloc | apply pw_below_drewN | apply below_drew1) | exact HB.out))) : w.heap.size ≤ gb101)); clear HB; have HB := n0_; have BK101 := n1_; have GW101 := n2_; have GE101 := n3_; clear n0_ n1_ n2_ n3_; clear hb hbox hg; have hcz4_0 : w3.cell? ⟨gb101, 0, none⟩ = some (.int .i64 a0_0) := (blk_cell BK101.out 0).trans rfl; have hcz4_1 : w3.cell? ⟨gb101, 1, none⟩ = some (.bool a0_1) := (blk_cell BK101.out 1).trans rfl; have hcz4_2 : w3.cell? ⟨gb101, 2, none⟩ = some (.slice A0_2 l0_2.length c0_2) := (blk_cell BK101.out 2).trans rfl; have hcz4_3 : w3.cell? ⟨gb101, 3, none⟩ = some (.slice A0_3 l0_3.length c0_3) := (blk_cell BK101.out 3).trans rfl; have hcz4_4 : w3.cell? ⟨gb101, 4, none⟩ = some (.slice A0_4 l0_4.length c0_4) := (blk_cell BK101.out 4).trans rfl; have hcz4_5 : w3.cell? ⟨gb101, 5, none⟩ = some (.slice A0_5 l0_5.length c0_5) := (blk_cell BK101.out 5).trans rfl; have hcz4_6 : w3.cell? ⟨gb101, 6, none⟩ = some (.slice A0_6 l0_6.length c0_6) := (blk_cell BK101.out 6).trans rfl; have hfz4_0 := blk_frozen BK101.out 0; have hfz4_1 := blk_frozen BK101.out 1; have hfz4_2 := blk_frozen BK101.out 2; have hfz4_3 := blk_frozen BK101.out 3; have hfz4_4 := blk_frozen BK101.out 4; have hfz4_5 := blk_frozen BK101.out 5; have hfz4_6 := blk_frozen BK101.out 6)))
 (try simp only [Act.put, List.setIfInBounds_toArray, List.set_cons_zero, List.set_cons_succ])
 go_cut [3] (fun v3 wc => ∃ (kq : Nat) (x3_1 : Int), v3 = .int .i64 x3_1 ∧ Aside0 (greenwoodref23_Small.j1 kq x3_1 a0_0 a0_1 l0_2 l0_3 l0_4 l0_5 l0_6 = some r) ∧ Aside0 (kq ≤ k) ∧ Aside0 (wc.heap[gb101]? = some (.cells #[.int .i64 a0_0, .bool a0_1, (.slice A0_2 l0_2.length c0_2), (.slice A0_3 l0_3.length c0_3), (.slice A0_4 l0_4.length c0_4), (.slice A0_5 l0_5.length c0_5), (.slice A0_6 l0_6.length c0_6)] 27 (0, 0))) ∧ Aside0 (Below w.heap.size w wc))
 case first =>
  have H := HC2.out
  clear HC2
  have H' := Aside0.mk H
  clear H
  go_wp2
  repeat (go_quiet (fail); try go_wp2)
  go_loopg [3, 4] k (fun kq v3 v4 w' => ∃ (x3_1 : Int) (x4_1 : Int), v3 = .int .i64 x3_1 ∧ v4 = .int .i64 x4_1 ∧ Aside0 (greenwoodref23_Small.l0 kq x3_1 x4_1 a0_0 a0_1 l0_2 l0_3 l0_4 l0_5 l0_6 = some r) ∧ Aside0 (kq ≤ k) ∧ Aside0 (w'.heap[gb101]? = some (.cells #[.int .i64 a0_0, .bool a0_1, (.slice A0_2 l0_2.length c0_2), (.slice A0_3 l0_3.length c0_3), (.slice A0_4 l0_4.length c0_4), (.slice A0_5 l0_5.length c0_5), (.slice A0_6 l0_6.length c0_6)] 27 (0, 0))) ∧ Aside0 (Below w.heap.size w w'))
  case atStart => exact ⟨(wrap64 ((wrap64 ((wrap64 ((wrap64 ((l0_2.length : Int) + (l0_3.length : Int))) + (l0_4.length : Int))) + (l0_5.length : Int))) + (l0_6.length : Int))), (0), (by first | rfl | (simp; done) | (simp [*]; done)), (by first | rfl | (simp; done) | (simp [*]; done)), H', ⟨Nat.le_refl _⟩, ⟨by (with_reducible repeat (first | refine blk_drewN ?_ _ | refine blk_drew ?_ | refine blk_alloc ?_ _)); exact BK101.out⟩, ⟨by repeat (first | (with_reducible first | exact HB.out | apply below_alloc | apply pw_below_drewN | apply below_drew1 | refine below_set ?_ GE101.out) | exact HB.out)⟩⟩
  case round =>
   clear H'
   try clear p2
   try clear hcz4_0
   try clear hcz4_1
   try clear hcz4_2
   try clear hcz4_3
   try clear hcz4_4
   try clear hcz4_5
   try clear hcz4_6
   try clear hfz4_0
   try clear hfz4_1
   try clear hfz4_2
   try clear hfz4_3
   try clear hfz4_4
   try clear hfz4_5
   try clear hfz4_6
   obtain ⟨x3_1, x4_1, rfl, rfl, HA, HK1, BK101, HB⟩ := hrel
   cases gk with
   | zero => exact absurd HA.out (by simp [greenwoodref23_Small.l0])
   | succ k1 =>
    have H := HA.out
    clear HA
    simp only [greenwoodref23_Small.l0] at H
    by_cases c5 : x4_1 < (l0_4.length : Int)
    ·rw [if_pos c5] at H
     have c5b0 : decide (x4_1 < (l0_4.length : Int)) = true := decide_eq_true c5
     clear c5
     (first | rw [c5b0] | (simp only [i64_w, i32_w]; rw [c5b0]) | skip)
     by_cases c6 : x3_1 < 1000
     ·rw [if_pos c6] at H
      have c6b0 : decide (x3_1 < 1000) = true := decide_eq_true c6
      clear c6
      by_cases c7 : 0 ≤ x4_1
      ·rw [if_pos c7] at H
       have c7b0 : decide (0 ≤ x4_1) = true := decide_eq_true c7
       clear c7
       have H' := Aside0.mk H
       clear H
       have hcz8_0 : wr.cell? ⟨gb101, 0, none⟩ = some (.int .i64 a0_0) := (blk_cell BK101.out 0).trans rfl
       have hcz8_1 : wr.cell? ⟨gb101, 1, none⟩ = some (.bool a0_1) := (blk_cell BK101.out 1).trans rfl
       have hcz8_2 : wr.cell? ⟨gb101, 2, none⟩ = some (.slice A0_2 l0_2.length c0_2) := (blk_cell BK101.out 2).trans rfl
       have hcz8_3 : wr.cell? ⟨gb101, 3, none⟩ = some (.slice A0_3 l0_3.length c0_3) := (blk_cell BK101.out 3).trans rfl
       have hcz8_4 : wr.cell? ⟨gb101, 4, none⟩ = some (.slice A0_4 l0_4.length c0_4) := (blk_cell BK101.out 4).trans rfl
       have hcz8_5 : wr.cell? ⟨gb101, 5, none⟩ = some (.slice A0_5 l0_5.length c0_5) := (blk_cell BK101.out 5).trans rfl
       have hcz8_6 : wr.cell? ⟨gb101, 6, none⟩ = some (.slice A0_6 l0_6.length c0_6) := (blk_cell BK101.out 6).trans rfl
       have hfz8_0 := blk_frozen BK101.out 0
       have hfz8_1 := blk_frozen BK101.out 1
       have hfz8_2 := blk_frozen BK101.out 2
       have hfz8_3 := blk_frozen BK101.out 3
       have hfz8_4 := blk_frozen BK101.out 4
       have hfz8_5 := blk_frozen BK101.out 5
       have hfz8_6 := blk_frozen BK101.out 6
       have p102 : 0 ≤ (x4_1 : Int) := of_decide_eq_true (by first | (with_reducible assumption) | assumption)
       have q102 : x4_1 < (l0_4.length : Int) := of_decide_eq_true (by first | (with_reducible assumption) | assumption)
       obtain ⟨ad102, A102_0, c102_0, e102, hx102_0, hl102_0, hi102_0⟩ := at_L1 HR0_4.out x4_1 p102 q102
       cases e102
       replace hx102_0 := (HB.out.cell (World.block_lt_of_cell? w _ hx102_0)).trans hx102_0
       have HR102_0 := Aside0.mk hi102_0
       have HC102_0 := Aside0.mk hl102_0
       clear hi102_0 hl102_0
       replace p102 := eq_true p102
       replace q102 := eq_true q102
       go_wp2
       repeat (go_quiet (fail); try go_wp2)
       go_roundg k1
       case measure => have := HK1.out; omega
       case rel => exact ⟨(wrap64 (x3_1 + ((rd_L1 l0_4 x4_1).length : Int))), (wrap64 (x4_1 + 1)), (by first | rfl | (simp; done) | (simp [*]; done)), (by first | rfl | (simp; done) | (simp [*]; done)), H', ⟨by have := HK1.out; omega⟩, ⟨by (with_reducible repeat (first | refine blk_drewN ?_ _ | refine blk_drew ?_ | refine blk_alloc ?_ _)); exact BK101.out⟩, ⟨by repeat (first | (with_reducible first | exact HB.out | apply below_alloc | apply pw_below_drewN | apply below_drew1 | refine below_set ?_ GE101.out) | exact HB.out)⟩⟩
      ·rw [if_neg c7] at H
       exact absurd H (by simp)
     ·rw [if_neg c6] at H
      have c6b0 : decide (x3_1 < 1000) = false := decide_eq_false c6
      clear c6
      have H' := Aside0.mk H
      clear H
      have hcz9_0 : wr.cell? ⟨gb101, 0, none⟩ = some (.int .i64 a0_0) := (blk_cell BK101.out 0).trans rfl
      have hcz9_1 : wr.cell? ⟨gb101, 1, none⟩ = some (.bool a0_1) := (blk_cell BK101.out 1).trans rfl
      have hcz9_2 : wr.cell? ⟨gb101, 2, none⟩ = some (.slice A0_2 l0_2.length c0_2) := (blk_cell BK101.out 2).trans rfl
      have hcz9_3 : wr.cell? ⟨gb101, 3, none⟩ = some (.slice A0_3 l0_3.length c0_3) := (blk_cell BK101.out 3).trans rfl
      have hcz9_4 : wr.cell? ⟨gb101, 4, none⟩ = some (.slice A0_4 l0_4.length c0_4) := (blk_cell BK101.out 4).trans rfl
      have hcz9_5 : wr.cell? ⟨gb101, 5, none⟩ = some (.slice A0_5 l0_5.length c0_5) := (blk_cell BK101.out 5).trans rfl
      have hcz9_6 : wr.cell? ⟨gb101, 6, none⟩ = some (.slice A0_6 l0_6.length c0_6) := (blk_cell BK101.out 6).trans rfl
      have hfz9_0 := blk_frozen BK101.out 0
      have hfz9_1 := blk_frozen BK101.out 1
      have hfz9_2 := blk_frozen BK101.out 2
      have hfz9_3 := blk_frozen BK101.out 3
      have hfz9_4 := blk_frozen BK101.out 4
      have hfz9_5 := blk_frozen BK101.out 5
      have hfz9_6 := blk_frozen BK101.out 6
      go_wp2
      repeat (go_quiet (fail); try go_wp2)
      go_meet
      case rel => exact ⟨_, (x3_1), (by first | rfl | (simp; done) | (simp [*]; done)), H', ⟨by have := HK1.out; first | omega | exact Nat.le_refl _⟩, ⟨by (with_reducible repeat (first | refine blk_drewN ?_ _ | refine blk_drew ?_ | refine blk_alloc ?_ _)); exact BK101.out⟩, ⟨by repeat (first | (with_reducible first | exact HB.out | apply below_alloc | apply pw_below_drewN | apply below_drew1 | refine below_set ?_ GE101.out) | exact HB.out)⟩⟩
    ·rw [if_neg c5] at H
     have c5b0 : decide (x4_1 < (l0_4.length : Int)) = false := decide_eq_false c5
     clear c5
     (first | rw [c5b0] | (simp only [i64_w, i32_w]; rw [c5b0]) | skip)
     have H' := Aside0.mk H
     clear H
     have hcz10_0 : wr.cell? ⟨gb101, 0, none⟩ = some (.int .i64 a0_0) := (blk_cell BK101.out 0).trans rfl
     have hcz10_1 : wr.cell? ⟨gb101, 1, none⟩ = some (.bool a0_1) := (blk_cell BK101.out 1).trans rfl
     have hcz10_2 : wr.cell? ⟨gb101, 2, none⟩ = some (.slice A0_2 l0_2.length c0_2) := (blk_cell BK101.out 2).trans rfl
     have hcz10_3 : wr.cell? ⟨gb101, 3, none⟩ = some (.slice A0_3 l0_3.length c0_3) := (blk_cell BK101.out 3).trans rfl
     have hcz10_4 : wr.cell? ⟨gb101, 4, none⟩ = some (.slice A0_4 l0_4.length c0_4) := (blk_cell BK101.out 4).trans rfl
     have hcz10_5 : wr.cell? ⟨gb101, 5, none⟩ = some (.slice A0_5 l0_5.length c0_5) := (blk_cell BK101.out 5).trans rfl
     have hcz10_6 : wr.cell? ⟨gb101, 6, none⟩ = some (.slice A0_6 l0_6.length c0_6) := (blk_cell BK101.out 6).trans rfl
     have hfz10_0 := blk_frozen BK101.out 0
     have hfz10_1 := blk_frozen BK101.out 1
     have hfz10_2 := blk_frozen BK101.out 2
     have hfz10_3 := blk_frozen BK101.out 3
     have hfz10_4 := blk_frozen BK101.out 4
     have hfz10_5 := blk_frozen BK101.out 5
     have hfz10_6 := blk_frozen BK101.out 6
     go_wp2
     repeat (go_quiet (fail); try go_wp2)
     go_meet
     case rel => exact ⟨_, (x3_1), (by first | rfl | (simp; done) | (simp [*]; done)), H', ⟨by have := HK1.out; first | omega | exact Nat.le_refl _⟩, ⟨by (with_reducible repeat (first | refine blk_drewN ?_ _ | refine blk_drew ?_ | refine blk_alloc ?_ _)); exact BK101.out⟩, ⟨by repeat (first | (with_reducible first | exact HB.out | apply below_alloc | apply pw_below_drewN | apply below_drew1 | refine below_set ?_ GE101.out) | exact HB.out)⟩⟩
 case rest =>
  clear HC2
  try clear c1
  try clear p1
  try clear q1
  try clear hx1
  try clear p2
  try clear c5
  try clear c5b0
  try clear c6
  try clear c6b0
  try clear p6
  try clear c7
  try clear c7b0
  try clear c10
  try clear p10
  try clear q10
  try clear hx10
  try clear hcz10_0
  try clear hcz10_1
  try clear hcz10_2
  try clear hcz10_3
  try clear hcz10_4
  try clear hcz10_5
  try clear hcz10_6
  try clear hcz4_0
  try clear hcz4_1
  try clear hcz4_2
  try clear hcz4_3
  try clear hcz4_4
  try clear hcz4_5
  try clear hcz4_6
  try clear hcz8_0
  try clear hcz8_1
  try clear hcz8_2
  try clear hcz8_3
  try clear hcz8_4
  try clear hcz8_5
  try clear hcz8_6
  try clear hcz9_0
  try clear hcz9_1
  try clear hcz9_2
  try clear hcz9_3
  try clear hcz9_4
  try clear hcz9_5
  try clear hcz9_6
  try clear hfz10_0
  try clear hfz10_1
  try clear hfz10_2
  try clear hfz10_3
  try clear hfz10_4
  try clear hfz10_5
  try clear hfz10_6
  try clear hfz4_0
  try clear hfz4_1
  try clear hfz4_2
  try clear hfz4_3
  try clear hfz4_4
  try clear hfz4_5
  try clear hfz4_6
  try clear hfz8_0
  try clear hfz8_1
  try clear hfz8_2
  try clear hfz8_3
  try clear hfz8_4
  try clear hfz8_5
  try clear hfz8_6
  try clear hfz9_0
  try clear hfz9_1
  try clear hfz9_2
  try clear hfz9_3
  try clear hfz9_4
  try clear hfz9_5
  try clear hfz9_6
  try clear hx102_0
  try clear p102
  try clear p2
  try clear q102
  obtain ⟨kq, x3_1, rfl, HA, HJ1, BK101, HB⟩ := hcut
  cases kq with
  | zero => exact absurd HA.out (by simp [greenwoodref23_Small.j1])
  | succ kj1 =>
   have H := HA.out
   clear HA
   simp only [greenwoodref23_Small.j1] at H
   have HC11 := Aside0.mk H
   clear H
   go_upto_block 2 with (fail)
   repeat (go_quiet (fail); go_upto_block 2 with (fail))
   go_cut [3] (fun v3 wc => ∃ (kq : Nat) (x3_10 : Int), v3 = .int .i64 x3_10 ∧ Aside0 (greenwoodref23_Small.j3 kq x3_10 a0_0 a0_1 l0_2 l0_3 l0_4 l0_5 l0_6 = some r) ∧ Aside0 (kq ≤ kj1) ∧ Aside0 (wc.heap[gb101]? = some (.cells #[.int .i64 a0_0, .bool a0_1, (.slice A0_2 l0_2.length c0_2), (.slice A0_3 l0_3.length c0_3), (.slice A0_4 l0_4.length c0_4), (.slice A0_5 l0_5.length c0_5), (.slice A0_6 l0_6.length c0_6)] 27 (0, 0))) ∧ Aside0 (Below w.heap.size w wc))
   case first =>
    have H := HC11.out
    clear HC11
    have H' := Aside0.mk H
    clear H
    go_wp2
    repeat (go_quiet (fail); try go_wp2)
    go_loopg [3, 5] kj1 (fun kq v3 v5 w' => ∃ (x3_2 : Int) (x5_2 : Int), v3 = .int .i64 x3_2 ∧ v5 = .int .i64 x5_2 ∧ Aside0 (greenwoodref23_Small.l1 kq x3_2 x5_2 a0_0 a0_1 l0_2 l0_3 l0_4 l0_5 l0_6 = some r) ∧ Aside0 (kq ≤ kj1) ∧ Aside0 (w'.heap[gb101]? = some (.cells #[.int .i64 a0_0, .bool a0_1, (.slice A0_2 l0_2.length c0_2), (.slice A0_3 l0_3.length c0_3), (.slice A0_4 l0_4.length c0_4), (.slice A0_5 l0_5.length c0_5), (.slice A0_6 l0_6.length c0_6)] 27 (0, 0))) ∧ Aside0 (Below w.heap.size w w'))
    case atStart => exact ⟨(x3_1), (0), (by first | rfl | (simp; done) | (simp [*]; done)), (by first | rfl | (simp; done) | (simp [*]; done)), H', ⟨Nat.le_refl _⟩, ⟨by (with_reducible repeat (first | refine blk_drewN ?_ _ | refine blk_drew ?_ | refine blk_alloc ?_ _)); exact BK101.out⟩, ⟨by repeat (first | (with_reducible first | exact HB.out | apply below_alloc | apply pw_below_drewN | apply below_drew1 | refine below_set ?_ GE101.out) | exact HB.out)⟩⟩
    case round =>
     clear H'
     try clear c1
     try clear p1
     try clear q1
     try clear hx1
     try clear p2
     try clear c5
     try clear c5b0
     try clear c6
     try clear c6b0
     try clear p6
     try clear c7
     try clear c7b0
     try clear c10
     try clear p10
     try clear q10
     try clear hx10
     try clear hcz10_0
     try clear hcz10_1
     try clear hcz10_2
     try clear hcz10_3
     try clear hcz10_4
     try clear hcz10_5
     try clear hcz10_6
     try clear hcz4_0
     try clear hcz4_1
     try clear hcz4_2
     try clear hcz4_3
     try clear hcz4_4
     try clear hcz4_5
     try clear hcz4_6
     try clear hcz8_0
     try clear hcz8_1
     try clear hcz8_2
     try clear hcz8_3
     try clear hcz8_4
     try clear hcz8_5
     try clear hcz8_6
     try clear hcz9_0
     try clear hcz9_1
     try clear hcz9_2
     try clear hcz9_3
     try clear hcz9_4
     try clear hcz9_5
     try clear hcz9_6
     try clear hfz10_0
     try clear hfz10_1
     try clear hfz10_2
     try clear hfz10_3
     try clear hfz10_4
     try clear hfz10_5
     try clear hfz10_6
     try clear hfz4_0
     try clear hfz4_1
     try clear hfz4_2
     try clear hfz4_3
     try clear hfz4_4
     try clear hfz4_5
     try clear hfz4_6
     try clear hfz8_0
     try clear hfz8_1
     try clear hfz8_2
     try clear hfz8_3
     try clear hfz8_4
     try clear hfz8_5
     try clear hfz8_6
     try clear hfz9_0
     try clear hfz9_1
     try clear hfz9_2
     try clear hfz9_3
     try clear hfz9_4
     try clear hfz9_5
     try clear hfz9_6
     try clear hx102_0
     try clear p1
     try clear p10
     try clear p102
     try clear p2
     try clear p6
     try clear q1
     try clear q10
     try clear q102
     obtain ⟨x3_2, x5_2, rfl, rfl, HA, HK2, BK101, HB⟩ := hrel
     cases gk with
     | zero => exact absurd HA.out (by simp [greenwoodref23_Small.l1])
     | succ k2 =>
      have H := HA.out
      clear HA
      simp only [greenwoodref23_Small.l1] at H
      by_cases c12 : x5_2 < (l0_5.length : Int)
      ·rw [if_pos c12] at H
       have c12b0 : decide (x5_2 < (l0_5.length : Int)) = true := decide_eq_true c12
       clear c12
       (first | rw [c12b0] | (simp only [i64_w, i32_w]; rw [c12b0]) | skip)
       by_cases c13 : x3_2 < 1000
       ·rw [if_pos c13] at H
        have c13b0 : decide (x3_2 < 1000) = true := decide_eq_true c13
        clear c13
        by_cases c14 : 0 ≤ x5_2
        ·rw [if_pos c14] at H
         have c14b0 : decide (0 ≤ x5_2) = true := decide_eq_true c14
         clear c14
         have H' := Aside0.mk H
         clear H
         have hcz15_0 : wr.cell? ⟨gb101, 0, none⟩ = some (.int .i64 a0_0) := (blk_cell BK101.out 0).trans rfl
         have hcz15_1 : wr.cell? ⟨gb101, 1, none⟩ = some (.bool a0_1) := (blk_cell BK101.out 1).trans rfl
         have hcz15_2 : wr.cell? ⟨gb101, 2, none⟩ = some (.slice A0_2 l0_2.length c0_2) := (blk_cell BK101.out 2).trans rfl
         have hcz15_3 : wr.cell? ⟨gb101, 3, none⟩ = some (.slice A0_3 l0_3.length c0_3) := (blk_cell BK101.out 3).trans rfl
         have hcz15_4 : wr.cell? ⟨gb101, 4, none⟩ = some (.slice A0_4 l0_4.length c0_4) := (blk_cell BK101.out 4).trans rfl
         have hcz15_5 : wr.cell? ⟨gb101, 5, none⟩ = some (.slice A0_5 l0_5.length c0_5) := (blk_cell BK101.out 5).trans rfl
         have hcz15_6 : wr.cell? ⟨gb101, 6, none⟩ = some (.slice A0_6 l0_6.length c0_6) := (blk_cell BK101.out 6).trans rfl
         have hfz15_0 := blk_frozen BK101.out 0
         have hfz15_1 := blk_frozen BK101.out 1
         have hfz15_2 := blk_frozen BK101.out 2
         have hfz15_3 := blk_frozen BK101.out 3
         have hfz15_4 := blk_frozen BK101.out 4
         have hfz15_5 := blk_frozen BK101.out 5
         have hfz15_6 := blk_frozen BK101.out 6
         have p103 : 0 ≤ (x5_2 : Int) := of_decide_eq_true (by first | (with_reducible assumption) | assumption)
         have q103 : x5_2 < (l0_5.length : Int) := of_decide_eq_true (by first | (with_reducible assumption) | assumption)
         obtain ⟨ad103, A103_0, c103_0, A103_1, c103_1, A103_2, c103_2, e103, hx103_0, hx103_1, hx103_2, hl103_0, hi103_0, hl103_1, hi103_1, hl103_2, hi103_2⟩ := at_T41 HR0_5.out x5_2 p103 q103
         cases e103
         replace hx103_0 := (HB.out.cell (World.block_lt_of_cell? w _ hx103_0)).trans hx103_0
         replace hx103_1 := (HB.out.cell (World.block_lt_of_cell? w _ hx103_1)).trans hx103_1
         replace hx103_2 := (HB.out.cell (World.block_lt_of_cell? w _ hx103_2)).trans hx103_2
         have HR103_0 := Aside0.mk hi103_0
         have HC103_0 := Aside0.mk hl103_0
         clear hi103_0 hl103_0
         have HR103_1 := Aside0.mk hi103_1
         have HC103_1 := Aside0.mk hl103_1
         clear hi103_1 hl103_1
         have HR103_2 := Aside0.mk hi103_2
         have HC103_2 := Aside0.mk hl103_2
         clear hi103_2 hl103_2
         replace p103 := eq_true p103
         replace q103 := eq_true q103
         have p104 : 0 ≤ (x5_2 : Int) := of_decide_eq_true (by first | (with_reducible assumption) | assumption)
         have q104 : x5_2 < (l0_5.length : Int) := of_decide_eq_true (by first | (with_reducible assumption) | assumption)
         obtain ⟨ad104, A104_0, c104_0, A104_1, c104_1, A104_2, c104_2, e104, hx104_0, hx104_1, hx104_2, hl104_0, hi104_0, hl104_1, hi104_1, hl104_2, hi104_2⟩ := at_T41 HR0_5.out x5_2 p104 q104
         obtain rfl : ad103 = ad104 := (by injection e104)
         replace hx104_0 := (HB.out.cell (World.block_lt_of_cell? w _ hx104_0)).trans hx104_0
         replace hx104_1 := (HB.out.cell (World.block_lt_of_cell? w _ hx104_1)).trans hx104_1
         replace hx104_2 := (HB.out.cell (World.block_lt_of_cell? w _ hx104_2)).trans hx104_2
         have HR104_0 := Aside0.mk hi104_0
         have HC104_0 := Aside0.mk hl104_0
         clear hi104_0 hl104_0
         have HR104_1 := Aside0.mk hi104_1
         have HC104_1 := Aside0.mk hl104_1
         clear hi104_1 hl104_1
         have HR104_2 := Aside0.mk hi104_2
         have HC104_2 := Aside0.mk hl104_2
         clear hi104_2 hl104_2
         replace p104 := eq_true p104
         replace q104 := eq_true q104
         have ea_ := Option.some.inj (hx103_0.symm.trans hx104_0)
         injection ea_ with ea_ en_ ec_
         subst ea_
         subst ec_
         clear en_
         have ea_ := Option.some.inj (hx103_1.symm.trans hx104_1)
         injection ea_ with ea_ en_ ec_
         subst ea_
         subst ec_
         clear en_
         have ea_ := Option.some.inj (hx103_2.symm.trans hx104_2)
         injection ea_ with ea_ en_ ec_
         subst ea_
         subst ec_
         clear en_
         have p105 : 0 ≤ (x5_2 : Int) := of_decide_eq_true (by first | (with_reducible assumption) | assumption)
         have q105 : x5_2 < (l0_5.length : Int) := of_decide_eq_true (by first | (with_reducible assumption) | assumption)
         obtain ⟨ad105, A105_0, c105_0, A105_1, c105_1, A105_2, c105_2, e105, hx105_0, hx105_1, hx105_2, hl105_0, hi105_0, hl105_1, hi105_1, hl105_2, hi105_2⟩ := at_T41 HR0_5.out x5_2 p105 q105
         obtain rfl : ad103 = ad105 := (by injection e105)
         replace hx105_0 := (HB.out.cell (World.block_lt_of_cell? w _ hx105_0)).trans hx105_0
         replace hx105_1 := (HB.out.cell (World.block_lt_of_cell? w _ hx105_1)).trans hx105_1
         replace hx105_2 := (HB.out.cell (World.block_lt_of_cell? w _ hx105_2)).trans hx105_2
         have HR105_0 := Aside0.mk hi105_0
         have HC105_0 := Aside0.mk hl105_0
         clear hi105_0 hl105_0
         have HR105_1 := Aside0.mk hi105_1
         have HC105_1 := Aside0.mk hl105_1
         clear hi105_1 hl105_1
         have HR105_2 := Aside0.mk hi105_2
         have HC105_2 := Aside0.mk hl105_2
         clear hi105_2 hl105_2
         replace p105 := eq_true p105
         replace q105 := eq_true q105
         have ea_ := Option.some.inj (hx103_0.symm.trans hx105_0)
         injection ea_ with ea_ en_ ec_
         subst ea_
         subst ec_
         clear en_
         have ea_ := Option.some.inj (hx103_1.symm.trans hx105_1)
         injection ea_ with ea_ en_ ec_
         subst ea_
         subst ec_
         clear en_
         have ea_ := Option.some.inj (hx103_2.symm.trans hx105_2)
         injection ea_ with ea_ en_ ec_
         subst ea_
         subst ec_
         clear en_
         go_wp2
         repeat (go_quiet (fail); try go_wp2)
         go_roundg k2
         case measure => have := HJ1.out; have := HK2.out; omega
         case rel => exact ⟨(wrap64 (x3_2 + (wrap64 ((wrap64 ((((rd_T41 l0_5 x5_2).f0).length : Int) + (((rd_T41 l0_5 x5_2).f1).length : Int))) + (((rd_T41 l0_5 x5_2).f2).length : Int))))), (wrap64 (x5_2 + 1)), (by first | rfl | (simp; done) | (simp [*]; done)), (by first | rfl | (simp; done) | (simp [*]; done)), H', ⟨by have := HJ1.out; have := HK2.out; omega⟩, ⟨by (with_reducible repeat (first | refine blk_drewN ?_ _ | refine blk_drew ?_ | refine blk_alloc ?_ _)); exact BK101.out⟩, ⟨by repeat (first | (with_reducible first | exact HB.out | apply below_alloc | apply pw_below_drewN | apply below_drew1 | refine below_set ?_ GE101.out) | exact HB.out)⟩⟩
        ·rw [if_neg c14] at H
         exact absurd H (by simp)
       ·rw [if_neg c13] at H
        have c13b0 : decide (x3_2 < 1000) = false := decide_eq_false c13
        clear c13
        have H' := Aside0.mk H
        clear H
        have hcz16_0 : wr.cell? ⟨gb101, 0, none⟩ = some (.int .i64 a0_0) := (blk_cell BK101.out 0).trans rfl
        have hcz16_1 : wr.cell? ⟨gb101, 1, none⟩ = some (.bool a0_1) := (blk_cell BK101.out 1).trans rfl
        have hcz16_2 : wr.cell? ⟨gb101, 2, none⟩ = some (.slice A0_2 l0_2.length c0_2) := (blk_cell BK101.out 2).trans rfl
        have hcz16_3 : wr.cell? ⟨gb101, 3, none⟩ = some (.slice A0_3 l0_3.length c0_3) := (blk_cell BK101.out 3).trans rfl
        have hcz16_4 : wr.cell? ⟨gb101, 4, none⟩ = some (.slice A0_4 l0_4.length c0_4) := (blk_cell BK101.out 4).trans rfl
        have hcz16_5 : wr.cell? ⟨gb101, 5, none⟩ = some (.slice A0_5 l0_5.length c0_5) := (blk_cell BK101.out 5).trans rfl
        have hcz16_6 : wr.cell? ⟨gb101, 6, none⟩ = some (.slice A0_6 l0_6.length c0_6) := (blk_cell BK101.out 6).trans rfl
        have hfz16_0 := blk_frozen BK101.out 0
        have hfz16_1 := blk_frozen BK101.out 1
        have hfz16_2 := blk_frozen BK101.out 2
        have hfz16_3 := blk_frozen BK101.out 3
        have hfz16_4 := blk_frozen BK101.out 4
        have hfz16_5 := blk_frozen BK101.out 5
        have hfz16_6 := blk_frozen BK101.out 6
        go_wp2
        repeat (go_quiet (fail); try go_wp2)
        go_meet
        case rel => exact ⟨_, (x3_2), (by first | rfl | (simp; done) | (simp [*]; done)), H', ⟨by have := HJ1.out; have := HK2.out; first | omega | exact Nat.le_refl _⟩, ⟨by (with_reducible repeat (first | refine blk_drewN ?_ _ | refine blk_drew ?_ | refine blk_alloc ?_ _)); exact BK101.out⟩, ⟨by repeat (first | (with_reducible first | exact HB.out | apply below_alloc | apply pw_below_drewN | apply below_drew1 | refine below_set ?_ GE101.out) | exact HB.out)⟩⟩
      ·rw [if_neg c12] at H
       have c12b0 : decide (x5_2 < (l0_5.length : Int)) = false := decide_eq_false c12
       clear c12
       (first | rw [c12b0] | (simp only [i64_w, i32_w]; rw [c12b0]) | skip)
       have H' := Aside0.mk H
       clear H
       have hcz17_0 : wr.cell? ⟨gb101, 0, none⟩ = some (.int .i64 a0_0) := (blk_cell BK101.out 0).trans rfl
       have hcz17_1 : wr.cell? ⟨gb101, 1, none⟩ = some (.bool a0_1) := (blk_cell BK101.out 1).trans rfl
       have hcz17_2 : wr.cell? ⟨gb101, 2, none⟩ = some (.slice A0_2 l0_2.length c0_2) := (blk_cell BK101.out 2).trans rfl
       have hcz17_3 : wr.cell? ⟨gb101, 3, none⟩ = some (.slice A0_3 l0_3.length c0_3) := (blk_cell BK101.out 3).trans rfl
       have hcz17_4 : wr.cell? ⟨gb101, 4, none⟩ = some (.slice A0_4 l0_4.length c0_4) := (blk_cell BK101.out 4).trans rfl
       have hcz17_5 : wr.cell? ⟨gb101, 5, none⟩ = some (.slice A0_5 l0_5.length c0_5) := (blk_cell BK101.out 5).trans rfl
       have hcz17_6 : wr.cell? ⟨gb101, 6, none⟩ = some (.slice A0_6 l0_6.length c0_6) := (blk_cell BK101.out 6).trans rfl
       have hfz17_0 := blk_frozen BK101.out 0
       have hfz17_1 := blk_frozen BK101.out 1
       have hfz17_2 := blk_frozen BK101.out 2
       have hfz17_3 := blk_frozen BK101.out 3
       have hfz17_4 := blk_frozen BK101.out 4
       have hfz17_5 := blk_frozen BK101.out 5
       have hfz17_6 := blk_frozen BK101.out 6
       go_wp2
       repeat (go_quiet (fail); try go_wp2)
       go_meet
       case rel => exact ⟨_, (x3_2), (by first | rfl | (simp; done) | (simp [*]; done)), H', ⟨by have := HJ1.out; have := HK2.out; first | omega | exact Nat.le_refl _⟩, ⟨by (with_reducible repeat (first | refine blk_drewN ?_ _ | refine blk_drew ?_ | refine blk_alloc ?_ _)); exact BK101.out⟩, ⟨by repeat (first | (with_reducible first | exact HB.out | apply below_alloc | apply pw_below_drewN | apply below_drew1 | refine below_set ?_ GE101.out) | exact HB.out)⟩⟩
   case rest =>
    clear HC11
    try clear c1
    try clear p1
    try clear q1
    try clear hx1
    try clear p2
    try clear c5
    try clear c5b0
    try clear c6
    try clear c6b0
    try clear p6
    try clear c7
    try clear c7b0
    try clear c10
    try clear p10
    try clear q10
    try clear hx10
    try clear c12
    try clear c12b0
    try clear c13
    try clear c13b0
    try clear c14
    try clear c14b0
    try clear hcz10_0
    try clear hcz10_1
    try clear hcz10_2
    try clear hcz10_3
    try clear hcz10_4
    try clear hcz10_5
    try clear hcz10_6
    try clear hcz15_0
    try clear hcz15_1
    try clear hcz15_2
    try clear hcz15_3
    try clear hcz15_4
    try clear hcz15_5
    try clear hcz15_6
    try clear hcz16_0
    try clear hcz16_1
    try clear hcz16_2
    try clear hcz16_3
    try clear hcz16_4
    try clear hcz16_5
    try clear hcz16_6
    try clear hcz17_0
    try clear hcz17_1
    try clear hcz17_2
    try clear hcz17_3
    try clear hcz17_4
    try clear hcz17_5
    try clear hcz17_6
    try clear hcz4_0
    try clear hcz4_1
    try clear hcz4_2
    try clear hcz4_3
    try clear hcz4_4
    try clear hcz4_5
    try clear hcz4_6
    try clear hcz8_0
    try clear hcz8_1
    try clear hcz8_2
    try clear hcz8_3
    try clear hcz8_4
    try clear hcz8_5
    try clear hcz8_6
    try clear hcz9_0
    try clear hcz9_1
    try clear hcz9_2
    try clear hcz9_3
    try clear hcz9_4
    try clear hcz9_5
    try clear hcz9_6
    try clear hfz10_0
    try clear hfz10_1
    try clear hfz10_2
    try clear hfz10_3
    try clear hfz10_4
    try clear hfz10_5
    try clear hfz10_6
    try clear hfz15_0
    try clear hfz15_1
    try clear hfz15_2
    try clear hfz15_3
    try clear hfz15_4
    try clear hfz15_5
    try clear hfz15_6
    try clear hfz16_0
    try clear hfz16_1
    try clear hfz16_2
    try clear hfz16_3
    try clear hfz16_4
    try clear hfz16_5
    try clear hfz16_6
    try clear hfz17_0
    try clear hfz17_1
    try clear hfz17_2
    try clear hfz17_3
    try clear hfz17_4
    try clear hfz17_5
    try clear hfz17_6
    try clear hfz4_0
    try clear hfz4_1
    try clear hfz4_2
    try clear hfz4_3
    try clear hfz4_4
    try clear hfz4_5
    try clear hfz4_6
    try clear hfz8_0
    try clear hfz8_1
    try clear hfz8_2
    try clear hfz8_3
    try clear hfz8_4
    try clear hfz8_5
    try clear hfz8_6
    try clear hfz9_0
    try clear hfz9_1
    try clear hfz9_2
    try clear hfz9_3
    try clear hfz9_4
    try clear hfz9_5
    try clear hfz9_6
    try clear hx102_0
    try clear hx103_0
    try clear hx103_1
    try clear hx103_2
    try clear hx104_0
    try clear hx104_1
    try clear hx104_2
    try clear hx105_0
    try clear hx105_1
    try clear hx105_2
    try clear p1
    try clear p10
    try clear p102
    try clear p103
    try clear p104
    try clear p105
    try clear p2
    try clear p6
    try clear q1
    try clear q10
    try clear q102
    try clear q103
    try clear q104
    try clear q105
    obtain ⟨kq, x3_10, rfl, HA, HJ10, BK101, HB⟩ := hcut
    cases kq with
    | zero => exact absurd HA.out (by simp [greenwoodref23_Small.j3])
    | succ kj10 =>
     have H := HA.out
     clear HA
     simp only [greenwoodref23_Small.j3] at H
     have H' := Aside0.mk H
     clear H
     go_wp2
     repeat (go_quiet (fail); try go_wp2)
     go_loopg [3, 6] kj10 (fun kq v3 v6 w' => ∃ (x3_3 : Int) (x6_3 : Int), v3 = .int .i64 x3_3 ∧ v6 = .int .i64 x6_3 ∧ Aside0 (greenwoodref23_Small.l2 kq x3_3 x6_3 a0_0 a0_1 l0_2 l0_3 l0_4 l0_5 l0_6 = some r) ∧ Aside0 (kq ≤ kj10) ∧ Aside0 (w'.heap[gb101]? = some (.cells #[.int .i64 a0_0, .bool a0_1, (.slice A0_2 l0_2.length c0_2), (.slice A0_3 l0_3.length c0_3), (.slice A0_4 l0_4.length c0_4), (.slice A0_5 l0_5.length c0_5), (.slice A0_6 l0_6.length c0_6)] 27 (0, 0))) ∧ Aside0 (Below w.heap.size w w'))
     case atStart => exact ⟨(x3_10), (0), (by first | rfl | (simp; done) | (simp [*]; done)), (by first | rfl | (simp; done) | (simp [*]; done)), H', ⟨Nat.le_refl _⟩, ⟨by (with_reducible repeat (first | refine blk_drewN ?_ _ | refine blk_drew ?_ | refine blk_alloc ?_ _)); exact BK101.out⟩, ⟨by repeat (first | (with_reducible first | exact HB.out | apply below_alloc | apply pw_below_drewN | apply below_drew1 | refine below_set ?_ GE101.out) | exact HB.out)⟩⟩
     case round =>
      clear H'
      try clear c1
      try clear p1
      try clear q1
      try clear hx1
      try clear p2
      try clear c5
      try clear c5b0
      try clear c6
      try clear c6b0
      try clear p6
      try clear c7
      try clear c7b0
      try clear c10
      try clear p10
      try clear q10
      try clear hx10
      try clear c12
      try clear c12b0
      try clear c13
      try clear c13b0
      try clear c14
      try clear c14b0
      try clear hcz10_0
      try clear hcz10_1
      try clear hcz10_2
      try clear hcz10_3
      try clear hcz10_4
      try clear hcz10_5
      try clear hcz10_6
      try clear hcz15_0
      try clear hcz15_1
      try clear hcz15_2
      try clear hcz15_3
      try clear hcz15_4
      try clear hcz15_5
      try clear hcz15_6
      try clear hcz16_0
      try clear hcz16_1
      try clear hcz16_2
      try clear hcz16_3
      try clear hcz16_4
      try clear hcz16_5
      try clear hcz16_6
      try clear hcz17_0
      try clear hcz17_1
      try clear hcz17_2
      try clear hcz17_3
      try clear hcz17_4
      try clear hcz17_5
      try clear hcz17_6
      try clear hcz4_0
      try clear hcz4_1
      try clear hcz4_2
      try clear hcz4_3
      try clear hcz4_4
      try clear hcz4_5
      try clear hcz4_6
      try clear hcz8_0
      try clear hcz8_1
      try clear hcz8_2
      try clear hcz8_3
      try clear hcz8_4
      try clear hcz8_5
      try clear hcz8_6
      try clear hcz9_0
      try clear hcz9_1
      try clear hcz9_2
      try clear hcz9_3
      try clear hcz9_4
      try clear hcz9_5
      try clear hcz9_6
      try clear hfz10_0
      try clear hfz10_1
      try clear hfz10_2
      try clear hfz10_3
      try clear hfz10_4
      try clear hfz10_5
      try clear hfz10_6
      try clear hfz15_0
      try clear hfz15_1
      try clear hfz15_2
      try clear hfz15_3
      try clear hfz15_4
      try clear hfz15_5
      try clear hfz15_6
      try clear hfz16_0
      try clear hfz16_1
      try clear hfz16_2
      try clear hfz16_3
      try clear hfz16_4
      try clear hfz16_5
      try clear hfz16_6
      try clear hfz17_0
      try clear hfz17_1
      try clear hfz17_2
      try clear hfz17_3
      try clear hfz17_4
      try clear hfz17_5
      try clear hfz17_6
      try clear hfz4_0
      try clear hfz4_1
      try clear hfz4_2
      try clear hfz4_3
      try clear hfz4_4
      try clear hfz4_5
      try clear hfz4_6
      try clear hfz8_0
      try clear hfz8_1
      try clear hfz8_2
      try clear hfz8_3
      try clear hfz8_4
      try clear hfz8_5
      try clear hfz8_6
      try clear hfz9_0
      try clear hfz9_1
      try clear hfz9_2
      try clear hfz9_3
      try clear hfz9_4
      try clear hfz9_5
      try clear hfz9_6
      try clear hx102_0
      try clear hx103_0
      try clear hx103_1
      try clear hx103_2
      try clear hx104_0
      try clear hx104_1
      try clear hx104_2
      try clear hx105_0
      try clear hx105_1
      try clear hx105_2
      try clear p1
      try clear p10
      try clear p102
      try clear p103
      try clear p104
      try clear p105
      try clear p2
      try clear p6
      try clear q1
      try clear q10
      try clear q102
      try clear q103
      try clear q104
      try clear q105
      obtain ⟨x3_3, x6_3, rfl, rfl, HA, HK3, BK101, HB⟩ := hrel
      cases gk with
      | zero => exact absurd HA.out (by simp [greenwoodref23_Small.l2])
      | succ k3 =>
       have H := HA.out
       clear HA
       simp only [greenwoodref23_Small.l2] at H
       by_cases c18 : x6_3 < (l0_6.length : Int)
       ·rw [if_pos c18] at H
        have c18b0 : decide (x6_3 < (l0_6.length : Int)) = true := decide_eq_true c18
        clear c18
        by_cases c19 : x3_3 < 1000
        ·rw [if_pos c19] at H
         have c19b0 : decide (x3_3 < 1000) = true := decide_eq_true c19
         clear c19
         by_cases c20 : 0 ≤ x6_3
         ·rw [if_pos c20] at H
          have c20b0 : decide (0 ≤ x6_3) = true := decide_eq_true c20
          clear c20
          have H' := Aside0.mk H
          clear H
          have hcz21_0 : wr.cell? ⟨gb101, 0, none⟩ = some (.int .i64 a0_0) := (blk_cell BK101.out 0).trans rfl
          have hcz21_1 : wr.cell? ⟨gb101, 1, none⟩ = some (.bool a0_1) := (blk_cell BK101.out 1).trans rfl
          have hcz21_2 : wr.cell? ⟨gb101, 2, none⟩ = some (.slice A0_2 l0_2.length c0_2) := (blk_cell BK101.out 2).trans rfl
          have hcz21_3 : wr.cell? ⟨gb101, 3, none⟩ = some (.slice A0_3 l0_3.length c0_3) := (blk_cell BK101.out 3).trans rfl
          have hcz21_4 : wr.cell? ⟨gb101, 4, none⟩ = some (.slice A0_4 l0_4.length c0_4) := (blk_cell BK101.out 4).trans rfl
          have hcz21_5 : wr.cell? ⟨gb101, 5, none⟩ = some (.slice A0_5 l0_5.length c0_5) := (blk_cell BK101.out 5).trans rfl
          have hcz21_6 : wr.cell? ⟨gb101, 6, none⟩ = some (.slice A0_6 l0_6.length c0_6) := (blk_cell BK101.out 6).trans rfl
          have hfz21_0 := blk_frozen BK101.out 0
          have hfz21_1 := blk_frozen BK101.out 1
          have hfz21_2 := blk_frozen BK101.out 2
          have hfz21_3 := blk_frozen BK101.out 3
          have hfz21_4 := blk_frozen BK101.out 4
          have hfz21_5 := blk_frozen BK101.out 5
          have hfz21_6 := blk_frozen BK101.out 6
          have p106 : 0 ≤ (x6_3 : Int) := of_decide_eq_true (by first | (with_reducible assumption) | assumption)
          have q106 : x6_3 < (l0_6.length : Int) := of_decide_eq_true (by first | (with_reducible assumption) | assumption)
          obtain ⟨ad106, A106_0, c106_0, e106, hx106_0, hx106_1, hl106_0, hi106_0⟩ := at_T43 HR0_6.out x6_3 p106 q106
          cases e106
          replace hx106_0 := (HB.out.cell (World.block_lt_of_cell? w _ hx106_0)).trans hx106_0
          replace hx106_1 := (HB.out.cell (World.block_lt_of_cell? w _ hx106_1)).trans hx106_1
          have HR106_0 := Aside0.mk hi106_0
          have HC106_0 := Aside0.mk hl106_0
          clear hi106_0 hl106_0
          replace p106 := eq_true p106
          replace q106 := eq_true q106
          go_wp2
          repeat (go_quiet (fail); try go_wp2)
          go_roundg k3
          case measure => have := HJ1.out; have := HJ10.out; have := HK3.out; omega
          case rel => exact ⟨(wrap64 (x3_3 + (((rd_T43 l0_6 x6_3).f0).length : Int))), (wrap64 (x6_3 + 1)), (by first | rfl | (simp; done) | (simp [*]; done)), (by first | rfl | (simp; done) | (simp [*]; done)), H', ⟨by have := HJ1.out; have := HJ10.out; have := HK3.out; omega⟩, ⟨by (with_reducible repeat (first | refine blk_drewN ?_ _ | refine blk_drew ?_ | refine blk_alloc ?_ _)); exact BK101.out⟩, ⟨by repeat (first | (with_reducible first | exact HB.out | apply below_alloc | apply pw_below_drewN | apply below_drew1 | refine below_set ?_ GE101.out) | exact HB.out)⟩⟩
         ·rw [if_neg c20] at H
          exact absurd H (by simp)
        ·rw [if_neg c19] at H
         have c19b0 : decide (x3_3 < 1000) = false := decide_eq_false c19
         clear c19
         obtain rfl := Option.some.inj H
         have hcz22_0 : wr.cell? ⟨gb101, 0, none⟩ = some (.int .i64 a0_0) := (blk_cell BK101.out 0).trans rfl
         have hcz22_1 : wr.cell? ⟨gb101, 1, none⟩ = some (.bool a0_1) := (blk_cell BK101.out 1).trans rfl
         have hcz22_2 : wr.cell? ⟨gb101, 2, none⟩ = some (.slice A0_2 l0_2.length c0_2) := (blk_cell BK101.out 2).trans rfl
         have hcz22_3 : wr.cell? ⟨gb101, 3, none⟩ = some (.slice A0_3 l0_3.length c0_3) := (blk_cell BK101.out 3).trans rfl
         have hcz22_4 : wr.cell? ⟨gb101, 4, none⟩ = some (.slice A0_4 l0_4.length c0_4) := (blk_cell BK101.out 4).trans rfl
         have hcz22_5 : wr.cell? ⟨gb101, 5, none⟩ = some (.slice A0_5 l0_5.length c0_5) := (blk_cell BK101.out 5).trans rfl
         have hcz22_6 : wr.cell? ⟨gb101, 6, none⟩ = some (.slice A0_6 l0_6.length c0_6) := (blk_cell BK101.out 6).trans rfl
         have hfz22_0 := blk_frozen BK101.out 0
         have hfz22_1 := blk_frozen BK101.out 1
         have hfz22_2 := blk_frozen BK101.out 2
         have hfz22_3 := blk_frozen BK101.out 3
         have hfz22_4 := blk_frozen BK101.out 4
         have hfz22_5 := blk_frozen BK101.out 5
         have hfz22_6 := blk_frozen BK101.out 6
         go_wp2
         repeat (go_quiet (fail); try go_wp2)
         go_ret
         exact ⟨by first | rfl | (simp [errW_none, errW_some] <;> rfl) | (simp [*, errW_none, errW_some] <;> rfl), by repeat (first | (with_reducible first | exact HB.out | apply below_alloc | apply pw_below_drewN | apply below_drew1 | refine below_set ?_ GE101.out) | exact HB.out)⟩
       ·rw [if_neg c18] at H
        have c18b0 : decide (x6_3 < (l0_6.length : Int)) = false := decide_eq_false c18
        clear c18
        obtain rfl := Option.some.inj H
        have hcz23_0 : wr.cell? ⟨gb101, 0, none⟩ = some (.int .i64 a0_0) := (blk_cell BK101.out 0).trans rfl
        have hcz23_1 : wr.cell? ⟨gb101, 1, none⟩ = some (.bool a0_1) := (blk_cell BK101.out 1).trans rfl
        have hcz23_2 : wr.cell? ⟨gb101, 2, none⟩ = some (.slice A0_2 l0_2.length c0_2) := (blk_cell BK101.out 2).trans rfl
        have hcz23_3 : wr.cell? ⟨gb101, 3, none⟩ = some (.slice A0_3 l0_3.length c0_3) := (blk_cell BK101.out 3).trans rfl
        have hcz23_4 : wr.cell? ⟨gb101, 4, none⟩ = some (.slice A0_4 l0_4.length c0_4) := (blk_cell BK101.out 4).trans rfl
        have hcz23_5 : wr.cell? ⟨gb101, 5, none⟩ = some (.slice A0_5 l0_5.length c0_5) := (blk_cell BK101.out 5).trans rfl
        have hcz23_6 : wr.cell? ⟨gb101, 6, none⟩ = some (.slice A0_6 l0_6.length c0_6) := (blk_cell BK101.out 6).trans rfl
        have hfz23_0 := blk_frozen BK101.out 0
        have hfz23_1 := blk_frozen BK101.out 1
        have hfz23_2 := blk_frozen BK101.out 2
        have hfz23_3 := blk_frozen BK101.out 3
        have hfz23_4 := blk_frozen BK101.out 4
        have hfz23_5 := blk_frozen BK101.out 5
        have hfz23_6 := blk_frozen BK101.out 6
        go_wp2
        repeat (go_quiet (fail); try go_wp2)
        go_ret
        exact ⟨by first | rfl | (simp [errW_none, errW_some] <;> rfl) | (simp [*, errW_none, errW_some] <;> rfl), by repeat (first | (with_reducible first | exact HB.out | apply below_alloc | apply pw_below_drewN | apply below_drew1 | refine below_set ?_ GE101.out) | exact HB.out)⟩

end Go.Proofs.YtlekdhejgdfnpaaDoor.P
/- Layer 23: values of the document's Same and Small. -/
namespace Go.Proofs.YtlekdhejgdfnpaaDoor.P
open Go.RowKit Go.Proofs.YtlekdhejgdfnpaaDoorW.PrintWords Go.Proofs.YtlekdhejgdfnpaaDoorW.PrintLast Go.Proofs.YtlekdhejgdfnpaaDoorW.PrintMore

theorem wr1 {i n : Nat} (h : i < n) (hn : n ≤ 1000000) : wrap64 ((i : Int) + 1) = ((i + 1 : Nat) : Int) := by unfold wrap64; omega
theorem rdL {l : List (List Int)} {i : Nat} (h : i < l.length) : rd_L1 l (i : Int) = l[i] := by simp [rd_L1, List.getD_eq_getElem?_getD, List.getElem?_eq_getElem h]
theorem drop_iff {α : Type} {a b : List α} {i : Nat} (h : i < a.length) (h' : i < b.length) : a.drop i = b.drop i ↔ a[i] = b[i] ∧ a.drop (i + 1) = b.drop (i + 1) := by
 rw [List.drop_eq_getElem_cons h, List.drop_eq_getElem_cons h', List.cons.injEq]
/-! ### Lists -/
theorem lists_l1 (a b : List (List Int)) (i : Nat) (hi : i < a.length) (hj : i < b.length) (hl : a[i].length = b[i].length) (hn : a[i].length ≤ 1000000) (ha : a.length ≤ 1000000) (b0 : Bool) (H : Ev (fun k => greenwoodref13_Lists.l0 k a b ((i + 1 : Nat) : Int)) b0) :
 ∀ (d j : Nat), a[i].length - j = d → j ≤ a[i].length → ∃ r, Ev (fun k => greenwoodref13_Lists.l1 k a b (i : Int) (j : Int)) r ∧ (r = true ↔ a[i].drop j = b[i].drop j ∧ b0 = true) := by
 intro d
 induction d with
 | zero =>
  intro j h1 h2
  refine ⟨b0, Ev.step (fun k => by rw [greenwoodref13_Lists.l1]) ?_, ?_⟩
  ·refine Ev.ifp (by omega) (Ev.ifp (by omega) ?_)
   rw [rdL hi]
   refine Ev.ifn (by omega) ?_
   rw [wr1 hi ha]; exact H
  ·rw [List.drop_of_length_le (by omega), List.drop_of_length_le (by omega)]
   simp
 | succ d ih =>
  intro j h1 h2
  have hja : j < a[i].length := by omega
  have hjb : j < b[i].length := by omega
  by_cases he : a[i][j] = b[i][j]
  ·obtain ⟨r, hr, hiff⟩ := ih (j + 1) (by omega) (by omega)
   refine ⟨r, Ev.step (fun k => by rw [greenwoodref13_Lists.l1]) ?_, ?_⟩
   ·refine Ev.ifp (by omega) (Ev.ifp (by omega) ?_)
    rw [rdL hi, rdL hj]
    refine Ev.ifp (by omega) (Ev.ifp (by omega) (Ev.ifp (by omega) (Ev.ifp (by omega) ?_)))
    rw [rd_at hja, rd_at hjb, wr1 hja hn]
    exact Ev.ifp he hr
   ·rw [drop_iff hja hjb, hiff]
    exact ⟨fun h => ⟨⟨he, h.1⟩, h.2⟩, fun h => ⟨h.1.2, h.2⟩⟩
  ·refine ⟨false, Ev.step (fun k => by rw [greenwoodref13_Lists.l1]) ?_, ?_⟩
   ·refine Ev.ifp (by omega) (Ev.ifp (by omega) ?_)
    rw [rdL hi, rdL hj]
    refine Ev.ifp (by omega) (Ev.ifp (by omega) (Ev.ifp (by omega) (Ev.ifp (by omega) ?_)))
    rw [rd_at hja, rd_at hjb]
    exact Ev.ifn he (Ev.val rfl)
   ·rw [drop_iff hja hjb]
    exact ⟨fun h => absurd h (by decide), fun h => absurd h.1.1 he⟩
theorem lists_l0 (a b : List (List Int)) (hl : a.length = b.length) (ha : a.length ≤ 1000000) (hin : ∀ l ∈ a, l.length ≤ 1000000) : ∀ (d i : Nat), a.length - i = d → i ≤ a.length → ∃ r, Ev (fun k => greenwoodref13_Lists.l0 k a b (i : Int)) r ∧ (r = true ↔ a.drop i = b.drop i) := by
 intro d
 induction d with
 | zero =>
  intro i h1 h2
  refine ⟨true, Ev.step (fun k => by rw [greenwoodref13_Lists.l0]) (Ev.ifn (by omega) (Ev.val rfl)), ?_⟩
  rw [List.drop_of_length_le (by omega), List.drop_of_length_le (by omega)]; simp
 | succ d ih =>
  intro i h1 h2
  have hi : i < a.length := by omega
  have hj : i < b.length := by omega
  obtain ⟨b0, h0, hb0⟩ := ih (i + 1) (by omega) (by omega)
  by_cases hlen : a[i].length = b[i].length
  ·obtain ⟨r, hr, hiff⟩ := lists_l1 a b i hi hj hlen (hin _ (List.getElem_mem hi)) ha b0 h0 a[i].length 0 (by omega) (by omega)
   refine ⟨r, Ev.step (fun k => by rw [greenwoodref13_Lists.l0]) ?_, ?_⟩
   ·refine Ev.ifp (by omega) (Ev.ifp (by omega) (Ev.ifp (by omega) ?_))
    rw [rdL hi, rdL hj]
    exact Ev.ifp (by omega) hr
   ·rw [drop_iff hi hj, hiff, hb0]; simp
  ·refine ⟨false, Ev.step (fun k => by rw [greenwoodref13_Lists.l0]) ?_, ?_⟩
   ·refine Ev.ifp (by omega) (Ev.ifp (by omega) (Ev.ifp (by omega) ?_))
    rw [rdL hi, rdL hj]
    exact Ev.ifn (by omega) (Ev.val rfl)
   ·rw [drop_iff hi hj]
    exact ⟨fun h => absurd h (by decide), fun h => absurd (congrArg List.length h.1) hlen⟩
theorem lists_ev (a b : List (List Int)) (ha : a.length ≤ 1000000) (hin : ∀ l ∈ a, l.length ≤ 1000000) : ∃ r, Ev (fun k => greenwoodref13_Lists.f k a b) r ∧ (r = true ↔ a = b) := by
 unfold greenwoodref13_Lists.f
 by_cases hl : a.length = b.length
 ·obtain ⟨r, hr, hiff⟩ := lists_l0 a b hl ha hin a.length 0 (by omega) (by omega)
  exact ⟨r, Ev.ifp (by omega) hr, by simpa using hiff⟩
 ·exact ⟨false, Ev.ifn (by omega) (Ev.val rfl), fun h => absurd h (by decide), fun h => absurd (congrArg List.length h) hl⟩
/-! ### splits -/
theorem same15_l0 (a b : List Int) (hl : a.length = b.length) (hn : a.length ≤ 1000000) : ∀ (d i : Nat), a.length - i = d → i ≤ a.length → ∃ r, Ev (fun k => greenwoodref15_same.l0 k a b (i : Int)) r ∧ (r = true ↔ a.drop i = b.drop i) := by
 intro d
 induction d with
 | zero =>
  intro i h1 h2
  refine ⟨true, Ev.step (fun k => by rw [greenwoodref15_same.l0]) (Ev.ifn (by omega) (Ev.val rfl)), ?_⟩
  rw [List.drop_of_length_le (by omega), List.drop_of_length_le (by omega)]; simp
 | succ d ih =>
  intro i h1 h2
  have hi : i < a.length := by omega
  have hj : i < b.length := by omega
  obtain ⟨r, hr, hiff⟩ := ih (i + 1) (by omega) (by omega)
  by_cases he : a[i] = b[i]
  ·refine ⟨r, Ev.step (fun k => by rw [greenwoodref15_same.l0]) ?_, by rw [drop_iff hi hj, hiff]; exact ⟨fun h => ⟨he, h⟩, fun h => h.2⟩⟩
   refine Ev.ifp (by omega) (Ev.ifp (by omega) (Ev.ifp (by omega) ?_))
   rw [rd_at hi, rd_at hj, wr1 hi hn]
   exact Ev.ifp he hr
  ·refine ⟨false, Ev.step (fun k => by rw [greenwoodref15_same.l0]) ?_, by rw [drop_iff hi hj]; exact ⟨fun h => absurd h (by decide), fun h => absurd h.1 he⟩⟩
   refine Ev.ifp (by omega) (Ev.ifp (by omega) (Ev.ifp (by omega) ?_))
   rw [rd_at hi, rd_at hj]
   exact Ev.ifn he (Ev.val rfl)
theorem same15_ev (a b : List Int) (hn : a.length ≤ 1000000) : ∃ r, Ev (fun k => greenwoodref15_same.f k a b) r ∧ (r = true ↔ a = b) := by
 unfold greenwoodref15_same.f
 by_cases hl : a.length = b.length
 ·obtain ⟨r, hr, hiff⟩ := same15_l0 a b hl hn a.length 0 (by omega) (by omega)
  exact ⟨r, Ev.ifp (by omega) hr, by simpa using hiff⟩
 ·exact ⟨false, Ev.ifn (by omega) (Ev.val rfl), fun h => absurd h (by decide), fun h => absurd (congrArg List.length h) hl⟩
theorem spl_ext {a b : Spl} : a = b ↔ a.f0 = b.f0 ∧ a.f1 = b.f1 ∧ a.f2 = b.f2 := by
 obtain ⟨a0, a1, a2⟩ := a
 obtain ⟨b0, b1, b2⟩ := b
 simp
theorem cut_ext {a b : Cut} : a = b ↔ a.f1 = b.f1 ∧ a.f0 = b.f0 := by
 obtain ⟨a0, a1⟩ := a
 obtain ⟨b0, b1⟩ := b
 simp [And.comm]
def SplN (y : Spl) : Prop := y.f0.length ≤ 1000000 ∧ y.f1.length ≤ 1000000 ∧ y.f2.length ≤ 1000000
theorem spls_l0 (a b : List Spl) (hl : a.length = b.length) (ha : a.length ≤ 1000000) (hin : ∀ y ∈ a, SplN y) : ∀ (d i : Nat), a.length - i = d → i ≤ a.length → ∃ r, Ev (fun k => greenwoodref15_Same.l0 k a b (i : Int)) r ∧ (r = true ↔ a.drop i = b.drop i) := by
 intro d
 induction d with
 | zero =>
  intro i h1 h2
  refine ⟨true, Ev.step (fun k => by rw [greenwoodref15_Same.l0]) (Ev.ifn (by omega) (Ev.val rfl)), ?_⟩
  rw [List.drop_of_length_le (by omega), List.drop_of_length_le (by omega)]; simp
 | succ d ih =>
  intro i h1 h2
  have hi : i < a.length := by omega
  have hj : i < b.length := by omega
  obtain ⟨r, hr, hiff⟩ := ih (i + 1) (by omega) (by omega)
  obtain ⟨q0, q1, q2⟩ := hin _ (List.getElem_mem hi)
  obtain ⟨r0, e0, f0⟩ := same15_ev a[i].f0 b[i].f0 q0
  obtain ⟨r1, e1, f1⟩ := same15_ev a[i].f1 b[i].f1 q1
  obtain ⟨r2, e2, f2⟩ := same15_ev a[i].f2 b[i].f2 q2
  rw [drop_iff hi hj, spl_ext, ← f0, ← f1, ← f2, ← hiff]
  have go : ∀ r', Ev (fun k => if r0 = true then ((greenwoodref15_same.f k a[i].f1 b[i].f1).bind fun t210 => (if t210 = true then ((greenwoodref15_same.f k a[i].f2 b[i].f2).bind fun t213 => (if t213 = true then (greenwoodref15_Same.l0 k a b (wrap64 ((i : Int) + 1))) else (some false))) else (some false))) else (some false)) r' → Ev (fun k => greenwoodref15_Same.l0 k a b (i : Int)) r' := fun r' h => by
   refine Ev.step (fun k => by rw [greenwoodref15_Same.l0]) ?_
   refine Ev.ifp (by omega) (Ev.ifp (by omega) (Ev.ifp (by omega) ?_))
   rw [rd_41 hi, rd_41 hj]
   exact Ev.bind e0 h
  cases r0 with
  | false => exact ⟨false, go _ (Ev.ifn (by decide) (Ev.val rfl)), by simp⟩
  | true =>
   cases r1 with
   | false => exact ⟨false, go _ (Ev.ifp rfl (Ev.bind e1 (Ev.ifn (by decide) (Ev.val rfl)))), by simp⟩
   | true =>
    cases r2 with
    | false => exact ⟨false, go _ (Ev.ifp rfl (Ev.bind e1 (Ev.ifp rfl (Ev.bind e2 (Ev.ifn (by decide) (Ev.val rfl)))))), by simp⟩
    | true => exact ⟨r, go _ (Ev.ifp rfl (Ev.bind e1 (Ev.ifp rfl (Ev.bind e2 (Ev.ifp rfl (by rw [wr1 hi ha]; exact hr)))))), by simp⟩
theorem spls_ev (a b : List Spl) (ha : a.length ≤ 1000000) (hin : ∀ y ∈ a, SplN y) : ∃ r, Ev (fun k => greenwoodref15_Same.f k a b) r ∧ (r = true ↔ a = b) := by
 unfold greenwoodref15_Same.f
 by_cases hl : a.length = b.length
 ·obtain ⟨r, hr, hiff⟩ := spls_l0 a b hl ha hin a.length 0 (by omega) (by omega)
  exact ⟨r, Ev.ifp (by omega) hr, by simpa using hiff⟩
 ·exact ⟨false, Ev.ifn (by omega) (Ev.val rfl), fun h => absurd h (by decide), fun h => absurd (congrArg List.length h) hl⟩
/-! ### cuts -/
theorem cuts_l0 (a b : List Cut) (hl : a.length = b.length) (ha : a.length ≤ 1000000) (hin : ∀ y ∈ a, y.f0.length ≤ 1000000) : ∀ (d i : Nat), a.length - i = d → i ≤ a.length → ∃ r, Ev (fun k => greenwoodref23_Cuts.l0 k a b (i : Int)) r ∧ (r = true ↔ a.drop i = b.drop i) := by
 intro d
 induction d with
 | zero =>
  intro i h1 h2
  refine ⟨true, Ev.step (fun k => by rw [greenwoodref23_Cuts.l0]) (Ev.ifn (by omega) (Ev.val rfl)), ?_⟩
  rw [List.drop_of_length_le (by omega), List.drop_of_length_le (by omega)]; simp
 | succ d ih =>
  intro i h1 h2
  have hi : i < a.length := by omega
  have hj : i < b.length := by omega
  obtain ⟨r, hr, hiff⟩ := ih (i + 1) (by omega) (by omega)
  have e0 := same_ev a[i].f0 b[i].f0 (hin _ (List.getElem_mem hi))
  rw [drop_iff hi hj, cut_ext, ← hiff]
  by_cases hy : a[i].f1 = b[i].f1
  ·by_cases hs : a[i].f0 = b[i].f0
   ·rw [decide_eq_true hs] at e0
    refine ⟨r, Ev.step (fun k => by rw [greenwoodref23_Cuts.l0]) ?_, by simp [hy, hs]⟩
    refine Ev.ifp (by omega) (Ev.ifp (by omega) (Ev.ifp (by omega) ?_))
    rw [rd_43 hi, rd_43 hj]
    exact Ev.ifp hy (Ev.bind e0 (Ev.ifp rfl (by rw [wr1 hi ha]; exact hr)))
   ·rw [decide_eq_false hs] at e0
    refine ⟨false, Ev.step (fun k => by rw [greenwoodref23_Cuts.l0]) ?_, by simp [hs]⟩
    refine Ev.ifp (by omega) (Ev.ifp (by omega) (Ev.ifp (by omega) ?_))
    rw [rd_43 hi, rd_43 hj]
    exact Ev.ifp hy (Ev.bind e0 (Ev.ifn (by decide) (Ev.val rfl)))
  ·refine ⟨false, Ev.step (fun k => by rw [greenwoodref23_Cuts.l0]) ?_, by simp [hy]⟩
   refine Ev.ifp (by omega) (Ev.ifp (by omega) (Ev.ifp (by omega) ?_))
   rw [rd_43 hi, rd_43 hj]
   exact Ev.ifn hy (Ev.val rfl)
theorem cuts_ev (a b : List Cut) (ha : a.length ≤ 1000000) (hin : ∀ y ∈ a, y.f0.length ≤ 1000000) : ∃ r, Ev (fun k => greenwoodref23_Cuts.f k a b) r ∧ (r = true ↔ a = b) := by
 unfold greenwoodref23_Cuts.f
 by_cases hl : a.length = b.length
 ·obtain ⟨r, hr, hiff⟩ := cuts_l0 a b hl ha hin a.length 0 (by omega) (by omega)
  exact ⟨r, Ev.ifp (by omega) hr, by simpa using hiff⟩
 ·exact ⟨false, Ev.ifn (by omega) (Ev.val rfl), fun h => absurd h (by decide), fun h => absurd (congrArg List.length h) hl⟩
/-! ### Same -/
def LenN (S U : List Int) (Se : List (List Int)) (Sp : List Spl) (Cu : List Cut) : Prop :=
 S.length ≤ 1000000 ∧ U.length ≤ 1000000 ∧ Se.length ≤ 1000000 ∧ (∀ l ∈ Se, l.length ≤ 1000000) ∧ Sp.length ≤ 1000000 ∧ (∀ y ∈ Sp, SplN y) ∧ Cu.length ≤ 1000000 ∧ ∀ y ∈ Cu, y.f0.length ≤ 1000000
theorem sameA_ev (kd : Int) (no : Bool) (S U : List Int) (Se : List (List Int)) (Sp : List Spl) (Cu : List Cut) (kd' : Int) (no' : Bool) (S' U' : List Int) (Se' : List (List Int)) (Sp' : List Spl) (Cu' : List Cut) (h : LenN S U Se Sp Cu) :
 ∃ r, Ev (fun k => greenwoodref23_Same.f k kd no S U Se Sp Cu kd' no' S' U' Se' Sp' Cu') r ∧ (r = true ↔ kd = kd' ∧ no = no' ∧ S = S' ∧ U = U' ∧ Se = Se' ∧ Sp = Sp' ∧ Cu = Cu') := by
 obtain ⟨h1, h2, h3, h4, h5, h6, h7, h8⟩ := h
 unfold greenwoodref23_Same.f
 have eS := same_ev S S' h1
 have eU := same_ev U U' h2
 obtain ⟨r3, e3, f3⟩ := lists_ev Se Se' h3 h4
 obtain ⟨r4, e4, f4⟩ := spls_ev Sp Sp' h5 h6
 obtain ⟨r5, e5, f5⟩ := cuts_ev Cu Cu' h7 h8
 rw [← f3, ← f4, ← f5]
 by_cases hk : kd = kd'
 ·by_cases hn : no = no'
  ·by_cases hS : S = S'
   ·rw [decide_eq_true hS] at eS
    by_cases hU : U = U'
    ·rw [decide_eq_true hU] at eU
     cases r3 with
     | false => exact ⟨false, Ev.ifp hk (Ev.ifp (by simp [hn]) (Ev.bind eS (Ev.ifp rfl (Ev.bind eU (Ev.ifp rfl (Ev.bind e3 (Ev.ifn (by decide) (Ev.val rfl)))))))), by simp⟩
     | true =>
      cases r4 with
      | false => exact ⟨false, Ev.ifp hk (Ev.ifp (by simp [hn]) (Ev.bind eS (Ev.ifp rfl (Ev.bind eU (Ev.ifp rfl (Ev.bind e3 (Ev.ifp rfl (Ev.bind e4 (Ev.ifn (by decide) (Ev.val rfl)))))))))), by simp⟩
      | true => exact ⟨r5, Ev.ifp hk (Ev.ifp (by simp [hn]) (Ev.bind eS (Ev.ifp rfl (Ev.bind eU (Ev.ifp rfl (Ev.bind e3 (Ev.ifp rfl (Ev.bind e4 (Ev.ifp rfl (Ev.bind e5 (Ev.val rfl))))))))))), by simp [hk, hn, hS, hU]⟩
    ·rw [decide_eq_false hU] at eU
     exact ⟨false, Ev.ifp hk (Ev.ifp (by simp [hn]) (Ev.bind eS (Ev.ifp rfl (Ev.bind eU (Ev.ifn (by decide) (Ev.val rfl)))))), by simp [hU]⟩
   ·rw [decide_eq_false hS] at eS
    exact ⟨false, Ev.ifp hk (Ev.ifp (by simp [hn]) (Ev.bind eS (Ev.ifn (by decide) (Ev.val rfl)))), by simp [hS]⟩
  ·exact ⟨false, Ev.ifp hk (Ev.ifn (by simpa using hn) (Ev.val rfl)), by simp [hn]⟩
 ·exact ⟨false, Ev.ifn hk (Ev.val rfl), by simp [hk]⟩
/-! ### Small -/
def OkA (S U : List Int) (Se : List (List Int)) (Sp : List Spl) (Cu : List Cut) : Prop := S.length ≤ 140737488355328 ∧ U.length ≤ 140737488355328 ∧ Se.length ≤ 140737488355328 ∧ Sp.length ≤ 140737488355328 ∧ Cu.length ≤ 140737488355328
theorem wr2 {i n : Nat} (h : i < n) (hn : n ≤ 140737488355328) : wrap64 ((i : Int) + 1) = ((i + 1 : Nat) : Int) := by unfold wrap64; omega
section
variable (kd : Int) (no : Bool) (S U : List Int) (Se : List (List Int)) (Sp : List Spl) (Cu : List Cut)
theorem small_l2 (hc : Cu.length ≤ 140737488355328) : ∀ (d i : Nat) (n : Int), Cu.length - i = d → i ≤ Cu.length → ∃ r, Ev (fun k => greenwoodref23_Small.l2 k n (i : Int) kd no S U Se Sp Cu) r ∧ (1000 ≤ n → r = false) := by
 intro d
 induction d with
 | zero =>
  intro i n h1 h2
  exact ⟨decide (n ≤ 500), Ev.step (fun k => by rw [greenwoodref23_Small.l2]) (Ev.ifn (by omega) (Ev.val rfl)), fun h => decide_eq_false (by omega)⟩
 | succ d ih =>
  intro i n h1 h2
  by_cases hn : n < 1000
  ·obtain ⟨r, hr, _⟩ := ih (i + 1) (wrap64 (n + ((rd_T43 Cu (i : Int)).f0.length : Int))) (by omega) (by omega)
   refine ⟨r, Ev.step (fun k => by rw [greenwoodref23_Small.l2]) (Ev.ifp (by omega) (Ev.ifp hn (Ev.ifp (by omega) ?_))), fun h => by omega⟩
   rw [wr2 (show i < Cu.length by omega) hc]; exact hr
  ·exact ⟨decide (n ≤ 500), Ev.step (fun k => by rw [greenwoodref23_Small.l2]) (Ev.ifp (by omega) (Ev.ifn hn (Ev.val rfl))), fun h => decide_eq_false (by omega)⟩
theorem small_j3 (hc : Cu.length ≤ 140737488355328) (n : Int) : ∃ r, Ev (fun k => greenwoodref23_Small.j3 k n kd no S U Se Sp Cu) r ∧ (1000 ≤ n → r = false) := by
 obtain ⟨r, hr, h⟩ := small_l2 kd no S U Se Sp Cu hc Cu.length 0 n (by omega) (by omega)
 exact ⟨r, Ev.step (fun k => by rw [greenwoodref23_Small.j3]; rfl) hr, h⟩
theorem small_l1 (hp : Sp.length ≤ 140737488355328) (hc : Cu.length ≤ 140737488355328) : ∀ (d i : Nat) (n : Int), Sp.length - i = d → i ≤ Sp.length → ∃ r, Ev (fun k => greenwoodref23_Small.l1 k n (i : Int) kd no S U Se Sp Cu) r ∧ (1000 ≤ n → r = false) := by
 intro d
 induction d with
 | zero =>
  intro i n h1 h2
  obtain ⟨r, hr, h⟩ := small_j3 kd no S U Se Sp Cu hc n
  exact ⟨r, Ev.step (fun k => by rw [greenwoodref23_Small.l1]) (Ev.ifn (by omega) hr), h⟩
 | succ d ih =>
  intro i n h1 h2
  by_cases hn : n < 1000
  ·obtain ⟨r, hr, _⟩ := ih (i + 1) _ (by omega) (by omega)
   refine ⟨r, Ev.step (fun k => by rw [greenwoodref23_Small.l1]) (Ev.ifp (by omega) (Ev.ifp hn (Ev.ifp (by omega) ?_))), fun h => by omega⟩
   rw [wr2 (show i < Sp.length by omega) hp]; exact hr
  ·obtain ⟨r, hr, h⟩ := small_j3 kd no S U Se Sp Cu hc n
   exact ⟨r, Ev.step (fun k => by rw [greenwoodref23_Small.l1]) (Ev.ifp (by omega) (Ev.ifn hn hr)), h⟩
theorem small_j1 (hp : Sp.length ≤ 140737488355328) (hc : Cu.length ≤ 140737488355328) (n : Int) : ∃ r, Ev (fun k => greenwoodref23_Small.j1 k n kd no S U Se Sp Cu) r ∧ (1000 ≤ n → r = false) := by
 obtain ⟨r, hr, h⟩ := small_l1 kd no S U Se Sp Cu hp hc Sp.length 0 n (by omega) (by omega)
 exact ⟨r, Ev.step (fun k => by rw [greenwoodref23_Small.j1]; rfl) hr, h⟩
theorem small_l0 (he : Se.length ≤ 140737488355328) (hp : Sp.length ≤ 140737488355328) (hc : Cu.length ≤ 140737488355328) : ∀ (d i : Nat) (n : Int), Se.length - i = d → i ≤ Se.length → ∃ r, Ev (fun k => greenwoodref23_Small.l0 k n (i : Int) kd no S U Se Sp Cu) r ∧ (1000 ≤ n → r = false) := by
 intro d
 induction d with
 | zero =>
  intro i n h1 h2
  obtain ⟨r, hr, h⟩ := small_j1 kd no S U Se Sp Cu hp hc n
  exact ⟨r, Ev.step (fun k => by rw [greenwoodref23_Small.l0]) (Ev.ifn (by omega) hr), h⟩
 | succ d ih =>
  intro i n h1 h2
  by_cases hn : n < 1000
  ·obtain ⟨r, hr, _⟩ := ih (i + 1) _ (by omega) (by omega)
   refine ⟨r, Ev.step (fun k => by rw [greenwoodref23_Small.l0]) (Ev.ifp (by omega) (Ev.ifp hn (Ev.ifp (by omega) ?_))), fun h => by omega⟩
   rw [wr2 (show i < Se.length by omega) he]; exact hr
  ·obtain ⟨r, hr, h⟩ := small_j1 kd no S U Se Sp Cu hp hc n
   exact ⟨r, Ev.step (fun k => by rw [greenwoodref23_Small.l0]) (Ev.ifp (by omega) (Ev.ifn hn hr)), h⟩
theorem small_ev (h : OkA S U Se Sp Cu) : ∃ r, Ev (fun k => greenwoodref23_Small.f k kd no S U Se Sp Cu) r ∧ (r = true → S.length ≤ 1000 ∧ U.length ≤ 1000 ∧ Se.length ≤ 1000 ∧ Sp.length ≤ 1000 ∧ Cu.length ≤ 1000) := by
 obtain ⟨h1, h2, h3, h4, h5⟩ := h
 unfold greenwoodref23_Small.f
 have e1 : wrap64 ((S.length : Int) + (U.length : Int)) = (S.length : Int) + (U.length : Int) := by unfold wrap64; omega
 have e2 : wrap64 ((S.length : Int) + (U.length : Int) + (Se.length : Int)) = (S.length : Int) + (U.length : Int) + (Se.length : Int) := by unfold wrap64; omega
 have e3 : wrap64 ((S.length : Int) + (U.length : Int) + (Se.length : Int) + (Sp.length : Int)) = (S.length : Int) + (U.length : Int) + (Se.length : Int) + (Sp.length : Int) := by unfold wrap64; omega
 have e4 : wrap64 ((S.length : Int) + (U.length : Int) + (Se.length : Int) + (Sp.length : Int) + (Cu.length : Int)) = (S.length : Int) + (U.length : Int) + (Se.length : Int) + (Sp.length : Int) + (Cu.length : Int) := by unfold wrap64; omega
 rw [e1, e2, e3, e4]
 obtain ⟨r, hr, hf⟩ := small_l0 kd no S U Se Sp Cu h3 h4 h5 Se.length 0 ((S.length : Int) + (U.length : Int) + (Se.length : Int) + (Sp.length : Int) + (Cu.length : Int)) (by omega) (by omega)
 refine ⟨r, hr, fun ht => ?_⟩
 have : ¬ 1000 ≤ (S.length : Int) + (U.length : Int) + (Se.length : Int) + (Sp.length : Int) + (Cu.length : Int) := fun h => by rw [hf h] at ht; cases ht
 omega
end
end Go.Proofs.YtlekdhejgdfnpaaDoor.P
/- Layer 23: what the laws stand on: bytes as strings, the closed values of Encode, Decode and Check. -/
namespace Go.Proofs.YtlekdhejgdfnpaaDoor.P
open Go.RowKit Go.Proofs.YtlekdhejgdfnpaaDoorW.PrintWords Go.Proofs.YtlekdhejgdfnpaaDoorW.PrintLast Go.Proofs.YtlekdhejgdfnpaaDoorW.PrintMore
open Wr

/-! ### an answer's bytes -/
def mkV (kd : Int) (no : Bool) (S U : List Int) (Se : List (List Int)) (Sp : List Spl) (Cu : List Cut) : AnsV := ⟨kd, if no = true then 1 else 0, S, U, Se, Sp, Cu⟩
theorem flat_LE {ls : List (List Int)} (h : ∀ l ∈ ls, LP l) : listsB ls = ls.flatMap LE := by
 unfold listsB
 induction ls with
 | nil => rfl
 | cons a r ih => rw [List.flatMap_cons, List.flatMap_cons, ih (fun l hl => h l (List.mem_cons_of_mem _ hl)), lists_LE (h a (List.mem_cons_self ..))]
theorem flat_congr {α : Type} {f g : α → List Int} : ∀ (l : List α), (∀ x ∈ l, f x = g x) → l.flatMap f = l.flatMap g := by
 intro l
 induction l with
 | nil => intro _; rfl
 | cons a r ih => intro h; rw [List.flatMap_cons, List.flatMap_cons, h a (List.mem_cons_self ..), ih (fun x hx => h x (List.mem_cons_of_mem _ hx))]
theorem enc_eq {kd : Int} {no : Bool} {S U : List Int} {Se : List (List Int)} {Sp : List Spl} {Cu : List Cut} (h : okAns kd S U Se Sp Cu = true) : encAns kd no S U Se Sp Cu = encV (mkV kd no S U Se Sp Cu) := by
 obtain ⟨-, h2, h3, ⟨-, h5⟩, ⟨-, h7⟩, -, h9⟩ := (ok_iff (mkV kd no S U Se Sp Cu)).1 h
 unfold encAns encV ofV e0 e1 e2 e3 e4 e5 cntE mkV
 dsimp only
 have hS : listsB [S, U] = LE S ++ LE U := by rw [flat_LE (ls := [S, U]) (fun l hl => by rcases List.mem_cons.1 hl with rfl | hl; (exact h2); (rcases List.mem_cons.1 hl with rfl | hl; (exact h3); (cases hl)))]; simp
 have hSe : listsB Se = Se.flatMap LE := flat_LE (fun l hl => h5 l hl)
 have hSp : Sp.flatMap (fun y => listsB [y.f0, y.f1, y.f2]) = Sp.flatMap SE := flat_congr Sp (fun y hy => by
  obtain ⟨q0, q1, q2⟩ := h7 y hy
  rw [flat_LE (fun l hl => by
   rcases List.mem_cons.1 hl with rfl | hl
   ·exact q0
   ·rcases List.mem_cons.1 hl with rfl | hl
    ·exact q1
    ·rcases List.mem_cons.1 hl with rfl | hl
     ·exact q2
     ·cases hl)]
  simp [SE])
 have hCu : Cu.flatMap (fun c => listsB [c.f0] ++ encI c.f1) = Cu.flatMap CE := flat_congr Cu (fun c hc => by
  rw [flat_LE (fun l hl => by
   rcases List.mem_cons.1 hl with rfl | hl
   ·exact (h9 c hc).1
   ·cases hl)]
  simp [CE])
 rw [hS, hSe, hSp, hCu]
 simp only [List.append_assoc]
theorem ok_len {x : AnsV} (h : okV x = true) : LenN x.S x.U x.Se x.Sp x.Cu := by
 obtain ⟨-, h2, h3, ⟨h4, h5⟩, ⟨h6, h7⟩, h8, h9⟩ := (ok_iff x).1 h
 dsimp only at *
 exact ⟨by have := h2.1; omega, by have := h3.1; omega, by omega, fun l hl => by have := (h5 l hl).1; omega, by omega, fun y hy => ⟨by have := (h7 y hy).1.1; omega, by have := (h7 y hy).2.1.1; omega, by have := (h7 y hy).2.2.1; omega⟩, by omega, fun y hy => by have := (h9 y hy).1.1; omega⟩
/-! ### the closed values -/
theorem encode_val {kd : Int} {no : Bool} {S U : List Int} {Se : List (List Int)} {Sp : List Spl} {Cu : List Cut} (h4 : Se.length ≤ 1000000) (h5 : Sp.length ≤ 1000000) (h6 : Cu.length ≤ 1000000) :
 answer_Encode.f kd no S U Se Sp Cu = some (strOfNums (if okV (mkV kd no S U Se Sp Cu) = true then encV (mkV kd no S U Se Sp Cu) else [])) := by
 unfold answer_Encode.f
 rw [if_pos ⟨h4, h5, h6⟩]
 have e : okV (mkV kd no S U Se Sp Cu) = okAns kd S U Se Sp Cu := rfl
 rw [e]
 by_cases h : okAns kd S U Se Sp Cu = true
 ·rw [if_pos h, if_pos h, enc_eq h]
 ·rw [if_neg h, if_neg h]
theorem size_sn {l : List Int} : (strOfNums l).size = l.length := by
 have : (strOfNums l).size = (strOfNums l).data.size := rfl
 rw [this]
 simp [strOfNums]
end Go.Proofs.YtlekdhejgdfnpaaDoor.P
/- layer 23's fixed calls: what their walk stands on. -/
namespace Go.Proofs.YtlekdhejgdfnpaaDoor.P
open Go.RowKit Go.Proofs.YtlekdhejgdfnpaaDoorW.PrintWords Go.Proofs.YtlekdhejgdfnpaaDoorW.PrintLast Go.Proofs.YtlekdhejgdfnpaaDoorW.PrintMore
open Wr

theorem C_zero {α : Type} (d : Kd α) (w : World) (A : Option Addr) : Kd.C d w A 0 [] := ⟨rfl, by simp, fun h => absurd h (by simp)⟩
theorem C_sing {α : Type} (d : Kd α) {w : World} {g : Nat} {x : α} {cs : List Value} {t : TypeId} (hh : w.heap[g]? = some (.cells cs.toArray t (0, 0))) (hl : cs.length = d.sz) (hK : d.K w x cs) : Kd.C d w (some ⟨g, 0, none⟩) 1 [x] := by
 refine ⟨rfl, by simp, fun _ => ⟨_, rfl, fun j p hj => ?_⟩⟩
 have hj0 : j = 0 := by have := (List.getElem?_eq_some_iff.1 hj).1; simpa using this
 subst hj0
 obtain rfl : x = p := by simpa using hj
 refine ⟨cs, hl, hK, fun i u hu => ?_⟩
 have e : ((⟨g, 0, none⟩ : Addr).add (0 * d.sz + i)) = ⟨g, i, none⟩ := by simp [Addr.add]; omega
 rw [e, blk_cell hh]
 simpa using hu
theorem C_two2 {w : World} {g : Nat} {a b : Int} {t : TypeId} (hh : w.heap[g]? = some (.cells #[.int .i64 a, .int .i64 b] t (0, 0))) : Kd.C (Kd.int .i64) w (some ⟨g, 0, none⟩) 2 [a, b] := by
 refine ⟨rfl, by simp, fun _ => ⟨_, rfl, fun j p hj => ?_⟩⟩
 refine ⟨[.int .i64 p], rfl, rfl, fun i u hu => ?_⟩
 have hi : i = 0 := by have := (List.getElem?_eq_some_iff.1 hu).1; simpa using this
 subst hi
 have hu' : Value.int .i64 p = u := by simpa using hu
 subst hu'
 match j, hj with
 | 0, hj => obtain rfl : a = p := by simpa using hj
            exact (blk_cell hh 0).trans rfl
 | 1, hj => obtain rfl : b = p := by simpa using hj
            exact (blk_cell hh 1).trans rfl
 | j + 2, hj => simp at hj
theorem check_C {W : World} {A2 A3 A4 A5 A6 : Option Addr} {c2 c3 c4 c5 c6 : Nat} (a0 : Int) (no : Bool) (S U : List Int) (Se : List (List Int)) (Sp : List Spl) (Cu : List Cut)
 (h2 : Kd.C (Kd.int .i64) W A2 S.length S) (k2 : S.length ≤ c2) (h3 : Kd.C (Kd.int .i64) W A3 U.length U) (k3 : U.length ≤ c3) (h4 : Kd.C (Kd.slice 3 (Kd.int .i64)) W A4 Se.length Se) (k4 : Se.length ≤ c4) (h5 : Kd.C k41 W A5 Sp.length Sp) (k5 : Sp.length ≤ c5) (h6 : Kd.C k43 W A6 Cu.length Cu) (k6 : Cu.length ≤ c6)
 (he : Se.length ≤ 1000000) (hs : Sp.length ≤ 1000000) (hc : Cu.length ≤ 1000000) :
 Calls Tryd.prog 11 #[.agg #[.int .i64 a0, .bool no, .slice A2 S.length c2, .slice A3 U.length c3, .slice A4 Se.length c4, .slice A5 Sp.length c5, .slice A6 Cu.length c6]] W fun e w' => e = .returned (.int .i64 (if okAns a0 S U Se Sp Cu = true then 0 else 230)) ∧ Below W.heap.size W w' := by
 obtain ⟨k, hk⟩ := (check_ev a0 no S U Se Sp Cu he hs hc).rounds
 exact answer_Check.calls k a0 no (fun _ => True) A2 c2 S (fun _ => True) A3 c3 U (fun _ => True) A4 c4 Se (fun _ => True) A5 c5 Sp (fun _ => True) A6 c6 Cu _ W (V_of_C (Kd.heap_int _) h2 k2) (V_of_C (Kd.heap_int _) h3 k3) (V_of_C (Kd.heap_slice _ (Kd.heap_int _)) h4 k4) (V_of_C k41_heap h5 k5) (V_of_C k43_heap h6 k6) hk
theorem enc_zero (W : World) : Calls Tryd.prog 13 #[.agg #[.int .i64 0, .bool false, .slice none 0 0, .slice none 0 0, .slice none 0 0, .slice none 0 0, .slice none 0 0]] W fun e w' => e = .returned (.string ⟨#[0, 0, 0, 0, 0, 0, 0]⟩) ∧ Below W.heap.size W w' :=
 answer_Encode.calls 0 false none 0 [] none 0 [] none 0 [] none 0 [] none 0 [] _ W (C_zero _ _ _) (Nat.le_refl _) (C_zero _ _ _) (Nat.le_refl _) (C_zero _ _ _) (Nat.le_refl _) (C_zero _ _ _) (Nat.le_refl _) (C_zero _ _ _) (Nat.le_refl _) (by kernel_rfl)
theorem chk_six (W : World) : Calls Tryd.prog 11 #[.agg #[.int .i64 6, .bool false, .slice none 0 0, .slice none 0 0, .slice none 0 0, .slice none 0 0, .slice none 0 0]] W fun e w' => e = .returned (.int .i64 230) ∧ Below W.heap.size W w' :=
 check_C 6 false [] [] [] [] [] (C_zero _ _ _) (Nat.le_refl _) (C_zero _ _ _) (Nat.le_refl _) (C_zero _ _ _) (Nat.le_refl _) (C_zero _ _ _) (Nat.le_refl _) (C_zero _ _ _) (Nat.le_refl _) (by simp) (by simp) (by simp)
theorem same_zero (W : World) (A2 A3 A4 A5 A6 : Option Addr) (c2 c3 c4 c5 c6 : Nat) : Calls Tryd.prog 15 #[.agg #[.int .i64 0, .bool false, .slice A2 0 c2, .slice A3 0 c3, .slice A4 0 c4, .slice A5 0 c5, .slice A6 0 c6], .agg #[.int .i64 0, .bool false, .slice none 0 0, .slice none 0 0, .slice none 0 0, .slice none 0 0, .slice none 0 0]] W fun e w' => e = .returned (.bool true) ∧ Below W.heap.size W w' :=
 (greenwoodref23_Same.calls 10 0 false A2 c2 [] A3 c3 [] A4 c4 [] A5 c5 [] A6 c6 [] 0 false none 0 [] none 0 [] none 0 [] none 0 [] none 0 [] true W (C_zero _ _ _) (Nat.zero_le _) (C_zero _ _ _) (Nat.zero_le _) (C_zero _ _ _) (Nat.zero_le _) (C_zero _ _ _) (Nat.zero_le _) (C_zero _ _ _) (Nat.zero_le _) (C_zero _ _ _) (Nat.le_refl _) (C_zero _ _ _) (Nat.le_refl _) (C_zero _ _ _) (Nat.le_refl _) (C_zero _ _ _) (Nat.le_refl _) (C_zero _ _ _) (Nat.le_refl _) (by kernel_rfl))
def ySp : List Spl := [⟨[], [2], []⟩]
def yCu : List Cut := [⟨[0], -2⟩]
abbrev L1 (w : World) : World := w.alloc (.cells #[.int .i64 1, .int .i64 (-1)] 3 (0, 0))
abbrev L2 (w : World) : World := (L1 w).alloc (.cells #[.int .i64 3] 3 (0, 0))
abbrev L3 (w : World) : World := (L2 w).alloc (.cells #[.slice (some ⟨w.heap.size + 1, 0, none⟩) 1 1] 22 (0, 0))
abbrev L4 (w : World) : World := (L3 w).alloc (.cells #[.int .i64 2] 3 (0, 0))
abbrev L5 (w : World) : World := (L4 w).alloc (.cells #[.slice none 0 0, .slice (some ⟨w.heap.size + 1 + 1 + 1, 0, none⟩) 1 1, .slice none 0 0] 41 (0, 0))
abbrev L6 (w : World) : World := (L5 w).alloc (.cells #[.int .i64 0] 3 (0, 0))
abbrev L7 (w : World) : World := (L6 w).alloc (.cells #[.slice (some ⟨w.heap.size + 1 + 1 + 1 + 1 + 1, 0, none⟩) 1 1, .int .i64 (-2)] 43 (0, 0))
theorem asz (w : World) (o : Obj) : (w.alloc o).heap.size = w.heap.size + 1 := Array.size_push ..
theorem lits (w : World) : Below w.heap.size w (L7 w) ∧ Kd.C (Kd.int .i64) (L7 w) (some ⟨w.heap.size, 0, none⟩) 2 [1, -1] ∧ Kd.C (Kd.slice 3 (Kd.int .i64)) (L7 w) (some ⟨w.heap.size + 1 + 1, 0, none⟩) 1 [[3]] ∧
 Kd.C k41 (L7 w) (some ⟨w.heap.size + 1 + 1 + 1 + 1, 0, none⟩) 1 ySp ∧ Kd.C k43 (L7 w) (some ⟨w.heap.size + 1 + 1 + 1 + 1 + 1 + 1, 0, none⟩) 1 yCu := by
 have hsz : ∀ (n : Nat) (W : World) (o : Obj), W.heap.size = n → (W.alloc o).heap[n]? = some o ∧ (W.alloc o).heap.size = n + 1 := fun n W o h => by subst h; exact ⟨blk_new W o, asz W o⟩
 obtain ⟨b1, z1⟩ := hsz _ w (.cells #[.int .i64 1, .int .i64 (-1)] 3 (0, 0)) rfl
 obtain ⟨b2, z2⟩ := hsz _ (L1 w) (.cells #[.int .i64 3] 3 (0, 0)) z1
 obtain ⟨b3, z3⟩ := hsz _ (L2 w) (.cells #[.slice (some ⟨w.heap.size + 1, 0, none⟩) 1 1] 22 (0, 0)) z2
 obtain ⟨b4, z4⟩ := hsz _ (L3 w) (.cells #[.int .i64 2] 3 (0, 0)) z3
 obtain ⟨b5, z5⟩ := hsz _ (L4 w) (.cells #[.slice none 0 0, .slice (some ⟨w.heap.size + 1 + 1 + 1, 0, none⟩) 1 1, .slice none 0 0] 41 (0, 0)) z4
 obtain ⟨b6, z6⟩ := hsz _ (L5 w) (.cells #[.int .i64 0] 3 (0, 0)) z5
 obtain ⟨b7, z7⟩ := hsz _ (L6 w) (.cells #[.slice (some ⟨w.heap.size + 1 + 1 + 1 + 1 + 1, 0, none⟩) 1 1, .int .i64 (-2)] 43 (0, 0)) z6
 have hb : ∀ (W : World) (o : Obj), Below W.heap.size W (W.alloc o) := fun W o => below_alloc (Below.refl _ _) o
 have c1 : (L7 w).heap[w.heap.size]? = some (.cells #[.int .i64 1, .int .i64 (-1)] 3 (0, 0)) := blk_alloc (blk_alloc (blk_alloc (blk_alloc (blk_alloc (blk_alloc b1 _) _) _) _) _) _
 have c2 : (L7 w).heap[w.heap.size + 1]? = some (.cells #[.int .i64 3] 3 (0, 0)) := blk_alloc (blk_alloc (blk_alloc (blk_alloc (blk_alloc b2 _) _) _) _) _
 have c3 : (L7 w).heap[w.heap.size + 1 + 1]? = some (.cells #[.slice (some ⟨w.heap.size + 1, 0, none⟩) 1 1] 22 (0, 0)) := blk_alloc (blk_alloc (blk_alloc (blk_alloc b3 _) _) _) _
 have c4 : (L7 w).heap[w.heap.size + 1 + 1 + 1]? = some (.cells #[.int .i64 2] 3 (0, 0)) := blk_alloc (blk_alloc (blk_alloc b4 _) _) _
 have c5 : (L7 w).heap[w.heap.size + 1 + 1 + 1 + 1]? = some (.cells #[.slice none 0 0, .slice (some ⟨w.heap.size + 1 + 1 + 1, 0, none⟩) 1 1, .slice none 0 0] 41 (0, 0)) := blk_alloc (blk_alloc b5 _) _
 have c6 : (L7 w).heap[w.heap.size + 1 + 1 + 1 + 1 + 1]? = some (.cells #[.int .i64 0] 3 (0, 0)) := blk_alloc b6 _
 have hbel : Below w.heap.size w (L7 w) := by
  refine ⟨rfl, rfl, rfl, ?_, fun k hk => ?_⟩
  ·rw [z7]; omega
  ·have h1 := (hb w (.cells #[.int .i64 1, .int .i64 (-1)] 3 (0, 0))).block k hk
   have h2 := (hb (L1 w) (.cells #[.int .i64 3] 3 (0, 0))).block k (by rw [z1]; omega)
   have h3 := (hb (L2 w) (.cells #[.slice (some ⟨w.heap.size + 1, 0, none⟩) 1 1] 22 (0, 0))).block k (by rw [z2]; omega)
   have h4 := (hb (L3 w) (.cells #[.int .i64 2] 3 (0, 0))).block k (by rw [z3]; omega)
   have h5 := (hb (L4 w) (.cells #[.slice none 0 0, .slice (some ⟨w.heap.size + 1 + 1 + 1, 0, none⟩) 1 1, .slice none 0 0] 41 (0, 0))).block k (by rw [z4]; omega)
   have h6 := (hb (L5 w) (.cells #[.int .i64 0] 3 (0, 0))).block k (by rw [z5]; omega)
   have h7 := (hb (L6 w) (.cells #[.slice (some ⟨w.heap.size + 1 + 1 + 1 + 1 + 1, 0, none⟩) 1 1, .int .i64 (-2)] 43 (0, 0))).block k (by rw [z6]; omega)
   exact h7.trans (h6.trans (h5.trans (h4.trans (h3.trans (h2.trans h1)))))
 have i3 : Kd.C (Kd.int .i64) (L7 w) (some ⟨w.heap.size + 1, 0, none⟩) 1 [3] := C_sing (Kd.int .i64) (cs := [.int .i64 3]) c2 rfl rfl
 have i2 : Kd.C (Kd.int .i64) (L7 w) (some ⟨w.heap.size + 1 + 1 + 1, 0, none⟩) 1 [2] := C_sing (Kd.int .i64) (cs := [.int .i64 2]) c4 rfl rfl
 have i0 : Kd.C (Kd.int .i64) (L7 w) (some ⟨w.heap.size + 1 + 1 + 1 + 1 + 1, 0, none⟩) 1 [0] := C_sing (Kd.int .i64) (cs := [.int .i64 0]) c6 rfl rfl
 refine ⟨hbel, C_two2 c1, C_sing (Kd.slice 3 (Kd.int .i64)) (cs := [.slice (some ⟨w.heap.size + 1, 0, none⟩) 1 1]) c3 rfl ⟨_, 1, rfl, by simp, i3⟩, ?_, ?_⟩
 ·exact C_sing k41 (cs := [.slice none 0 0, .slice (some ⟨w.heap.size + 1 + 1 + 1, 0, none⟩) 1 1, .slice none 0 0]) c5 rfl (k41_mk (L7 w) ⟨[], [2], []⟩ (Nat.le_refl _) (C_zero _ _ _) (Nat.le_refl _) i2 (Nat.le_refl _) (C_zero _ _ _))
 ·exact C_sing k43 (cs := [.slice (some ⟨w.heap.size + 1 + 1 + 1 + 1 + 1, 0, none⟩) 1 1, .int .i64 (-2)]) b7 rfl (k43_mk (L7 w) ⟨[0], -2⟩ (Nat.le_refl _) i0)

theorem enc_y (W : World) (A2 A4 A5 A6 : Option Addr) (h2 : Kd.C (Kd.int .i64) W A2 2 [1, -1]) (h4 : Kd.C (Kd.slice 3 (Kd.int .i64)) W A4 1 [[3]]) (h5 : Kd.C k41 W A5 1 ySp) (h6 : Kd.C k43 W A6 1 yCu) : Calls Tryd.prog 13 #[.agg #[.int .i64 4, .bool true, .slice A2 2 2, .slice none 0 0, .slice A4 1 1, .slice A5 1 1, .slice A6 1 1]] W fun e w' => e = .returned (.string ⟨#[4, 1, 2, 2, 1, 0, 1, 1, 6, 1, 0, 1, 4, 0, 1, 1, 0, 3]⟩) ∧ Below W.heap.size W w' :=
 answer_Encode.calls 4 true A2 2 [1, -1] none 0 [] A4 1 [[3]] A5 1 ySp A6 1 yCu _ W h2 (Nat.le_refl _) (C_zero _ _ _) (Nat.le_refl _) h4 (Nat.le_refl _) h5 (Nat.le_refl _) h6 (Nat.le_refl _) (by kernel_rfl)
theorem chk_y (W : World) (A2 A4 A5 A6 : Option Addr) (h2 : Kd.C (Kd.int .i64) W A2 2 [1, -1]) (h4 : Kd.C (Kd.slice 3 (Kd.int .i64)) W A4 1 [[3]]) (h5 : Kd.C k41 W A5 1 ySp) (h6 : Kd.C k43 W A6 1 yCu) : Calls Tryd.prog 11 #[.agg #[.int .i64 4, .bool true, .slice A2 2 2, .slice none 0 0, .slice A4 1 1, .slice A5 1 1, .slice A6 1 1]] W fun e w' => e = .returned (.int .i64 0) ∧ Below W.heap.size W w' :=
 check_C 4 true [1, -1] [] [[3]] ySp yCu h2 (Nat.le_refl _) (C_zero _ _ _) (Nat.le_refl _) h4 (Nat.le_refl _) h5 (Nat.le_refl _) h6 (Nat.le_refl _) (by simp) (by simp [ySp]) (by simp [yCu])
end Go.Proofs.YtlekdhejgdfnpaaDoor.P
