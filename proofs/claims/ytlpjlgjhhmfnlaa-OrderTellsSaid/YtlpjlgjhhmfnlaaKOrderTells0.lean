/- Texts of this claim's own repository, merged by wip/tool/pack.py: Px0, StabA, StabP, StabR, StabM, StabG, StabI, StabB, StabS, StabT, StabU, HeapA, HeapP, HeapU, HeapQ, HeapR, HeapS, Px1A, OrdFix, EvA, OrdSorts, OrdR, OrdS, OrdT, OrdU, Opn. -/
import Derived.Test.YtlpjlgjhhmfnlaaProg
import Derived.Below
import Derived.Deep.Draws
import Derived.Deep.AppendLies
import Derived.Maps.AppendAt
import Derived.OwnWalk
import Derived.Laws.BytesArg
import Derived.Laws.MakeOwn
import Derived.Laws.OwnMore
import Derived.Deep.OwnRows
import Derived.Tactics
import Derived.Lib.ConvBytes
import Derived.Laws.Slices
import Derived.WalkKit
import Derived.KernelRfl
import Derived.RowKit3
import Derived.Deep.LoopGhost
import Derived.Deep.QuietTactic
import Derived.BigQuiet
import Derived.WideLaws
import Derived.Deep.DeepCutAuto
import Derived.Deep.CutBlock
import Derived.Deep.RegionHeld3
import Derived.Laws.Rows
import Derived.Lib.AppendStr
import Derived.ArgAppend
import Derived.Laws.IdiomCopy
import Derived.OrdersHeld
import Derived.Laws.BitsLemmas
import Derived.RowKit
import Derived.Outline
import Derived.Test.YtlpjlgjhhmfnlaaWWords
import Derived.Test.YtlpjlgjhhmfnlaaWLast
import Derived.Test.YtlpjlgjhhmfnlaaWTab
import Derived.Test.YtlpjlgjhhmfnlaaWFour
import Derived.Test.YtlpjlgjhhmfnlaaWQPut
import Derived.Test.YtlpjlgjhhmfnlaaWApart
import Derived.Test.YtlpjlgjhhmfnlaaWArr
import Derived.Test.YtlpjlgjhhmfnlaaWZeros
import Derived.Test.YtlpjlgjhhmfnlaaWFoot
import Derived.Test.YtlpjlgjhhmfnlaaWKept
import Derived.Test.YtlpjlgjhhmfnlaaWShare
import Derived.Test.YtlpjlgjhhmfnlaaWN
import Derived.Test.YtlpjlgjhhmfnlaaWFootNe
import Derived.Test.YtlpjlgjhhmfnlaaWAt
import Derived.Test.YtlpjlgjhhmfnlaaWEqStruct
import Derived.Test.YtlpjlgjhhmfnlaaWRepsOne
import Derived.Test.YtlpjlgjhhmfnlaaWInv
import Derived.Test.YtlpjlgjhhmfnlaaWInvWords
import Derived.Test.YtlpjlgjhhmfnlaaWGuard
import Derived.Test.YtlpjlgjhhmfnlaaWNEv
import Derived.Test.YtlpjlgjhhmfnlaaWMore
import Derived.Sort.Row
import Derived.Sort.WalkC
import Derived.Shelf.RegionOpenPlain
import Derived.BigRegion
import Derived.Lib.Hide
import Derived.Deep.Cut
import Derived.Deep.RegionLaw
import Derived.Deep.RegionHeld
import Derived.Deep.Slices
import Derived.ChangeArms
import Derived.ProofKit
set_option linter.unusedVariables false
set_option linter.unusedSimpArgs false
-- written by wip/tool/ownprint.py of this claim's own repository, out of the translation's print
namespace Go.Proofs.Ytlpjlgjhhmfnlaa.P
open Go.RowKit Go.Proofs.YtlpjlgjhhmfnlaaW.PrintWords Go.Proofs.YtlpjlgjhhmfnlaaW.PrintLast Go.Proofs.YtlpjlgjhhmfnlaaW.PrintMore
attribute [local go_sem] max2_int min2_int max_two min_two max_three min_three max_four min_four   -- for this text's walks alone
set_option linter.unusedVariables false
set_option linter.unusedSimpArgs false



theorem info3 : (Try.prog.info? 3).map (fun i => (i.zero, i.size, i.bytes)) = some (some (.int .i64 0), 1, 8) := by kernel_rfl
-- the values' own types
/-! #### struct type 50 -/
structure S50 where
  f0 : Int
  f1 : Int
def k50 : Kd S50 := Kd.iso (Kd.pair (Kd.int .i64) (Kd.int .i64)) (fun x : S50 => (x.f0, x.f1))
end Go.Proofs.Ytlpjlgjhhmfnlaa.P
/- Stable sorting, the lists alone: swaps, ranges swapped, rotations, what a merge of two sorted rows is. -/
namespace Stab
set_option linter.unusedVariables false
set_option linter.unusedSimpArgs false

def swi (d : List Int) (i j : Nat) : List Int := (d.set i (d.getD j 0)).set j (d.getD i 0)
theorem set_at (A : List Int) (x v : Int) (B : List Int) : (A ++ x :: B).set A.length v = A ++ v :: B := by
  rw [List.set_append_right _ _ (Nat.le_refl _), Nat.sub_self]; rfl
theorem get_at (A : List Int) (x : Int) (B : List Int) : (A ++ x :: B).getD A.length 0 = x := by
  simp [List.getD_eq_getElem?_getD]
theorem swi_far (A C B : List Int) (x y : Int) : swi (A ++ x :: (C ++ y :: B)) A.length (A.length + 1 + C.length) = A ++ y :: (C ++ x :: B) := by
  unfold swi
  have e1 : (A ++ x :: (C ++ y :: B)).getD (A.length + 1 + C.length) 0 = y := by
    have := get_at (A ++ x :: C) y B
    simp [Nat.add_comm, Nat.add_left_comm, Nat.add_assoc]
  rw [e1, get_at, set_at]
  have := set_at (A ++ y :: C) y x B
  simp [Nat.add_comm, Nat.add_left_comm, Nat.add_assoc]
theorem swi_adj (A B : List Int) (x y : Int) : swi (A ++ x :: y :: B) A.length (A.length + 1) = A ++ y :: x :: B := by
  have := swi_far A [] B x y
  simpa using this
theorem swi_comm (d : List Int) (i j : Nat) : swi d i j = swi d j i := by
  unfold swi
  by_cases h : i = j
  · subst h; rfl
  · rw [List.set_comm _ _ h]
theorem swi_jda (A B : List Int) (x y : Int) : swi (A ++ x :: y :: B) (A.length + 1) A.length = A ++ y :: x :: B := by rw [swi_comm]; exact swi_adj A B x y

/-! one element moved up, or down -/
theorem up_step (X R Y : List Int) (x : Int) (k : Nat) (h : k < R.length) : swi (X ++ (R.take k ++ x :: (R.drop k ++ Y))) (X.length + k) (X.length + k + 1) = X ++ (R.take (k + 1) ++ x :: (R.drop (k + 1) ++ Y)) := by
  rw [List.drop_eq_getElem_cons h]
  have := swi_adj (X ++ R.take k) (R.drop (k + 1) ++ Y) x R[k]
  have hl : (X ++ R.take k).length = X.length + k := by simp; omega
  rw [hl] at this
  rw [List.take_add_one, List.getElem?_eq_getElem h]
  simpa only [List.append_assoc, List.cons_append, List.nil_append, Option.toList_some] using this
theorem down_step (X L Y : List Int) (y : Int) (k : Nat) (h : k < L.length) : swi (X ++ (L.take (k + 1) ++ y :: (L.drop (k + 1) ++ Y))) (X.length + k + 1) (X.length + k) = X ++ (L.take k ++ y :: (L.drop k ++ Y)) := by
  rw [List.drop_eq_getElem_cons h]
  have := swi_jda (X ++ L.take k) (L.drop (k + 1) ++ Y) L[k] y
  have hl : (X ++ L.take k).length = X.length + k := by simp; omega
  rw [hl] at this
  rw [List.take_add_one, List.getElem?_eq_getElem h]
  simpa only [List.append_assoc, List.cons_append, List.nil_append, Option.toList_some] using this
/-! ranges swapped -/
theorem range_step (A U M V B : List Int) (hl : U.length = V.length) (i : Nat) (h : i < U.length) :
    swi (A ++ ((V.take i ++ U.drop i) ++ (M ++ ((U.take i ++ V.drop i) ++ B)))) (A.length + i) (A.length + U.length + M.length + i) = A ++ ((V.take (i + 1) ++ U.drop (i + 1)) ++ (M ++ ((U.take (i + 1) ++ V.drop (i + 1)) ++ B))) := by
  have hv : i < V.length := by omega
  have hU : U.drop i = U[i] :: U.drop (i + 1) := List.drop_eq_getElem_cons h
  have hV : V.drop i = V[i] :: V.drop (i + 1) := List.drop_eq_getElem_cons hv
  have tU : U.take (i + 1) = U.take i ++ [U[i]] := by rw [List.take_add_one, List.getElem?_eq_getElem h]; rfl
  have tV : V.take (i + 1) = V.take i ++ [V[i]] := by rw [List.take_add_one, List.getElem?_eq_getElem hv]; rfl
  rw [hU, hV, tU, tV]
  have := swi_far (A ++ V.take i) (U.drop (i + 1) ++ (M ++ U.take i)) (V.drop (i + 1) ++ B) U[i] V[i]
  have hl1 : (A ++ V.take i).length = A.length + i := by simp; omega
  have hl2 : (U.drop (i + 1) ++ (M ++ U.take i)).length = U.length - 1 + M.length := by simp; omega
  rw [hl1, hl2, show A.length + i + 1 + (U.length - 1 + M.length) = A.length + U.length + M.length + i by omega] at this
  simpa only [List.append_assoc, List.cons_append, List.nil_append] using this
theorem range_all (A U M V B : List Int) (hl : U.length = V.length) : A ++ ((V.take U.length ++ U.drop U.length) ++ (M ++ ((U.take U.length ++ V.drop U.length) ++ B))) = A ++ (V ++ (M ++ (U ++ B))) := by
  rw [List.drop_length, List.take_length, List.take_of_length_le (by omega), List.drop_of_length_le (by omega)]; simp

/-! orders -/
structure Tot (T : Int → Int → Bool) : Prop where
  trans : ∀ {a b c}, T a b = true → T b c = true → T a c = true
  total : ∀ {a b}, a ≠ b → T a b = false → T b a = true
  irr : ∀ a, T a a = false
theorem Tot.asym {T : Int → Int → Bool} (h : Tot T) {a b : Int} (h1 : T a b = true) : T b a = false := by
  cases h2 : T b a with
  | false => rfl
  | true => have := h.trans h1 h2; rw [h.irr] at this; cases this
def Srt (T : Int → Int → Bool) (l : List Int) : Prop := l.Pairwise (fun a b => T a b = true)
/-- sorted rows of the same numbers are the same -/
theorem srt_unique {T : Int → Int → Bool} (hT : Tot T) : ∀ {a b : List Int}, Srt T a → Srt T b → a.Perm b → a = b := by
  intro a
  induction a with
  | nil => intro b _ _ hp; exact (List.nil_perm.1 hp).symm
  | cons x a ih =>
    intro b ha hb hp
    cases b with
    | nil => exact absurd hp.length_eq (by simp)
    | cons y b =>
      have ha' := List.pairwise_cons.1 ha
      have hb' := List.pairwise_cons.1 hb
      have hxy : x = y := by
        apply Classical.byContradiction
        intro hne
        have hx : x ∈ y :: b := hp.mem_iff.1 List.mem_cons_self
        have hy : y ∈ x :: a := hp.mem_iff.2 List.mem_cons_self
        rcases List.mem_cons.1 hx with h | h
        · exact hne h
        · rcases List.mem_cons.1 hy with h2 | h2
          · exact hne h2.symm
          · have e1 := ha'.1 y h2
            have e2 := hb'.1 x h
            rw [hT.asym e1] at e2; cases e2
      subst hxy
      rw [ih ha'.2 hb'.2 (List.Perm.cons_inv hp)]
/-- the merge of two rows -/
def IsMerge (T : Int → Int → Bool) (L R s : List Int) : Prop := s.Perm (L ++ R) ∧ Srt T s
theorem merge_one {T : Int → Int → Bool} (hT : Tot T) {x : Int} {R1 R2 : List Int} (hR : Srt T (R1 ++ R2)) (hx : ∀ r ∈ R1 ++ R2, x < r) (h1 : ∀ r ∈ R1, T r x = true) (h2 : ∀ r ∈ R2, T r x = false) : IsMerge T [x] (R1 ++ R2) (R1 ++ x :: R2) := by
  refine ⟨(List.perm_middle).trans (List.Perm.refl _), ?_⟩
  have hR' := List.pairwise_append.1 hR
  refine List.pairwise_append.2 ⟨hR'.1, List.pairwise_cons.2 ⟨fun r hr => hT.total (by have := hx r (List.mem_append_right _ hr); omega) (h2 r hr), hR'.2.1⟩, fun a ha b hb => ?_⟩
  rcases List.mem_cons.1 hb with rfl | hb
  · exact h1 a ha
  · exact hR'.2.2 a ha b hb
theorem merge_last {T : Int → Int → Bool} (hT : Tot T) {y : Int} {L1 L2 : List Int} (hL : Srt T (L1 ++ L2)) (hy : ∀ l ∈ L1 ++ L2, l < y) (h1 : ∀ l ∈ L1, T y l = false) (h2 : ∀ l ∈ L2, T y l = true) : IsMerge T (L1 ++ L2) [y] (L1 ++ y :: L2) := by
  refine ⟨?_, ?_⟩
  · exact List.perm_middle.trans ((List.Perm.refl (y :: (L1 ++ L2))).trans (by have := (List.perm_append_comm (l₁ := [y]) (l₂ := L1 ++ L2)); simpa using this))
  · have hL' := List.pairwise_append.1 hL
    refine List.pairwise_append.2 ⟨hL'.1, List.pairwise_cons.2 ⟨fun l hl => h2 l hl, hL'.2.1⟩, fun a ha b hb => ?_⟩
    rcases List.mem_cons.1 hb with rfl | hb
    · exact hT.total (by have := hy a (List.mem_append_left _ ha); omega) (h1 a ha)
    · exact hL'.2.2 a ha b hb
theorem merge_both {T : Int → Int → Bool} (hT : Tot T) {L1 L2 R1 R2 s1 s2 : List Int} (hL : Srt T (L1 ++ L2)) (hR : Srt T (R1 ++ R2)) (h1 : IsMerge T L1 R1 s1) (h2 : IsMerge T L2 R2 s2) (hLR : ∀ l ∈ L1, ∀ r ∈ R2, T l r = true) (hRL : ∀ r ∈ R1, ∀ l ∈ L2, T r l = true) : IsMerge T (L1 ++ L2) (R1 ++ R2) (s1 ++ s2) := by
  have hL' := List.pairwise_append.1 hL
  have hR' := List.pairwise_append.1 hR
  refine ⟨?_, List.pairwise_append.2 ⟨h1.2, h2.2, fun a ha b hb => ?_⟩⟩
  · refine (h1.1.append h2.1).trans ?_
    have : (L1 ++ R1 ++ (L2 ++ R2)).Perm (L1 ++ (L2 ++ R1) ++ R2) := by
      simp only [List.append_assoc]
      refine List.Perm.append_left _ ?_
      rw [← List.append_assoc, ← List.append_assoc]
      exact List.Perm.append_right _ List.perm_append_comm
    simpa [List.append_assoc] using this
  · have ha' := List.mem_append.1 (h1.1.mem_iff.1 ha)
    have hb' := List.mem_append.1 (h2.1.mem_iff.1 hb)
    rcases ha' with ha' | ha' <;> rcases hb' with hb' | hb'
    · exact hL'.2.2 a ha' b hb'
    · exact hLR a ha' b hb'
    · exact hRL a ha' b hb'
    · exact hR'.2.2 a ha' b hb'
theorem merge_nilL {T : Int → Int → Bool} {R : List Int} (hR : Srt T R) : IsMerge T [] R R := ⟨List.Perm.refl _, hR⟩
theorem merge_nilR {T : Int → Int → Bool} {L : List Int} (hL : Srt T L) : IsMerge T L [] L := ⟨by rw [List.append_nil], hL⟩
/-- by the last of the one, and the first of the other -/
theorem cross {T : Int → Int → Bool} (hT : Tot T) {A B : List Int} (hA : Srt T A) (hB : Srt T B) (h : ∀ a b, A.getLast? = some a → B.head? = some b → T a b = true) : ∀ a ∈ A, ∀ b ∈ B, T a b = true := by
  intro a ha b hb
  have hAne : A ≠ [] := List.ne_nil_of_mem ha
  have hBne : B ≠ [] := List.ne_nil_of_mem hb
  obtain ⟨A', z, rfl⟩ : ∃ A' z, A = A' ++ [z] := ⟨A.dropLast, A.getLast hAne, (List.dropLast_concat_getLast hAne).symm⟩
  obtain ⟨y, B', rfl⟩ := List.exists_cons_of_ne_nil hBne
  have hzy := h z y (by simp) rfl
  have h1 : T a y = true := by
    rcases List.mem_append.1 ha with h1 | h1
    · exact hT.trans ((List.pairwise_append.1 hA).2.2 a h1 z (by simp)) hzy
    · rw [List.mem_singleton.1 h1]; exact hzy
  rcases List.mem_cons.1 hb with rfl | hb
  · exact h1
  · exact hT.trans h1 ((List.pairwise_cons.1 hB).1 b hb)
theorem srt_take {T : Int → Int → Bool} (hT : Tot T) {R : List Int} (hR : Srt T R) {p : Nat} {r x : Int} (hr : R[p]? = some r) (h : T r x = true) : ∀ y ∈ R.take (p + 1), T y x = true := by
  intro y hy
  obtain ⟨q, hq⟩ := List.getElem?_of_mem hy
  rw [List.getElem?_take] at hq
  split at hq
  · rename_i hlt
    by_cases e : q = p
    · subst e; rw [hr] at hq; injection hq with hq; subst hq; exact h
    · obtain ⟨h1, h2⟩ := List.getElem?_eq_some_iff.1 hq
      obtain ⟨h3, h4⟩ := List.getElem?_eq_some_iff.1 hr
      have := List.pairwise_iff_getElem.1 hR q p h1 h3 (by omega)
      rw [h2, h4] at this
      exact hT.trans this h
  · cases hq
theorem srt_takeF {T : Int → Int → Bool} (hT : Tot T) {R : List Int} (hR : Srt T R) {p : Nat} {r x : Int} (hr : R[p]? = some r) (h : T x r = false) : ∀ y ∈ R.take (p + 1), T x y = false := by
  intro y hy
  obtain ⟨q, hq⟩ := List.getElem?_of_mem hy
  rw [List.getElem?_take] at hq
  split at hq
  · rename_i hlt
    by_cases e : q = p
    · subst e; rw [hr] at hq; injection hq with hq; subst hq; exact h
    · obtain ⟨h1, h2⟩ := List.getElem?_eq_some_iff.1 hq
      obtain ⟨h3, h4⟩ := List.getElem?_eq_some_iff.1 hr
      have := List.pairwise_iff_getElem.1 hR q p h1 h3 (by omega)
      rw [h2, h4] at this
      cases h5 : T x y with
      | false => rfl
      | true => rw [hT.trans h5 this] at h; cases h
  · cases hq
theorem srt_dropT {T : Int → Int → Bool} (hT : Tot T) {R : List Int} (hR : Srt T R) {p : Nat} {r x : Int} (hr : R[p]? = some r) (h : T x r = true) : ∀ y ∈ R.drop p, T x y = true := by
  intro y hy
  obtain ⟨q, hq⟩ := List.getElem?_of_mem hy
  rw [List.getElem?_drop] at hq
  by_cases e : q = 0
  · subst e; rw [Nat.add_zero, hr] at hq; injection hq with hq; subst hq; exact h
  · obtain ⟨h1, h2⟩ := List.getElem?_eq_some_iff.1 hq
    obtain ⟨h3, h4⟩ := List.getElem?_eq_some_iff.1 hr
    have := List.pairwise_iff_getElem.1 hR p (p + q) h3 h1 (by omega)
    rw [h2, h4] at this
    exact hT.trans h this
theorem srt_drop {T : Int → Int → Bool} (hT : Tot T) {R : List Int} (hR : Srt T R) {p : Nat} {r x : Int} (hr : R[p]? = some r) (h : T r x = false) : ∀ y ∈ R.drop p, T y x = false := by
  intro y hy
  obtain ⟨q, hq⟩ := List.getElem?_of_mem hy
  rw [List.getElem?_drop] at hq
  by_cases e : q = 0
  · subst e; rw [Nat.add_zero, hr] at hq; injection hq with hq; subst hq; exact h
  · obtain ⟨h1, h2⟩ := List.getElem?_eq_some_iff.1 hq
    obtain ⟨h3, h4⟩ := List.getElem?_eq_some_iff.1 hr
    have := List.pairwise_iff_getElem.1 hR p (p + q) h3 h1 (by omega)
    rw [h2, h4] at this
    cases h5 : T y x with
    | false => rfl
    | true => rw [hT.trans this h5] at h; cases h
theorem cut_merge {T : Int → Int → Bool} (hT : Tot T) {L R : List Int} (hL : Srt T L) (hR : Srt T R) (hlr : ∀ l ∈ L, ∀ r ∈ R, l < r) {i j : Nat} (hi : i ≤ L.length) (hj : j ≤ R.length)
    (h1 : i = 0 ∨ R.length ≤ j ∨ ∃ l r, L[i - 1]? = some l ∧ R[j]? = some r ∧ T r l = false) (h2 : L.length ≤ i ∨ j = 0 ∨ ∃ l r, L[i]? = some l ∧ R[j - 1]? = some r ∧ T r l = true)
    {s1 s2 : List Int} (m1 : IsMerge T (L.take i) (R.take j) s1) (m2 : IsMerge T (L.drop i) (R.drop j) s2) : IsMerge T L R (s1 ++ s2) := by
  have hL' : Srt T (L.take i ++ L.drop i) := by rw [List.take_append_drop]; exact hL
  have hR' : Srt T (R.take j ++ R.drop j) := by rw [List.take_append_drop]; exact hR
  have hLp := List.pairwise_append.1 hL'
  have hRp := List.pairwise_append.1 hR'
  have hlast : ∀ (A : List Int) (q : Nat), q ≤ A.length → ∀ z, (A.take q).getLast? = some z → A[q - 1]? = some z := by
    intro A q hq z hz
    rw [List.getLast?_eq_getElem?, List.length_take, Nat.min_eq_left hq, List.getElem?_take] at hz
    split at hz
    · exact hz
    · cases hz
  have hhead : ∀ (A : List Int) (q : Nat) (z : Int), (A.drop q).head? = some z → A[q]? = some z := by
    intro A q z hz
    rw [List.head?_eq_getElem?, List.getElem?_drop] at hz
    exact hz
  have := merge_both hT (L1 := L.take i) (L2 := L.drop i) (R1 := R.take j) (R2 := R.drop j) hL' hR' m1 m2 ?_ ?_
  · rw [List.take_append_drop, List.take_append_drop] at this; exact this
  · rcases h1 with h1 | h1 | ⟨l, r, e1, e2, e3⟩
    · subst h1; intro l hl; exact absurd hl (by simp)
    · intro l _ r hr; rw [List.drop_of_length_le h1] at hr; cases hr
    · refine cross hT hLp.1 hRp.2.1 (fun a b ha hb => ?_)
      have ea := hlast L i hi a ha
      have eb := hhead R j b hb
      rw [e1] at ea; rw [e2] at eb
      injection ea with ea; injection eb with eb
      subst ea eb
      exact hT.total (by have := hlr l (List.mem_of_getElem? e1) r (List.mem_of_getElem? e2); omega) e3
  · rcases h2 with h2 | h2 | ⟨l, r, e1, e2, e3⟩
    · intro r _ l hl; rw [List.drop_of_length_le h2] at hl; cases hl
    · subst h2; intro r hr; exact absurd hr (by simp)
    · refine cross hT hRp.1 hLp.2.1 (fun a b ha hb => ?_)
      have ea := hlast R j hj a ha
      have eb := hhead L i b hb
      rw [e2] at ea; rw [e1] at eb
      injection ea with ea; injection eb with eb
      subst ea eb
      exact e3
end Stab
/- Stable sorting in memory: a row of numbers under its own name, and two of its places swapped. -/
namespace Go.Proofs.Ytlpjlgjhhmfnlaa.P
open Go.RowKit Go.Lib Go.Proofs.YtlpjlgjhhmfnlaaW.PrintWords Go.Proofs.YtlpjlgjhhmfnlaaW.PrintLast Go.Proofs.YtlpjlgjhhmfnlaaW.PrintMore
open Stab
set_option linter.unusedVariables false
set_option linter.unusedSimpArgs false

/-- the row at block g holds d; n draws on -/
def pw (w : World) (g : Nat) (d : List Int) (n : Nat) : World := (Sort.putRow (Value.int .i64) w g 0 d.toArray).drewN n
def HoldsL (w : World) (g : Nat) (d : List Int) : Prop := Sort.Holds (Value.int .i64) w g 0 d.toArray
theorem pw_self {w : World} {g : Nat} {d : List Int} (h : HoldsL w g d) : w = pw w g d 0 := by
  unfold pw
  rw [Sort.putRow_self _ _ _ _ _ h]; rfl
theorem pw_holds {w : World} {g : Nat} {d d' : List Int} (h : HoldsL w g d) (hl : d'.length = d.length) (n : Nat) : HoldsL (pw w g d' n) g d' := by
  have := Sort.holds_putRow (Value.int .i64) w g 0 d.toArray d'.toArray h (by simpa using hl)
  exact this
theorem pw_cell {w : World} {g : Nat} {d d' : List Int} (h : HoldsL w g d) (hl : d'.length = d.length) (n i : Nat) (hi : i < d'.length) : (pw w g d' n).cell? ⟨g, i, none⟩ = some (.int .i64 (d'.getD i 0)) ∧ (pw w g d' n).frozen? ⟨g, i, none⟩ = false := by
  have := pw_holds h hl n i (by simpa using hi)
  rw [Nat.zero_add] at this
  refine ⟨?_, this.2⟩
  rw [this.1]
  simp [List.getD_eq_getElem?_getD, hi]
theorem pw_drew (w : World) (g : Nat) (d : List Int) (n m : Nat) : (pw w g d n).drewN m = pw w g d (n + m) := by
  unfold pw
  rw [World.drewN_drewN]
theorem pw_pw {w : World} {g : Nat} {d d' : List Int} (hl : d'.length = d.length) (n m : Nat) : pw (pw w g d n) g d' m = pw w g d' (n + m) := by
  unfold pw
  have e : ∀ k : Nat, ∀ u : World, u.drewN k = Sort.ahead u k := fun k u => rfl
  rw [e, e, e, ← Sort.putRow_ahead, ← Sort.putRow_ahead, Sort.putRow_ahead_putRow (Value.int .i64) w n m g 0 d.toArray d'.toArray (by simpa using hl)]
  rfl
theorem pw_swap (w : World) (g : Nat) (d : List Int) (n i j : Nat) (hi : i < d.length) (hj : j < d.length) :
    (((pw w g d n).setCell ⟨g, i, none⟩ (.int .i64 (d.getD j 0))).setCell ⟨g, j, none⟩ (.int .i64 (d.getD i 0))).drew = pw w g (swi d i j) (n + 1) := by
  have h := swap_worldC (Value.int .i64) w g 0 d.toArray n i j (by simpa using hi) (by simpa using hj)
  simp only [Nat.zero_add] at h
  have e1 : d.toArray[j]! = d.getD j 0 := by simp [List.getD_eq_getElem?_getD, getElem!_pos, hj]
  have e2 : d.toArray[i]! = d.getD i 0 := by simp [List.getD_eq_getElem?_getD, getElem!_pos, hi]
  rw [e1, e2] at h
  unfold pw
  rw [h]
  congr 2
  unfold Sort.swp swi
  rw [e1, e2]
  simp
theorem pw_cell_far (w : World) (g : Nat) (d : List Int) (n : Nat) {a : Addr} (h : a.block ≠ g) : (pw w g d n).cell? a = w.cell? a :=
  Sort.cell?_putRow_other (Value.int .i64) w g 0 d.toArray a (.inl h)
theorem wz {x : Int} (h1 : 0 ≤ x) (h2 : x ≤ 9223372036854775807) : IntKind.i64.wrap x = x := by rw [IntKind.wrap_i64]; omega
end Go.Proofs.Ytlpjlgjhhmfnlaa.P
/- Stable sorting: ranges swapped, rotations: walks. -/
namespace Go.Proofs.Ytlpjlgjhhmfnlaa.P
open Go.RowKit Go.Lib Go.Proofs.YtlpjlgjhhmfnlaaW.PrintWords Go.Proofs.YtlpjlgjhhmfnlaaW.PrintLast Go.Proofs.YtlpjlgjhhmfnlaaW.PrintMore
open Stab
set_option linter.unusedVariables false
set_option linter.unusedSimpArgs false

def rst (A U M V B : List Int) (i : Nat) : List Int := A ++ ((V.take i ++ U.drop i) ++ (M ++ ((U.take i ++ V.drop i) ++ B)))
theorem rst_len (A U M V B : List Int) (hl : U.length = V.length) (i : Nat) (h : i ≤ U.length) : (rst A U M V B i).length = A.length + U.length + M.length + V.length + B.length := by
  unfold rst; simp; omega
set_option maxHeartbeats 2000000 in
set_option maxRecDepth 100000 in
theorem swapRange_c (w : World) (g cap : Nat) (A U M V B : List Int) (cmpv : Value) (tot a b n : Nat) (hl : U.length = V.length) (ha : a = A.length) (hb : b = A.length + U.length + M.length) (hn : n = U.length) (ht : tot = A.length + U.length + M.length + V.length + B.length) (hsz : tot ≤ 1099511627776) (hH : HoldsL w g (A ++ (U ++ (M ++ (V ++ B))))) :
    Calls Try.prog 31 #[.slice (some ⟨g, 0, none⟩) tot cap, .int .i64 (a : Int), .int .i64 (b : Int), .int .i64 (n : Int), cmpv] w fun e w' => e = .returned (.tuple #[]) ∧ ∃ m, w' = pw w g (A ++ (V ++ (M ++ (U ++ B)))) m := by
  have HL : Aside0 (U.length = V.length ∧ a = A.length ∧ b = A.length + U.length + M.length ∧ n = U.length ∧ tot = A.length + U.length + M.length + V.length + B.length) := ⟨⟨hl, ha, hb, hn, ht⟩⟩
  have h0 : A ++ (U ++ (M ++ (V ++ B))) = rst A U M V B 0 := by simp [rst]
  have hz : rst A U M V B U.length = A ++ (V ++ (M ++ (U ++ B))) := range_all A U M V B hl
  have HH : Aside0 (HoldsL w g (rst A U M V B 0)) := ⟨by rw [← h0]; exact hH⟩
  have HZ := Aside0.mk hz
  have hB : b + n ≤ tot := by omega
  have hA : a + n ≤ tot := by omega
  have HW : Aside0 (w = pw w g (rst A U M V B 0) 0) := ⟨pw_self HH.out⟩
  clear hl ha hb hn ht hH h0 hz
  go_enter Try.func31, Try.ntmps31
  go_wp2
  go_loopg [10] n (fun gg s wr => ∃ k m : Nat, s = .int .i64 (k : Int) ∧ k ≤ n ∧ n - k ≤ gg ∧ Aside0 (wr = pw w g (rst A U M V B k) m))
  case atStart => exact ⟨0, 0, rfl, Nat.zero_le _, by omega, HW⟩
  case round =>
    obtain ⟨k, m, rfl, hk, hg, HWR⟩ := hrel
    have HG := Aside0.mk hg
    clear hg
    by_cases hlt : k < n
    · have hltz : (k : Int) < (n : Int) := by omega
      obtain ⟨i, hi⟩ : ∃ i, i = a + k := ⟨_, rfl⟩
      obtain ⟨j, hj⟩ : ∃ j, j = b + k := ⟨_, rfl⟩
      have hl := HL.out
      have hln : (rst A U M V B k).length = tot := by rw [rst_len A U M V B hl.1 k (by omega)]; exact hl.2.2.2.2.symm
      have hl0 : (rst A U M V B k).length = (rst A U M V B 0).length := by rw [hln, rst_len A U M V B hl.1 0 (by omega)]; exact hl.2.2.2.2
      obtain ⟨ci, fi⟩ := pw_cell HH.out hl0 m i (by omega)
      obtain ⟨cj, fj⟩ := pw_cell HH.out hl0 m j (by omega)
      have hsw := pw_swap w g (rst A U M V B k) m i j (by omega) (by omega)
      have hst : swi (rst A U M V B k) i j = rst A U M V B (k + 1) := by
        have := range_step A U M V B hl.1 k (by omega)
        rw [hi, hj, hl.2.1, hl.2.2.1]
        exact this
      rw [hst] at hsw
      have HS := Aside0.mk hsw
      rw [← HWR.out] at ci fi cj fj
      have HS2 : Aside0 (((wr.setCell ⟨g, i, none⟩ (.int .i64 ((rst A U M V B k).getD j 0))).setCell ⟨g, j, none⟩ (.int .i64 ((rst A U M V B k).getD i 0))).drew = pw w g (rst A U M V B (k + 1)) (m + 1)) := ⟨by rw [HWR.out]; exact HS.out⟩
      clear HS hsw hst hl0 hln hl HWR
      generalize (rst A U M V B k).getD i 0 = x at *
      generalize (rst A U M V B k).getD j 0 = y at *
      have pi : (0 : Int) ≤ (a : Int) + (k : Int) := by omega
      have pj : (0 : Int) ≤ (b : Int) + (k : Int) := by omega
      have qi : (a : Int) + (k : Int) < (tot : Int) := by omega
      have qj : (b : Int) + (k : Int) < (tot : Int) := by omega
      have wi : IntKind.i64.wrap ((a : Int) + (k : Int)) = (a : Int) + (k : Int) := wz (by omega) (by omega)
      have wj : IntKind.i64.wrap ((b : Int) + (k : Int)) = (b : Int) + (k : Int) := wz (by omega) (by omega)
      have ei : ((a : Int) + (k : Int)).toNat = i := by omega
      have ej : ((b : Int) + (k : Int)).toNat = j := by omega
      have HI := Aside0.mk (And.intro hi hj)
      have nij : ¬ i = j := by have := HL.out; omega
      have nji : ¬ j = i := by have := HL.out; omega
      clear hi hj
      go_wp2_with fail
      go_big_region
      all_goals go_wp2
      go_roundg (n - (k + 1))
      case measure => have := HG.out; omega
      case rel => exact ⟨k + 1, m + 1, by go_num, by omega, by omega, HS2⟩
    · have hltz : ¬ (k : Int) < (n : Int) := by omega
      have HE : Aside0 (wr = pw w g (A ++ (V ++ (M ++ (U ++ B)))) m) := ⟨by
        rw [HWR.out, ← HZ.out]
        have := HL.out
        rw [show k = U.length by omega]⟩
      clear HWR
      go_wp2
      go_end0
      exact ⟨rfl, m, HE.out⟩

set_option maxHeartbeats 2000000 in
set_option maxRecDepth 100000 in
theorem rotate_c (w : World) (g cap : Nat) (P U V B : List Int) (cmpv : Value) (tot a m b : Nat) (ha : a = P.length) (hm : m = P.length + U.length) (hb : b = P.length + U.length + V.length) (ht : tot = P.length + U.length + V.length + B.length) (hU : 0 < U.length) (hV : 0 < V.length) (hsz : tot ≤ 1099511627776) (hH : HoldsL w g (P ++ (U ++ (V ++ B)))) :
    Calls Try.prog 30 #[.slice (some ⟨g, 0, none⟩) tot cap, .int .i64 (a : Int), .int .i64 (m : Int), .int .i64 (b : Int), cmpv] w fun e w' => e = .returned (.tuple #[]) ∧ ∃ k, w' = pw w g (P ++ (V ++ (U ++ B))) k := by
  have HL : Aside0 (a = P.length ∧ m = P.length + U.length ∧ b = P.length + U.length + V.length ∧ tot = P.length + U.length + V.length + B.length) := ⟨⟨ha, hm, hb, ht⟩⟩
  have HH := Aside0.mk hH
  have HW : Aside0 (w = pw w g (P ++ (U ++ (V ++ B))) 0) := ⟨pw_self hH⟩
  have wi : IntKind.i64.wrap ((m : Int) - (a : Int)) = (m : Int) - (a : Int) := wz (by omega) (by omega)
  have wj : IntKind.i64.wrap ((b : Int) - (m : Int)) = (b : Int) - (m : Int) := wz (by omega) (by omega)
  have hmt : m ≤ tot := by omega
  have HI : Aside0 ((m : Int) - (a : Int) = (U.length : Int) ∧ (b : Int) - (m : Int) = (V.length : Int)) := ⟨by omega⟩
  have HB : Aside0 (b ≤ tot ∧ a ≤ m ∧ m ≤ b) := ⟨by omega⟩
  clear ha hm hb ht hH
  go_enter Try.func30, Try.ntmps30
  go_wp2
  go_loopg [10, 11] (U.length + V.length) (fun gg s10 s11 wr => ∃ (Q u v S : List Int) (k : Nat), s10 = .int .i64 (u.length : Int) ∧ s11 = .int .i64 (v.length : Int) ∧ 0 < u.length ∧ 0 < v.length ∧ u.length + v.length ≤ gg ∧ Aside0 (m = Q.length + u.length ∧ tot = Q.length + u.length + v.length + S.length) ∧ Aside0 (Q ++ (v ++ (u ++ S)) = P ++ (V ++ (U ++ B))) ∧ Aside0 (wr = pw w g (Q ++ (u ++ (v ++ S))) k))
  case atStart => exact ⟨P, U, V, B, 0, by rw [← HI.out.1], by rw [← HI.out.2], hU, hV, Nat.le_refl _, ⟨⟨HL.out.2.1, HL.out.2.2.2⟩⟩, ⟨rfl⟩, HW⟩
  case round =>
    obtain ⟨Q, u, v, S, k, rfl, rfl, hu, hv, hg, HQ, HT, HWR⟩ := hrel
    have HG := Aside0.mk (And.intro hg (And.intro hu hv))
    have hlen : (Q ++ (u ++ (v ++ S))).length = (P ++ (U ++ (V ++ B))).length := by
      have := HQ.out; have := HL.out; simp; omega
    have HLEN := Aside0.mk hlen
    have HHW : Aside0 (HoldsL wr g (Q ++ (u ++ (v ++ S)))) := ⟨by rw [HWR.out]; exact pw_holds HH.out hlen k⟩
    have HPP : Aside0 (∀ d q, d.length = (P ++ (U ++ (V ++ B))).length → pw wr g d q = pw w g d (k + q)) := ⟨fun d q hd => by rw [HWR.out]; exact pw_pw (by rw [hd, hlen]) k q⟩
    have hui : (u.length : Int) ≤ (m : Int) := by have := HQ.out; omega
    have wmi : IntKind.i64.wrap ((m : Int) - (u.length : Int)) = (m : Int) - (u.length : Int) := wz (by omega) (by have := HB.out; omega)
    have hq : (m : Int) - (u.length : Int) = (Q.length : Int) := by have := HQ.out; omega
    have HQL := Aside0.mk hq
    clear hg hlen hu hv
    by_cases hne : u.length = v.length
    · have hneb : ((u.length : Int) != (v.length : Int)) = false := by rw [hne]; exact bne_self_eq_false _
      have hc := swapRange_c wr g cap Q u [] v S cmpv tot Q.length m u.length hne rfl (by have := HQ.out; simp; omega) rfl (by have := HQ.out; simp; omega) hsz HHW.out
      have HC := Aside0.mk hc
      have HFIN : Aside0 (∀ q, pw wr g (Q ++ (v ++ ([] ++ (u ++ S)))) q = pw w g (P ++ (V ++ (U ++ B))) (k + q)) := ⟨fun q => by
        rw [HPP.out _ _ (by have := HLEN.out; simp at this ⊢; omega), List.nil_append, HT.out]⟩
      clear hc hne HWR wi wj
      go_wp2_with (go_at_call 31; refine HC.out.mono ?_; rintro e w' ⟨rfl, q, hw⟩; have HWQ := Aside0.mk hw; clear hw)
      go_end0
      exact ⟨rfl, _, by rw [HWQ.out]; exact HFIN.out _⟩
    · have hneb : ((u.length : Int) != (v.length : Int)) = true := bne_iff_ne.mpr (by omega)
      by_cases hgt : v.length < u.length
      · have hgtz : (v.length : Int) < (u.length : Int) := by omega
        have hc := swapRange_c wr g cap Q (u.take v.length) (u.drop v.length) v S cmpv tot Q.length m v.length (by simp; omega) rfl (by have := HQ.out; simp; omega) (by simp; omega) (by have := HQ.out; simp; omega) hsz (by
          have := HHW.out
          rw [← List.take_append_drop v.length u] at this
          simpa only [List.append_assoc] using this)
        have HC := Aside0.mk hc
        have wd : IntKind.i64.wrap ((u.length : Int) - (v.length : Int)) = (u.length : Int) - (v.length : Int) := wz (by omega) (by have := HQ.out; omega)
        have HFIN : Aside0 (∀ q, pw wr g (Q ++ (v ++ (u.drop v.length ++ (u.take v.length ++ S)))) q = pw w g ((Q ++ v) ++ (u.drop v.length ++ (u.take v.length ++ S))) (k + q)) := ⟨fun q => by
          rw [HPP.out _ _ (by have := HLEN.out; simp at this ⊢; omega), List.append_assoc]⟩
        have HREST : Aside0 (((u.length : Int) - (v.length : Int) = ((u.drop v.length).length : Int)) ∧ (u.take v.length).length = v.length) := ⟨by simp; omega⟩
        have HTN : Aside0 ((Q ++ v) ++ (u.take v.length ++ (u.drop v.length ++ S)) = P ++ (V ++ (U ++ B))) := ⟨by
          rw [← HT.out]
          have := List.take_append_drop v.length u
          rw [List.append_assoc, ← List.append_assoc (u.take v.length), this]⟩
        clear hc hne hgt HWR wi wj
        go_wp2_with (go_at_call 31; refine HC.out.mono ?_; rintro e w' ⟨rfl, q, hw⟩; have HWQ := Aside0.mk hw; clear hw)
        go_roundg (u.length)
        case measure => have := HG.out; omega
        case rel => exact ⟨Q ++ v, u.drop v.length, u.take v.length, S, k + q, by rw [HREST.out.1], by rw [HREST.out.2], by have := HREST.out; omega, by have := HREST.out; have := HG.out; omega, by have := HREST.out; omega, ⟨by have := HQ.out; have := HREST.out; simp only [List.length_append]; omega⟩, HTN, ⟨by rw [HWQ.out]; exact HFIN.out q⟩⟩
      · have hgtz : ¬ (v.length : Int) < (u.length : Int) := by omega
        have hc := swapRange_c wr g cap Q u (v.take (v.length - u.length)) (v.drop (v.length - u.length)) S cmpv tot Q.length (m + v.length - u.length) u.length (by simp; omega) rfl (by have := HQ.out; simp; omega) rfl (by have := HQ.out; simp; omega) hsz (by
          have := HHW.out
          rw [← List.take_append_drop (v.length - u.length) v] at this
          simpa only [List.append_assoc] using this)
        have HC := Aside0.mk hc
        have wd : IntKind.i64.wrap ((v.length : Int) - (u.length : Int)) = (v.length : Int) - (u.length : Int) := wz (by omega) (by have := HQ.out; omega)
        have ws : IntKind.i64.wrap ((m : Int) + (v.length : Int)) = (m : Int) + (v.length : Int) := wz (by omega) (by have := HQ.out; omega)
        have wt : IntKind.i64.wrap ((m : Int) + (v.length : Int) - (u.length : Int)) = (m : Int) + (v.length : Int) - (u.length : Int) := wz (by omega) (by have := HQ.out; omega)
        have hmv : (m : Int) + (v.length : Int) - (u.length : Int) = ((m + v.length - u.length : Nat) : Int) := by omega
        have hmb : m + v.length - u.length ≤ tot := by have := HQ.out; omega
        generalize m + v.length - u.length = mv at *
        have HFIN : Aside0 (∀ q, pw wr g (Q ++ (v.drop (v.length - u.length) ++ (v.take (v.length - u.length) ++ (u ++ S)))) q = pw w g (Q ++ (v.drop (v.length - u.length) ++ (v.take (v.length - u.length) ++ (u ++ S)))) (k + q)) := ⟨fun q => by
          rw [HPP.out _ _ (by have := HLEN.out; simp at this ⊢; omega)]⟩
        have HREST : Aside0 (((v.length : Int) - (u.length : Int) = ((v.take (v.length - u.length)).length : Int)) ∧ (v.drop (v.length - u.length)).length = u.length) := ⟨by simp; omega⟩
        have HTN : Aside0 (Q ++ (v.take (v.length - u.length) ++ (v.drop (v.length - u.length) ++ (u ++ S))) = P ++ (V ++ (U ++ B))) := ⟨by
          rw [← HT.out]
          have := List.take_append_drop (v.length - u.length) v
          rw [← List.append_assoc (v.take _), this]⟩
        clear hc wi wj HWR
        go_wp2_with (go_at_call 31; refine HC.out.mono ?_; rintro e w' ⟨rfl, q, hw⟩; have HWQ := Aside0.mk hw; clear hw)
        go_roundg (v.length)
        case measure => have := HG.out; omega
        case rel => exact ⟨Q, v.drop (v.length - u.length), v.take (v.length - u.length), u ++ S, k + q, by rw [HREST.out.2], by rw [HREST.out.1], by have := HREST.out; have := HG.out; omega, by have := HREST.out; have := HG.out; omega, by have := HREST.out; have := HG.out; omega, ⟨by have := HQ.out; have := HREST.out; simp only [List.length_append]; omega⟩, HTN, ⟨by rw [HWQ.out]; exact HFIN.out q⟩⟩
end Go.Proofs.Ytlpjlgjhhmfnlaa.P
/- Stable sorting: the merge of two sorted rows: walks. -/
namespace Go.Proofs.Ytlpjlgjhhmfnlaa.P
open Go.RowKit Go.Lib Go.Proofs.YtlpjlgjhhmfnlaaW.PrintWords Go.Proofs.YtlpjlgjhhmfnlaaW.PrintLast Go.Proofs.YtlpjlgjhhmfnlaaW.PrintMore
open Stab
set_option linter.unusedVariables false
set_option linter.unusedSimpArgs false

def CmpOK (w : World) (g tot : Nat) (fc : Nat) (lb : Array Value) (cf : Int → Int → Int) : Prop := ∀ (d : List Int) (n : Nat), d.length = tot → ∀ x y : Int, 0 ≤ x → x < tot → 0 ≤ y → y < tot →
  Calls Try.prog fc (#[.int .i64 x, .int .i64 y] ++ lb) (pw w g d n) fun e w' => e = .returned (.int .i64 (cf x y)) ∧ ∃ q, w' = (pw w g d n).drewN q
theorem CmpOK.at_ {w : World} {g tot fc : Nat} {lb : Array Value} {cf : Int → Int → Int} (h : CmpOK w g tot fc lb cf) {d : List Int} (hd : d.length = tot) (n : Nat) : CmpOK (pw w g d n) g tot fc lb cf := fun d' m hd' x y h1 h2 h3 h4 => by
  rw [pw_pw (by rw [hd', hd])]
  exact h d' (n + m) hd' x y h1 h2 h3 h4
/-- what a comparison tells, at the places that are asked: the later one against the elder -/
structure Tells (T : Int → Int → Bool) (cf : Int → Int → Int) : Prop where
  tot : Tot T
  lt : ∀ x y : Int, y < x → (cf x y < 0 ↔ T x y = true)
set_option maxHeartbeats 2000000 in
set_option maxRecDepth 100000 in
theorem merge1_c (T : Int → Int → Bool) (cf : Int → Int → Int) (hT : Tells T cf) (fc : Nat) (lb : Array Value) (eg : ∀ args w, (callFunc fc args).run Try.prog w = .ok (.enter fc args) w) (w : World) (g cap : Nat) (X R Y : List Int) (x : Int) (tot a m b : Nat)
    (ha : a = X.length) (hm : m = X.length + 1) (hb : b = X.length + 1 + R.length) (ht : tot = X.length + 1 + R.length + Y.length) (hsz : tot ≤ 1099511627776) (hR : Srt T R) (hx : ∀ r ∈ R, x < r) (hel : (0 ≤ x ∧ x < tot) ∧ ∀ r ∈ R, 0 ≤ r ∧ r < tot)
    (hH : HoldsL w g (X ++ ([x] ++ (R ++ Y)))) (hcmp : CmpOK w g tot fc lb cf) :
    Calls Try.prog 29 #[.slice (some ⟨g, 0, none⟩) tot cap, .int .i64 (a : Int), .int .i64 (m : Int), .int .i64 (b : Int), .func (.func fc) #[] lb] w fun e w' => e = .returned (.tuple #[]) ∧ ∃ k s, w' = pw w g (X ++ (s ++ Y)) k ∧ IsMerge T [x] R s := by
  have HL : Aside0 (a = X.length ∧ m = X.length + 1 ∧ b = X.length + 1 + R.length ∧ tot = X.length + 1 + R.length + Y.length) := ⟨⟨ha, hm, hb, ht⟩⟩
  have HH := Aside0.mk hH
  have HW : Aside0 (w = pw w g (X ++ ([x] ++ (R ++ Y))) 0) := ⟨pw_self hH⟩
  have HC := Aside0.mk hcmp
  have HS := Aside0.mk (And.intro hT (And.intro hR (And.intro hx hel)))
  have hma : (m : Int) - (a : Int) = 1 := by omega
  have wma : IntKind.i64.wrap ((m : Int) - (a : Int)) = 1 := by rw [hma]; rfl
  have hbt : b ≤ tot := by omega
  clear ha hm hb ht hH hcmp hT hR hx hel
  go_enter Try.func29, Try.ntmps29
  go_wp2
  go_loopg [10, 11, 12] (R.length) (fun gg s10 s11 s12 wr => ∃ (i j k : Nat), s10 = .int .i64 (i : Int) ∧ s11 = .int .i64 (j : Int) ∧ m ≤ i ∧ i ≤ j ∧ j ≤ b ∧ j - i ≤ gg ∧ Aside0 ((∀ r ∈ R.take (i - m), T r x = true) ∧ (∀ r ∈ R.drop (j - m), T r x = false)) ∧ Aside0 (wr = pw w g (X ++ ([x] ++ (R ++ Y))) k))
  case atStart => exact ⟨m, b, 0, rfl, rfl, Nat.le_refl _, by have := HL.out; omega, Nat.le_refl _, by have := HL.out; omega, ⟨by
    have := HL.out
    rw [Nat.sub_self, List.take_zero, List.drop_of_length_le (by omega)]
    exact ⟨fun r hr => absurd hr List.not_mem_nil, fun r hr => absurd hr List.not_mem_nil⟩⟩, HW⟩
  case round =>
    obtain ⟨i, j, k, rfl, rfl, hmi, hij, hjb, hg, HI, HWR⟩ := hrel
    have HG := Aside0.mk hg
    clear hg
    by_cases hlt : i < j
    · have hltz : (i : Int) < (j : Int) := by omega
      obtain ⟨h, hh⟩ : ∃ h, h = (i + j) / 2 := ⟨_, rfl⟩
      have eh : ((i : Int) + (j : Int)) / 2 = (h : Int) := by omega
      have hhb : i ≤ h ∧ h < j := by omega
      have hhR : h - m < R.length := by have := HL.out; omega
      have hl : (X ++ ([x] ++ (R ++ Y))).length = tot := by have := HL.out; simp; omega
      obtain ⟨r, hr⟩ : ∃ r, R[h - m]? = some r := ⟨_, List.getElem?_eq_getElem hhR⟩
      have gh : (X ++ ([x] ++ (R ++ Y))).getD h 0 = r := by
        have := HL.out
        rw [List.getD_eq_getElem?_getD, List.getElem?_append_right (by omega), List.getElem?_append_right (by simp; omega), List.getElem?_append_left (by simp; omega)]
        simp only [List.length_singleton, show h - X.length - 1 = h - m by omega]
        rw [hr]; rfl
      have ga : (X ++ ([x] ++ (R ++ Y))).getD a 0 = x := by
        have := HL.out
        rw [this.1]; exact Stab.get_at X x (R ++ Y)
      obtain ⟨ch, fh⟩ := pw_cell HH.out rfl k h (by rw [hl]; omega)
      obtain ⟨ca, fa⟩ := pw_cell HH.out rfl k a (by have := HL.out; omega)
      rw [gh, ← HWR.out] at ch
      rw [ga, ← HWR.out] at ca
      have hrm : r ∈ R := List.mem_of_getElem? hr
      have hel := HS.out.2.2.2
      have hc : ∀ n, Calls Try.prog fc (#[.int .i64 r, .int .i64 x] ++ lb) (wr.drewN n) fun e w' => e = .returned (.int .i64 (cf r x)) ∧ ∃ q, w' = (wr.drewN n).drewN q := fun n => by
        rw [HWR.out, pw_drew]
        exact HC.out _ _ hl _ _ (hel.2 _ hrm).1 (hel.2 _ hrm).2 hel.1.1 hel.1.2
      have HHR := Aside0.mk (And.intro hr hhb)
      have ph : (0 : Int) ≤ (h : Int) := by omega
      have qh : (h : Int) < (tot : Int) := by omega
      have pa : (0 : Int) ≤ (a : Int) := by omega
      have qa : (a : Int) < (tot : Int) := by have := HL.out; omega
      by_cases hT : T r x = true
      · have hneg := ((HS.out.1.lt _ _ (HS.out.2.2.1 _ hrm)).2 hT)
        have HTT := Aside0.mk hT
        clear hh hhb hhR hl gh ga hel hrm fh fa hT hr
        go_wp2_with fail
        go_quiet (first | (go_at_fn fc; refine Calls.quiet_of (hc _)))
        go_wp2
        go_roundg (j - (h + 1))
        case measure => have := HG.out; have := HHR.out; omega
        case rel =>
          have hhb := HHR.out.2
          refine ⟨h + 1, j, _, by go_num, rfl, by omega, by omega, hjb, Nat.le_refl _, ⟨?_, HI.out.2⟩, ⟨by rw [HWR.out, pw_drew]⟩⟩
          have := srt_take HS.out.1.tot HS.out.2.1 HHR.out.1 HTT.out
          rw [show h + 1 - m = h - m + 1 by omega]
          exact this
      · have hTf : T r x = false := by simpa using hT
        have hneg : ¬ cf r x < 0 := fun hn => hT ((HS.out.1.lt _ _ (HS.out.2.2.1 _ hrm)).1 hn)
        have HTT := Aside0.mk hTf
        clear hh hhb hhR hl gh ga hel hrm fh fa hT hr hTf
        go_wp2_with fail
        go_quiet (first | (go_at_fn fc; refine Calls.quiet_of (hc _)))
        go_wp2
        go_roundg (h - i)
        case measure => have := HG.out; have := HHR.out; omega
        case rel =>
          have hhb := HHR.out.2
          refine ⟨i, h, _, rfl, rfl, hmi, by omega, by omega, Nat.le_refl _, ⟨HI.out.1, ?_⟩, ⟨by rw [HWR.out, pw_drew]⟩⟩
          exact srt_drop HS.out.1.tot HS.out.2.1 HHR.out.1 HTT.out
    · have hltz : ¬ (i : Int) < (j : Int) := by omega
      have hei : i = j := by omega
      subst hei
      have hi1 : (1 : Int) ≤ (i : Int) := by have := HL.out; omega
      have HIB : Aside0 (m ≤ i ∧ i ≤ b) := ⟨⟨hmi, hjb⟩⟩
      go_wp2
      go_loopg [13] (i - a) (fun gg s13 wr => ∃ (q k : Nat), s13 = .int .i64 ((a + q : Nat) : Int) ∧ q ≤ i - m ∧ i - m - q ≤ gg ∧ Aside0 (wr = pw w g (X ++ (R.take q ++ x :: (R.drop q ++ Y))) k))
      case atStart => exact ⟨0, k, rfl, Nat.zero_le _, by have := HL.out; omega, ⟨by rw [HWR.out]; simp⟩⟩
      case round =>
        clear HWR
        obtain ⟨q, k, rfl, hq, hg, HWR⟩ := hrel
        have HG := Aside0.mk (And.intro hq hg)
        obtain ⟨kk, hkk⟩ : ∃ kk, kk = a + q := ⟨_, rfl⟩
        rw [← hkk]
        have hl : (X ++ (R.take q ++ x :: (R.drop q ++ Y))).length = tot := by have := HL.out; simp; omega
        have hl0 : (X ++ ([x] ++ (R ++ Y))).length = tot := by have := HL.out; simp; omega
        by_cases hlt2 : q < i - m
        · have hltz2 : (kk : Int) < (i : Int) - 1 := by have := HL.out; omega
          have hqR : q < R.length := by have := HL.out; have := HIB.out; omega
          obtain ⟨c0, f0⟩ := pw_cell HH.out (hl.trans hl0.symm) k kk (by rw [hl]; have := HL.out; omega)
          obtain ⟨k1, hk1⟩ : ∃ k1, k1 = kk + 1 := ⟨_, rfl⟩
          obtain ⟨c1, f1⟩ := pw_cell HH.out (hl.trans hl0.symm) k k1 (by rw [hl]; have := HL.out; omega)
          have hsw := pw_swap w g (X ++ (R.take q ++ x :: (R.drop q ++ Y))) k kk k1 (by rw [hl]; have := HL.out; omega) (by rw [hl]; have := HL.out; omega)
          have hst : swi (X ++ (R.take q ++ x :: (R.drop q ++ Y))) kk k1 = X ++ (R.take (q + 1) ++ x :: (R.drop (q + 1) ++ Y)) := by
            have := up_step X R Y x q hqR
            rw [hk1, hkk, HL.out.1]
            exact this
          rw [hst, ← HWR.out] at hsw
          rw [← HWR.out] at c0 f0 c1 f1
          have HS2 := Aside0.mk hsw
          generalize (X ++ (R.take q ++ x :: (R.drop q ++ Y))).getD kk 0 = y0 at *
          generalize (X ++ (R.take q ++ x :: (R.drop q ++ Y))).getD k1 0 = y1 at *
          have HK := Aside0.mk (And.intro hkk hk1)
          have p0 : (0 : Int) ≤ (kk : Int) := by omega
          have q0 : (kk : Int) < (tot : Int) := by have := HL.out; have := HIB.out; omega
          have p1 : (0 : Int) ≤ (kk : Int) + 1 := by omega
          have q1 : (kk : Int) + 1 < (tot : Int) := by have := HL.out; have := HIB.out; omega
          have wk : IntKind.i64.wrap ((kk : Int) + 1) = (kk : Int) + 1 := wz (by omega) (by omega)
          have e1 : ((kk : Int) + 1).toNat = k1 := by omega
          have n1 : ¬ kk = k1 := by omega
          have n2 : ¬ k1 = kk := by omega
          clear hl hl0 hqR hst hsw hkk hk1 HWR hq hg
          go_wp2_with fail
          go_big_region
          all_goals go_wp2
          go_roundg (i - m - (q + 1))
          case measure => have := HG.out; omega
          case rel => exact ⟨q + 1, k + 1, by have := HK.out; rw [show a + (q + 1) = kk + 1 by omega]; go_num, by omega, by have := HG.out; omega, HS2⟩
        · have hltz2 : ¬ (kk : Int) < (i : Int) - 1 := by have := HL.out; omega
          have HFIN : Aside0 (∃ s, wr = pw w g (X ++ (s ++ Y)) k ∧ IsMerge T [x] R s) := ⟨by
            refine ⟨R.take q ++ x :: R.drop q, by rw [HWR.out]; simp, ?_⟩
            have e : q = i - m := by omega
            have h2 := merge_one (R1 := R.take q) (R2 := R.drop q) HS.out.1.tot (by rw [List.take_append_drop]; exact HS.out.2.1) (by rw [List.take_append_drop]; exact HS.out.2.2.1) (by rw [e]; exact HI.out.1) (by rw [e]; exact HI.out.2)
            rw [List.take_append_drop] at h2
            exact h2⟩
          clear hl hl0 hkk HWR hq hg
          go_wp2
          first | go_end0 | ((try simp only [Exit.inBlock, Exit.then]); refine bodyPost_ret (results_none rfl _ _ _) rfl ?_)
          obtain ⟨s, h1, h2⟩ := HFIN.out
          exact ⟨rfl, k, s, h1, h2⟩

set_option maxHeartbeats 2000000 in
set_option maxRecDepth 100000 in
theorem merge2_c (T : Int → Int → Bool) (cf : Int → Int → Int) (hT : Tells T cf) (fc : Nat) (lb : Array Value) (eg : ∀ args w, (callFunc fc args).run Try.prog w = .ok (.enter fc args) w) (w : World) (g cap : Nat) (X L Y : List Int) (y : Int) (tot a m b : Nat)
    (ha : a = X.length) (hm : m = X.length + L.length) (hb : b = X.length + L.length + 1) (ht : tot = X.length + L.length + 1 + Y.length) (hL1 : 1 < L.length) (hsz : tot ≤ 1099511627776) (hL : Srt T L) (hy : ∀ l ∈ L, l < y) (hel : (0 ≤ y ∧ y < tot) ∧ ∀ l ∈ L, 0 ≤ l ∧ l < tot)
    (hH : HoldsL w g (X ++ (L ++ ([y] ++ Y)))) (hcmp : CmpOK w g tot fc lb cf) :
    Calls Try.prog 29 #[.slice (some ⟨g, 0, none⟩) tot cap, .int .i64 (a : Int), .int .i64 (m : Int), .int .i64 (b : Int), .func (.func fc) #[] lb] w fun e w' => e = .returned (.tuple #[]) ∧ ∃ k s, w' = pw w g (X ++ (s ++ Y)) k ∧ IsMerge T L [y] s := by
  have HL : Aside0 (a = X.length ∧ m = X.length + L.length ∧ b = X.length + L.length + 1 ∧ tot = X.length + L.length + 1 + Y.length) := ⟨⟨ha, hm, hb, ht⟩⟩
  have HH := Aside0.mk hH
  have HW : Aside0 (w = pw w g (X ++ (L ++ ([y] ++ Y))) 0) := ⟨pw_self hH⟩
  have HC := Aside0.mk hcmp
  have HS := Aside0.mk (And.intro hT (And.intro hL (And.intro hy hel)))
  have hma : ((m : Int) - (a : Int) == 1) = false := beq_eq_false_iff_ne.mpr (by omega)
  have wma : IntKind.i64.wrap ((m : Int) - (a : Int)) = (m : Int) - (a : Int) := wz (by omega) (by omega)
  have hbm : (b : Int) - (m : Int) = 1 := by omega
  have wbm : IntKind.i64.wrap ((b : Int) - (m : Int)) = 1 := by rw [hbm]; rfl
  have hbt : b ≤ tot := by omega
  have hmb : m < b := by omega
  clear ha hm hb ht hH hcmp hT hL hy hel
  go_enter Try.func29, Try.ntmps29
  go_wp2
  go_loopg [14, 15, 16] (L.length) (fun gg s10 s11 s12 wr => ∃ (i j k : Nat), s10 = .int .i64 (i : Int) ∧ s11 = .int .i64 (j : Int) ∧ a ≤ i ∧ i ≤ j ∧ j ≤ m ∧ j - i ≤ gg ∧ Aside0 ((∀ r ∈ L.take (i - a), T y r = false) ∧ (∀ r ∈ L.drop (j - a), T y r = true)) ∧ Aside0 (wr = pw w g (X ++ (L ++ ([y] ++ Y))) k))
  case atStart => exact ⟨a, m, 0, rfl, rfl, Nat.le_refl _, by have := HL.out; omega, Nat.le_refl _, by have := HL.out; omega, ⟨by
    have := HL.out
    rw [Nat.sub_self, List.take_zero, List.drop_of_length_le (by omega)]
    exact ⟨fun r hr => absurd hr List.not_mem_nil, fun r hr => absurd hr List.not_mem_nil⟩⟩, HW⟩
  case round =>
    obtain ⟨i, j, k, rfl, rfl, hmi, hij, hjb, hg, HI, HWR⟩ := hrel
    have HG := Aside0.mk hg
    clear hg
    by_cases hlt : i < j
    · have hltz : (i : Int) < (j : Int) := by omega
      obtain ⟨h, hh⟩ : ∃ h, h = (i + j) / 2 := ⟨_, rfl⟩
      have eh : ((i : Int) + (j : Int)) / 2 = (h : Int) := by omega
      have hhb : i ≤ h ∧ h < j := by omega
      have hhR : h - a < L.length := by have := HL.out; omega
      have hl : (X ++ (L ++ ([y] ++ Y))).length = tot := by have := HL.out; simp; omega
      obtain ⟨r, hr⟩ : ∃ r, L[h - a]? = some r := ⟨_, List.getElem?_eq_getElem hhR⟩
      have gh : (X ++ (L ++ ([y] ++ Y))).getD h 0 = r := by
        have := HL.out
        rw [List.getD_eq_getElem?_getD, List.getElem?_append_right (by omega), List.getElem?_append_left (by omega), ← this.1, hr]; rfl
      have ga : (X ++ (L ++ ([y] ++ Y))).getD m 0 = y := by
        have := HL.out
        have e := Stab.get_at (X ++ L) y Y
        rw [List.length_append, ← this.2.1] at e
        simpa using e
      obtain ⟨ch, fh⟩ := pw_cell HH.out rfl k h (by rw [hl]; omega)
      obtain ⟨ca, fa⟩ := pw_cell HH.out rfl k m (by rw [hl]; omega)
      rw [gh, ← HWR.out] at ch
      rw [ga, ← HWR.out] at ca
      have hrm : r ∈ L := List.mem_of_getElem? hr
      have hel := HS.out.2.2.2
      have hc : ∀ n, Calls Try.prog fc (#[.int .i64 y, .int .i64 r] ++ lb) (wr.drewN n) fun e w' => e = .returned (.int .i64 (cf y r)) ∧ ∃ q, w' = (wr.drewN n).drewN q := fun n => by
        rw [HWR.out, pw_drew]
        exact HC.out _ _ hl _ _ hel.1.1 hel.1.2 (hel.2 _ hrm).1 (hel.2 _ hrm).2
      have HHR := Aside0.mk (And.intro hr hhb)
      have ph : (0 : Int) ≤ (h : Int) := by omega
      have qh : (h : Int) < (tot : Int) := by omega
      have pa : (0 : Int) ≤ (m : Int) := by omega
      have qa : (m : Int) < (tot : Int) := by omega
      by_cases hT : T y r = true
      · have hneg : decide (cf y r < 0) = true := decide_eq_true ((HS.out.1.lt _ _ (HS.out.2.2.1 _ hrm)).2 hT)
        have HTT := Aside0.mk hT
        clear hh hhb hhR hl gh ga hel hrm fh fa hT hr
        go_wp2_with fail
        go_quiet (first | (go_at_fn fc; refine Calls.quiet_of (hc _)))
        go_wp2
        all_goals
          go_roundg (h - i)
          case measure => have := HG.out; have := HHR.out; omega
          case rel =>
            have hhb := HHR.out.2
            refine ⟨i, h, _, rfl, rfl, hmi, by omega, by omega, Nat.le_refl _, ⟨HI.out.1, ?_⟩, ⟨by rw [HWR.out, pw_drew]⟩⟩
            exact srt_dropT HS.out.1.tot HS.out.2.1 HHR.out.1 HTT.out
      · have hTf : T y r = false := by simpa using hT
        have hneg : decide (cf y r < 0) = false := decide_eq_false (fun hn => hT ((HS.out.1.lt _ _ (HS.out.2.2.1 _ hrm)).1 hn))
        have HTT := Aside0.mk hTf
        clear hh hhb hhR hl gh ga hel hrm fh fa hT hr hTf
        go_wp2_with fail
        go_quiet (first | (go_at_fn fc; refine Calls.quiet_of (hc _)))
        go_wp2
        go_roundg (j - (h + 1))
        case measure => have := HG.out; have := HHR.out; omega
        case rel =>
          have hhb := HHR.out.2
          refine ⟨h + 1, j, _, by go_num, rfl, by omega, by omega, hjb, Nat.le_refl _, ⟨?_, HI.out.2⟩, ⟨by rw [HWR.out, pw_drew]⟩⟩
          have := srt_takeF HS.out.1.tot HS.out.2.1 HHR.out.1 HTT.out
          rw [show h + 1 - a = h - a + 1 by omega]
          exact this
    · have hltz : ¬ (i : Int) < (j : Int) := by omega
      have hei : i = j := by omega
      subst hei
      have HIB : Aside0 (a ≤ i ∧ i ≤ m) := ⟨⟨hmi, hjb⟩⟩
      go_wp2
      go_loopg [17] (m - i) (fun gg s13 wr => ∃ (q k : Nat), s13 = .int .i64 ((a + q : Nat) : Int) ∧ i - a ≤ q ∧ q ≤ L.length ∧ q - (i - a) ≤ gg ∧ Aside0 (wr = pw w g (X ++ (L.take q ++ y :: (L.drop q ++ Y))) k))
      case atStart => exact ⟨L.length, k, by have := HL.out; rw [show a + L.length = m by omega], by have := HL.out; omega, Nat.le_refl _, by have := HL.out; omega, ⟨by rw [HWR.out]; simp⟩⟩
      case round =>
        clear HWR
        obtain ⟨q, k, rfl, hiq, hq, hg, HWR⟩ := hrel
        have HG := Aside0.mk (And.intro hiq (And.intro hq hg))
        have hl : (X ++ (L.take q ++ y :: (L.drop q ++ Y))).length = tot := by have := HL.out; simp; omega
        have hl0 : (X ++ (L ++ ([y] ++ Y))).length = tot := by have := HL.out; simp; omega
        by_cases hlt2 : i - a < q
        · obtain ⟨q', rfl⟩ : ∃ q', q = q' + 1 := ⟨q - 1, by omega⟩
          obtain ⟨kp, hkp⟩ : ∃ kp, kp = a + q' := ⟨_, rfl⟩
          have ekp : ((a + (q' + 1) : Nat) : Int) = (kp : Int) + 1 := by omega
          rw [ekp]
          have hltz2 : (i : Int) < (kp : Int) + 1 := by have := HIB.out; omega
          have hqR : q' < L.length := by omega
          obtain ⟨k1, hk1⟩ : ∃ k1, k1 = kp + 1 := ⟨_, rfl⟩
          obtain ⟨c0, f0⟩ := pw_cell HH.out (hl.trans hl0.symm) k kp (by rw [hl]; have := HL.out; omega)
          obtain ⟨c1, f1⟩ := pw_cell HH.out (hl.trans hl0.symm) k k1 (by rw [hl]; have := HL.out; omega)
          have hsw := pw_swap w g (X ++ (L.take (q' + 1) ++ y :: (L.drop (q' + 1) ++ Y))) k k1 kp (by rw [hl]; have := HL.out; omega) (by rw [hl]; have := HL.out; omega)
          have hst : swi (X ++ (L.take (q' + 1) ++ y :: (L.drop (q' + 1) ++ Y))) k1 kp = X ++ (L.take q' ++ y :: (L.drop q' ++ Y)) := by
            have := down_step X L Y y q' hqR
            rw [hk1, hkp, HL.out.1]
            exact this
          rw [hst, ← HWR.out] at hsw
          rw [← HWR.out] at c0 f0 c1 f1
          have HS2 := Aside0.mk hsw
          generalize (X ++ (L.take (q' + 1) ++ y :: (L.drop (q' + 1) ++ Y))).getD kp 0 = y0 at *
          generalize (X ++ (L.take (q' + 1) ++ y :: (L.drop (q' + 1) ++ Y))).getD k1 0 = y1 at *
          have HK := Aside0.mk (And.intro hkp hk1)
          have p0 : (0 : Int) ≤ (kp : Int) := by omega
          have q0 : (kp : Int) < (tot : Int) := by have := HL.out; omega
          have p1 : (0 : Int) ≤ (kp : Int) + 1 := by omega
          have q1 : (kp : Int) + 1 < (tot : Int) := by have := HL.out; omega
          have wk : IntKind.i64.wrap (kp : Int) = (kp : Int) := wz (by omega) (by omega)
          have e1 : ((kp : Int) + 1).toNat = k1 := by omega
          have n1 : ¬ kp = k1 := by omega
          have n2 : ¬ k1 = kp := by omega
          clear hl hl0 hqR hst hsw hkp hk1 HWR hq hg ekp hiq
          go_wp2_with fail
          go_big_region
          all_goals go_wp2
          go_roundg (q' - (i - a))
          case measure => have := HG.out; omega
          case rel => exact ⟨q', k + 1, by have := HK.out; rw [show a + q' = kp by omega], by have := HG.out; omega, by have := HG.out; omega, Nat.le_refl _, HS2⟩
        · have hltz2 : ¬ (i : Int) < ((a + q : Nat) : Int) := by have := HIB.out; omega
          have HFIN : Aside0 (∃ s, wr = pw w g (X ++ (s ++ Y)) k ∧ IsMerge T L [y] s) := ⟨by
            refine ⟨L.take q ++ y :: L.drop q, by rw [HWR.out]; simp, ?_⟩
            have e : q = i - a := by omega
            have h2 := merge_last (L1 := L.take q) (L2 := L.drop q) HS.out.1.tot (by rw [List.take_append_drop]; exact HS.out.2.1) (by rw [List.take_append_drop]; exact HS.out.2.2.1) (by rw [e]; exact HI.out.1) (by rw [e]; exact HI.out.2)
            rw [List.take_append_drop] at h2
            exact h2⟩
          clear hl hl0 HWR hq hg hiq
          go_wp2
          first | go_end0 | ((try simp only [Exit.inBlock, Exit.then]); refine bodyPost_ret (results_none rfl _ _ _) rfl ?_)
          obtain ⟨s, h1, h2⟩ := HFIN.out
          exact ⟨rfl, k, s, h1, h2⟩
end Go.Proofs.Ytlpjlgjhhmfnlaa.P
/- Stable sorting: the merge of two sorted rows, whatever their lengths: walk. -/
namespace Go.Proofs.Ytlpjlgjhhmfnlaa.P
open Go.RowKit Go.Lib Go.Proofs.YtlpjlgjhhmfnlaaW.PrintWords Go.Proofs.YtlpjlgjhhmfnlaaW.PrintLast Go.Proofs.YtlpjlgjhhmfnlaaW.PrintMore
open Stab
set_option linter.unusedVariables false
set_option linter.unusedSimpArgs false

/-- what is asked of a merge, and what it leaves -/
def MergeSaid (T : Int → Int → Bool) (cf : Int → Int → Int) (fc : Nat) (lb : Array Value) (s : Nat) : Prop := ∀ (w : World) (g cap : Nat) (X L R Y : List Int) (tot a m b : Nat), L.length + R.length = s → 0 < L.length → 0 < R.length →
  a = X.length → m = X.length + L.length → b = X.length + L.length + R.length → tot = X.length + L.length + R.length + Y.length → tot ≤ 1099511627776 → Srt T L → Srt T R → (∀ l ∈ L, ∀ r ∈ R, l < r) → (∀ l ∈ L ++ R, 0 ≤ l ∧ l < tot) →
  HoldsL w g (X ++ (L ++ (R ++ Y))) → CmpOK w g tot fc lb cf →
  Calls Try.prog 29 #[.slice (some ⟨g, 0, none⟩) tot cap, .int .i64 (a : Int), .int .i64 (m : Int), .int .i64 (b : Int), .func (.func fc) #[] lb] w fun e w' => e = .returned (.tuple #[]) ∧ ∃ k s, w' = pw w g (X ++ (s ++ Y)) k ∧ IsMerge T L R s

set_option maxHeartbeats 4000000 in
set_option maxRecDepth 100000 in
theorem merge3_c (T : Int → Int → Bool) (cf : Int → Int → Int) (hT : Tells T cf) (fc : Nat) (lb : Array Value) (eg : ∀ args w, (callFunc fc args).run Try.prog w = .ok (.enter fc args) w) (s : Nat) (ih : ∀ s', s' < s → MergeSaid T cf fc lb s')
    (w : World) (g cap : Nat) (X L R Y : List Int) (tot a m b : Nat) (hs : L.length + R.length = s) (hL1 : 1 < L.length) (hR1 : 1 < R.length) (ha : a = X.length) (hm : m = X.length + L.length) (hb : b = X.length + L.length + R.length) (ht : tot = X.length + L.length + R.length + Y.length) (hsz : tot ≤ 1099511627776)
    (hL : Srt T L) (hR : Srt T R) (hlr : ∀ l ∈ L, ∀ r ∈ R, l < r) (hel : ∀ l ∈ L ++ R, 0 ≤ l ∧ l < tot) (hH : HoldsL w g (X ++ (L ++ (R ++ Y)))) (hcmp : CmpOK w g tot fc lb cf) :
    Calls Try.prog 29 #[.slice (some ⟨g, 0, none⟩) tot cap, .int .i64 (a : Int), .int .i64 (m : Int), .int .i64 (b : Int), .func (.func fc) #[] lb] w fun e w' => e = .returned (.tuple #[]) ∧ ∃ k s, w' = pw w g (X ++ (s ++ Y)) k ∧ IsMerge T L R s := by
  have HL : Aside0 (a = X.length ∧ m = X.length + L.length ∧ b = X.length + L.length + R.length ∧ tot = X.length + L.length + R.length + Y.length) := ⟨⟨ha, hm, hb, ht⟩⟩
  have HH := Aside0.mk hH
  have HW : Aside0 (w = pw w g (X ++ (L ++ (R ++ Y))) 0) := ⟨pw_self hH⟩
  have HC := Aside0.mk hcmp
  have HS := Aside0.mk (And.intro hT (And.intro hL (And.intro hR (And.intro hlr hel))))
  have HIH := Aside0.mk (And.intro hs ih)
  have hlen : (X ++ (L ++ (R ++ Y))).length = tot := by simp; omega
  have HLEN := Aside0.mk hlen
  have hma : ((m : Int) - (a : Int) == 1) = false := beq_eq_false_iff_ne.mpr (by omega)
  have wma : IntKind.i64.wrap ((m : Int) - (a : Int)) = (m : Int) - (a : Int) := wz (by omega) (by omega)
  have hbm : ((b : Int) - (m : Int) == 1) = false := beq_eq_false_iff_ne.mpr (by omega)
  have wbm : IntKind.i64.wrap ((b : Int) - (m : Int)) = (b : Int) - (m : Int) := wz (by omega) (by omega)
  obtain ⟨mid, hmid⟩ : ∃ mid, mid = (a + b) / 2 := ⟨_, rfl⟩
  have emid : ((a : Int) + (b : Int)) / 2 = (mid : Int) := by omega
  obtain ⟨n, hn⟩ : ∃ n, n = mid + m := ⟨_, rfl⟩
  have en : (mid : Int) + (m : Int) = (n : Int) := by omega
  obtain ⟨p, hp⟩ : ∃ p, p = n - 1 := ⟨_, rfl⟩
  have ep : (n : Int) - 1 = (p : Int) := by omega
  have wp : IntKind.i64.wrap (p : Int) = (p : Int) := wz (by omega) (by omega)
  have hbt : b ≤ tot := by omega
  have hmb : m < b := by omega
  have ham : a < m := by omega
  have hmd : mid ≤ b := by omega
  have HM : Aside0 (mid = (a + b) / 2 ∧ n = mid + m ∧ p + 1 = n ∧ a + 1 < m ∧ m + 1 < b) := ⟨by omega⟩
  clear ha hm hb ht hH hcmp hT hL hR hlr hel hs ih hlen hmid hn hp
  go_enter Try.func29, Try.ntmps29
  go_upto_if 140 with fail
  go_cut [20, 21] (fun s20 s21 wc => ∃ lo hi : Nat, s20 = .int .i64 (lo : Int) ∧ s21 = .int .i64 (hi : Int) ∧ Aside0 ((mid < m ∧ lo + b = n ∧ hi = mid) ∨ (m ≤ mid ∧ lo = a ∧ hi = m)) ∧ w = wc)
  case first =>
    by_cases hmm : mid < m
    · have hmz : (mid : Int) < (m : Int) := by omega
      obtain ⟨lo, hlo⟩ : ∃ lo, lo = n - b := ⟨_, rfl⟩
      have elo : (n : Int) - (b : Int) = (lo : Int) := by have := HM.out; omega
      have hlob : lo ≤ tot := by have := HM.out; omega
      have wlo : IntKind.i64.wrap (lo : Int) = (lo : Int) := wz (by omega) (by omega)
      have HLO : Aside0 (lo + b = n) := ⟨by have := HM.out; omega⟩
      clear hlo
      go_wp2
      go_meet
      exact ⟨lo, mid, rfl, rfl, ⟨.inl ⟨hmm, HLO.out, rfl⟩⟩, rfl⟩
    · have hmz : ¬ (mid : Int) < (m : Int) := by omega
      go_wp2
      go_meet
      exact ⟨a, m, rfl, rfl, ⟨.inr ⟨by omega, rfl, rfl⟩⟩, rfl⟩
  case rest =>
    obtain ⟨lo, hi, rfl, rfl, HCA, rfl⟩ := hcut
    have hlh : lo ≤ hi ∧ hi ≤ tot := by have := HCA.out; have := HM.out; omega
    go_wp2
    go_loopg [20, 21, 23] (hi - lo) (fun gg s20 s21 s23 wr => ∃ (i j k : Nat), s20 = .int .i64 (i : Int) ∧ s21 = .int .i64 (j : Int) ∧ lo ≤ i ∧ i ≤ j ∧ j ≤ hi ∧ j - i ≤ gg ∧
      Aside0 ((i = lo ∨ ∃ l r, L[i - 1 - a]? = some l ∧ R[n - i - m]? = some r ∧ T r l = false) ∧ (j = hi ∨ ∃ l r, L[j - a]? = some l ∧ R[p - j - m]? = some r ∧ T r l = true)) ∧ Aside0 (wr = pw w g (X ++ (L ++ (R ++ Y))) k))
    case atStart => exact ⟨lo, hi, 0, rfl, rfl, Nat.le_refl _, hlh.1, Nat.le_refl _, Nat.le_refl _, ⟨⟨.inl rfl, .inl rfl⟩⟩, HW⟩
    case round =>
      obtain ⟨i, j, k, rfl, rfl, hli, hij, hjh, hg, HI, HWR⟩ := hrel
      have HG := Aside0.mk hg
      clear hg
      have HX := Aside0.mk (And.intro hli (And.intro hij hjh))
      have hjt : j ≤ tot := by omega
      by_cases hlt : i < j
      · have hltz : (i : Int) < (j : Int) := by omega
        obtain ⟨c, hc⟩ : ∃ c, c = (i + j) / 2 := ⟨_, rfl⟩
        have ec : ((i : Int) + (j : Int)) / 2 = (c : Int) := by omega
        have hcb : i ≤ c ∧ c < j := by omega
        have hca : a ≤ c ∧ c < m ∧ m ≤ p - c ∧ p - c < b ∧ c ≤ p := by have := HCA.out; have := HM.out; omega
        obtain ⟨pc, hpc⟩ : ∃ pc, pc = p - c := ⟨_, rfl⟩
        have epc : (p : Int) - (c : Int) = (pc : Int) := by omega
        have wpc : IntKind.i64.wrap (pc : Int) = (pc : Int) := wz (by omega) (by omega)
        have hcL : c - a < L.length := by have := HL.out; omega
        have hcR : pc - m < R.length := by have := HL.out; omega
        obtain ⟨l, hl⟩ : ∃ l, L[c - a]? = some l := ⟨_, List.getElem?_eq_getElem hcL⟩
        obtain ⟨r, hr⟩ : ∃ r, R[pc - m]? = some r := ⟨_, List.getElem?_eq_getElem hcR⟩
        have gl : (X ++ (L ++ (R ++ Y))).getD c 0 = l := by
          have := HL.out
          rw [List.getD_eq_getElem?_getD, List.getElem?_append_right (by omega), List.getElem?_append_left (by omega), ← this.1, hl]; rfl
        have gr : (X ++ (L ++ (R ++ Y))).getD pc 0 = r := by
          have := HL.out
          rw [List.getD_eq_getElem?_getD, List.getElem?_append_right (by omega), List.getElem?_append_right (by omega), List.getElem?_append_left (by omega), show pc - X.length - L.length = pc - m by omega, hr]; rfl
        obtain ⟨cl, fl⟩ := pw_cell HH.out rfl k c (by rw [HLEN.out]; omega)
        obtain ⟨cr, fr⟩ := pw_cell HH.out rfl k pc (by rw [HLEN.out]; omega)
        rw [gl, ← HWR.out] at cl
        rw [gr, ← HWR.out] at cr
        have hlm : l ∈ L := List.mem_of_getElem? hl
        have hrm : r ∈ R := List.mem_of_getElem? hr
        have hel := HS.out.2.2.2.2
        have hcc : ∀ n, Calls Try.prog fc (#[.int .i64 r, .int .i64 l] ++ lb) (wr.drewN n) fun e w' => e = .returned (.int .i64 (cf r l)) ∧ ∃ q, w' = (wr.drewN n).drewN q := fun n => by
          rw [HWR.out, pw_drew]
          have h1 := hel r (List.mem_append_right _ hrm)
          have h2 := hel l (List.mem_append_left _ hlm)
          exact HC.out _ _ HLEN.out _ _ h1.1 h1.2 h2.1 h2.2
        have HHR := Aside0.mk (And.intro hl (And.intro hr (And.intro hcb (And.intro hpc hca))))
        have pl : (0 : Int) ≤ (c : Int) := by omega
        have ql : (c : Int) < (tot : Int) := by omega
        have pr : (0 : Int) ≤ (pc : Int) := by omega
        have qr : (pc : Int) < (tot : Int) := by omega
        by_cases hTT : T r l = true
        · have hneg : decide (cf r l < 0) = true := decide_eq_true ((HS.out.1.lt _ _ (HS.out.2.2.2.1 _ hlm _ hrm)).2 hTT)
          have HTT := Aside0.mk hTT
          clear hc hcb hca hpc hcL hcR hl hr gl gr hlm hrm hel fl fr hTT hli hij hjh hlh hlt
          go_wp2_with fail
          go_quiet (first | (go_at_fn fc; refine Calls.quiet_of (hcc _)))
          go_wp2
          go_roundg (c - i)
          case measure => have := HG.out; have := HHR.out; omega
          case rel =>
            have hhb := HHR.out.2.2
            have hx := HX.out
            refine ⟨i, c, _, rfl, rfl, hx.1, hhb.1.1, by omega, Nat.le_refl _, ⟨HI.out.1, .inr ⟨l, r, HHR.out.1, ?_, HTT.out⟩⟩, ⟨by rw [HWR.out, pw_drew]⟩⟩
            rw [← hhb.2.1]; exact HHR.out.2.1
        · have hTf : T r l = false := by simpa using hTT
          have hneg : decide (cf r l < 0) = false := decide_eq_false (fun hn => hTT ((HS.out.1.lt _ _ (HS.out.2.2.2.1 _ hlm _ hrm)).1 hn))
          have HTT := Aside0.mk hTf
          clear hc hcb hca hpc hcL hcR hl hr gl gr hlm hrm hel fl fr hTT hli hij hjh hlh hTf hlt
          go_wp2_with fail
          go_quiet (first | (go_at_fn fc; refine Calls.quiet_of (hcc _)))
          go_wp2
          go_roundg (j - (c + 1))
          case measure => have := HG.out; have := HHR.out; omega
          case rel =>
            have hhb := HHR.out.2.2
            have hx := HX.out
            have hm := HM.out
            refine ⟨c + 1, j, _, by go_num, rfl, by omega, by omega, hx.2.2, Nat.le_refl _, ⟨.inr ⟨l, r, ?_, ?_, HTT.out⟩, HI.out.2⟩, ⟨by rw [HWR.out, pw_drew]⟩⟩
            · rw [show c + 1 - 1 - a = c - a by omega]; exact HHR.out.1
            · rw [show n - (c + 1) - m = pc - m by omega]; exact HHR.out.2.1
      · have hltz : ¬ (i : Int) < (j : Int) := by omega
        have hei : i = j := by omega
        subst hei
        obtain ⟨ed, hed⟩ : ∃ ed, ed = n - i := ⟨_, rfl⟩
        have eed : (n : Int) - (i : Int) = (ed : Int) := by have := HCA.out; have := HM.out; omega
        have hedb : ed ≤ tot := by have := HCA.out; have := HM.out; omega
        have wed : IntKind.i64.wrap (ed : Int) = (ed : Int) := wz (by omega) (by omega)
        have HE : Aside0 (a ≤ i ∧ i ≤ m ∧ m ≤ ed ∧ ed ≤ b ∧ ed + i = n ∧ ed = n - i) := ⟨by have := HCA.out; have := HM.out; omega⟩
        clear hed hli hij hjh hlh hlt
        -- the four parts
        have hu : i - a ≤ L.length := by have := HL.out; have := HE.out; omega
        have hv : ed - m ≤ R.length := by have := HL.out; have := HE.out; omega
        have hfin : ∀ s1 s2, IsMerge T (L.take (i - a)) (R.take (ed - m)) s1 → IsMerge T (L.drop (i - a)) (R.drop (ed - m)) s2 → IsMerge T L R (s1 ++ s2) := by
          intro s1 s2 m1 m2
          have hE := HE.out
          have hM := HM.out
          have hLL := HL.out
          refine cut_merge HS.out.1.tot HS.out.2.1 HS.out.2.2.1 HS.out.2.2.2.1 hu hv ?_ ?_ m1 m2
          · rcases HI.out.1 with h | ⟨l, r, e1, e2, e3⟩
            · rcases HCA.out with ⟨h1, h2, h3⟩ | ⟨h1, h2, h3⟩
              · right; left; omega
              · left; omega
            · right; right
              refine ⟨l, r, ?_, ?_, e3⟩
              · rw [show i - a - 1 = i - 1 - a by omega]; exact e1
              · rw [show ed - m = n - i - m by omega]; exact e2
          · rcases HI.out.2 with h | ⟨l, r, e1, e2, e3⟩
            · rcases HCA.out with ⟨h1, h2, h3⟩ | ⟨h1, h2, h3⟩
              · right; left; omega
              · left; omega
            · right; right
              refine ⟨l, r, e1, ?_, e3⟩
              rw [show ed - m - 1 = p - i - m by omega]; exact e2
        have hD : X ++ (L ++ (R ++ Y)) = X ++ (L.take (i - a) ++ (L.drop (i - a) ++ (R.take (ed - m) ++ (R.drop (ed - m) ++ Y)))) := by
          rw [← List.append_assoc (L.take _), List.take_append_drop, ← List.append_assoc (R.take _), List.take_append_drop]
        have hP : (L.take (i - a)).length = i - a ∧ (L.drop (i - a)).length = m - i ∧ (R.take (ed - m)).length = ed - m ∧ (R.drop (ed - m)).length = b - ed := by
          have := HL.out; have := HE.out; simp; omega
        have hSL : Srt T (L.take (i - a) ++ L.drop (i - a)) := by rw [List.take_append_drop]; exact HS.out.2.1
        have hSR : Srt T (R.take (ed - m) ++ R.drop (ed - m)) := by rw [List.take_append_drop]; exact HS.out.2.2.1
        have hc1 : ∀ l ∈ L.take (i - a), ∀ r ∈ R.take (ed - m), l < r := fun l hl r hr => HS.out.2.2.2.1 l (List.mem_of_mem_take hl) r (List.mem_of_mem_take hr)
        have hc2 : ∀ l ∈ L.drop (i - a), ∀ r ∈ R.drop (ed - m), l < r := fun l hl r hr => HS.out.2.2.2.1 l (List.mem_of_mem_drop hl) r (List.mem_of_mem_drop hr)
        have hb1 : ∀ l ∈ L.take (i - a) ++ R.take (ed - m), 0 ≤ l ∧ l < tot := fun l hl => HS.out.2.2.2.2 l (by
          rcases List.mem_append.1 hl with h | h
          · exact List.mem_append_left _ (List.mem_of_mem_take h)
          · exact List.mem_append_right _ (List.mem_of_mem_take h))
        have hb2 : ∀ l ∈ L.drop (i - a) ++ R.drop (ed - m), 0 ≤ l ∧ l < tot := fun l hl => HS.out.2.2.2.2 l (by
          rcases List.mem_append.1 hl with h | h
          · exact List.mem_append_left _ (List.mem_of_mem_drop h)
          · exact List.mem_append_right _ (List.mem_of_mem_drop h))
        rw [hD] at HWR
        have hlenD : (X ++ (L.take (i - a) ++ (L.drop (i - a) ++ (R.take (ed - m) ++ (R.drop (ed - m) ++ Y))))).length = tot := by rw [← hD]; exact HLEN.out
        have hH0 : HoldsL w g (X ++ (L.take (i - a) ++ (L.drop (i - a) ++ (R.take (ed - m) ++ (R.drop (ed - m) ++ Y))))) := by rw [← hD]; exact HH.out
        clear hD HI HX
        generalize L.take (i - a) = L1 at *
        generalize L.drop (i - a) = L2 at *
        generalize R.take (ed - m) = R1 at *
        generalize R.drop (ed - m) = R2 at *
        have hSL' := List.pairwise_append.1 hSL
        have hSR' := List.pairwise_append.1 hSR
        have HP := Aside0.mk hP
        have hXL : X.length = a := by have := HL.out; omega
        have hYL : X.length + (i - a) + (m - i) + (ed - m) + (b - ed) + Y.length = tot := by have := HL.out; have := HE.out; omega
        have hmm : mid = a + (i - a) + (ed - m) ∧ mid + (m - i) = ed := by have := HM.out; have := HE.out; omega
        have hHold : ∀ d q, d.length = tot → HoldsL (pw w g d q) g d := fun d q hd => pw_holds hH0 (by rw [hd, hlenD]) q
        have hCmp : ∀ d q, d.length = tot → CmpOK (pw w g d q) g tot fc lb cf := fun d q hd => HC.out.at_ hd q
        have hrot : i < m → m < ed → Calls Try.prog 30 #[.slice (some ⟨g, 0, none⟩) tot cap, .int .i64 (i : Int), .int .i64 (m : Int), .int .i64 (ed : Int), .func (.func fc) #[] lb] wr fun e w' => e = .returned (.tuple #[]) ∧ ∃ k, w' = pw w g (X ++ (L1 ++ (R1 ++ (L2 ++ (R2 ++ Y))))) k := by
          intro h1 h2
          have := rotate_c wr g cap (X ++ L1) L2 R1 (R2 ++ Y) (.func (.func fc) #[] lb) tot i m ed (by have := HE.out; simp; omega) (by have := HE.out; simp; omega) (by have := HE.out; simp; omega) (by simp; omega) (by omega) (by omega) hsz (by
            rw [HWR.out, List.append_assoc]; exact hHold _ _ hlenD)
          refine this.mono ?_
          rintro e w' ⟨he, q, hw⟩
          refine ⟨he, k + q, ?_⟩
          rw [hw, HWR.out, List.append_assoc, pw_pw (by simp; omega)]
        have hnorot : ¬ (i < m ∧ m < ed) → wr = pw w g (X ++ (L1 ++ (R1 ++ (L2 ++ (R2 ++ Y))))) k := by
          intro h
          have h2 : L2 = [] ∨ R1 = [] := by
            by_cases h3 : i < m
            · right; exact List.eq_nil_of_length_eq_zero (by omega)
            · left; exact List.eq_nil_of_length_eq_zero (by omega)
          rw [HWR.out]
          rcases h2 with h2 | h2 <;> subst h2 <;> simp
        have hs1 : a < i → i < mid → ∀ (W : World) (q : Nat), W = pw w g (X ++ (L1 ++ (R1 ++ (L2 ++ (R2 ++ Y))))) q → Calls Try.prog 29 #[.slice (some ⟨g, 0, none⟩) tot cap, .int .i64 (a : Int), .int .i64 (i : Int), .int .i64 (mid : Int), .func (.func fc) #[] lb] W fun e w' => e = .returned (.tuple #[]) ∧ ∃ q s1, w' = pw w g (X ++ (s1 ++ (L2 ++ (R2 ++ Y)))) q ∧ IsMerge T L1 R1 s1 := by
          intro h1 h2 W q hW
          have hE := HE.out
          have hld : (X ++ (L1 ++ (R1 ++ (L2 ++ (R2 ++ Y))))).length = tot := by simp; omega
          have := HIH.out.2 (L1.length + R1.length) (by have := HIH.out.1; have := HL.out; omega) W g cap X L1 R1 (L2 ++ (R2 ++ Y)) tot a i mid rfl (by omega) (by omega) hXL.symm (by omega) (by omega) (by simp; omega) hsz hSL'.1 hSR'.1 hc1 hb1 (by rw [hW]; exact hHold _ _ hld) (by rw [hW]; exact hCmp _ _ hld)
          refine this.mono ?_
          rintro e w' ⟨he, q', s1, hw, hm1⟩
          refine ⟨he, q + q', s1, ?_, hm1⟩
          have hl1 := hm1.1.length_eq
          rw [hw, hW, pw_pw (by simp at hl1 ⊢; omega)]
        have hs2 : mid < ed → ed < b → ∀ (W : World) (q : Nat) (s1 : List Int), s1.length = mid - a → W = pw w g (X ++ (s1 ++ (L2 ++ (R2 ++ Y)))) q → Calls Try.prog 29 #[.slice (some ⟨g, 0, none⟩) tot cap, .int .i64 (mid : Int), .int .i64 (ed : Int), .int .i64 (b : Int), .func (.func fc) #[] lb] W fun e w' => e = .returned (.tuple #[]) ∧ ∃ q s2, w' = pw w g (X ++ (s1 ++ (s2 ++ Y))) q ∧ IsMerge T L2 R2 s2 := by
          intro h1 h2 W q s1 hl1 hW
          have hE := HE.out
          have hld : (X ++ (s1 ++ (L2 ++ (R2 ++ Y)))).length = tot := by simp; omega
          have := HIH.out.2 (L2.length + R2.length) (by have := HIH.out.1; have := HL.out; have := HM.out; omega) W g cap (X ++ s1) L2 R2 Y tot mid ed b rfl (by omega) (by omega) (by simp; omega) (by simp; omega) (by simp; omega) (by simp; omega) hsz hSL'.2.1 hSR'.2.1 hc2 hb2 (by rw [hW, List.append_assoc]; exact hHold _ _ hld) (by rw [hW]; exact hCmp _ _ hld)
          refine this.mono ?_
          rintro e w' ⟨he, q', s2, hw, hm2⟩
          refine ⟨he, q + q', s2, ?_, hm2⟩
          have hl2 := hm2.1.length_eq
          rw [hw, hW, List.append_assoc, pw_pw (by simp at hl2 ⊢; omega)]
        have hn1 : ¬ (a < i ∧ i < mid) → IsMerge T L1 R1 (L1 ++ R1) ∧ (L1 ++ R1).length = mid - a := by
          intro h
          have hE := HE.out
          refine ⟨?_, by simp; omega⟩
          by_cases h3 : a < i
          · have : R1 = [] := List.eq_nil_of_length_eq_zero (by omega)
            subst this
            rw [List.append_nil]; exact merge_nilR hSL'.1
          · have : L1 = [] := List.eq_nil_of_length_eq_zero (by omega)
            subst this
            exact merge_nilL hSR'.1
        have hn2 : ¬ (mid < ed ∧ ed < b) → IsMerge T L2 R2 (L2 ++ R2) := by
          intro h
          have hE := HE.out
          by_cases h3 : mid < ed
          · have : R2 = [] := List.eq_nil_of_length_eq_zero (by omega)
            subst this
            rw [List.append_nil]; exact merge_nilR hSL'.2.1
          · have : L2 = [] := List.eq_nil_of_length_eq_zero (by omega)
            subst this
            exact merge_nilL hSR'.2.1
        have hlm : ∀ s1, IsMerge T L1 R1 s1 → s1.length = mid - a := fun s1 h => by
          have hE := HE.out
          have := h.1.length_eq
          simp at this; omega
        have hAB : ∀ W : World, (∃ q, W = pw w g (X ++ (L1 ++ (R1 ++ (L2 ++ (R2 ++ Y))))) q) → ¬ (a < i ∧ i < mid) → ∃ q s1, W = pw w g (X ++ (s1 ++ (L2 ++ (R2 ++ Y)))) q ∧ IsMerge T L1 R1 s1 := fun W ⟨q, hW⟩ h => ⟨q, L1 ++ R1, by rw [hW, List.append_assoc], (hn1 h).1⟩
        have hBD : ∀ W : World, (∃ q s1, W = pw w g (X ++ (s1 ++ (L2 ++ (R2 ++ Y)))) q ∧ IsMerge T L1 R1 s1) → ¬ (mid < ed ∧ ed < b) → ∃ k s, W = pw w g (X ++ (s ++ Y)) k ∧ IsMerge T L R s := fun W ⟨q, s1, hW, h1⟩ h => ⟨q, s1 ++ (L2 ++ R2), by rw [hW]; simp only [List.append_assoc], hfin _ _ h1 (hn2 h)⟩
        have hDD : ∀ (W : World) (s1 : List Int), IsMerge T L1 R1 s1 → (∃ q s2, W = pw w g (X ++ (s1 ++ (s2 ++ Y))) q ∧ IsMerge T L2 R2 s2) → ∃ k s, W = pw w g (X ++ (s ++ Y)) k ∧ IsMerge T L R s := fun W s1 h1 ⟨q, s2, hW, h2⟩ => ⟨q, s1 ++ s2, by rw [hW]; simp only [List.append_assoc], hfin _ _ h1 h2⟩
        have HAB := Aside0.mk hAB
        have HBD := Aside0.mk hBD
        have HDD := Aside0.mk hDD
        have HROT := Aside0.mk hrot
        have HNOR := Aside0.mk hnorot
        have HS1 := Aside0.mk hs1
        have HS2 := Aside0.mk hs2
        have HLM := Aside0.mk hlm
        have hmm2 := hmm.2
        have hmm3 : mid = a + (i - a) + (ed - m) := hmm.1
        clear hrot hnorot hs1 hs2 hn1 hn2 hlm hfin hHold hCmp hmm hYL hXL hSL' hSR' hP hSL hSR hc1 hc2 hb1 hb2 hlenD hH0 hu hv HWR hAB hBD hDD
        have hie : i ≤ m ∧ m ≤ ed ∧ a ≤ i ∧ ed ≤ b := by have := HE.out; omega
        have HMM := Aside0.mk (And.intro hmm2 (And.intro hmm3 hie))
        clear hmm2 hmm3 hie
        by_cases t1 : (i : Int) < (m : Int) <;> by_cases t2 : (m : Int) < (ed : Int) <;> by_cases t3 : (a : Int) < (i : Int) <;> by_cases t4 : (ed : Int) < (b : Int)
        all_goals first | (exfalso; have := HMM.out; have := HM.out; omega) | skip
        all_goals (first | have t5 : (i : Int) < (mid : Int) := (by have := HMM.out; omega) | have t5 : ¬ (i : Int) < (mid : Int) := (by have := HMM.out; omega))
        all_goals (first | have t6 : (mid : Int) < (ed : Int) := (by have := HMM.out; omega) | have t6 : ¬ (mid : Int) < (ed : Int) := (by have := HMM.out; omega))
        all_goals (try (have HA := Aside0.mk (show ∃ q, wr = pw w g (X ++ (L1 ++ (R1 ++ (L2 ++ (R2 ++ Y))))) q from ⟨k, HNOR.out (by omega)⟩)))
        all_goals (try (have HB := Aside0.mk (HAB.out _ HA.out (by omega))))
        all_goals (try (have HF := Aside0.mk (HBD.out _ HB.out (by omega))))
        all_goals
          go_wp2_with (first
            | (go_at_call 30; (with_reducible refine (HROT.out (by omega) (by omega)).mono ?_); rintro e wA ⟨rfl, hA⟩; have HA := Aside0.mk hA; clear hA; (try (have HB := Aside0.mk (HAB.out _ HA.out (by omega)))); (try (have HF := Aside0.mk (HBD.out _ HB.out (by omega)))))
            | (go_at_call 29; obtain ⟨qa, ha⟩ := HA.out; (with_reducible refine (HS1.out (by omega) (by omega) _ qa ha).mono ?_); clear ha; rintro e wB ⟨rfl, hB⟩; have HB := Aside0.mk hB; clear hB; (try (have HF := Aside0.mk (HBD.out _ HB.out (by omega)))))
            | (go_at_call 29; obtain ⟨qb, s1, hb1, hb2⟩ := HB.out; have HB2 := Aside0.mk hb2; clear hb2; (with_reducible refine (HS2.out (by omega) (by omega) _ qb s1 (HLM.out s1 HB2.out) hb1).mono ?_); clear hb1; rintro e wD ⟨rfl, hD⟩; have HF := Aside0.mk (HDD.out _ s1 HB2.out hD); clear hD))
          first | go_end0 | ((try simp only [Exit.inBlock, Exit.then]); refine bodyPost_ret (results_none rfl _ _ _) rfl ?_)
          exact ⟨rfl, HF.out⟩

theorem symMerge_c (T : Int → Int → Bool) (cf : Int → Int → Int) (hT : Tells T cf) (fc : Nat) (lb : Array Value) (eg : ∀ args w, (callFunc fc args).run Try.prog w = .ok (.enter fc args) w) : ∀ s, MergeSaid T cf fc lb s := by
  intro s
  induction s using Nat.strongRecOn with
  | _ s ih =>
    intro w g cap X L R Y tot a m b hs hL0 hR0 ha hm hb ht hsz hL hR hlr hel hH hcmp
    by_cases h1 : L.length = 1
    · obtain ⟨x, rfl⟩ := List.length_eq_one_iff.1 h1
      exact merge1_c T cf hT fc lb eg w g cap X R Y x tot a m b ha (by simpa using hm) (by simpa using hb) (by simpa using ht) hsz hR (fun r hr => hlr x (by simp) r hr) ⟨hel x (by simp), fun r hr => hel r (List.mem_append_right _ hr)⟩ hH hcmp
    · by_cases h2 : R.length = 1
      · obtain ⟨y, rfl⟩ := List.length_eq_one_iff.1 h2
        exact merge2_c T cf hT fc lb eg w g cap X L Y y tot a m b ha hm (by simpa using hb) (by simpa using ht) (by omega) hsz hL (fun l hl => hlr l hl y (by simp)) ⟨hel y (by simp), fun l hl => hel l (List.mem_append_left _ hl)⟩ hH hcmp
      · exact merge3_c T cf hT fc lb eg s ih w g cap X L R Y tot a m b hs (by omega) (by omega) ha hm hb ht hsz hL hR hlr hel hH hcmp
end Go.Proofs.Ytlpjlgjhhmfnlaa.P
/- Stable sorting: the insertion sort of a block: walk. -/
namespace Go.Proofs.Ytlpjlgjhhmfnlaa.P
open Go.RowKit Go.Lib Go.Proofs.YtlpjlgjhhmfnlaaW.PrintWords Go.Proofs.YtlpjlgjhhmfnlaaW.PrintLast Go.Proofs.YtlpjlgjhhmfnlaaW.PrintMore
open Stab
set_option linter.unusedVariables false
set_option linter.unusedSimpArgs false

set_option maxHeartbeats 4000000 in
set_option maxRecDepth 100000 in
theorem insert_c (T : Int → Int → Bool) (cf : Int → Int → Int) (hT : Tells T cf) (fc : Nat) (lb : Array Value) (eg : ∀ args w, (callFunc fc args).run Try.prog w = .ok (.enter fc args) w) (w : World) (g cap : Nat) (X S Y : List Int) (tot a b : Nat)
    (ha : a = X.length) (hb : b = X.length + S.length) (ht : tot = X.length + S.length + Y.length) (hsz : tot ≤ 1099511627776) (hS : S.Pairwise (· < ·)) (hel : ∀ x ∈ S, 0 ≤ x ∧ x < tot)
    (hH : HoldsL w g (X ++ (S ++ Y))) (hcmp : CmpOK w g tot fc lb cf) :
    Calls Try.prog 28 #[.slice (some ⟨g, 0, none⟩) tot cap, .int .i64 (a : Int), .int .i64 (b : Int), .func (.func fc) #[] lb] w fun e w' => e = .returned (.tuple #[]) ∧ ∃ k s, w' = pw w g (X ++ (s ++ Y)) k ∧ s.Perm S ∧ Srt T s := by
  have HL : Aside0 (a = X.length ∧ b = X.length + S.length ∧ tot = X.length + S.length + Y.length) := ⟨⟨ha, hb, ht⟩⟩
  have HH := Aside0.mk hH
  have HC := Aside0.mk hcmp
  have HS := Aside0.mk (And.intro hT (And.intro hS hel))
  have hbt : b ≤ tot := by omega
  have hab : a ≤ b := by omega
  have wa : IntKind.i64.wrap ((a : Int) + 1) = (a : Int) + 1 := wz (by omega) (by omega)
  have HW : Aside0 (∃ s, w = pw w g (X ++ (s ++ (S.drop 1 ++ Y))) 0 ∧ s.Perm (S.take 1) ∧ Srt T s) := ⟨S.take 1, by
    rw [← List.append_assoc (S.take 1), List.take_append_drop]; exact pw_self hH, List.Perm.refl _, by
    cases S with
    | nil => exact List.Pairwise.nil
    | cons x S => exact List.pairwise_singleton _ _⟩
  clear ha hb ht hH hcmp hT hS hel
  go_enter Try.func28, Try.ntmps28
  go_wp2
  go_loopg [8] (b - a) (fun gg s8 wr => ∃ (q k : Nat) (s : List Int), s8 = .int .i64 ((a + q : Nat) : Int) ∧ 1 ≤ q ∧ (q ≤ S.length ∨ q = 1) ∧ b - a - q ≤ gg ∧ Aside0 (wr = pw w g (X ++ (s ++ (S.drop q ++ Y))) k) ∧ Aside0 (s.Perm (S.take q) ∧ Srt T s))
  case atStart =>
    obtain ⟨s, h1, h2, h3⟩ := HW.out
    exact ⟨1, 0, s, by go_num, Nat.le_refl _, .inr rfl, by omega, ⟨h1⟩, ⟨⟨h2, h3⟩⟩⟩
  case round =>
    obtain ⟨q, k, s, rfl, hq1, hq, hg, HWR, HSS⟩ := hrel
    have HG := Aside0.mk (And.intro hg (And.intro hq1 hq))
    clear hg hq1 hq
    obtain ⟨i, hi⟩ : ∃ i, i = a + q := ⟨_, rfl⟩
    rw [← hi]
    have HI := Aside0.mk hi
    clear hi
    by_cases hlt : i < b
    · have hltz : (i : Int) < (b : Int) := by omega
      have hqS : q < S.length := by have := HL.out; have := HI.out; omega
      obtain ⟨x, hx⟩ : ∃ x, S[q]? = some x := ⟨_, List.getElem?_eq_getElem hqS⟩
      have hdrop : S.drop q = x :: S.drop (q + 1) := by
        rw [List.drop_eq_getElem_cons hqS]
        rw [List.getElem?_eq_getElem hqS] at hx; injection hx with hx; rw [hx]
      have htake : S.take (q + 1) = S.take q ++ [x] := by rw [List.take_add_one, hx]; rfl
      have hsl : s.length = q := by have := HSS.out.1.length_eq; rw [List.length_take] at this; omega
      have hxm : x ∈ S := List.mem_of_getElem? hx
      have hlx : ∀ l ∈ s, l < x ∧ 0 ≤ l ∧ l < tot := by
        intro l hl
        have h1 := HSS.out.1.mem_iff.1 hl
        obtain ⟨p, hp⟩ := List.getElem?_of_mem h1
        rw [List.getElem?_take] at hp
        split at hp
        · rename_i hpq
          obtain ⟨e1, e2⟩ := List.getElem?_eq_some_iff.1 hp
          obtain ⟨e3, e4⟩ := List.getElem?_eq_some_iff.1 hx
          have := List.pairwise_iff_getElem.1 HS.out.2.1 p q e1 e3 hpq
          rw [e2, e4] at this
          exact ⟨this, HS.out.2.2 l (List.mem_of_mem_take h1)⟩
        · cases hp
      have HX := Aside0.mk (And.intro hsl (And.intro htake (And.intro (HS.out.2.2 x hxm) hlx)))
      have HWR2 : Aside0 (wr = pw w g (X ++ (s.take q ++ x :: (s.drop q ++ (S.drop (q + 1) ++ Y)))) k) := ⟨by
        have e1 : s.take q = s := List.take_of_length_le (by omega)
        have e2 : s.drop q = [] := List.drop_of_length_le (by omega)
        rw [HWR.out, hdrop, e1, e2]; simp⟩
      clear HWR hx hdrop htake hsl hxm hlx hqS hlt
      go_wp2
      go_loopg [9] q (fun g2 s9 wx => ∃ (p k : Nat), s9 = .int .i64 ((a + p : Nat) : Int) ∧ p ≤ q ∧ p ≤ g2 ∧ Aside0 (wx = pw w g (X ++ (s.take p ++ x :: (s.drop p ++ (S.drop (q + 1) ++ Y)))) k) ∧ Aside0 (∀ l ∈ s.drop p, T x l = true))
      case atStart => exact ⟨q, k, by rw [HI.out], Nat.le_refl _, Nat.le_refl _, HWR2, ⟨by rw [List.drop_of_length_le (by have := HX.out.1; omega)]; exact fun l hl => absurd hl List.not_mem_nil⟩⟩
      case round =>
        clear HWR2
        obtain ⟨p, k, rfl, hpq, hg2, HWR, HD⟩ := hrel
        have HG2 := Aside0.mk (And.intro hpq hg2)
        have hl0 : (X ++ (S ++ Y)).length = tot := by have := HL.out; simp; omega
        have hlen : (X ++ (s.take p ++ x :: (s.drop p ++ (S.drop (q + 1) ++ Y)))).length = tot := by
          have := HL.out; have := HX.out.1; have := HI.out; simp; omega
        have hout : (∀ l ∈ s.take p, T x l = false) → ∃ s', wr = pw w g (X ++ (s' ++ (S.drop (q + 1) ++ Y))) k ∧ s'.Perm (S.take (q + 1)) ∧ Srt T s' := by
          intro h
          have h2 := merge_last (L1 := s.take p) (L2 := s.drop p) HS.out.1.tot (by rw [List.take_append_drop]; exact HSS.out.2) (by rw [List.take_append_drop]; exact fun l hl => (HX.out.2.2.2 l hl).1) h HD.out
          rw [List.take_append_drop] at h2
          refine ⟨s.take p ++ x :: s.drop p, by rw [HWR.out]; simp, ?_, h2.2⟩
          rw [HX.out.2.1]
          exact h2.1.trans (HSS.out.1.append_right _)
        have HOUT := Aside0.mk hout
        clear hout hg2
        by_cases hp0 : 0 < p
        · obtain ⟨p', rfl⟩ : ∃ p', p = p' + 1 := ⟨p - 1, by omega⟩
          obtain ⟨jp, hjp⟩ : ∃ jp, jp = a + p' := ⟨_, rfl⟩
          have ejp : ((a + (p' + 1) : Nat) : Int) = (jp : Int) + 1 := by omega
          rw [ejp]
          obtain ⟨j1, hj1⟩ : ∃ j1, j1 = jp + 1 := ⟨_, rfl⟩
          have hps : p' < s.length := by have := HX.out.1; omega
          obtain ⟨y, hy⟩ : ∃ y, s[p']? = some y := ⟨_, List.getElem?_eq_getElem hps⟩
          have gy : (X ++ (s.take (p' + 1) ++ x :: (s.drop (p' + 1) ++ (S.drop (q + 1) ++ Y)))).getD jp 0 = y := by
            have := HL.out
            rw [List.getD_eq_getElem?_getD, List.getElem?_append_right (by omega), List.getElem?_append_left (by simp; omega), List.getElem?_take, if_pos (by omega), show jp - X.length = p' by omega, hy]; rfl
          have gx : (X ++ (s.take (p' + 1) ++ x :: (s.drop (p' + 1) ++ (S.drop (q + 1) ++ Y)))).getD j1 0 = x := by
            have := HL.out
            have e := Stab.get_at (X ++ s.take (p' + 1)) x (s.drop (p' + 1) ++ (S.drop (q + 1) ++ Y))
            rw [List.length_append, List.length_take, Nat.min_eq_left (by omega)] at e
            rw [show j1 = X.length + (p' + 1) by omega]
            simpa using e
          have hji : jp + 1 ≤ i := by have := HI.out; omega
          have hit : i < tot := by omega
          obtain ⟨cy, fy⟩ := pw_cell HH.out (hlen.trans hl0.symm) k jp (by rw [hlen]; omega)
          obtain ⟨cx, fx⟩ := pw_cell HH.out (hlen.trans hl0.symm) k j1 (by rw [hlen]; omega)
          rw [gy, ← HWR.out] at cy
          rw [gx, ← HWR.out] at cx
          rw [← HWR.out] at fx fy
          have hym : y ∈ s := List.mem_of_getElem? hy
          have hyb := HX.out.2.2.2 y hym
          have hxb := HX.out.2.2.1
          have hcc : ∀ n, Calls Try.prog fc (#[.int .i64 x, .int .i64 y] ++ lb) (wr.drewN n) fun e w' => e = .returned (.int .i64 (cf x y)) ∧ ∃ q, w' = (wr.drewN n).drewN q := fun n => by
            rw [HWR.out, pw_drew]
            exact HC.out _ _ hlen _ _ hxb.1 hxb.2 hyb.2.1 hyb.2.2
          have hsw : ∀ m, (((wr.drewN m).setCell ⟨g, j1, none⟩ (.int .i64 y)).setCell ⟨g, jp, none⟩ (.int .i64 x)).drew = pw w g (X ++ (s.take p' ++ x :: (s.drop p' ++ (S.drop (q + 1) ++ Y)))) (k + m + 1) := fun m => by
            have h1 := pw_swap w g (X ++ (s.take (p' + 1) ++ x :: (s.drop (p' + 1) ++ (S.drop (q + 1) ++ Y)))) (k + m) j1 jp (by rw [hlen]; omega) (by rw [hlen]; omega)
            rw [gy, gx] at h1
            have h2 := down_step X s (S.drop (q + 1) ++ Y) x p' hps
            rw [show X.length + p' + 1 = j1 by have := HL.out; omega, show X.length + p' = jp by have := HL.out; omega] at h2
            rw [h2] at h1
            rw [HWR.out, pw_drew]
            exact h1
          have HSW := Aside0.mk hsw
          have HY := Aside0.mk (And.intro hy (And.intro hyb.1 hjp))
          have p0 : (0 : Int) ≤ (jp : Int) := by omega
          have q0 : (jp : Int) < (tot : Int) := by omega
          have p1 : (0 : Int) ≤ (jp : Int) + 1 := by omega
          have q1 : (jp : Int) + 1 < (tot : Int) := by omega
          have hgt : (a : Int) < (jp : Int) + 1 := by omega
          have wk : IntKind.i64.wrap (jp : Int) = (jp : Int) := wz (by omega) (by omega)
          have e1 : ((jp : Int) + 1).toNat = j1 := by omega
          have n1 : ¬ jp = j1 := by omega
          have n2 : ¬ j1 = jp := by omega
          clear hjp hj1 hps hy gy gx hji hit hym hyb hxb hsw hl0 hlen hpq ejp hp0
          by_cases hTT : T x y = true
          · have hneg : decide (cf x y < 0) = true := decide_eq_true ((HS.out.1.lt _ _ HY.out.2.1).2 hTT)
            have HTT := Aside0.mk hTT
            clear hTT
            go_wp2_with fail
            go_quiet (first | (go_at_fn fc; refine Calls.quiet_of (hcc _)))
            go_wp2_with fail
            clear hcc
            have HSW2 := Aside0.mk (HSW.out nq)
            have cx2 : (wr.drewN nq).cell? ⟨g, j1, none⟩ = some (.int .i64 x) := cx
            have cy2 : (wr.drewN nq).cell? ⟨g, jp, none⟩ = some (.int .i64 y) := cy
            have fx2 : (wr.drewN nq).frozen? ⟨g, j1, none⟩ = false := fx
            have fy2 : (wr.drewN nq).frozen? ⟨g, jp, none⟩ = false := fy
            clear cx cy fx fy
            generalize wr.drewN nq = wq at cx2 cy2 fx2 fy2 HSW2 ⊢
            go_big_region
            all_goals go_wp2
            go_roundg p'
            case measure => have := HG2.out; omega
            case rel =>
              refine ⟨p', k + nq + 1, by rw [HY.out.2.2], by have := HG2.out; omega, Nat.le_refl _, HSW2, ⟨?_⟩⟩
              intro l hl
              have hps : p' < s.length := (List.getElem?_eq_some_iff.1 HY.out.1).1
              rw [List.drop_eq_getElem_cons hps] at hl
              rcases List.mem_cons.1 hl with rfl | hl
              · have := (List.getElem?_eq_some_iff.1 HY.out.1).2
                rw [this]; exact HTT.out
              · exact HD.out l hl
          · have hTf : T x y = false := by simpa using hTT
            have hneg : decide (cf x y < 0) = false := decide_eq_false (fun hn => hTT ((HS.out.1.lt _ _ HY.out.2.1).1 hn))
            have HTT := Aside0.mk hTf
            clear hTT hTf
            go_wp2_with fail
            go_quiet (first | (go_at_fn fc; refine Calls.quiet_of (hcc _)))
            go_wp2
            go_roundg (b - (i + 1))
            case measure => have := HG.out; have := HI.out; omega
            case rel =>
              obtain ⟨s', h1, h2, h3⟩ := HOUT.out (srt_takeF HS.out.1.tot HSS.out.2 HY.out.1 HTT.out)
              refine ⟨q + 1, k + nq, s', by have := HI.out; rw [show a + (q + 1) = i + 1 by omega]; go_num, by omega, by have := HL.out; have := HI.out; left; omega, by have := HI.out; omega, ⟨by rw [h1, pw_drew]⟩, ⟨⟨h2, h3⟩⟩⟩
        · have hp00 : p = 0 := by omega
          subst hp00
          have hgt : ¬ (a : Int) < (a : Int) := by omega
          have hgtb : decide ((a : Int) < (a : Int)) = false := decide_eq_false (by omega)
          clear hl0 hlen hpq
          rw [Nat.add_zero]
          go_wp2_with fail
          go_big_region
          all_goals go_wp2
          go_roundg (b - (i + 1))
          case measure => have := HG.out; have := HI.out; omega
          case rel =>
            obtain ⟨s', h1, h2, h3⟩ := HOUT.out (fun l hl => by simp at hl)
            refine ⟨q + 1, k + 1, s', by have := HI.out; rw [show a + (q + 1) = i + 1 by omega]; go_num, by omega, by have := HL.out; have := HI.out; left; omega, by have := HI.out; omega, ⟨by rw [h1]; exact pw_drew w g _ k 1⟩, ⟨⟨h2, h3⟩⟩⟩
    · have hltz : ¬ (i : Int) < (b : Int) := by omega
      have HFIN : Aside0 (∃ k s, wr = pw w g (X ++ (s ++ Y)) k ∧ s.Perm S ∧ Srt T s) := ⟨by
        have hqS : S.length ≤ q := by have := HL.out; have := HI.out; omega
        refine ⟨k, s, ?_, ?_, HSS.out.2⟩
        · rw [HWR.out, List.drop_of_length_le hqS, List.nil_append]
        · have := HSS.out.1; rw [List.take_of_length_le hqS] at this; exact this⟩
      clear HWR
      go_wp2
      first | go_end0 | ((try simp only [Exit.inBlock, Exit.then]); refine bodyPost_ret (results_none rfl _ _ _) rfl ?_)
      exact ⟨rfl, HFIN.out⟩
end Go.Proofs.Ytlpjlgjhhmfnlaa.P
/- Stable sorting, the lists alone: blocks of a row, each sorted, each of its own numbers. -/
namespace Stab
set_option linter.unusedVariables false
set_option linter.unusedSimpArgs false

def ints (a b : Nat) : List Int := (List.range' a (b - a)).map (fun i : Nat => (i : Int))
theorem ints_len (a b : Nat) : (ints a b).length = b - a := by simp [ints]
theorem ints_mem {a b : Nat} {x : Int} : x ∈ ints a b ↔ (a : Int) ≤ x ∧ x < b := by
  unfold ints
  simp only [List.mem_map, List.mem_range'_1]
  constructor
  · rintro ⟨i, hi, rfl⟩; omega
  · intro h; exact ⟨x.toNat, by omega, by omega⟩
theorem ints_join {a m b : Nat} (h1 : a ≤ m) (h2 : m ≤ b) : ints a m ++ ints m b = ints a b := by
  unfold ints
  rw [← List.map_append]
  congr 1
  have := List.range'_append_1 (s := a) (m := m - a) (n := b - m)
  rw [show a + (m - a) = m by omega, show m - a + (b - m) = b - a by omega] at this
  exact this
theorem ints_lt (a b : Nat) : (ints a b).Pairwise (· < ·) := by
  unfold ints
  rw [List.pairwise_map]
  exact List.Pairwise.imp (fun h => by omega) List.pairwise_lt_range'
def seg (d : List Int) (a b : Nat) : List Int := (d.take b).drop a
theorem seg_len {d : List Int} {a b : Nat} (h : b ≤ d.length) : (seg d a b).length = b - a := by simp [seg]; omega
theorem seg_parts {d : List Int} {a b : Nat} (h : a ≤ b) : d = d.take a ++ (seg d a b ++ d.drop b) := by
  have h1 := List.take_append_drop b d
  have h2 := List.take_append_drop a (d.take b)
  rw [List.take_take, Nat.min_eq_left h] at h2
  unfold seg
  rw [← List.append_assoc, h2, h1]
theorem seg_join {d : List Int} {a m b : Nat} (h1 : a ≤ m) (h2 : m ≤ b) : seg d a m ++ seg d m b = seg d a b := by
  unfold seg
  have h := List.take_append_drop m (d.take b)
  rw [List.take_take, Nat.min_eq_left h2] at h
  rcases Nat.le_total (d.take m).length a with hle | hle
  · rw [List.drop_of_length_le hle, List.nil_append]
    rw [List.length_take] at hle
    by_cases hm : m ≤ d.length
    · have : a = m := by omega
      subst this; rfl
    · rw [List.drop_of_length_le (by simp; omega), List.drop_of_length_le (by simp; omega)]
  · conv => rhs; rw [← h]
    rw [List.drop_append_of_le_length hle]
theorem seg_mid {X s Y : List Int} : seg (X ++ (s ++ Y)) X.length (X.length + s.length) = s := by
  unfold seg
  rw [← List.append_assoc, List.take_append_of_le_length (by simp), List.take_of_length_le (by simp)]
  simp
theorem seg_before {X s S Y : List Int} (hl : s.length = S.length) {p q : Nat} (h : q ≤ X.length) : seg (X ++ (s ++ Y)) p q = seg (X ++ (S ++ Y)) p q := by
  unfold seg
  rw [List.take_append_of_le_length h, List.take_append_of_le_length h]
theorem seg_after {X s S Y : List Int} (hl : s.length = S.length) {p q : Nat} (h : X.length + s.length ≤ p) : seg (X ++ (s ++ Y)) p q = seg (X ++ (S ++ Y)) p q := by
  have key : ∀ Z : List Int, X.length + Z.length ≤ p → seg (X ++ (Z ++ Y)) p q = (Y.take (q - X.length - Z.length)).drop (p - X.length - Z.length) := by
    intro Z hz
    unfold seg
    rw [List.take_append, List.take_append, List.drop_append, List.drop_append, List.drop_of_length_le (by simp; omega), List.drop_of_length_le (by simp; omega)]
    simp only [List.nil_append, List.length_take]
    by_cases hq : X.length + Z.length ≤ q
    · congr 1; omega
    · rw [show q - X.length - Z.length = 0 by omega]; simp
  rw [key s h, key S (by omega), hl]
structure Gd (T : Int → Int → Bool) (d : List Int) (a b : Nat) : Prop where
  srt : Srt T (seg d a b)
  perm : (seg d a b).Perm (ints a b)
theorem Gd.mem {T : Int → Int → Bool} {d : List Int} {a b : Nat} (h : Gd T d a b) {x : Int} (hx : x ∈ seg d a b) : (a : Int) ≤ x ∧ x < b := ints_mem.1 (h.perm.mem_iff.1 hx)
theorem Gd.new {T : Int → Int → Bool} {X s Y : List Int} {a b : Nat} (ha : a = X.length) (hb : b = X.length + s.length) (h1 : Srt T s) (h2 : s.Perm (ints a b)) : Gd T (X ++ (s ++ Y)) a b := by
  subst ha hb
  exact ⟨by rw [seg_mid]; exact h1, by rw [seg_mid]; exact h2⟩
theorem Gd.keep {T : Int → Int → Bool} {X s S Y : List Int} (hl : s.length = S.length) {p q : Nat} (h : q ≤ X.length ∨ X.length + S.length ≤ p) (hg : Gd T (X ++ (S ++ Y)) p q) : Gd T (X ++ (s ++ Y)) p q := by
  rcases h with h | h
  · exact ⟨by rw [seg_before hl h]; exact hg.1, by rw [seg_before hl h]; exact hg.2⟩
  · exact ⟨by rw [seg_after hl (by omega)]; exact hg.1, by rw [seg_after hl (by omega)]; exact hg.2⟩
/-- every block of a size -/
def Bs (T : Int → Int → Bool) (n bs : Nat) (d : List Int) : Prop := d.length = n ∧ ∀ k, k * bs < n → Gd T d (k * bs) (min ((k + 1) * bs) n)
end Stab
/- Stable sorting: slices.SortStableFunc's whole walk, at the numbers from 0 on. -/
namespace Go.Proofs.Ytlpjlgjhhmfnlaa.P
open Go.RowKit Go.Lib Go.Proofs.YtlpjlgjhhmfnlaaW.PrintWords Go.Proofs.YtlpjlgjhhmfnlaaW.PrintLast Go.Proofs.YtlpjlgjhhmfnlaaW.PrintMore
open Stab
set_option linter.unusedVariables false
set_option linter.unusedSimpArgs false

structure Upd (T : Int → Int → Bool) (n : Nat) (d : List Int) (a b : Nat) (d' : List Int) : Prop where
  len : d'.length = n
  gd : Gd T d' a b
  keep : ∀ p q, q ≤ a ∨ b ≤ p → Gd T d p q → Gd T d' p q
  rest : d'.drop b = d.drop b
theorem upd_mk {T : Int → Int → Bool} {n a b : Nat} {d s : List Int} (hd : d.length = n) (hab : a ≤ b) (hb : b ≤ n) (h1 : Srt T s) (h2 : s.Perm (ints a b)) : Upd T n d a b (d.take a ++ (s ++ d.drop b)) := by
  have hl : s.length = b - a := by rw [h2.length_eq, ints_len]
  have hX : (d.take a).length = a := by simp; omega
  refine ⟨by simp; omega, Gd.new hX.symm (by omega) h1 h2, fun p q hpq hg => ?_, ?_⟩
  · refine Gd.keep (S := seg d a b) (by rw [hl, seg_len (by omega)]) ?_ (by rw [← seg_parts hab]; exact hg)
    rw [hX, seg_len (by omega)]
    omega
  · rw [List.drop_append, List.drop_append, List.drop_of_length_le (by omega), List.drop_of_length_le (by omega)]
    simp only [List.nil_append, hX]
    rw [show b - a - s.length = 0 by omega]; simp
section
variable {T : Int → Int → Bool} {cf : Int → Int → Int} (hT : Tells T cf) {fc : Nat} {lb : Array Value} (eg : ∀ args w, (callFunc fc args).run Try.prog w = .ok (.enter fc args) w) {w : World} {g n : Nat} {d0 : List Int} (hd0 : d0.length = n) (hn : n ≤ 1099511627776) (hH : HoldsL w g d0) (hC : CmpOK w g n fc lb cf)
include hT eg hd0 hn hH hC
theorem ins_w (cap : Nat) {d : List Int} (hd : d.length = n) {a b : Nat} (hab : a ≤ b) (hb : b ≤ n) (hs : seg d a b = ints a b) (k : Nat) :
    Calls Try.prog 28 #[.slice (some ⟨g, 0, none⟩) n cap, .int .i64 (a : Int), .int .i64 (b : Int), .func (.func fc) #[] lb] (pw w g d k) fun e w' => e = .returned (.tuple #[]) ∧ ∃ k' d', w' = pw w g d' k' ∧ Upd T n d a b d' := by
  have hX : (d.take a).length = a := by simp; omega
  have hY : (d.drop b).length = n - b := by simp; omega
  have hp := seg_parts (d := d) hab
  rw [hs] at hp
  have hil := ints_len a b
  have := insert_c T cf hT fc lb eg (pw w g d k) g cap (d.take a) (ints a b) (d.drop b) n a b hX.symm (by omega) (by omega) hn (ints_lt a b) (fun x hx => by have := ints_mem.1 hx; omega) (by rw [← hp]; exact pw_holds hH (by rw [hd, hd0]) k) (hC.at_ hd k)
  refine this.mono ?_
  rintro e w' ⟨he, k', s, hw, h1, h2⟩
  have hl := h1.length_eq
  refine ⟨he, k + k', _, ?_, upd_mk hd hab hb h2 h1⟩
  rw [hw, pw_pw (by simp; omega)]
theorem mer_w (cap : Nat) {d : List Int} (hd : d.length = n) {a m b : Nat} (ham : a < m) (hmb : m < b) (hb : b ≤ n) (h1 : Gd T d a m) (h2 : Gd T d m b) (k : Nat) :
    Calls Try.prog 29 #[.slice (some ⟨g, 0, none⟩) n cap, .int .i64 (a : Int), .int .i64 (m : Int), .int .i64 (b : Int), .func (.func fc) #[] lb] (pw w g d k) fun e w' => e = .returned (.tuple #[]) ∧ ∃ k' d', w' = pw w g d' k' ∧ Upd T n d a b d' := by
  have hX : (d.take a).length = a := by simp; omega
  have hY : (d.drop b).length = n - b := by simp; omega
  have hp := seg_parts (d := d) (show a ≤ b by omega)
  rw [← seg_join (d := d) (show a ≤ m by omega) (show m ≤ b by omega), List.append_assoc] at hp
  have hl1 : (seg d a m).length = m - a := seg_len (by omega)
  have hl2 : (seg d m b).length = b - m := seg_len (by omega)
  have := symMerge_c T cf hT fc lb eg _ (pw w g d k) g cap (d.take a) (seg d a m) (seg d m b) (d.drop b) n a m b rfl (by omega) (by omega) hX.symm (by omega) (by omega) (by omega) hn h1.srt h2.srt
    (fun l hl r hr => by have := h1.mem hl; have := h2.mem hr; omega) (fun l hl => by
      rcases List.mem_append.1 hl with h | h
      · have := h1.mem h; omega
      · have := h2.mem h; omega) (by rw [← hp]; exact pw_holds hH (by rw [hd, hd0]) k) (hC.at_ hd k)
  refine this.mono ?_
  rintro e w' ⟨he, k', s, hw, hm⟩
  have hl := hm.1.length_eq
  rw [List.length_append] at hl
  refine ⟨he, k + k', _, ?_, upd_mk hd (by omega) hb hm.2 ?_⟩
  · rw [hw, pw_pw (by simp; omega)]
  · rw [← ints_join (show a ≤ m by omega) (show m ≤ b by omega)]
    exact hm.1.trans (h1.perm.append h2.perm)
end
/-- the first part: blocks of 20 -/
def P1 (T : Int → Int → Bool) (n t : Nat) (d : List Int) : Prop := d.length = n ∧ (∀ k, k < t → Gd T d (20 * k) (20 * (k + 1))) ∧ d.drop (20 * t) = ints (20 * t) n
theorem P1.seg_ {T : Int → Int → Bool} {n t : Nat} {d : List Int} (h : P1 T n t d) {b : Nat} (h1 : 20 * t ≤ b) (hb : b ≤ n) : seg d (20 * t) b = ints (20 * t) b := by
  have h2 := h.2.2
  unfold seg
  rw [List.drop_take, h2, ← ints_join h1 hb, List.take_append_of_le_length (by rw [ints_len]; omega), List.take_of_length_le (by rw [ints_len]; omega)]
theorem P1.next {T : Int → Int → Bool} {n t : Nat} {d d' : List Int} (h : P1 T n t d) (hb : 20 * t + 20 ≤ n) (hu : Upd T n d (20 * t) (20 * t + 20) d') : P1 T n (t + 1) d' := by
  refine ⟨hu.len, fun k hk => ?_, ?_⟩
  · by_cases e : k = t
    · subst e; exact hu.gd
    · exact hu.keep _ _ (.inl (by omega)) (h.2.1 k (by omega))
  · rw [show 20 * (t + 1) = 20 * t + 20 by omega, hu.rest]
    have h2 := h.2.2
    have : d.drop (20 * t + 20) = (d.drop (20 * t)).drop 20 := by rw [List.drop_drop]
    rw [this, h2, ← ints_join (show 20 * t ≤ 20 * t + 20 by omega) hb, List.drop_append_of_le_length (by rw [ints_len]; omega), List.drop_of_length_le (by rw [ints_len]; omega), List.nil_append]
theorem P1.all {T : Int → Int → Bool} {n t : Nat} {d d' : List Int} (h : P1 T n t d) (h1 : 20 * t ≤ n) (hb : n < 20 * t + 20) (hu : Upd T n d (20 * t) n d') : Bs T n 20 d' := by
  refine ⟨hu.len, fun k hk => ?_⟩
  by_cases e : k = t
  · subst e
    rw [show k * 20 = 20 * k by omega, show min ((k + 1) * 20) n = n by omega]
    exact hu.gd
  · have hkt : k < t := by omega
    have := hu.keep _ _ (.inl (by omega)) (h.2.1 k hkt)
    rw [show k * 20 = 20 * k by omega, show min ((k + 1) * 20) n = 20 * (k + 1) by omega]
    exact this
/-- a round of merges -/
def P2 (T : Int → Int → Bool) (n bs t : Nat) (d : List Int) : Prop := d.length = n ∧ (∀ k, k < t → Gd T d (k * (2 * bs)) ((k + 1) * (2 * bs))) ∧ (∀ k, 2 * t ≤ k → k * bs < n → Gd T d (k * bs) (min ((k + 1) * bs) n))
theorem P2.start {T : Int → Int → Bool} {n bs : Nat} {d : List Int} (h : Bs T n bs d) : P2 T n bs 0 d := ⟨h.1, fun k hk => absurd hk (Nat.not_lt_zero _), fun k _ hk => h.2 k hk⟩
theorem P2.left {T : Int → Int → Bool} {n bs t a : Nat} {d : List Int} (h : P2 T n bs t d) (ha : a = t * (2 * bs)) (hlt : a + bs ≤ n) (h0 : 0 < bs) : Gd T d a (a + bs) := by
  have e1 : 2 * t * bs = a := by rw [ha, Nat.mul_comm 2 t, Nat.mul_assoc]
  have := h.2.2 (2 * t) (Nat.le_refl _) (by omega)
  rw [Nat.add_mul, e1, Nat.one_mul, Nat.min_eq_left hlt] at this
  exact this
theorem P2.right {T : Int → Int → Bool} {n bs t a : Nat} {d : List Int} (h : P2 T n bs t d) (ha : a = t * (2 * bs)) (hlt : a + bs < n) : Gd T d (a + bs) (min (a + 2 * bs) n) := by
  have e1 : 2 * t * bs = a := by rw [ha, Nat.mul_comm 2 t, Nat.mul_assoc]
  have e2 : (2 * t + 1) * bs = a + bs := by rw [Nat.add_mul, e1, Nat.one_mul]
  have e3 : (2 * t + 1 + 1) * bs = a + 2 * bs := by rw [Nat.add_mul, e2, Nat.one_mul]; omega
  have := h.2.2 (2 * t + 1) (by omega) (by omega)
  rw [e2, e3] at this
  exact this
theorem P2.next {T : Int → Int → Bool} {n bs t a : Nat} {d d' : List Int} (h : P2 T n bs t d) (ha : a = t * (2 * bs)) (h0 : 0 < bs) (hu : Upd T n d a (a + 2 * bs) d') : P2 T n bs (t + 1) d' := by
  have e1 : (t + 1) * (2 * bs) = a + 2 * bs := by rw [Nat.add_mul, Nat.one_mul, ha]
  refine ⟨hu.len, fun k hk => ?_, fun k hk hkn => ?_⟩
  · by_cases e : k = t
    · subst e; rw [e1, ← ha]; exact hu.gd
    · refine hu.keep _ _ (.inl ?_) (h.2.1 k (by omega))
      rw [ha]; exact Nat.mul_le_mul_right _ (by omega)
  · refine hu.keep _ _ (.inr ?_) (h.2.2 k (by omega) hkn)
    have := Nat.mul_le_mul_right bs hk
    have e2 : 2 * (t + 1) * bs = a + 2 * bs := by rw [Nat.mul_comm 2, Nat.mul_assoc, e1]
    omega
theorem P2.done {T : Int → Int → Bool} {n bs t a : Nat} {d : List Int} (h : P2 T n bs t d) (ha : a = t * (2 * bs)) (h1 : a ≤ n) (h2 : n < a + 2 * bs) (hlast : a < n → Gd T d a n) : Bs T n (2 * bs) d := by
  have e1 : (t + 1) * (2 * bs) = a + 2 * bs := by rw [Nat.add_mul, Nat.one_mul, ha]
  refine ⟨h.1, fun k hk => ?_⟩
  by_cases e : k = t
  · subst e
    rw [e1, ← ha, Nat.min_eq_right (by omega)]
    exact hlast (by omega)
  · by_cases hkt : k < t
    · have h3 : (k + 1) * (2 * bs) ≤ t * (2 * bs) := Nat.mul_le_mul_right _ hkt
      rw [Nat.min_eq_left (by omega)]
      exact h.2.1 k hkt
    · have h3 : (t + 1) * (2 * bs) ≤ k * (2 * bs) := Nat.mul_le_mul_right _ (by omega)
      omega
theorem P2.noMerge {T : Int → Int → Bool} {n bs t a : Nat} {d : List Int} (h : P2 T n bs t d) (ha : a = t * (2 * bs)) (hn : n ≤ a + bs) (hlt : a < n) : Gd T d a n := by
  have e1 : 2 * t * bs = a := by rw [ha, Nat.mul_comm 2 t, Nat.mul_assoc]
  have := h.2.2 (2 * t) (Nat.le_refl _) (by omega)
  rw [Nat.add_mul, e1, Nat.one_mul, Nat.min_eq_right hn] at this
  exact this
theorem P2.lastMerge {T : Int → Int → Bool} {n bs t a : Nat} {d d' : List Int} (h : P2 T n bs t d) (ha : a = t * (2 * bs)) (h1 : a ≤ n) (h2 : n < a + 2 * bs) (hu : Upd T n d a n d') : Bs T n (2 * bs) d' := by
  have e1 : (t + 1) * (2 * bs) = a + 2 * bs := by rw [Nat.add_mul, Nat.one_mul, ha]
  refine ⟨hu.len, fun k hk => ?_⟩
  by_cases e : k = t
  · subst e
    rw [e1, ← ha, Nat.min_eq_right (by omega)]
    exact hu.gd
  · by_cases hkt : k < t
    · have h3 : (k + 1) * (2 * bs) ≤ t * (2 * bs) := Nat.mul_le_mul_right _ hkt
      rw [Nat.min_eq_left (by omega)]
      exact hu.keep _ _ (.inl (by omega)) (h.2.1 k hkt)
    · have h3 : (t + 1) * (2 * bs) ≤ k * (2 * bs) := Nat.mul_le_mul_right _ (by omega)
      omega
theorem Bs.end_ {T : Int → Int → Bool} {n bs : Nat} {d : List Int} (h : Bs T n bs d) (hb : n ≤ bs) : d.Perm (ints 0 n) ∧ Srt T d := by
  by_cases h0 : n = 0
  · subst h0
    have := List.eq_nil_of_length_eq_zero h.1
    subst this
    exact ⟨List.Perm.refl _, List.Pairwise.nil⟩
  · have := h.2 0 (by omega)
    rw [Nat.zero_mul, Nat.zero_add, Nat.one_mul, Nat.min_eq_right hb] at this
    have e : seg d 0 n = d := by unfold seg; rw [List.drop_zero, List.take_of_length_le (by rw [h.1]; exact Nat.le_refl _)]
    have h1 := this.1
    have h2 := this.2
    rw [e] at h1 h2
    exact ⟨h2, h1⟩
end Go.Proofs.Ytlpjlgjhhmfnlaa.P
/- Stable sorting: stableCmpFunc and SortStableFunc: walks. -/
namespace Go.Proofs.Ytlpjlgjhhmfnlaa.P
open Go.RowKit Go.Lib Go.Proofs.YtlpjlgjhhmfnlaaW.PrintWords Go.Proofs.YtlpjlgjhhmfnlaaW.PrintLast Go.Proofs.YtlpjlgjhhmfnlaaW.PrintMore
open Stab
set_option linter.unusedVariables false
set_option linter.unusedSimpArgs false

set_option maxHeartbeats 4000000 in
set_option maxRecDepth 100000 in
theorem stable_c {T : Int → Int → Bool} {cf : Int → Int → Int} (hT : Tells T cf) {fc : Nat} {lb : Array Value} (eg : ∀ args w, (callFunc fc args).run Try.prog w = .ok (.enter fc args) w) {w : World} {g n : Nat} (cap : Nat) (hn : n ≤ 1099511627776) (hH : HoldsL w g (ints 0 n)) (hC : CmpOK w g n fc lb cf) :
    Calls Try.prog 27 #[.slice (some ⟨g, 0, none⟩) n cap, .int .i64 (n : Int), .func (.func fc) #[] lb] w fun e w' => e = .returned (.tuple #[]) ∧ ∃ k d, w' = pw w g d k ∧ d.Perm (ints 0 n) ∧ Srt T d := by
  have hd0 : (ints 0 n).length = n := by rw [ints_len]; omega
  have HINS := Aside0.mk (fun (d : List Int) (hd : d.length = n) (a b : Nat) (hab : a ≤ b) (hb : b ≤ n) (hs : seg d a b = ints a b) (k : Nat) => ins_w hT eg hd0 hn hH hC cap hd hab hb hs k)
  have HMER := Aside0.mk (fun (d : List Int) (hd : d.length = n) (a m b : Nat) (ham : a < m) (hmb : m < b) (hb : b ≤ n) (h1 : Gd T d a m) (h2 : Gd T d m b) (k : Nat) => mer_w hT eg hd0 hn hH hC cap hd ham hmb hb h1 h2 k)
  have HW : Aside0 (∃ d, w = pw w g d 0 ∧ P1 T n 0 d) := ⟨ints 0 n, pw_self hH, hd0, fun k hk => absurd hk (Nat.not_lt_zero _), rfl⟩
  clear hd0 hT hH hC
  go_enter Try.func27, Try.ntmps27
  go_wp2
  go_loopg [7, 8] (n + 1) (fun gg s7 s8 wr => ∃ (t a k : Nat) (d : List Int), s7 = .int .i64 (a : Int) ∧ s8 = .int .i64 ((a : Int) + 20) ∧ a ≤ n ∧ n + 1 - a ≤ gg ∧ Aside0 (a = 20 * t ∧ P1 T n t d) ∧ Aside0 (wr = pw w g d k))
  case atStart =>
    obtain ⟨d, h1, h2⟩ := HW.out
    exact ⟨0, 0, 0, d, rfl, rfl, Nat.zero_le _, by omega, ⟨⟨rfl, h2⟩⟩, ⟨h1⟩⟩
  case round =>
    obtain ⟨t, a, k, d, rfl, rfl, han, hg, HP, HWR⟩ := hrel
    have HG := Aside0.mk hg
    clear hg
    by_cases hb : a + 20 ≤ n
    · have hbz : (a : Int) + 20 ≤ (n : Int) := by omega
      have hc := HINS.out d HP.out.2.1 a (a + 20) (by omega) hb (by have := HP.out.2.seg_ (b := a + 20) (by have := HP.out.1; omega) hb; rw [← HP.out.1] at this; exact this) k
      rw [← HWR.out, show ((a + 20 : Nat) : Int) = (a : Int) + 20 by omega] at hc
      have HC := Aside0.mk hc
      clear hc HWR
      go_wp2_with (go_at_call 28; refine HC.out.mono ?_; rintro e wA ⟨rfl, kA, dA, hA1, hA2⟩; have HA := Aside0.mk (And.intro hA1 hA2); clear hA1 hA2)
      go_roundg (n + 1 - (a + 20))
      case measure => have := HG.out; omega
      case rel =>
        have hp := HP.out
        refine ⟨t + 1, a + 20, kA, dA, by go_num, by go_num, hb, Nat.le_refl _, ⟨⟨by omega, ?_⟩⟩, ⟨HA.out.1⟩⟩
        have h2 := HA.out.2
        rw [hp.1] at h2
        exact hp.2.next (by omega) h2
    · have hbz : ¬ (a : Int) + 20 ≤ (n : Int) := by omega
      have hc := HINS.out d HP.out.2.1 a n han (Nat.le_refl _) (by have := HP.out.2.seg_ (b := n) (by have := HP.out.1; omega) (Nat.le_refl _); rw [← HP.out.1] at this; exact this) k
      rw [← HWR.out] at hc
      have HC := Aside0.mk hc
      have HB : Aside0 (n < a + 20 ∧ a ≤ n) := ⟨by omega⟩
      clear hc HWR hb han
      go_wp2_with (go_at_call 28; refine HC.out.mono ?_; rintro e wA ⟨rfl, kA, dA, hA1, hA2⟩; have HA := Aside0.mk (And.intro hA1 hA2); clear hA1 hA2)
      have HBS : Aside0 (Bs T n 20 dA ∧ wA = pw w g dA kA) := ⟨by
        have hp := HP.out
        have h2 := HA.out.2
        have hb := HB.out
        rw [hp.1] at h2
        exact ⟨hp.2.all (by omega) (by omega) h2, HA.out.1⟩⟩
      clear HA HC HP HINS HB HG hbz
      go_loopg [6, 7, 8, 9] (n + 20) (fun gg s6 s7 s8 s9 wr => ∃ (bs k : Nat) (d : List Int), s6 = .int .i64 (bs : Int) ∧ 20 ≤ bs ∧ n + 20 - bs ≤ gg ∧ bs ≤ 2 * n + 20 ∧ Aside0 (Bs T n bs d ∧ wr = pw w g d k))
      case atStart => exact ⟨20, kA, dA, rfl, Nat.le_refl _, by omega, by omega, HBS⟩
      case round =>
        clear HBS
        obtain ⟨bs, k, d, rfl, h20, hg, hbs2, HB⟩ := hrel
        have HG := Aside0.mk (And.intro hg h20)
        clear hg
        by_cases hlt : bs < n
        · have hltz : (bs : Int) < (n : Int) := by omega
          obtain ⟨b2, hb2⟩ : ∃ b2, b2 = 2 * bs := ⟨_, rfl⟩
          have eb2 : (2 : Int) * (bs : Int) = (b2 : Int) := by omega
          have eb3 : (bs : Int) * 2 = (b2 : Int) := by omega
          have hb2n : b2 ≤ 2 * n := by omega
          have wb2 : IntKind.i64.wrap (b2 : Int) = (b2 : Int) := wz (by omega) (by omega)
          have HB2 := Aside0.mk hb2
          clear hb2
          go_wp2
          go_loopg [7, 8] (n + 1) (fun g2 s7 s8 wx => ∃ (t a k : Nat) (d : List Int), s7 = .int .i64 (a : Int) ∧ s8 = .int .i64 ((a + b2 : Nat) : Int) ∧ a ≤ n ∧ n + 1 - a ≤ g2 ∧ Aside0 (a = t * (2 * bs) ∧ P2 T n bs t d) ∧ Aside0 (wx = pw w g d k))
          case atStart => exact ⟨0, 0, k, d, rfl, by rw [Nat.zero_add], Nat.zero_le _, by omega, ⟨⟨by omega, P2.start HB.out.1⟩⟩, ⟨HB.out.2⟩⟩
          case round =>
            clear HB
            obtain ⟨t, a, k, d, rfl, rfl, han, hg2, HP, HWR⟩ := hrel
            have HG2 := Aside0.mk hg2
            clear hg2
            obtain ⟨b, hb⟩ : ∃ b, b = a + b2 := ⟨_, rfl⟩
            rw [← hb]
            obtain ⟨m, hm⟩ : ∃ m, m = a + bs := ⟨_, rfl⟩
            have em : (a : Int) + (bs : Int) = (m : Int) := by omega
            obtain ⟨bn, hbn⟩ : ∃ bn, bn = b + b2 := ⟨_, rfl⟩
            have eb : (b : Int) + (b2 : Int) = (bn : Int) := by omega
            have hbm : bn ≤ 5 * n ∧ m ≤ 2 * n := by omega
            have wm : IntKind.i64.wrap (m : Int) = (m : Int) := wz (by omega) (by omega)
            have wbb : IntKind.i64.wrap (bn : Int) = (bn : Int) := wz (by omega) (by omega)
            have HM := Aside0.mk (And.intro hb (And.intro hm (And.intro HB2.out h20)))
            have HBN := Aside0.mk hbn
            clear hb hm hbn
            by_cases hbb : b ≤ n
            · have hbz : (b : Int) ≤ (n : Int) := by omega
              have hM := HM.out
              have hc := HMER.out d HP.out.2.1 a m b (by omega) (by omega) hbb (by rw [hM.2.1]; exact HP.out.2.left HP.out.1 (by omega) (by omega)) (by
                have := HP.out.2.right HP.out.1 (by omega)
                rw [show min (a + 2 * bs) n = b by omega, ← hM.2.1] at this
                exact this) k
              rw [← HWR.out] at hc
              have HC := Aside0.mk hc
              clear hc HWR hM
              go_wp2_with (go_at_call 29; refine HC.out.mono ?_; rintro e wA ⟨rfl, kA, dA, hA1, hA2⟩; have HA := Aside0.mk (And.intro hA1 hA2); clear hA1 hA2)
              go_roundg (n + 1 - b)
              case measure => have := HG2.out; have := HM.out; omega
              case rel =>
                have hM := HM.out
                have h2 := HA.out.2
                rw [show b = a + 2 * bs by omega] at h2
                refine ⟨t + 1, b, kA, dA, rfl, by rw [HBN.out], hbb, Nat.le_refl _, ⟨⟨by rw [Nat.add_mul, Nat.one_mul, ← HP.out.1]; omega, HP.out.2.next HP.out.1 (by omega) h2⟩⟩, ⟨HA.out.1⟩⟩
            · have hbz : ¬ (b : Int) ≤ (n : Int) := by omega
              by_cases hmn : m < n
              · have hmz : (m : Int) < (n : Int) := by omega
                have hM := HM.out
                have hc := HMER.out d HP.out.2.1 a m n (by omega) hmn (Nat.le_refl _) (by rw [hM.2.1]; exact HP.out.2.left HP.out.1 (by omega) (by omega)) (by
                  have := HP.out.2.right HP.out.1 (by omega)
                  rw [show min (a + 2 * bs) n = n by omega, ← hM.2.1] at this
                  exact this) k
                rw [← HWR.out] at hc
                have HC := Aside0.mk hc
                clear hc HWR hM
                go_wp2_with (go_at_call 29; refine HC.out.mono ?_; rintro e wA ⟨rfl, kA, dA, hA1, hA2⟩; have HA := Aside0.mk (And.intro hA1 hA2); clear hA1 hA2)
                go_roundg (n + 20 - b2)
                case measure => have := HG.out; have := HB2.out; omega
                case rel =>
                  have hM := HM.out
                  refine ⟨b2, kA, dA, rfl, by omega, Nat.le_refl _, by omega, ⟨⟨?_, HA.out.1⟩⟩⟩
                  rw [hM.2.2.1]
                  exact HP.out.2.lastMerge HP.out.1 han (by omega) HA.out.2
              · have hmz : ¬ (m : Int) < (n : Int) := by omega
                have HE : Aside0 (Bs T n b2 d) := ⟨by
                  have hM := HM.out
                  rw [hM.2.2.1]
                  exact HP.out.2.done HP.out.1 han (by omega) (fun h => HP.out.2.noMerge HP.out.1 (by omega) h)⟩
                go_wp2
                go_roundg (n + 20 - b2)
                case measure => have := HG.out; have := HB2.out; omega
                case rel =>
                  have hM := HM.out
                  exact ⟨b2, k, d, rfl, by omega, Nat.le_refl _, by omega, ⟨⟨HE.out, HWR.out⟩⟩⟩
        · have hltz : ¬ (bs : Int) < (n : Int) := by omega
          have HE : Aside0 (∃ k d, wr = pw w g d k ∧ d.Perm (ints 0 n) ∧ Srt T d) := ⟨k, d, HB.out.2, Bs.end_ HB.out.1 (by omega)⟩
          clear HB
          go_wp2
          first | go_end0 | ((try simp only [Exit.inBlock, Exit.then]); refine bodyPost_ret (results_none rfl _ _ _) rfl ?_)
          exact ⟨rfl, HE.out⟩
set_option maxHeartbeats 400000 in
theorem sortStable_c {T : Int → Int → Bool} {cf : Int → Int → Int} (hT : Tells T cf) {fc : Nat} {lb : Array Value} (eg : ∀ args w, (callFunc fc args).run Try.prog w = .ok (.enter fc args) w) {w : World} {g n : Nat} (cap : Nat) (hn : n ≤ 1099511627776) (hH : HoldsL w g (ints 0 n)) (hC : CmpOK w g n fc lb cf) :
    Calls Try.prog 23 #[.slice (some ⟨g, 0, none⟩) n cap, .func (.func fc) #[] lb] w fun e w' => e = .returned (.tuple #[]) ∧ ∃ k d, w' = pw w g d k ∧ d.Perm (ints 0 n) ∧ Srt T d := by
  have HC := Aside0.mk (stable_c hT eg cap hn hH hC)
  clear hH hC hT
  go_enter Try.func23, Try.ntmps23
  go_wp2_with (go_at_call 27; refine HC.out.mono ?_; rintro e wA ⟨rfl, hA⟩; have HA := Aside0.mk hA; clear hA)
  first | go_end0 | ((try simp only [Exit.inBlock, Exit.then]); refine bodyPost_ret (results_none rfl _ _ _) rfl ?_)
  exact ⟨rfl, HA.out⟩
end Go.Proofs.Ytlpjlgjhhmfnlaa.P
/- order.Greatest: what it computes, and its walk. -/
namespace Go.Proofs.Ytlpjlgjhhmfnlaa.P
open Go.RowKit Go.Lib Go.Proofs.YtlpjlgjhhmfnlaaW.PrintWords Go.Proofs.YtlpjlgjhhmfnlaaW.PrintLast Go.Proofs.YtlpjlgjhhmfnlaaW.PrintMore
open Stab
set_option linter.unusedVariables false
set_option linter.unusedSimpArgs false

/-- by what the greatest ones go ahead: greater, or as great and ahead -/
def gtT (l : List Int) (x y : Int) : Bool := decide (rd l y < rd l x) || (decide (rd l x = rd l y) && decide (x < y))
def gcf (l : List Int) (x y : Int) : Int := if rd l y < rd l x then -1 else if rd l x < rd l y then 1 else 0
theorem gtT_iff {l : List Int} {x y : Int} : gtT l x y = true ↔ rd l y < rd l x ∨ (rd l x = rd l y ∧ x < y) := by simp [gtT]
theorem gtT_tells (l : List Int) : Tells (gtT l) (gcf l) where
  tot := {
    trans := fun {a b c} h1 h2 => by
      rw [gtT_iff] at h1 h2 ⊢
      omega
    total := fun {a b} h1 h2 => by
      have h3 : ¬ gtT l a b = true := by rw [h2]; decide
      rw [gtT_iff] at h3 ⊢
      omega
    irr := fun a => by
      cases h : gtT l a a with
      | false => rfl
      | true => rw [gtT_iff] at h; omega }
  lt := fun x y h => by
    rw [gtT_iff]
    unfold gcf
    split
    · constructor
      · intro _; left; assumption
      · intro _; decide
    · split <;> (constructor <;> intro h2 <;> omega)
/-- i laid into a row: ahead of the first that is less -/
def insG (l : List Int) (i : Int) : List Int → List Int
  | [] => [i]
  | o :: r => if rd l o < rd l i then i :: o :: r else o :: insG l i r
def grtN (l : List Int) : Nat → List Int
  | 0 => []
  | n + 1 => insG l (n : Int) (grtN l n)
def grt (l : List Int) : List Int := grtN l l.length
theorem insG_perm (l : List Int) (i : Int) : ∀ r, (insG l i r).Perm (i :: r) := by
  intro r
  induction r with
  | nil => exact List.Perm.refl _
  | cons o r ih =>
    unfold insG
    split
    · exact List.Perm.refl _
    · exact (ih.cons o).trans (List.Perm.swap i o r)
theorem insG_srt (l : List Int) (i : Int) : ∀ r, Srt (gtT l) r → (∀ o ∈ r, o < i) → Srt (gtT l) (insG l i r) := by
  intro r
  induction r with
  | nil => intro _ _; exact List.pairwise_singleton _ _
  | cons o r ih =>
    intro h hlt
    have h' := List.pairwise_cons.1 h
    unfold insG
    split
    · rename_i hoi
      refine List.pairwise_cons.2 ⟨fun y hy => ?_, h⟩
      have hio : gtT l i o = true := gtT_iff.2 (.inl hoi)
      rcases List.mem_cons.1 hy with rfl | hy
      · exact hio
      · exact (gtT_tells l).tot.trans hio (h'.1 y hy)
    · rename_i hoi
      refine List.pairwise_cons.2 ⟨fun y hy => ?_, ih h'.2 (fun x hx => hlt x (List.mem_cons_of_mem _ hx))⟩
      rcases List.mem_cons.1 ((insG_perm l i r).mem_iff.1 hy) with rfl | hy
      · have := hlt o List.mem_cons_self
        exact gtT_iff.2 (by omega)
      · exact h'.1 y hy
theorem grtN_ok (l : List Int) : ∀ n, (grtN l n).Perm (ints 0 n) ∧ Srt (gtT l) (grtN l n) := by
  intro n
  induction n with
  | zero => exact ⟨List.Perm.refl _, List.Pairwise.nil⟩
  | succ n ih =>
    refine ⟨?_, insG_srt l _ _ ih.2 (fun o ho => by have := ints_mem.1 (ih.1.mem_iff.1 ho); omega)⟩
    have e : ints 0 (n + 1) = ints 0 n ++ [(n : Int)] := by
      rw [← ints_join (show 0 ≤ n by omega) (show n ≤ n + 1 by omega)]
      congr 1
      simp [ints]
    rw [e]
    refine (insG_perm l _ _).trans ?_
    refine (List.Perm.cons _ ih.1).trans ?_
    have := List.perm_append_comm (l₁ := [(n : Int)]) (l₂ := ints 0 n)
    simpa using this
theorem grt_unique {l d : List Int} (h1 : d.Perm (ints 0 l.length)) (h2 : Srt (gtT l) d) : d = grt l := by
  obtain ⟨h3, h4⟩ := grtN_ok l l.length
  exact srt_unique (gtT_tells l).tot h2 h4 (h1.trans h3.symm)

set_option maxHeartbeats 1000000 in
set_option maxRecDepth 100000 in
theorem gcmp_c (l : List Int) (A : Option Addr) (c : Nat) (B : Nat) (w : World) (hr : Kd.C (Kd.int .i64) w A l.length l) (hb : w.cell? ⟨B, 0, none⟩ = some (.slice A l.length c)) (x y : Int) (hx0 : 0 ≤ x) (hx1 : x < l.length) (hy0 : 0 ≤ y) (hy1 : y < l.length) :
    Calls Try.prog 24 (#[.int .i64 x, .int .i64 y] ++ #[.pointer (some ⟨B, 0, none⟩)]) w fun e w' => e = .returned (.int .i64 (gcf l x y)) ∧ ∃ q, w' = w.drewN q := by
  obtain ⟨ad, ead, cx⟩ := Kd.at_int hr x hx0 hx1
  obtain ⟨ad2, ead2, cy⟩ := Kd.at_int hr y hy0 hy1
  rw [ead] at ead2; injection ead2 with ead2; subst ead2
  cases ead
  have hg : ∀ z, gcf l x y = z → Aside0 (gcf l x y = z) := fun z h => ⟨h⟩
  have hX : x.toNat = x.toNat := rfl
  by_cases h1 : rd l y < rd l x
  · have h1b : decide (rd l y < rd l x) = true := decide_eq_true h1
    have HG := hg (-1) (by unfold gcf; rw [if_pos h1])
    clear hg hX h1 hr
    generalize rd l x = u at *
    generalize rd l y = v at *
    show Calls _ _ #[.int .i64 x, .int .i64 y, .pointer (some ⟨B, 0, none⟩)] _ _
    go_enter Try.func24, Try.ntmps24
    go_wp2
    repeat (go_quiet (fail); try go_wp2)
    go_ret
    exact ⟨by rw [HG.out]; rfl, by first | exact ⟨_, rfl⟩ | exact ⟨_, World.drewN_drewN _ _ _⟩⟩
  · have h1b : decide (rd l y < rd l x) = false := decide_eq_false h1
    by_cases h2 : rd l x < rd l y
    · have h2b : decide (rd l x < rd l y) = true := decide_eq_true h2
      have HG := hg 1 (by unfold gcf; rw [if_neg h1, if_pos h2])
      clear hg hX h1 h2 hr
      generalize rd l x = u at *
      generalize rd l y = v at *
      show Calls _ _ #[.int .i64 x, .int .i64 y, .pointer (some ⟨B, 0, none⟩)] _ _
      go_enter Try.func24, Try.ntmps24
      go_wp2
      repeat (go_quiet (fail); try go_wp2)
      go_ret
      exact ⟨by rw [HG.out]; rfl, by first | exact ⟨_, rfl⟩ | exact ⟨_, World.drewN_drewN _ _ _⟩⟩
    · have h2b : decide (rd l x < rd l y) = false := decide_eq_false h2
      have HG := hg 0 (by unfold gcf; rw [if_neg h1, if_neg h2])
      clear hg hX h1 h2 hr
      generalize rd l x = u at *
      generalize rd l y = v at *
      show Calls _ _ #[.int .i64 x, .int .i64 y, .pointer (some ⟨B, 0, none⟩)] _ _
      go_enter Try.func24, Try.ntmps24
      go_wp2
      repeat (go_quiet (fail); try go_wp2)
      go_ret
      exact ⟨by rw [HG.out]; rfl, by first | exact ⟨_, rfl⟩ | exact ⟨_, World.drewN_drewN _ _ _⟩⟩

theorem R_of_put {w : World} {base g n cap : Nat} {d : List Int} (hd : d.length = n) (h : (Kd.int .i64).R 3 w base (fun _ => True) (.slice (some ⟨g, 0, none⟩) n cap) d) {d' : List Int} (hl : d'.length = n) (k : Nat) : (Kd.int .i64).R 3 (pw w g d' k) base (fun _ => True) (.slice (some ⟨g, 0, none⟩) n cap) d' := by
  have hH : HoldsL w g d := fun j hj => by
    have hj2 : j < d.length := by simpa using hj
    obtain ⟨h1, h2⟩ := Kd.R_celln 0 h (j : Int) (by omega) (by omega)
    rw [Int.toNat_natCast] at h1 h2
    rw [Nat.zero_add]
    refine ⟨?_, h2⟩
    rw [h1]
    simp [rdOf, List.getD_eq_getElem?_getD, getElem!_pos, hj2]
  have key : ∀ j, j ≤ n → (Kd.int .i64).R 3 (Sort.putRow (Value.int .i64) w g 0 (d'.take j ++ d.drop j).toArray) base (fun _ => True) (.slice (some ⟨g, 0, none⟩) n cap) (d'.take j ++ d.drop j) := by
    intro j
    induction j with
    | zero =>
      intro _
      rw [List.take_zero, List.drop_zero, List.nil_append, Sort.putRow_self _ _ _ _ _ hH]
      exact h
    | succ j ih =>
      intro hj
      have h1 := Kd.R_putn (ih (by omega)) (j : Int) (d'.getD j 0)
      rw [Int.toNat_natCast] at h1
      have h2 := Sort.putRow_set (Value.int .i64) w g 0 (d'.take j ++ d.drop j).toArray j (d'.getD j 0) (by simp; omega)
      rw [Nat.zero_add] at h2
      rw [h2] at h1
      have e : (d'.take j ++ d.drop j).set j (d'.getD j 0) = d'.take (j + 1) ++ d.drop (j + 1) := by
        rw [List.drop_eq_getElem_cons (show j < d.length by omega), List.take_add_one, List.getElem?_eq_getElem (show j < d'.length by omega)]
        have := set_at (d'.take j) d[j] (d'.getD j 0) (d.drop (j + 1))
        rw [List.length_take, Nat.min_eq_left (by omega)] at this
        rw [this, List.getD_eq_getElem?_getD, List.getElem?_eq_getElem (show j < d'.length by omega)]
        simp only [List.append_assoc, Option.getD_some, Option.toList_some, List.cons_append, List.nil_append]
      have e2 : (d'.take j ++ d.drop j).toArray.setIfInBounds j (d'.getD j 0) = (d'.take (j + 1) ++ d.drop (j + 1)).toArray := by
        rw [← e]; simp
      rw [e2, e] at h1
      exact h1
  have h3 := key n (Nat.le_refl _)
  rw [List.take_of_length_le (by omega), List.drop_of_length_le (by omega), List.append_nil] at h3
  exact Kd.R_below h3 (pw_below_drewN (Below.refl _ _) k)
theorem pw_grown (w : World) (g : Nat) (d : List Int) (k : Nat) : w.grownBy (pw w g d k) (some g) := by
  refine ⟨rfl, rfl, rfl, ?_, fun i hi hne => ?_⟩
  · show w.heap.size ≤ (Sort.putRow (Value.int .i64) w g 0 d.toArray).heap.size
    rw [Sort.size_putRow]
    exact Nat.le_refl _
  · show (Sort.putRow (Value.int .i64) w g 0 d.toArray).heap[i]? = _
    unfold Sort.putRow Sort.mapBlock
    simp only [Array.getElem?_modify]
    rw [if_neg (fun h => hne (by rw [h]))]

theorem enters_of2 {P : Program} {f : FuncId} {fn : Func} {c : Code} (hf : P.funcs[f]? = some fn) (hname : (fn.name == "runtime.NumGoroutine") = false) (hb : fn.body = some c) : ∀ (args : Array Value) (w : World), (callFunc f args).run P w = .ok (.enter f args) w := by
  intro args w
  have h1 : fn.name ≠ "runtime.NumGoroutine" := by simpa using hname
  simp [callFunc, hf, h1, hb, mark]
def order_Greatest.f (l0 : List Int) : Option (List Int) := if l0.length ≤ 1099511627776 then some (grt l0) else none
set_option maxHeartbeats 2000000 in
set_option maxRecDepth 100000 in
theorem order_Greatest.calls (A0 : Option Addr) (c0 : Nat) (l0 : List Int) (r : List Int) (w : World) (hr0 : Kd.C (Kd.int .i64) w A0 l0.length l0) (hc0 : l0.length ≤ c0) (h : order_Greatest.f l0 = some r) :
    Calls Try.prog 17 #[.slice A0 l0.length c0] w fun e w' => ∃ v0_ : Value, e = .returned v0_ ∧ Kd.R (Kd.int .i64) 3 w' w.heap.size (fun _ => True) v0_ r ∧ Below w.heap.size w w' := by
  unfold order_Greatest.f at h
  split at h
  case isFalse => cases h
  case isTrue hn =>
    have HE := Aside0.mk (Option.some.inj h)
    have HR := Aside0.mk hr0
    clear h hr0
    have hnz : (l0.length : Int) ≤ 1099511627776 := by omega
    go_enter Try.func17, Try.ntmps17
    go_wp2_with (first
      | ((with_reducible refine gate_dst (N := 7) rfl ?_); refine Kd.R_make (Kd.int .i64) (w0 := w) w.heap.size 3 rfl (N := 7) rfl 37 _ _ rfl (l0.length : Int) rfl rfl Try.underlying37 (.int .i64 0) 8 info3 rfl (by decide) (by omega) 0 (ok := fun _ => True) (okp := fun _ => True) rfl (fun _ hk => hk) trivial (by omega) (by omega) ((Below.refl _ _).alloc (Nat.le_refl _) _) (by simp) ?_; intro v1 w1 ho hb hg hnew; have hbox : w1.cell? ⟨w.heap.size, 0, none⟩ = some (.slice A0 l0.length c0) := Kd.cell_heap (w := w.alloc (.cells #[.slice A0 l0.length c0] 37)) (fun k hk => hg.block k hk (by simp)) (by simp [World.cell?_alloc_new]); have HO := Aside0.mk (And.intro ho (And.intro hb (And.intro hg hnew))); clear ho hb hg hnew))
    obtain ⟨g, c1, ev, hgs⟩ : ∃ g c1, v1 = .slice (some ⟨g, 0, none⟩) l0.length c1 ∧ w.heap.size + 1 ≤ g := by
      obtain ⟨b, hb1, hb2⟩ := HO.out.2.2.2
      obtain ⟨inner, hown⟩ := Kd.R_own HO.out.1
      rcases hown.2 with ⟨h1, _⟩ | ⟨g, cap, cur, h1, _⟩
      · rw [h1] at hb1; simp [Value.ownBlock] at hb1
      · rw [List.length_replicate, Int.toNat_natCast] at h1
        refine ⟨g, cap, h1, ?_⟩
        rw [h1] at hb1
        simp [Value.ownBlock] at hb1
        simp at hb2
        omega
    subst ev
    have HO1 : Aside0 ((Kd.int .i64).R 3 w1 w.heap.size (fun _ => True) (.slice (some ⟨g, 0, none⟩) l0.length c1) (ints 0 0 ++ List.replicate (l0.length - 0) 0) ∧ Below w.heap.size w w1 ∧ w1.cell? ⟨w.heap.size, 0, none⟩ = some (.slice A0 l0.length c0)) := ⟨by
      have := HO.out.1
      rw [Int.toNat_natCast] at this
      exact this, HO.out.2.1, hbox⟩
    clear HO hbox
    go_loopg [4, 10] (l0.length) (fun gg s4 s10 wr => ∃ kk : Nat, s10 = .int .i64 (kk : Int) ∧ kk ≤ l0.length ∧ l0.length - kk ≤ gg ∧ Aside0 ((Kd.int .i64).R 3 wr w.heap.size (fun _ => True) (.slice (some ⟨g, 0, none⟩) l0.length c1) (ints 0 kk ++ List.replicate (l0.length - kk) 0) ∧ Below w.heap.size w wr ∧ wr.cell? ⟨w.heap.size, 0, none⟩ = some (.slice A0 l0.length c0)))
    case atStart => exact ⟨0, rfl, Nat.zero_le _, by omega, HO1⟩
    case round =>
      clear HO1
      obtain ⟨kk, rfl, hk, hg, HO⟩ := hrel
      have HG := Aside0.mk hg
      clear hg
      by_cases hlt : kk < l0.length
      · have hltz : (kk : Int) < (l0.length : Int) := by omega
        have hk0 : (0 : Int) ≤ (kk : Int) := by omega
        obtain ⟨hc, hf⟩ := Kd.R_celln 0 HO.out.1 (kk : Int) hk0 hltz
        have hput := Kd.R_putn HO.out.1 (kk : Int) (kk : Int)
        rw [Int.toNat_natCast] at hc hf hput
        have hst : (ints 0 kk ++ List.replicate (l0.length - kk) (0 : Int)).set kk (kk : Int) = ints 0 (kk + 1) ++ List.replicate (l0.length - (kk + 1)) 0 := by
          rw [show l0.length - kk = (l0.length - (kk + 1)) + 1 by omega, List.replicate_succ]
          have := set_at (ints 0 kk) 0 (kk : Int) (List.replicate (l0.length - (kk + 1)) 0)
          rw [ints_len, Nat.sub_zero] at this
          rw [this, ← ints_join (show 0 ≤ kk by omega) (show kk ≤ kk + 1 by omega), List.append_assoc]
          congr 1
          simp [ints]
        rw [hst] at hput
        have HNEW : Aside0 ((Kd.int .i64).R 3 (wr.setCell ⟨g, kk, none⟩ (.int .i64 (kk : Int))) w.heap.size (fun _ => True) (.slice (some ⟨g, 0, none⟩) l0.length c1) (ints 0 (kk + 1) ++ List.replicate (l0.length - (kk + 1)) 0) ∧ Below w.heap.size w (wr.setCell ⟨g, kk, none⟩ (.int .i64 (kk : Int))) ∧ (wr.setCell ⟨g, kk, none⟩ (.int .i64 (kk : Int))).cell? ⟨w.heap.size, 0, none⟩ = some (.slice A0 l0.length c0)) := ⟨hput, below_set HO.out.2.1 (by omega), by
          have := Below.heap_setCell wr ⟨g, kk, none⟩ (.int .i64 (kk : Int)) w.heap.size (by show w.heap.size ≠ g; omega)
          have h3 := HO.out.2.2
          simp only [World.cell?] at h3 ⊢
          rw [this]; exact h3⟩
        clear hput hst HO
        go_wp2
        go_roundg (l0.length - (kk + 1))
        case measure => have := HG.out; omega
        case rel => exact ⟨kk + 1, by go_num, by omega, by omega, HNEW⟩
      · have hltz : ¬ (kk : Int) < (l0.length : Int) := by omega
        have hke : kk = l0.length := by omega
        subst hke
        rw [Nat.sub_self, List.replicate_zero, List.append_nil] at HO
        have hH : HoldsL wr g (ints 0 l0.length) := fun j hj => by
          have hj2 : j < l0.length := by simpa [ints_len] using hj
          obtain ⟨h1, h2⟩ := Kd.R_celln 0 HO.out.1 (j : Int) (by omega) (by omega)
          rw [Int.toNat_natCast] at h1 h2
          rw [Nat.zero_add]
          refine ⟨?_, h2⟩
          rw [h1]
          have hj3 : j < (ints 0 l0.length).length := by rw [ints_len]; omega
          simp [rdOf, List.getD_eq_getElem?_getD, getElem!_pos, hj3]
        have hbel : ∀ d q, Below w.heap.size w (pw wr g d q) := fun d q => pw_below_grown HO.out.2.1 (some g) (Below.size HO.out.2.1) (pw_grown wr g d q) (fun k hk => by injection hk with hk; omega)
        have hC : CmpOK wr g l0.length 24 #[.pointer (some ⟨w.heap.size, 0, none⟩)] (gcf l0) := fun d q hd x y h1 h2 h3 h4 =>
          gcmp_c l0 A0 c0 w.heap.size _ (Kd.C_below HR.out (hbel d q)) (by rw [pw_cell_far _ _ _ _ (by show w.heap.size ≠ g; omega)]; exact HO.out.2.2) x y h1 h2 h3 h4
        have HS := Aside0.mk (sortStable_c (gtT_tells l0) (enters_of2 Try.func24 (by kernel_rfl) rfl) c1 hn hH hC)
        have HFIN : Aside0 (∀ k d, d.Perm (ints 0 l0.length) → Srt (gtT l0) d → (Kd.int .i64).R 3 (pw wr g d k) w.heap.size (fun _ => True) (.slice (some ⟨g, 0, none⟩) l0.length c1) r ∧ Below w.heap.size w (pw wr g d k)) := ⟨fun k d h1 h2 => by
          have e : d = r := by rw [← HE.out]; exact grt_unique h1 h2
          subst e
          exact ⟨R_of_put (by rw [ints_len]; omega) HO.out.1 (by rw [h1.length_eq, ints_len]; omega) k, hbel d k⟩⟩
        clear hH hbel hC HO
        go_wp2_with (go_at_call 23; refine HS.out.mono ?_; rintro e wA ⟨rfl, k, d, hw, h1, h2⟩; have HA := Aside0.mk (And.intro hw (And.intro h1 h2)); clear hw h1 h2)
        go_ret
        refine ⟨_, rfl, ?_⟩
        have h3 := HFIN.out k d HA.out.2.1 HA.out.2.2
        rw [← HA.out.1] at h3
        exact h3
end Go.Proofs.Ytlpjlgjhhmfnlaa.P
/- A heap of pairs, alone: going up, going down, the least one at the top. -/
namespace Hp
set_option linter.unusedVariables false
set_option linter.unusedSimpArgs false

abbrev PR := Int × Int
def ls (a b : PR) : Bool := if a.1 = b.1 then decide (a.2 < b.2) else decide (a.1 < b.1)
theorem ls_iff {a b : PR} : ls a b = true ↔ a.1 < b.1 ∨ (a.1 = b.1 ∧ a.2 < b.2) := by
  unfold ls
  split <;> simp <;> omega
def le (a b : PR) : Prop := ls b a = false
theorem le_iff {a b : PR} : le a b ↔ a.1 < b.1 ∨ (a.1 = b.1 ∧ a.2 ≤ b.2) := by
  unfold le
  rw [← Bool.not_eq_true, ls_iff]
  omega
theorem le_trans {a b c : PR} (h1 : le a b) (h2 : le b c) : le a c := by rw [le_iff] at *; omega
theorem le_refl (a : PR) : le a a := by rw [le_iff]; omega
theorem le_of_ls {a b : PR} (h : ls a b = true) : le a b := by rw [ls_iff] at h; rw [le_iff]; omega
theorem le_anti {a b : PR} (h1 : le a b) (h2 : le b a) : a = b := by
  rw [le_iff] at *
  exact Prod.ext (by omega) (by omega)
theorem le_total (a b : PR) : le a b ∨ le b a := by rw [le_iff, le_iff]; omega
abbrev par (i : Nat) : Nat := (i - 1) / 2
def sw (f : Nat → PR) (i j : Nat) : Nat → PR := fun k => if k = i then f j else if k = j then f i else f k
def IsHeap (n : Nat) (f : Nat → PR) : Prop := ∀ i, 0 < i → i < n → le (f (par i)) (f i)
def UpI (n : Nat) (f : Nat → PR) (j : Nat) : Prop := j < n ∧ (∀ i, 0 < i → i < n → i ≠ j → le (f (par i)) (f i)) ∧ (∀ i, 0 < i → i < n → par i = j → 0 < j → le (f (par j)) (f i))
theorem up_end {n : Nat} {f : Nat → PR} {j : Nat} (h : UpI n f j) (he : j = 0 ∨ ls (f j) (f (par j)) = false) : IsHeap n f := by
  intro i h0 hi
  by_cases e : i = j
  · subst e
    rcases he with he | he
    · omega
    · exact he
  · exact h.2.1 i h0 hi e
theorem up_step {n : Nat} {f : Nat → PR} {j : Nat} (h : UpI n f j) (h0 : 0 < j) (hl : ls (f j) (f (par j)) = true) : UpI n (sw f (par j) j) (par j) := by
  have hpj : par j < j := by unfold par; omega
  refine ⟨by have := h.1; omega, fun i hi0 hi hne => ?_, fun i hi0 hi hpi hp0 => ?_⟩
  · unfold sw
    rw [if_neg hne]
    by_cases e1 : i = j
    · subst e1
      rw [if_pos rfl, if_pos rfl]
      exact le_of_ls hl
    · rw [if_neg e1]
      by_cases e2 : par i = par j
      · rw [if_pos e2]
        exact le_trans (le_of_ls hl) (by rw [← e2]; exact h.2.1 i hi0 hi e1)
      · rw [if_neg e2]
        by_cases e3 : par i = j
        · rw [if_pos e3]; exact h.2.2 i hi0 hi e3 h0
        · rw [if_neg e3]; exact h.2.1 i hi0 hi e1
  · have hpp : par (par j) < par j := by unfold par at *; omega
    unfold sw
    rw [if_neg (by omega), if_neg (by omega), if_neg (by unfold par at *; omega)]
    have h1 := h.2.1 (par j) hp0 (by have := h.1; omega) (by omega)
    by_cases e1 : i = j
    · subst e1; rw [if_pos rfl]; exact h1
    · rw [if_neg e1]
      have h2 := h.2.1 i hi0 hi e1
      rw [hpi] at h2
      exact le_trans h1 h2
def DnI (n : Nat) (f : Nat → PR) (i : Nat) : Prop := (∀ k, 0 < k → k < n → par k ≠ i → le (f (par k)) (f k)) ∧ (∀ k, 0 < k → k < n → par k = i → 0 < i → le (f (par i)) (f k))
theorem dn_end0 {n : Nat} {f : Nat → PR} {i : Nat} (h : DnI n f i) (he : n ≤ 2 * i + 1) : IsHeap n f := by
  intro k h0 hk
  exact h.1 k h0 hk (by unfold par; omega)
/-- the lesser child -/
structure Chi (n : Nat) (f : Nat → PR) (i j : Nat) : Prop where
  ch : j = 2 * i + 1 ∨ j = 2 * i + 2
  lt : j < n
  least : ∀ k, 0 < k → k < n → par k = i → le (f j) (f k)
theorem Chi.par_ {n : Nat} {f : Nat → PR} {i j : Nat} (h : Chi n f i j) : par j = i ∧ 0 < j := by
  rcases h.ch with e | e <;> (unfold par; omega)
theorem dn_end {n : Nat} {f : Nat → PR} {i j : Nat} (h : DnI n f i) (hc : Chi n f i j) (he : ls (f j) (f i) = false) : IsHeap n f := by
  intro k h0 hk
  by_cases e : par k = i
  · rw [e]; exact le_trans he (hc.least k h0 hk e)
  · exact h.1 k h0 hk e
theorem dn_step {n : Nat} {f : Nat → PR} {i j : Nat} (h : DnI n f i) (hc : Chi n f i j) (hl : ls (f j) (f i) = true) : DnI n (sw f i j) j := by
  obtain ⟨hp, hj0⟩ := hc.par_
  have hij : i < j := by unfold par at hp; omega
  refine ⟨fun k hk0 hk hne => ?_, fun k hk0 hk hpk _ => ?_⟩
  · unfold sw
    by_cases e0 : par k = i
    · rw [if_pos e0]
      by_cases e1 : k = j
      · subst e1; rw [if_neg (by omega), if_pos rfl]; exact le_of_ls hl
      · rw [if_neg (by unfold par at e0; omega), if_neg e1]
        exact hc.least k hk0 hk e0
    · rw [if_neg e0, if_neg hne]
      by_cases e1 : k = i
      · subst e1
        rw [if_pos rfl]
        exact h.2 j hj0 hc.lt hp (by omega)
      · rw [if_neg e1]
        by_cases e2 : k = j
        · subst e2; exact absurd hp e0
        · rw [if_neg e2]; exact h.1 k hk0 hk e0
  · unfold sw
    rw [if_pos hp, if_neg (by unfold par at hpk; omega), if_neg (by unfold par at hpk; omega)]
    have := h.1 k hk0 hk (by omega)
    rw [hpk] at this
    exact this
theorem top_min {n : Nat} {f : Nat → PR} (h : IsHeap n f) : ∀ i, i < n → le (f 0) (f i) := by
  intro i
  induction i using Nat.strongRecOn with
  | _ i ih =>
    intro hi
    by_cases h0 : i = 0
    · subst h0; exact le_refl _
    · exact le_trans (ih (par i) (by unfold par; omega) (by unfold par; omega)) (h i (by omega) hi)
/-! lists -/
def gt (l : List PR) (i : Nat) : PR := l.getD i (0, 0)
def swL (l : List PR) (i j : Nat) : List PR := (l.set i (gt l j)).set j (gt l i)
theorem swL_len (l : List PR) (i j : Nat) : (swL l i j).length = l.length := by simp [swL]
theorem gt_swL (l : List PR) (i j : Nat) (hi : i < l.length) (hj : j < l.length) : gt (swL l i j) = sw (gt l) i j := by
  funext k
  unfold swL sw gt
  rw [List.getD_eq_getElem?_getD, List.getElem?_set, List.getElem?_set]
  simp only [List.length_set]
  by_cases e1 : j = k
  · subst e1
    rw [if_pos rfl, if_pos hj]
    by_cases e2 : j = i
    · subst e2; rw [if_pos rfl]; rfl
    · rw [if_neg e2, if_pos rfl]; rfl
  · rw [if_neg e1]
    by_cases e2 : i = k
    · subst e2
      rw [if_pos rfl, if_pos hi, if_pos rfl]; rfl
    · rw [if_neg e2, if_neg (fun h => e2 h.symm), if_neg (fun h => e1 h.symm), ← List.getD_eq_getElem?_getD]
theorem swL_perm (l : List PR) (i j : Nat) (hi : i < l.length) (hj : j < l.length) : (swL l i j).Perm l := by
  have e1 : gt l i = l[i] := by simp [gt, List.getD_eq_getElem?_getD, hi]
  have e2 : gt l j = l[j] := by simp [gt, List.getD_eq_getElem?_getD, hj]
  unfold swL
  rw [e1, e2]
  exact List.set_set_perm hi hj
end Hp
/- The queue's pairs in memory: a heap's methods, walked. -/
namespace Go.Proofs.Ytlpjlgjhhmfnlaa.P
open Go.RowKit Go.Lib Go.Proofs.YtlpjlgjhhmfnlaaW.PrintWords Go.Proofs.YtlpjlgjhhmfnlaaW.PrintLast Go.Proofs.YtlpjlgjhhmfnlaaW.PrintMore
open Hp
set_option linter.unusedVariables false
set_option linter.unusedSimpArgs false

def pairKd : Kd PR := Kd.pair (Kd.int .i64) (Kd.int .i64)
theorem pair_at {w : World} {base g n c : Nat} {ok : Nat → Prop} {xs : List PR} (h : pairKd.R 50 w base ok (.slice (some ⟨g, 0, none⟩) n c) xs) (i : Nat) (hi : i < n) : w.cell? ⟨g, i * 2, none⟩ = some (.int .i64 (gt xs i).1) ∧ w.cell? ⟨g, i * 2 + 1, none⟩ = some (.int .i64 (gt xs i).2) ∧ n = xs.length := by
  obtain ⟨hn, _, hC⟩ := Kd.R_reads' h
  obtain ⟨ad, c, hA, hl, hR, hc⟩ := ReadsRow.get_ hC (0, 0) (i : Int) (by omega) (by omega)
  injection hA with hA
  subst hA
  rw [Int.toNat_natCast] at hR hc
  obtain ⟨c0, c1, e, h0, h1⟩ := hR
  have h0' : c0 = [.int .i64 (gt xs i).1] := h0
  have h1' : c1 = [.int .i64 (gt xs i).2] := h1
  subst h0' h1'
  subst e
  have hz : pairKd.sz = 2 := rfl
  rw [hz] at hc
  have e0 : ∀ k : Nat, (⟨g, 0, none⟩ : Addr).add k = ⟨g, k, none⟩ := fun k => by
    unfold Addr.add; split
    · rename_i h; rw [h]
    · simp
  refine ⟨?_, ?_, hn⟩
  · have := hc 0 _ rfl
    rw [Nat.add_zero, e0] at this
    exact this
  · have := hc 1 _ rfl
    rw [e0] at this
    exact this
set_option maxHeartbeats 1000000 in
set_option maxRecDepth 100000 in
theorem less_c {w : World} {base g n c : Nat} {ok : Nat → Prop} {xs : List PR} (h : pairKd.R 50 w base ok (.slice (some ⟨g, 0, none⟩) n c) xs) (i j : Nat) (hi : i < n) (hj : j < n) (hn : n ≤ 1099511627776) :
    Calls Try.prog 48 #[.slice (some ⟨g, 0, none⟩) n c, .int .i64 (i : Int), .int .i64 (j : Int)] w fun e w' => e = .returned (.bool (ls (gt xs i) (gt xs j))) ∧ ∃ q, w' = w.drewN q := by
  obtain ⟨ci1, ci2, _⟩ := pair_at h i hi
  obtain ⟨cj1, cj2, _⟩ := pair_at h j hj
  have hg : ∀ z, ls (gt xs i) (gt xs j) = z → Aside0 (ls (gt xs i) (gt xs j) = z) := fun z h => ⟨h⟩
  have pi : (0 : Int) ≤ (i : Int) := by omega
  have qi : (i : Int) < (n : Int) := by omega
  have pj : (0 : Int) ≤ (j : Int) := by omega
  have qj : (j : Int) < (n : Int) := by omega
  clear h
  by_cases h1 : (gt xs i).1 = (gt xs j).1
  · have h1b : ((gt xs i).1 != (gt xs j).1) = false := bne_eq_false_iff_eq.mpr h1
    have HG := hg (decide ((gt xs i).2 < (gt xs j).2)) (by unfold ls; rw [if_pos h1])
    clear hg h1
    generalize (gt xs i).1 = a1 at *
    generalize (gt xs i).2 = a2 at *
    generalize (gt xs j).1 = b1 at *
    generalize (gt xs j).2 = b2 at *
    go_enter Try.func48, Try.ntmps48
    go_wp2
    repeat (go_quiet (fail); try go_wp2)
    go_ret
    exact ⟨by rw [HG.out]; rfl, by first | exact ⟨_, rfl⟩ | exact ⟨_, World.drewN_drewN _ _ _⟩⟩
  · have h1b : ((gt xs i).1 != (gt xs j).1) = true := bne_iff_ne.mpr h1
    have HG := hg (decide ((gt xs i).1 < (gt xs j).1)) (by unfold ls; rw [if_neg h1])
    clear hg h1
    generalize (gt xs i).1 = a1 at *
    generalize (gt xs i).2 = a2 at *
    generalize (gt xs j).1 = b1 at *
    generalize (gt xs j).2 = b2 at *
    go_enter Try.func48, Try.ntmps48
    go_wp2
    repeat (go_quiet (fail); try go_wp2)
    go_ret
    exact ⟨by rw [HG.out]; rfl, by first | exact ⟨_, rfl⟩ | exact ⟨_, World.drewN_drewN _ _ _⟩⟩
theorem _root_.Go.World.grownBy.drew_ {w w1 : World} {r : Option Nat} (h : w.grownBy w1 r) : w.grownBy w1.drew r := ⟨h.os, h.tape, h.output, h.size, h.block⟩
theorem pair_put {w : World} {base g n c : Nat} {ok : Nat → Prop} {xs : List PR} (h : pairKd.R 50 w base ok (.slice (some ⟨g, 0, none⟩) n c) xs) (i : Nat) (hi : i < n) (x : PR) :
    pairKd.R 50 ((w.setCell ⟨g, i * 2, none⟩ (.int .i64 x.1)).setCell ⟨g, i * 2 + 1, none⟩ (.int .i64 x.2)) base ok (.slice (some ⟨g, 0, none⟩) n c) (xs.set i x) ∧ w.grownBy ((w.setCell ⟨g, i * 2, none⟩ (.int .i64 x.1)).setCell ⟨g, i * 2 + 1, none⟩ (.int .i64 x.2)) (some g) := by
  obtain ⟨c1, c2, hn⟩ := pair_at h i hi
  have hz : pairKd.sz = 2 := rfl
  have := Kd.R_seg (okp := fun _ => False) h (i : Int) (by omega) (by omega) (c := [.int .i64 (gt xs i).1, .int .i64 (gt xs i).2]) (seg := [.int .i64 x.1, .int .i64 x.2]) (j := 0) rfl (by
    intro j u hu
    rw [Int.toNat_natCast, hz]
    match j, hu with
    | 0, hu => injection hu with hu; subst hu; exact c1
    | 1, hu => injection hu with hu; subst hu; exact c2) (by rw [hz]; simp) (x' := x) ⟨[.int .i64 x.1], [.int .i64 x.2], rfl, rfl, rfl⟩ (fun _ hk => hk.elim)
  rw [Int.toNat_natCast, hz] at this
  exact this
theorem pair_frozen {w : World} {base g n c : Nat} {ok : Nat → Prop} {xs : List PR} (h : pairKd.R 50 w base ok (.slice (some ⟨g, 0, none⟩) n c) xs) (o : Nat) : w.frozen? ⟨g, o, none⟩ = false := by
  obtain ⟨inner, hown⟩ := Kd.R_own h
  rcases hown.2 with ⟨h1, _⟩ | ⟨g', cap, cur, h1, _, hh, _⟩
  · cases h1
  · injection h1 with h1
    injection h1 with h1
    injection h1 with h1
    subst h1
    simp [World.frozen?, hh]
set_option maxHeartbeats 1000000 in
set_option maxRecDepth 100000 in
theorem swap_c {w : World} {base g n c : Nat} {ok : Nat → Prop} {xs : List PR} (h : pairKd.R 50 w base ok (.slice (some ⟨g, 0, none⟩) n c) xs) (i j : Nat) (hi : i < n) (hj : j < n) (hn : n ≤ 1099511627776) :
    Calls Try.prog 49 #[.slice (some ⟨g, 0, none⟩) n c, .int .i64 (i : Int), .int .i64 (j : Int)] w fun e w' => e = .returned (.tuple #[]) ∧ pairKd.R 50 w' base ok (.slice (some ⟨g, 0, none⟩) n c) (swL xs i j) ∧ w.grownBy w' (some g) := by
  obtain ⟨ci1, ci2, _⟩ := pair_at h i hi
  obtain ⟨cj1, cj2, _⟩ := pair_at h j hj
  have pi : (0 : Int) ≤ (i : Int) := by omega
  have qi : (i : Int) < (n : Int) := by omega
  have pj : (0 : Int) ≤ (j : Int) := by omega
  have qj : (j : Int) < (n : Int) := by omega
  have fi1 := pair_frozen h (i * 2)
  have fi2 := pair_frozen h (i * 2 + 1)
  have fj1 := pair_frozen h (j * 2)
  have fj2 := pair_frozen h (j * 2 + 1)
  have HH := Aside0.mk h
  clear h
  by_cases e : i = j
  · subst e
    have n1 : ¬ i * 2 = i * 2 + 1 := by omega
    have n2 : ¬ i * 2 + 1 = i * 2 := by omega
    go_enter Try.func49, Try.ntmps49
    go_wp2_with fail
    go_big_region
    all_goals go_wp2
    all_goals first | go_end0 | ((try simp only [Exit.inBlock, Exit.then]); refine bodyPost_ret (results_none rfl _ _ _) rfl ?_)
    refine ⟨rfl, ?_⟩
    have h1 := pair_put HH.out i hi (gt xs i)
    have h2 := pair_put h1.1 i hi (gt xs i)
    have e1 : (xs.set i (gt xs i)).set i (gt xs i) = swL xs i i := rfl
    rw [e1] at h2
    exact ⟨Kd.R_below h2.1 (Below.refl _ _).drew, (h1.2.trans h2.2).drew_⟩
  · have n1 : ¬ i * 2 = j * 2 + 1 := by omega
    have n2 : ¬ i * 2 + 1 = j * 2 := by omega
    have n3 : ¬ j * 2 = i * 2 + 1 := by omega
    have n4 : ¬ j * 2 + 1 = i * 2 := by omega
    have n5 : ¬ j = i := by omega
    have n6 : ¬ i * 2 = j * 2 := by omega
    have n7 : ¬ j * 2 = i * 2 := by omega
    go_enter Try.func49, Try.ntmps49
    go_wp2_with fail
    go_big_region
    all_goals go_wp2
    all_goals first | go_end0 | ((try simp only [Exit.inBlock, Exit.then]); refine bodyPost_ret (results_none rfl _ _ _) rfl ?_)
    refine ⟨rfl, ?_⟩
    have h1 := pair_put HH.out i hi (gt xs j)
    have h2 := pair_put h1.1 j hj (gt xs i)
    exact ⟨Kd.R_below h2.1 (Below.refl _ _).drew, (h1.2.trans h2.2).drew_⟩
theorem recv1 (B : Nat) (W : World) (n : String) : Sem.run Try.prog (receiverAt 48 (.val (.pointer (some ⟨B, 0, none⟩))) false (some n)) W = Sem.run Try.prog (loadVar 44 ⟨B, 0, none⟩) W := by kernel_rfl
theorem load_pairs (B : Nat) (v : Value) (W : World) (h : W.cell? ⟨B, 0, none⟩ = some v) : Sem.run Try.prog (loadVar 44 ⟨B, 0, none⟩) W = .ok v W := by
  simp [loadVar, h, go_sem]
theorem meth_Less0 (B : Nat) (W : World) : Sem.run Try.prog (method 183 48 (.pointer (some ⟨B, 0, none⟩)) "Less") W = Sem.run Try.prog (do let v ← receiverAt 48 (.val (.pointer (some ⟨B, 0, none⟩))) false (some "Less"); pure (48, v)) W := by kernel_rfl
theorem meth_Less {B : Nat} {v : Value} {W : World} (h : W.cell? ⟨B, 0, none⟩ = some v) : Sem.run Try.prog (method 183 48 (.pointer (some ⟨B, 0, none⟩)) "Less") W = .ok (48, v) W := by
  rw [meth_Less0]
  have h1 := recv1 B W "Less"
  rw [load_pairs B v W h] at h1
  simp [h1, go_sem]
theorem meth_Swap0 (B : Nat) (W : World) : Sem.run Try.prog (method 183 48 (.pointer (some ⟨B, 0, none⟩)) "Swap") W = Sem.run Try.prog (do let v ← receiverAt 48 (.val (.pointer (some ⟨B, 0, none⟩))) false (some "Swap"); pure (49, v)) W := by kernel_rfl
theorem meth_Swap {B : Nat} {v : Value} {W : World} (h : W.cell? ⟨B, 0, none⟩ = some v) : Sem.run Try.prog (method 183 48 (.pointer (some ⟨B, 0, none⟩)) "Swap") W = .ok (49, v) W := by
  rw [meth_Swap0]
  have h1 := recv1 B W "Swap"
  rw [load_pairs B v W h] at h1
  simp [h1, go_sem]
theorem meth_Len0 (B : Nat) (W : World) : Sem.run Try.prog (method 183 48 (.pointer (some ⟨B, 0, none⟩)) "Len") W = Sem.run Try.prog (do let v ← receiverAt 48 (.val (.pointer (some ⟨B, 0, none⟩))) false (some "Len"); pure (22, v)) W := by kernel_rfl
theorem meth_Len {B : Nat} {v : Value} {W : World} (h : W.cell? ⟨B, 0, none⟩ = some v) : Sem.run Try.prog (method 183 48 (.pointer (some ⟨B, 0, none⟩)) "Len") W = .ok (22, v) W := by
  rw [meth_Len0]
  have h1 := recv1 B W "Len"
  rw [load_pairs B v W h] at h1
  simp [h1, go_sem]
theorem meth_Pop (B : Nat) (W : World) : Sem.run Try.prog (method 183 48 (.pointer (some ⟨B, 0, none⟩)) "Pop") W = .ok (50, .pointer (some ⟨B, 0, none⟩)) W := by
  kernel_rfl
theorem meth_Push (B : Nat) (W : World) : Sem.run Try.prog (method 183 48 (.pointer (some ⟨B, 0, none⟩)) "Push") W = .ok (51, .pointer (some ⟨B, 0, none⟩)) W := by
  kernel_rfl
end Go.Proofs.Ytlpjlgjhhmfnlaa.P
/- container/heap over the queue's pairs: up, down: walks. -/
namespace Go.Proofs.Ytlpjlgjhhmfnlaa.P
open Go.RowKit Go.Lib Go.Proofs.YtlpjlgjhhmfnlaaW.PrintWords Go.Proofs.YtlpjlgjhhmfnlaaW.PrintLast Go.Proofs.YtlpjlgjhhmfnlaaW.PrintMore
open Hp
set_option linter.unusedVariables false
set_option linter.unusedSimpArgs false

structure QS (w : World) (base B g n c : Nat) (xs : List PR) : Prop where
  row : pairKd.R 50 w base (fun k => k ≠ B) (.slice (some ⟨g, 0, none⟩) n c) xs
  box : w.cell? ⟨B, 0, none⟩ = some (.slice (some ⟨g, 0, none⟩) n c)
  ne : g ≠ B
theorem QS.len {w : World} {base B g n c : Nat} {xs : List PR} (h : QS w base B g n c xs) : xs.length = n := by
  obtain ⟨h1, _⟩ := Kd.R_reads' h.row; exact h1.symm
theorem QS.drewN {w : World} {base B g n c : Nat} {xs : List PR} (h : QS w base B g n c xs) (q : Nat) : QS (w.drewN q) base B g n c xs :=
  ⟨Kd.R_below h.row (pw_below_drewN (Below.refl _ _) q), by rw [World.cell?_drewN]; exact h.box, h.ne⟩
theorem grown_cell {w w1 : World} {g : Nat} (hg : w.grownBy w1 (some g)) {a : Addr} {v : Value} (hne : a.block ≠ g) (h : w.cell? a = some v) : w1.cell? a = some v := by
  have hb := World.block_lt_of_cell? w a h
  have := hg.block a.block hb (by simpa using hne)
  simp only [World.cell?] at h ⊢
  rw [this]; exact h
theorem QS.next {w w1 : World} {base B g n c : Nat} {xs ys : List PR} (h : QS w base B g n c xs) (hr : pairKd.R 50 w1 base (fun k => k ≠ B) (.slice (some ⟨g, 0, none⟩) n c) ys) (hg : w.grownBy w1 (some g)) : QS w1 base B g n c ys :=
  ⟨hr, grown_cell hg (fun e => h.ne e.symm) h.box, h.ne⟩
theorem grown_drewN {w : World} (q : Nat) (r : Option Nat) : w.grownBy (w.drewN q) r := ⟨rfl, rfl, rfl, Nat.le_refl _, fun _ _ _ => rfl⟩

set_option maxHeartbeats 2000000 in
set_option maxRecDepth 100000 in
theorem up_c (w : World) (base B g n c : Nat) (xs : List PR) (j : Nat) (hn : n ≤ 1099511627776) (hQ : QS w base B g n c xs) (hU : UpI n (gt xs) j) :
    Calls Try.prog 25 #[.iface 48 (.pointer (some ⟨B, 0, none⟩)), .int .i64 (j : Int)] w fun e w' => e = .returned (.tuple #[]) ∧ ∃ ys, ys.Perm xs ∧ IsHeap n (gt ys) ∧ QS w' base B g n c ys ∧ w.grownBy w' (some g) := by
  have HQ := Aside0.mk hQ
  have HU := Aside0.mk hU
  have hjn : j < n := hU.1
  clear hQ hU
  go_enter Try.func25, Try.ntmps25
  go_wp2
  go_loopg [1, 4] (j + 1) (fun gg s1 s4 wr => ∃ (jj : Nat) (ys : List PR), s1 = .int .i64 (jj : Int) ∧ jj ≤ gg ∧ jj < n ∧ Aside0 (UpI n (gt ys) jj ∧ ys.Perm xs ∧ QS wr base B g n c ys ∧ w.grownBy wr (some g)))
  case atStart => exact ⟨j, xs, rfl, by omega, hjn, ⟨HU.out, List.Perm.refl _, HQ.out, World.grownBy.refl w _⟩⟩
  case round =>
    obtain ⟨jj, ys, rfl, hgg, hjj, HH⟩ := hrel
    have HG := Aside0.mk hgg
    clear hgg
    by_cases h0 : jj = 0
    · subst h0
      have e0 : Int.tdiv (-1) 2 = 0 := by decide
      have HE : Aside0 (∃ ys, ys.Perm xs ∧ IsHeap n (gt ys) ∧ QS wr base B g n c ys ∧ w.grownBy wr (some g)) := ⟨ys, HH.out.2.1, up_end HH.out.1 (.inl rfl), HH.out.2.2⟩
      go_wp2
      first | go_end0 | ((try simp only [Exit.inBlock, Exit.then]); refine bodyPost_ret (results_none rfl _ _ _) rfl ?_)
      exact ⟨rfl, HE.out⟩
    · obtain ⟨jp, rfl⟩ : ∃ jp, jj = jp + 1 := ⟨jj - 1, by omega⟩
      obtain ⟨pj, hpj⟩ : ∃ pj, pj = jp / 2 := ⟨_, rfl⟩
      have epj : (jp : Int) / 2 = (pj : Int) := by omega
      have hpn : pj < n := by omega
      have hpl : pj ≤ jp := by omega
      obtain ⟨j1, hj1⟩ : ∃ j1, j1 = jp + 1 := ⟨_, rfl⟩
      have ej1 : ((jp + 1 : Nat) : Int) = (j1 : Int) := by omega
      have ej : (j1 : Int) - 1 = (jp : Int) := by omega
      have wj : IntKind.i64.wrap (jp : Int) = (jp : Int) := wz (by omega) (by omega)
      have hneb : ((pj : Int) == (j1 : Int)) = false := beq_eq_false_iff_ne.mpr (by omega)
      have epar : par (jp + 1) = pj := by unfold par; omega
      have hml := meth_Less HH.out.2.2.1.box
      have hcl := less_c HH.out.2.2.1.row j1 pj (by omega) hpn hn
      rw [ej1]
      have HK := Aside0.mk (And.intro hj1 (And.intro epar hpl))
      cases hls : ls (gt ys j1) (gt ys pj) with
      | false =>
        rw [hls] at hcl
        have HE : Aside0 (∀ q, ∃ ys, ys.Perm xs ∧ IsHeap n (gt ys) ∧ QS (wr.drewN q) base B g n c ys ∧ w.grownBy (wr.drewN q) (some g)) := ⟨fun q => ⟨ys, HH.out.2.1, up_end HH.out.1 (.inr (by rw [epar, ← hj1]; exact hls)), HH.out.2.2.1.drewN q, HH.out.2.2.2.trans (grown_drewN q _)⟩⟩
        have HCL := Aside0.mk hcl
        clear hls hcl hj1 epar hpj h0
        go_wp2_with (go_at_call 48; refine HCL.out.mono ?_; rintro e w1 ⟨rfl, q, rfl⟩)
        first | go_end0 | ((try simp only [Exit.inBlock, Exit.then]); refine bodyPost_ret (results_none rfl _ _ _) rfl ?_)
        exact ⟨rfl, HE.out _⟩
      | true =>
        rw [hls] at hcl
        have hms : ∀ q, Sem.run Try.prog (method 183 48 (.pointer (some ⟨B, 0, none⟩)) "Swap") (wr.drewN q) = .ok (49, .slice (some ⟨g, 0, none⟩) n c) (wr.drewN q) := fun q => meth_Swap (HH.out.2.2.1.drewN q).box
        have HCS := Aside0.mk (fun q => swap_c (HH.out.2.2.1.drewN q).row pj j1 hpn (by omega) hn)
        have HNX : Aside0 (∀ q w2, pairKd.R 50 w2 base (fun k => k ≠ B) (.slice (some ⟨g, 0, none⟩) n c) (swL ys pj j1) → (wr.drewN q).grownBy w2 (some g) → UpI n (gt (swL ys pj j1)) pj ∧ (swL ys pj j1).Perm xs ∧ QS w2 base B g n c (swL ys pj j1) ∧ w.grownBy w2 (some g)) := ⟨fun q w2 hr hg => by
          have hl := HH.out.2.2.1.len
          have hu := up_step HH.out.1 (by omega) (by rw [epar, ← hj1]; exact hls)
          rw [epar, ← hj1] at hu
          exact ⟨by rw [gt_swL ys pj j1 (by omega) (by omega)]; exact hu, (swL_perm ys pj j1 (by omega) (by omega)).trans HH.out.2.1, (HH.out.2.2.1.drewN q).next hr hg, (HH.out.2.2.2.trans (grown_drewN q _)).trans hg⟩⟩
        have HCL := Aside0.mk hcl
        clear hls hcl hj1 epar hpj h0
        go_wp2_with (first
          | (go_at_call 48; refine HCL.out.mono ?_; rintro e w1 ⟨rfl, q, rfl⟩; have hms2 := hms q)
          | (go_at_call 49; refine (HCS.out q).mono ?_; rintro e w2 ⟨rfl, hr, hg⟩; have HR2 := Aside0.mk (HNX.out q w2 hr hg); clear hr hg))
        go_roundg (pj)
        case measure => have := HG.out; have := HK.out; omega
        case rel => exact ⟨pj, swL ys pj j1, rfl, Nat.le_refl _, hpn, HR2⟩

set_option maxHeartbeats 4000000 in
set_option maxRecDepth 100000 in
theorem down_c (w : World) (base B g n c : Nat) (xs : List PR) (m : Nat) (hmn : m ≤ n) (hn : n ≤ 1099511627776) (hQ : QS w base B g n c xs) (hD : DnI m (gt xs) 0) :
    Calls Try.prog 26 #[.iface 48 (.pointer (some ⟨B, 0, none⟩)), .int .i64 0, .int .i64 (m : Int)] w fun e w' => (∃ b, e = .returned (.bool b)) ∧ ∃ ys, ys.Perm xs ∧ IsHeap m (gt ys) ∧ (∀ k, m ≤ k → gt ys k = gt xs k) ∧ QS w' base B g n c ys ∧ w.grownBy w' (some g) := by
  have HQ := Aside0.mk hQ
  have HD := Aside0.mk hD
  clear hQ hD
  go_enter Try.func26, Try.ntmps26
  go_wp2
  go_loopg [7, 8, 9, 10] (n + 1) (fun gg s7 s8 s9 s10 wr => ∃ (i : Nat) (ys : List PR), s7 = .int .i64 (i : Int) ∧ i ≤ n ∧ n + 1 - i ≤ gg ∧ Aside0 (DnI m (gt ys) i ∧ ys.Perm xs ∧ (∀ k, m ≤ k → gt ys k = gt xs k)) ∧ Aside0 (QS wr base B g n c ys ∧ w.grownBy wr (some g)))
  case atStart => exact ⟨0, xs, rfl, Nat.zero_le _, by omega, ⟨HD.out, List.Perm.refl _, fun _ _ => rfl⟩, ⟨HQ.out, World.grownBy.refl w _⟩⟩
  case round =>
    obtain ⟨i, ys, rfl, hin, hgg, HI, HQW⟩ := hrel
    have HG := Aside0.mk hgg
    clear hgg
    have hyl := HQW.out.1.len
    obtain ⟨j1, hj1⟩ : ∃ j1, j1 = 2 * i + 1 := ⟨_, rfl⟩
    have ej1 : (2 : Int) * (i : Int) + 1 = (j1 : Int) := by omega
    have wj1 : IntKind.i64.wrap (j1 : Int) = (j1 : Int) := wz (by omega) (by omega)
    have hj1n : j1 ≤ 2 * n + 1 := by omega
    by_cases hend : m ≤ j1
    · have hendz : (m : Int) ≤ (j1 : Int) := by omega
      have HE : Aside0 (∃ ys, ys.Perm xs ∧ IsHeap m (gt ys) ∧ (∀ k, m ≤ k → gt ys k = gt xs k) ∧ QS wr base B g n c ys ∧ w.grownBy wr (some g)) := ⟨ys, HI.out.2.1, dn_end0 HI.out.1 (by omega), HI.out.2.2, HQW.out⟩
      clear hj1 hyl
      go_wp2
      go_ret
      exact ⟨⟨_, rfl⟩, HE.out⟩
    · have hendz : ¬ (m : Int) ≤ (j1 : Int) := by omega
      obtain ⟨j2, hj2⟩ : ∃ j2, j2 = j1 + 1 := ⟨_, rfl⟩
      have ej2 : (j1 : Int) + 1 = (j2 : Int) := by omega
      have wj2 : IntKind.i64.wrap (j2 : Int) = (j2 : Int) := wz (by omega) (by omega)
      have hj1m : j1 < n := by omega
      have hi1 : i < n := by omega
      have hm0 := meth_Less HQW.out.1.box
      -- the lesser child
      have hch : ∃ j, Chi m (gt ys) i j ∧ ((j = j1 ∧ (m ≤ j2 ∨ (j2 < m ∧ ls (gt ys j2) (gt ys j1) = false))) ∨ (j = j2 ∧ j2 < m ∧ ls (gt ys j2) (gt ys j1) = true)) := by
        have hpar : ∀ k, 0 < k → par k = i → k = j1 ∨ k = j2 := fun k h0 h => by unfold par at h; omega
        by_cases h2 : j2 < m
        · cases h3 : ls (gt ys j2) (gt ys j1) with
          | true =>
            refine ⟨j2, ⟨.inr (by omega), h2, fun k h0 hk hp => ?_⟩, .inr ⟨rfl, h2, rfl⟩⟩
            rcases hpar k h0 hp with rfl | rfl
            · exact le_of_ls h3
            · exact le_refl _
          | false =>
            refine ⟨j1, ⟨.inl (by omega), by omega, fun k h0 hk hp => ?_⟩, .inl ⟨rfl, .inr ⟨h2, rfl⟩⟩⟩
            rcases hpar k h0 hp with rfl | rfl
            · exact le_refl _
            · exact h3
        · refine ⟨j1, ⟨.inl (by omega), by omega, fun k h0 hk hp => ?_⟩, .inl ⟨rfl, .inl (by omega)⟩⟩
          rcases hpar k h0 hp with rfl | rfl
          · exact le_refl _
          · omega
      obtain ⟨j, hchi, hcase⟩ := hch
      have HF : Aside0 (∀ W : World, QS W base B g n c ys → w.grownBy W (some g) → ls (gt ys j) (gt ys i) = false → ∃ ys, ys.Perm xs ∧ IsHeap m (gt ys) ∧ (∀ k, m ≤ k → gt ys k = gt xs k) ∧ QS W base B g n c ys ∧ w.grownBy W (some g)) := ⟨fun W h1 h2 h3 => ⟨ys, HI.out.2.1, dn_end HI.out.1 hchi h3, HI.out.2.2, h1, h2⟩⟩
      have HT : Aside0 (ls (gt ys j) (gt ys i) = true → DnI m (gt (swL ys i j)) j ∧ (swL ys i j).Perm xs ∧ (∀ k, m ≤ k → gt (swL ys i j) k = gt xs k)) := ⟨fun h3 => by
        have hjm := hchi.lt
        have hg := gt_swL ys i j (by omega) (by omega)
        refine ⟨by rw [hg]; exact dn_step HI.out.1 hchi h3, (swL_perm ys i j (by omega) (by omega)).trans HI.out.2.1, fun k hk => ?_⟩
        rw [hg]
        unfold sw
        rw [if_neg (by omega), if_neg (by omega)]
        exact HI.out.2.2 k hk⟩
      have hjn : j < n := by have := hchi.lt; omega
      have hij : i < j := by have := hchi.ch; omega
      have HJ := Aside0.mk hij
      clear hchi hj1 hj2 hend hij hyl
      rcases hcase with ⟨rfl, hcase | ⟨h2, hls⟩⟩ | ⟨rfl, h2, hls⟩
      · have h2z : ¬ (j2 : Int) < (m : Int) := by omega
        cases hl : ls (gt ys j) (gt ys i) with
        | false =>
          have HL := Aside0.mk hl
          go_wp2_with (go_at_call 48; refine (less_c HQW.out.1.row _ _ (by omega) (by omega) hn).mono ?_; rintro e w1 ⟨rfl, q, hw⟩; have HQW := Aside0.mk (And.intro (show QS w1 base B g n c ys by rw [hw]; exact HQW.out.1.drewN q) (show w.grownBy w1 (some g) by rw [hw]; exact HQW.out.2.trans (grown_drewN q _))); clear hw)
          go_ret
          exact ⟨⟨_, rfl⟩, HF.out _ HQW.out.1 HQW.out.2 HL.out⟩
        | true =>
          have HL := Aside0.mk hl
          go_wp2_with (first
            | (go_at_call 48; refine (less_c HQW.out.1.row _ _ (by omega) (by omega) hn).mono ?_; rintro e w1 ⟨rfl, q, hw⟩; have HQW := Aside0.mk (And.intro (show QS w1 base B g n c ys by rw [hw]; exact HQW.out.1.drewN q) (show w.grownBy w1 (some g) by rw [hw]; exact HQW.out.2.trans (grown_drewN q _))); clear hw; have hms := meth_Swap HQW.out.1.box)
            | (go_at_call 49; refine (swap_c HQW.out.1.row _ _ (by omega) (by omega) hn).mono ?_; rintro e w2 ⟨rfl, hr, hg⟩; have HQ2 := Aside0.mk (And.intro (HQW.out.1.next hr hg) (HQW.out.2.trans hg)); clear hr hg))
          go_roundg (n + 1 - j)
          case measure => have := HG.out; have := HJ.out; omega
          case rel => exact ⟨j, swL ys i j, rfl, by omega, Nat.le_refl _, ⟨HT.out HL.out⟩, HQ2⟩
      · have h2z : (j2 : Int) < (m : Int) := by omega
        have hj2n : j2 < n := by omega
        cases hl : ls (gt ys j) (gt ys i) with
        | false =>
          have HL := Aside0.mk hl
          go_wp2_with (go_at_call 48; refine (less_c HQW.out.1.row _ _ (by omega) (by omega) hn).mono ?_; rintro e w1 ⟨rfl, q, hw⟩; have HQW := Aside0.mk (And.intro (show QS w1 base B g n c ys by rw [hw]; exact HQW.out.1.drewN q) (show w.grownBy w1 (some g) by rw [hw]; exact HQW.out.2.trans (grown_drewN q _))); clear hw; have hmq := meth_Less HQW.out.1.box)
          go_ret
          exact ⟨⟨_, rfl⟩, HF.out _ HQW.out.1 HQW.out.2 HL.out⟩
        | true =>
          have HL := Aside0.mk hl
          go_wp2_with (first
            | (go_at_call 48; refine (less_c HQW.out.1.row _ _ (by omega) (by omega) hn).mono ?_; rintro e w1 ⟨rfl, q, hw⟩; have HQW := Aside0.mk (And.intro (show QS w1 base B g n c ys by rw [hw]; exact HQW.out.1.drewN q) (show w.grownBy w1 (some g) by rw [hw]; exact HQW.out.2.trans (grown_drewN q _))); clear hw; have hmq := meth_Less HQW.out.1.box; have hms := meth_Swap HQW.out.1.box)
            | (go_at_call 49; refine (swap_c HQW.out.1.row _ _ (by omega) (by omega) hn).mono ?_; rintro e w2 ⟨rfl, hr, hg⟩; have HQ2 := Aside0.mk (And.intro (HQW.out.1.next hr hg) (HQW.out.2.trans hg)); clear hr hg))
          go_roundg (n + 1 - j)
          case measure => have := HG.out; have := HJ.out; omega
          case rel => exact ⟨j, swL ys i j, rfl, by omega, Nat.le_refl _, ⟨HT.out HL.out⟩, HQ2⟩
      · have h2z : (j : Int) < (m : Int) := by omega
        cases hl : ls (gt ys j) (gt ys i) with
        | false =>
          have HL := Aside0.mk hl
          go_wp2_with (go_at_call 48; refine (less_c HQW.out.1.row _ _ (by omega) (by omega) hn).mono ?_; rintro e w1 ⟨rfl, q, hw⟩; have HQW := Aside0.mk (And.intro (show QS w1 base B g n c ys by rw [hw]; exact HQW.out.1.drewN q) (show w.grownBy w1 (some g) by rw [hw]; exact HQW.out.2.trans (grown_drewN q _))); clear hw; have hmq := meth_Less HQW.out.1.box)
          go_ret
          exact ⟨⟨_, rfl⟩, HF.out _ HQW.out.1 HQW.out.2 HL.out⟩
        | true =>
          have HL := Aside0.mk hl
          go_wp2_with (first
            | (go_at_call 48; refine (less_c HQW.out.1.row _ _ (by omega) (by omega) hn).mono ?_; rintro e w1 ⟨rfl, q, hw⟩; have HQW := Aside0.mk (And.intro (show QS w1 base B g n c ys by rw [hw]; exact HQW.out.1.drewN q) (show w.grownBy w1 (some g) by rw [hw]; exact HQW.out.2.trans (grown_drewN q _))); clear hw; have hmq := meth_Less HQW.out.1.box; have hms := meth_Swap HQW.out.1.box)
            | (go_at_call 49; refine (swap_c HQW.out.1.row _ _ (by omega) (by omega) hn).mono ?_; rintro e w2 ⟨rfl, hr, hg⟩; have HQ2 := Aside0.mk (And.intro (HQW.out.1.next hr hg) (HQW.out.2.trans hg)); clear hr hg))
          go_roundg (n + 1 - j)
          case measure => have := HG.out; have := HJ.out; omega
          case rel => exact ⟨j, swL ys i j, rfl, by omega, Nat.le_refl _, ⟨HT.out HL.out⟩, HQ2⟩
end Go.Proofs.Ytlpjlgjhhmfnlaa.P
/- The queue: its methods, walked; a bag of pairs. -/
namespace Go.Proofs.Ytlpjlgjhhmfnlaa.P
open Go.RowKit Go.Lib Go.Proofs.YtlpjlgjhhmfnlaaW.PrintWords Go.Proofs.YtlpjlgjhhmfnlaaW.PrintLast Go.Proofs.YtlpjlgjhhmfnlaaW.PrintMore
open Hp
set_option linter.unusedVariables false
set_option linter.unusedSimpArgs false

theorem info50 : (Try.prog.info? 50).map (fun i => (i.zero, i.size, i.bytes)) = some (some (.agg #[.int .i64 0, .int .i64 0]), 2, 16) := by kernel_rfl
/-- the pairs in memory: a box at B, a row that leads to no block in av -/
structure PB (av : Nat → Prop) (w : World) (base B : Nat) (v : Value) (hs : List PR) : Prop where
  box : w.heap[B]? = some (.cells #[v] 46 (0, 0))
  bb : base ≤ B
  nav : ¬ av B
  row : pairKd.R 50 w base (fun k => k ≠ B ∧ ¬ av k) v hs
  lt : ∀ k, av k → k < w.heap.size
theorem PB.cell {av : Nat → Prop} {w : World} {base B : Nat} {v : Value} {hs : List PR} (h : PB av w base B v hs) : w.cell? ⟨B, 0, none⟩ = some v ∧ w.frozen? ⟨B, 0, none⟩ = false := by
  have hb := h.box
  constructor
  · simp [World.cell?, hb]
  · simp [World.frozen?, hb]
theorem PB.bs {av : Nat → Prop} {w : World} {base B : Nat} {v : Value} {hs : List PR} (h : PB av w base B v hs) : B < w.heap.size := World.block_lt_of_cell? w _ h.cell.1
/-- what stays: av's blocks, and all below base -/
def Stays (av : Nat → Prop) (base : Nat) (w w' : World) : Prop := Below base w w' ∧ w.heap.size ≤ w'.heap.size ∧ ∀ k, av k → w'.heap[k]? = w.heap[k]?
theorem Stays.trans {av : Nat → Prop} {base : Nat} {a b c : World} (h1 : Stays av base a b) (h2 : Stays av base b c) : Stays av base a c := ⟨h1.1.trans h2.1, Nat.le_trans h1.2.1 h2.2.1, fun k hk => (h2.2.2 k hk).trans (h1.2.2 k hk)⟩
theorem Stays.drewN {av : Nat → Prop} {base : Nat} (w : World) (q : Nat) : Stays av base w (w.drewN q) := ⟨pw_below_drewN (Below.refl _ _) q, Nat.le_refl _, fun _ _ => rfl⟩

/-- the row has been laid anew at w1; the box told of it -/
theorem pb_next {av : Nat → Prop} {w w0 w1 : World} {base B : Nat} {v v2 : Value} {hs ys : List PR} (h : PB av w base B v hs) (ho : pairKd.R 50 w1 base (fun k => k ≠ B ∧ ¬ av k) v2 ys) (hb : Below base w w1) (hz : w0.heap = w.heap) (hg : w0.grownBy w1 v.ownBlock) (hbx : ∃ u, w1.heap[B]? = some (.cells #[u] 46 (0, 0))) (q : Nat) :
    PB av (((w1.setCell ⟨B, 0, none⟩ v2)).drewN q) base B v2 ys ∧ Stays av base w ((w1.setCell ⟨B, 0, none⟩ v2).drewN q) := by
  have hsz : w.heap.size ≤ w1.heap.size := by have := hg.size; rw [hz] at this; exact this
  have hav : ∀ k, av k → w1.heap[k]? = w.heap[k]? := fun k hk => by
    have := hg.block k (by rw [hz]; exact h.lt k hk) (fun e => (h.row.1 k e.symm).2 hk)
    rw [this, hz]
  have hset : ∀ k, k ≠ B → (w1.setCell ⟨B, 0, none⟩ v2).heap[k]? = w1.heap[k]? := fun k hk => Below.heap_setCell w1 ⟨B, 0, none⟩ v2 k hk
  obtain ⟨u, hu⟩ := hbx
  have hs2 : (w1.setCell ⟨B, 0, none⟩ v2).heap.size = w1.heap.size := by simp [World.setCell, hu]
  refine ⟨⟨?_, h.bb, h.nav, Kd.R_below (Kd.R_far ho (fun k hk => hk.1) v2) (pw_below_drewN (Below.refl _ _) q), fun k hk => ?_⟩, pw_below_drewN (hb.setCell h.bb _) q, ?_, fun k hk => ?_⟩
  · show (w1.setCell ⟨B, 0, none⟩ v2).heap[B]? = _
    simp [World.setCell, Array.getElem?_modify, hu]
  · show k < (w1.setCell ⟨B, 0, none⟩ v2).heap.size
    rw [hs2]; exact Nat.lt_of_lt_of_le (h.lt k hk) hsz
  · show w.heap.size ≤ (w1.setCell ⟨B, 0, none⟩ v2).heap.size
    rw [hs2]; exact hsz
  · show (w1.setCell ⟨B, 0, none⟩ v2).heap[k]? = _
    rw [hset k (fun e => h.nav (e ▸ hk)), hav k hk]

set_option maxHeartbeats 2000000 in
set_option maxRecDepth 100000 in
theorem ppush_c {av : Nat → Prop} {w : World} {base B : Nat} {v : Value} {hs : List PR} (h : PB av w base B v hs) (hl : hs.length ≤ 1000000) (x : PR) :
    Calls Try.prog 51 #[.pointer (some ⟨B, 0, none⟩), .iface 50 (.agg #[.int .i64 x.1, .int .i64 x.2])] w fun e w' => e = .returned (.tuple #[]) ∧ ∃ v', PB av w' base B v' (hs ++ [x]) ∧ Stays av base w w' := by
  have HH := Aside0.mk h
  have HL := Aside0.mk hl
  obtain ⟨hc, hf⟩ := h.cell
  have hB := h.bs
  have hta : ∀ (v : Value) (W : World), (Instr.typeAssert (.iface 50 v) 20 50 false).run Try.prog W = .ok v W := fun v W => by rfl
  clear h hl
  go_enter Try.func51, Try.ntmps51
  go_wp2_with fail
  go_region_law (refine Kd.R_append_step pairKd (w0 := w) (W := w.drew) base (by rfl) (.tmp 7) (.tmp 10) 44 50 (.agg #[.int .i64 0, .int .i64 0]) 16 rfl Try.underlying44 info50 rfl (by decide) (by decide) v hs x [.int .i64 x.1, .int .i64 x.2] (fun k => k ≠ B ∧ ¬ av k) (fun _ => False) (by first | rfl | simp [Act.eval, Act.put]) (by first | rfl | simp [Act.eval, Act.put]) ⟨[.int .i64 x.1], [.int .i64 x.2], rfl, rfl, rfl⟩ (fun _ hk => hk.elim) (fun k hk => ⟨fun e => absurd hk (by rw [e]; exact Nat.not_le.2 hB), fun ha => absurd hk (Nat.not_le.2 (HH.out.lt k ha))⟩) (Kd.R_below HH.out.row (Below.refl _ _).drew) (Below.refl _ _).drew (Nat.le_of_lt (Nat.lt_of_le_of_lt HH.out.bb hB)) (by have := HL.out; omega) ?_; intro v1 w1 ho hb hg hat; (have hbx : w1.heap[B]? = some (.cells #[v] 46 (0, 0)) := (hg.block B hB (fun e => (HH.out.row.1 B e.symm).1 rfl)).trans HH.out.box; have hc1 : w1.cell? ⟨B, 0, none⟩ = some v := (by simp [World.cell?, hbx]); have hf1 : w1.frozen? ⟨B, 0, none⟩ = false := (by simp [World.frozen?, hbx]); obtain ⟨A1, c1, rfl⟩ := Kd.R_slice ho; have HO := Aside0.mk (And.intro ho (And.intro hb (And.intro hg (And.intro hat hbx)))); clear ho hb hg hat hbx))
  all_goals go_wp2
  all_goals first | go_end0 | ((try simp only [Exit.inBlock, Exit.then]); refine bodyPost_ret (results_none rfl _ _ _) rfl ?_)
  all_goals (obtain ⟨ho, hb, hg, hat, hbx⟩ := HO.out; rw [show (hs ++ [x]).length = hs.length + 1 from by simp] at ho; first | exact ⟨rfl, _, pb_next (w0 := w.drew) HH.out ho hb rfl hg ⟨_, hbx⟩ 0⟩ | exact ⟨rfl, _, pb_next (w0 := w.drew) HH.out ho hb rfl hg ⟨_, hbx⟩ _⟩)
end Go.Proofs.Ytlpjlgjhhmfnlaa.P
/- The queue: pairs.Pop; what up and down give back to a queue; a bag put on a heap, taken off. -/
namespace Go.Proofs.Ytlpjlgjhhmfnlaa.P
open Go.RowKit Go.Lib Go.Proofs.YtlpjlgjhhmfnlaaW.PrintWords Go.Proofs.YtlpjlgjhhmfnlaaW.PrintLast Go.Proofs.YtlpjlgjhhmfnlaaW.PrintMore
open Hp
set_option linter.unusedVariables false
set_option linter.unusedSimpArgs false

theorem gt_append (hs : List PR) (x : PR) (i : Nat) (hi : i < hs.length) : gt (hs ++ [x]) i = gt hs i := by
  simp [gt, List.getD_eq_getElem?_getD, List.getElem?_append_left hi]
theorem upI_app (hs : List PR) (x : PR) (h : IsHeap hs.length (gt hs)) : UpI (hs.length + 1) (gt (hs ++ [x])) hs.length := by
  refine ⟨by omega, fun i h0 hi hne => ?_, fun i h0 hi hp hl => ?_⟩
  · have hpl : par i < i := by unfold par; omega
    rw [gt_append hs x i (by omega), gt_append hs x (par i) (by omega)]
    exact h i h0 (by omega)
  · have hpl : par i < i := by unfold par; omega
    omega
theorem dnI_swL (hs : List PR) (m : Nat) (hm : hs.length = m + 1) (h : IsHeap (m + 1) (gt hs)) : DnI m (gt (swL hs 0 m)) 0 := by
  rw [gt_swL hs 0 m (by omega) (by omega)]
  refine ⟨fun k h0 hk hp => ?_, fun k h0 hk hp hl => absurd hl (by omega)⟩
  have hpl : par k < k := by unfold par; omega
  have e1 : sw (gt hs) 0 m k = gt hs k := by unfold sw; rw [if_neg (by omega), if_neg (by omega)]
  have e2 : sw (gt hs) 0 m (par k) = gt hs (par k) := by unfold sw; rw [if_neg (by omega), if_neg (by omega)]
  rw [e1, e2]
  exact h k h0 (by omega)
theorem gt_take (l : List PR) (m i : Nat) (hi : i < m) : gt (l.take m) i = gt l i := by
  simp [gt, List.getD_eq_getElem?_getD, List.getElem?_take, hi]
theorem heap_take {l : List PR} {m : Nat} (h : IsHeap m (gt l)) : IsHeap m (gt (l.take m)) := fun i h0 hi => by
  have hpl : par i < i := by unfold par; omega
  rw [gt_take l m i hi, gt_take l m (par i) (by omega)]
  exact h i h0 hi
theorem take_last (l : List PR) (m : Nat) (hl : l.length = m + 1) : l = l.take m ++ [gt l m] := by
  apply List.ext_getElem?
  intro i
  rcases Nat.lt_or_ge i m with h | h
  · rw [List.getElem?_append_left (by rw [List.length_take]; omega), List.getElem?_take, if_pos h]
  · rw [List.getElem?_append_right (by rw [List.length_take]; omega), List.length_take, Nat.min_eq_left (by omega)]
    rcases Nat.eq_or_lt_of_le h with h | h
    · subst h
      have : m < l.length := by omega
      simp [gt, List.getD_eq_getElem?_getD, List.getElem?_eq_getElem this]
    · rw [List.getElem?_eq_none (by omega), List.getElem?_eq_none (by simp; omega)]
theorem row_some {w : World} {base : Nat} {ok : Nat → Prop} {v : Value} {hs : List PR} (h : pairKd.R 50 w base ok v hs) (hne : hs.length ≠ 0) : ∃ g c, v = .slice (some ⟨g, 0, none⟩) hs.length c ∧ base ≤ g ∧ ok g := by
  obtain ⟨inner, hown⟩ := Kd.R_own h
  obtain ⟨A, c, he⟩ := Kd.R_slice h
  have h0 := h.1
  rcases hown.2 with ⟨h1, _⟩ | ⟨g', cap, cur, h1, hb, hh, _⟩
  · subst h1
    injection he with _ e2 _
    exact absurd e2.symm hne
  · subst h1
    injection he with e1 e2 e3
    exact ⟨g', cap, rfl, hb, h0 g' (by simp [Value.ownBlock])⟩
/-- what a walk over the row left, told of the queue -/
theorem QS.pb {av : Nat → Prop} {w w' : World} {base B g n c : Nat} {hs ys : List PR} (h : PB av w base B (.slice (some ⟨g, 0, none⟩) n c) hs) (hbg : base ≤ g) (hQ : pairKd.R 50 w' base (fun k => k ≠ B) (.slice (some ⟨g, 0, none⟩) n c) ys) (hg : w.grownBy w' (some g)) :
    PB av w' base B (.slice (some ⟨g, 0, none⟩) n c) ys ∧ Stays av base w w' := by
  have hok := h.row.1 g (by simp [Value.ownBlock])
  refine ⟨⟨?_, h.bb, h.nav, ?_, fun k hk => Nat.lt_of_lt_of_le (h.lt k hk) hg.size⟩, ⟨hg.os, hg.tape, hg.output, hg.size, fun k hk => ?_⟩, hg.size, fun k hk => ?_⟩
  · rw [hg.block B h.bs (by intro e; injection e with e; exact hok.1 e.symm)]
    exact h.box
  · refine Kd.R_mono (Kd.R_tight rfl hQ) (fun k hk => ?_)
    have : g = k := by simpa [Value.ownBlock] using hk.symm
    subst this
    exact hok
  · exact hg.block k (by have := h.bb; have := h.bs; omega) (by intro e; injection e with e; omega)
  · exact hg.block k (h.lt k hk) (by intro e; injection e with e; subst e; exact hok.2 hk)
theorem PB.qs {av : Nat → Prop} {w : World} {base B g n c : Nat} {hs : List PR} (h : PB av w base B (.slice (some ⟨g, 0, none⟩) n c) hs) : QS w base B g n c hs :=
  ⟨Kd.R_mono h.row (fun _ hk => hk.1), h.cell.1, (h.row.1 g (by simp [Value.ownBlock])).1⟩
theorem PB.drewN {av : Nat → Prop} {w : World} {base B : Nat} {v : Value} {hs : List PR} (h : PB av w base B v hs) (q : Nat) : PB av (w.drewN q) base B v hs :=
  ⟨h.box, h.bb, h.nav, Kd.R_below h.row (pw_below_drewN (Below.refl _ _) q), h.lt⟩
theorem PB.below {av : Nat → Prop} {w w' : World} {base B : Nat} {v : Value} {hs : List PR} (h : PB av w base B v hs) (hb : Below w.heap.size w w') : PB av w' base B v hs :=
  ⟨(hb.block B h.bs).trans h.box, h.bb, h.nav, Kd.R_below h.row hb, fun k hk => Nat.lt_of_lt_of_le (h.lt k hk) hb.size⟩
theorem PB.stays {av : Nat → Prop} {w w' : World} {base B : Nat} {v : Value} {hs : List PR} (h : PB av w base B v hs) (hb : Below w.heap.size w w') : Stays av base w w' :=
  ⟨⟨hb.os, hb.tape, hb.output, hb.size, fun k hk => hb.block k (by have := h.bb; have := h.bs; omega)⟩, hb.size, fun k hk => hb.block k (h.lt k hk)⟩
theorem pair_rows {w : World} {base g n c : Nat} {ok : Nat → Prop} {xs : List PR} (h : pairKd.R 50 w base ok (.slice (some ⟨g, 0, none⟩) n c) xs) : n ≤ c := (Kd.R_reads' h).2.1

set_option maxHeartbeats 2000000 in
set_option maxRecDepth 100000 in
theorem ppop_c {av : Nat → Prop} {w : World} {base B g m c : Nat} {hs : List PR} (h : PB av w base B (.slice (some ⟨g, 0, none⟩) (m + 1) c) hs) (hl : m ≤ 1000000) :
    Calls Try.prog 50 #[.pointer (some ⟨B, 0, none⟩)] w fun e w' => e = .returned (.iface 50 (.agg #[.int .i64 (gt hs m).1, .int .i64 (gt hs m).2])) ∧ ∃ v', PB av w' base B v' (hs.take m) ∧ Stays av base w w' := by
  have HH := Aside0.mk h
  obtain ⟨hc, hf⟩ := h.cell
  have hB := h.bs
  obtain ⟨c1, c2, hn⟩ := pair_at h.row m (by omega)
  have hcap := pair_rows h.row
  obtain ⟨n1, hn1⟩ : ∃ n1, n1 = m + 1 := ⟨_, rfl⟩
  have en1 : ((m + 1 : Nat) : Int) = (n1 : Int) := by omega
  have em : (n1 : Int) - 1 = (m : Int) := by omega
  have wm : IntKind.i64.wrap (m : Int) = (m : Int) := wz (by omega) (by omega)
  have pm : (0 : Int) ≤ (m : Int) := by omega
  have qm : (m : Int) < (n1 : Int) := by omega
  rw [← hn1] at hc
  have HN := Aside0.mk hn1
  have hn1c : n1 ≤ c := by omega
  have hmc : m ≤ c := by omega
  clear h hn hn1 hcap en1
  go_enter Try.func50, Try.ntmps50
  go_wp2
  go_ret
  have h1 := pb_next (w0 := w) HH.out (Kd.R_take HH.out.row (m := m) (by have := HH.out.qs.len; omega)) (Below.refl _ _) rfl (World.grownBy.refl w _) ⟨_, HH.out.box⟩ 0
  have h2 : Below (w.setCell ⟨B, 0, none⟩ (.slice (some ⟨g, 0, none⟩) m c)).heap.size (w.setCell ⟨B, 0, none⟩ (.slice (some ⟨g, 0, none⟩) m c)) ((w.setCell ⟨B, 0, none⟩ (.slice (some ⟨g, 0, none⟩) m c)).alloc (.cells #[.int .i64 (gt hs m).1, .int .i64 (gt hs m).2] 50)) := (Below.refl _ _).alloc (Nat.le_refl _) _
  exact ⟨rfl, _, h1.1.below h2, h1.2.trans (h1.1.stays h2)⟩
theorem len_c {w : World} {A : Option Addr} {n c : Nat} : Calls Try.prog 22 #[.slice A n c] w fun e w' => e = .returned (.int .i64 (n : Int)) ∧ w' = w := by
  go_enter Try.func22, Try.ntmps22
  go_wp2
  go_ret
  exact ⟨rfl, rfl⟩

set_option maxHeartbeats 2000000 in
set_option maxRecDepth 100000 in
theorem hpush_c {av : Nat → Prop} {w : World} {base B : Nat} {v : Value} {hs : List PR} (h : PB av w base B v hs) (hH : IsHeap hs.length (gt hs)) (hl : hs.length ≤ 1000) (x : PR) :
    Calls Try.prog 19 #[.iface 48 (.pointer (some ⟨B, 0, none⟩)), .iface 50 (.agg #[.int .i64 x.1, .int .i64 x.2])] w fun e w' => e = .returned (.tuple #[]) ∧ ∃ v' ys, ys.Perm (hs ++ [x]) ∧ IsHeap ys.length (gt ys) ∧ PB av w' base B v' ys ∧ Stays av base w w' := by
  have HH := Aside0.mk h
  have HX := Aside0.mk hH
  have HL := Aside0.mk hl
  have hmp := fun W => meth_Push B W
  clear h hH
  obtain ⟨m, hm⟩ : ∃ m, m = hs.length := ⟨_, rfl⟩
  obtain ⟨n1, hn1⟩ : ∃ n1, n1 = m + 1 := ⟨_, rfl⟩
  have em : (n1 : Int) - 1 = (m : Int) := by omega
  have wm : IntKind.i64.wrap (m : Int) = (m : Int) := wz (by omega) (by omega)
  have HM := Aside0.mk (And.intro hm hn1)
  clear hm hn1 hl
  go_enter Try.func19, Try.ntmps19
  go_wp2_with (first
    | (go_at_call 51; refine (ppush_c HH.out (by have := HL.out; omega) x).mono ?_; rintro e w1 ⟨rfl, v1, hP, hS⟩; obtain ⟨g, c, hv, hbg, -⟩ := row_some hP.row (by simp); (have e1 : (hs ++ [x]).length = n1 := by have := HM.out; simp; omega); rw [e1] at hv; subst hv; have hml := meth_Len hP.cell.1; have HP := Aside0.mk (And.intro hP (And.intro hS hbg)); clear hP hS hbg e1)
    | (go_at_call 22; refine len_c.mono ?_; rintro e w2 ⟨rfl, rfl⟩)
    | (go_at_call 25; refine (up_c _ base B g n1 c (hs ++ [x]) m (by have := HM.out; have := HL.out; omega) HP.out.1.qs (by have h1 := upI_app hs x HX.out; have := HM.out; rw [← this.1, ← this.2] at h1; exact h1)).mono ?_; rintro e w2 ⟨rfl, ys, hp, hh, hq, hg⟩; have HZ := Aside0.mk (And.intro hp (And.intro hh (And.intro hq hg))); clear hp hh hq hg))
  go_end0
  obtain ⟨hp, hh, hq, hg⟩ := HZ.out
  obtain ⟨hP, hS, hbg⟩ := HP.out
  have h1 := QS.pb hP hbg hq.row hg
  have hyl := hq.len
  exact ⟨rfl, _, ys, hp, by rw [hyl]; exact hh, h1.1, hS.trans h1.2⟩

set_option maxHeartbeats 2000000 in
set_option maxRecDepth 100000 in
theorem hpop_c {av : Nat → Prop} {w : World} {base B : Nat} {v : Value} {hs : List PR} (h : PB av w base B v hs) (hH : IsHeap hs.length (gt hs)) (hl : hs.length ≤ 1000) (hne : hs.length ≠ 0) :
    Calls Try.prog 20 #[.iface 48 (.pointer (some ⟨B, 0, none⟩))] w fun e w' => e = .returned (.iface 50 (.agg #[.int .i64 (gt hs 0).1, .int .i64 (gt hs 0).2])) ∧ ∃ v' ys, hs.Perm (gt hs 0 :: ys) ∧ IsHeap ys.length (gt ys) ∧ PB av w' base B v' ys ∧ Stays av base w w' := by
  obtain ⟨m, hm⟩ : ∃ m, m = hs.length - 1 := ⟨_, rfl⟩
  have hm1 : hs.length = m + 1 := by omega
  obtain ⟨g, c, hv, hbg, -⟩ := row_some h.row hne
  rw [hm1] at hv hH
  subst hv
  have HX := Aside0.mk hH
  obtain ⟨x0, hx0⟩ : ∃ x0, x0 = gt hs 0 := ⟨_, rfl⟩
  obtain ⟨zs, hzs⟩ : ∃ zs, zs = swL hs 0 m := ⟨_, rfl⟩
  have hzl : zs.length = m + 1 := by rw [hzs, swL_len, hm1]
  have hzm : gt zs m = x0 := by
    rw [hzs, gt_swL hs 0 m (by omega) (by omega), hx0]
    unfold sw
    by_cases e : m = 0
    · rw [if_pos e, e]
    · rw [if_neg e, if_pos rfl]
  have hD : DnI m (gt zs) 0 := by rw [hzs]; exact dnI_swL hs m hm1 hH
  have hzp : zs.Perm hs := by rw [hzs]; exact swL_perm hs 0 m (by omega) (by omega)
  have HZ := Aside0.mk (And.intro hzs (And.intro hzl (And.intro hzm (And.intro hD hzp))))
  rw [← hx0]
  have HL : Aside0 (m ≤ 1000) := ⟨by omega⟩
  have hml := meth_Len h.cell.1
  have hms := meth_Swap h.cell.1
  have hmp := fun W => meth_Pop B W
  obtain ⟨n1, hn1⟩ : ∃ n1, n1 = m + 1 := ⟨_, rfl⟩
  have em : (n1 : Int) - 1 = (m : Int) := by omega
  have wm : IntKind.i64.wrap (m : Int) = (m : Int) := wz (by omega) (by omega)
  rw [← hn1] at hml hms h
  have HH := Aside0.mk (And.intro h hbg)
  have HN := Aside0.mk hn1
  clear h hH hm hm1 hbg hx0 hzs hzl hzm hD hzp hl hne hn1
  go_enter Try.func20, Try.ntmps20
  go_wp2_with (first
    | (go_at_call 22; refine len_c.mono ?_; rintro e w2 ⟨rfl, rfl⟩)
    | (go_at_call 49; refine (swap_c (n := n1) HH.out.1.row 0 m (by have := HN.out; omega) (by have := HN.out; omega) (by have := HL.out; have := HN.out; omega)).mono ?_; rintro e w3 ⟨rfl, hr, hg⟩; have HS := Aside0.mk (QS.pb HH.out.1 HH.out.2 (Kd.R_mono hr (fun _ hk => hk.1)) hg); clear hr hg)
    | (go_at_call 26; refine (down_c _ base B g n1 c (swL hs 0 m) m (by have := HN.out; omega) (by have := HL.out; have := HN.out; omega) HS.out.1.qs (by rw [← HZ.out.1]; exact HZ.out.2.2.2.1)).mono ?_; rintro e w4 ⟨⟨b, rfl⟩, ys, hp, hh, hk, hq, hg⟩; have HT := Aside0.mk (And.intro (QS.pb HS.out.1 HH.out.2 hq.row hg) (And.intro hp (And.intro hh (And.intro hk hq.len)))); have h4 := HT.out.1.1; rw [HN.out] at h4; have HP := Aside0.mk h4; clear hp hh hk hq hg h4)
    | (go_at_call 50; refine (ppop_c HP.out (by have := HL.out; omega)).mono ?_; rintro e w5 ⟨rfl, v5, hP, hS⟩; have HF := Aside0.mk (And.intro hP hS); clear hP hS))
  go_ret
  obtain ⟨⟨h1, h2⟩, hp, hh, hk, hyl⟩ := HT.out
  obtain ⟨hzs, hzl, hzm, hD, hzp⟩ := HZ.out
  obtain ⟨hP, hS⟩ := HF.out
  rw [← hzs] at hp hk
  have e0 : gt ys m = x0 := by rw [hk m (Nat.le_refl m)]; exact hzm
  have hn := HN.out
  refine ⟨by rw [e0]; rfl, v5, ys.take m, ?_, by rw [List.length_take, Nat.min_eq_left (by omega)]; exact heap_take hh, hP, (HS.out.2.trans h2).trans hS⟩
  refine (hzp.symm.trans hp.symm).trans ?_
  have := take_last ys m (by omega)
  rw [e0] at this
  rw [this]
  have e1 : (ys.take m ++ [x0]).take m = ys.take m := by rw [List.take_append_of_le_length (by rw [List.length_take]; omega), List.take_take, Nat.min_self]
  rw [e1]
  exact List.perm_append_comm
end Go.Proofs.Ytlpjlgjhhmfnlaa.P
/- The queue's own functions: New, Push, Pop, Len, of a bag of pairs. -/
namespace Go.Proofs.Ytlpjlgjhhmfnlaa.P
open Go.RowKit Go.Lib Go.Proofs.YtlpjlgjhhmfnlaaW.PrintWords Go.Proofs.YtlpjlgjhhmfnlaaW.PrintLast Go.Proofs.YtlpjlgjhhmfnlaaW.PrintMore
open Hp
set_option linter.unusedVariables false
set_option linter.unusedSimpArgs false

/-- the least of a row of pairs -/
def mnF (b : PR) (l : List PR) : PR := l.foldl (fun b x => if ls x b then x else b) b
def mn (l : List PR) : PR := match l with | [] => (0, 0) | a :: t => mnF a t
theorem mnF_le (l : List PR) : ∀ b, le (mnF b l) b ∧ (∀ x ∈ l, le (mnF b l) x) ∧ (mnF b l = b ∨ mnF b l ∈ l) := by
  induction l with
  | nil => intro b; exact ⟨le_refl _, fun x hx => absurd hx (by simp), .inl rfl⟩
  | cons a t ih =>
    intro b
    have e : mnF b (a :: t) = mnF (if ls a b then a else b) t := rfl
    rw [e]
    cases h : ls a b with
    | true =>
      obtain ⟨h1, h2, h3⟩ := ih a
      rw [if_pos rfl]
      refine ⟨le_trans h1 (le_of_ls h), fun x hx => ?_, .inr ?_⟩
      · rcases List.mem_cons.mp hx with rfl | hx
        · exact h1
        · exact h2 x hx
      · rcases h3 with h3 | h3
        · rw [h3]; exact List.mem_cons_self
        · exact List.mem_cons_of_mem _ h3
    | false =>
      obtain ⟨h1, h2, h3⟩ := ih b
      rw [if_neg (by decide)]
      refine ⟨h1, fun x hx => ?_, ?_⟩
      · rcases List.mem_cons.mp hx with rfl | hx
        · exact le_trans h1 h
        · exact h2 x hx
      · rcases h3 with h3 | h3
        · exact .inl h3
        · exact .inr (List.mem_cons_of_mem _ h3)
theorem mn_mem {l : List PR} (h : l ≠ []) : mn l ∈ l := by
  cases l with
  | nil => exact absurd rfl h
  | cons a t =>
    show mnF a t ∈ _
    rcases (mnF_le t a).2.2 with h3 | h3
    · rw [h3]; exact List.mem_cons_self
    · exact List.mem_cons_of_mem _ h3
theorem mn_le (l : List PR) : ∀ x ∈ l, le (mn l) x := by
  cases l with
  | nil => intro x hx; exact absurd hx (by simp)
  | cons a t =>
    intro x hx
    rcases List.mem_cons.mp hx with rfl | hx
    · exact (mnF_le t _).1
    · exact (mnF_le t _).2.1 x hx
theorem gt_mem {l : List PR} {i : Nat} (h : i < l.length) : gt l i ∈ l := by
  simp only [gt, List.getD_eq_getElem?_getD, List.getElem?_eq_getElem h, Option.getD_some]
  exact List.getElem_mem h
theorem mem_gt {l : List PR} {x : PR} (h : x ∈ l) : ∃ i, i < l.length ∧ gt l i = x := by
  obtain ⟨i, hi, e⟩ := List.getElem_of_mem h
  exact ⟨i, hi, by simp [gt, List.getD_eq_getElem?_getD, List.getElem?_eq_getElem hi, e]⟩
theorem top_mn {hs l : List PR} (hH : IsHeap hs.length (gt hs)) (hp : hs.Perm l) (hne : l ≠ []) : gt hs 0 = mn l := by
  have hl : 0 < hs.length := by rw [hp.length_eq]; exact List.length_pos_iff.mpr hne
  refine le_anti ?_ (mn_le l _ (hp.subset (gt_mem hl)))
  obtain ⟨i, hi, e⟩ := mem_gt (hp.symm.subset (mn_mem hne))
  rw [← e]
  exact top_min hH i hi

/-- a queue at B holds the pairs of l -/
def Bag (av : Nat → Prop) (w : World) (base B : Nat) (l : List PR) : Prop := ∃ v hs, PB av w base B v hs ∧ IsHeap hs.length (gt hs) ∧ hs.Perm l
theorem Bag.perm {av : Nat → Prop} {w : World} {base B : Nat} {l l' : List PR} (h : Bag av w base B l) (hp : l.Perm l') : Bag av w base B l' := by
  obtain ⟨v, hs, h1, h2, h3⟩ := h
  exact ⟨v, hs, h1, h2, h3.trans hp⟩
theorem Bag.below {av : Nat → Prop} {w w' : World} {base B : Nat} {l : List PR} (h : Bag av w base B l) (hb : Below w.heap.size w w') : Bag av w' base B l := by
  obtain ⟨v, hs, h1, h2, h3⟩ := h
  exact ⟨v, hs, h1.below hb, h2, h3⟩
theorem Bag.stays {av : Nat → Prop} {w w' : World} {base B : Nat} {l : List PR} (h : Bag av w base B l) (hb : Below w.heap.size w w') : Stays av base w w' := by
  obtain ⟨v, hs, h1, h2, h3⟩ := h
  exact h1.stays hb

theorem qpush_c {av : Nat → Prop} {w : World} {base B : Nat} {l : List PR} (h : Bag av w base B l) (hl : l.length ≤ 1000) (a b : Int) :
    Calls Try.prog 11 #[.pointer (some ⟨B, 0, none⟩), .int .i64 a, .int .i64 b] w fun e w' => e = .returned (.tuple #[]) ∧ Bag av w' base B (l ++ [(a, b)]) ∧ Stays av base w w' := by
  obtain ⟨v, hs, hP, hH, hp⟩ := h
  have hpl := hp.length_eq
  have HH := Aside0.mk (And.intro hP (And.intro hH (And.intro hp (show hs.length ≤ 1000 by omega))))
  clear hP hH hp hl hpl
  go_enter Try.func11, Try.ntmps11
  go_wp2_with (go_at_call 19; refine (hpush_c HH.out.1 HH.out.2.1 HH.out.2.2.2 (a, b)).mono ?_; rintro e w1 ⟨rfl, v1, ys, hp, hh, hP, hS⟩; have HR := Aside0.mk (And.intro hp (And.intro hh (And.intro hP hS))); clear hp hh hP hS)
  go_end0
  obtain ⟨hp, hh, hP, hS⟩ := HR.out
  exact ⟨rfl, ⟨v1, ys, hP, hh, hp.trans (HH.out.2.2.1.append_right _)⟩, hS⟩
theorem qpush0_c {w : World} (a b : Int) :
    Calls Try.prog 11 #[.pointer none, .int .i64 a, .int .i64 b] w fun e w' => e = .returned (.tuple #[]) ∧ ∃ q, w' = w.drewN q := by
  go_enter Try.func11, Try.ntmps11
  go_wp2
  go_end0
  exact ⟨rfl, by first | exact ⟨0, rfl⟩ | exact ⟨_, rfl⟩⟩
theorem qlen_c {av : Nat → Prop} {w : World} {base B : Nat} {l : List PR} (h : Bag av w base B l) :
    Calls Try.prog 15 #[.pointer (some ⟨B, 0, none⟩)] w fun e w' => e = .returned (.int .i64 (l.length : Int)) ∧ ∃ q, w' = w.drewN q := by
  obtain ⟨v, hs, hP, hH, hp⟩ := h
  obtain ⟨A, c, hv⟩ := Kd.R_slice hP.row
  rw [hp.length_eq] at hv
  subst hv
  obtain ⟨hc, hf⟩ := hP.cell
  clear hP hH hp
  go_enter Try.func15, Try.ntmps15
  go_wp2_with (go_at_call 22; refine len_c.mono ?_; rintro e w2 ⟨rfl, rfl⟩)
  go_ret
  exact ⟨rfl, by first | exact ⟨0, rfl⟩ | exact ⟨_, rfl⟩⟩
theorem qlen0_c {w : World} :
    Calls Try.prog 15 #[.pointer none] w fun e w' => e = .returned (.int .i64 0) ∧ ∃ q, w' = w.drewN q := by
  go_enter Try.func15, Try.ntmps15
  go_wp2
  go_ret
  exact ⟨rfl, by first | exact ⟨0, rfl⟩ | exact ⟨_, rfl⟩⟩
theorem new_c {av : Nat → Prop} {w : World} {base : Nat} (hbase : base ≤ w.heap.size) (hav : ∀ k, av k → k < w.heap.size) :
    Calls Try.prog 10 #[] w fun e w' => e = .returned (.pointer (some ⟨w.heap.size, 0, none⟩)) ∧ Bag av w' base w.heap.size [] ∧ Stays av base w w' := by
  go_enter Try.func10, Try.ntmps10
  go_wp2
  go_ret
  have hb : Below w.heap.size w (w.alloc (.cells #[.slice none 0 0] 46)) := (Below.refl _ _).alloc (Nat.le_refl _) _
  refine ⟨rfl, ⟨.slice none 0 0, [], ⟨?_, hbase, fun h => Nat.lt_irrefl _ (hav _ h), Kd.R_nil _ _ _ _ _, fun k hk => Nat.lt_of_lt_of_le (hav k hk) hb.size⟩, fun i h0 hi => absurd hi (by simp), List.Perm.refl _⟩, ⟨hb.os, hb.tape, hb.output, hb.size, fun k hk => hb.block k (by omega)⟩, hb.size, fun k hk => hb.block k (hav k hk)⟩
  show (w.heap.push _)[w.heap.size]? = _
  exact Array.getElem?_push_size
theorem qpop0_c {av : Nat → Prop} {w : World} {base B : Nat} (h : Bag av w base B []) :
    Calls Try.prog 13 #[.pointer (some ⟨B, 0, none⟩)] w fun e w' => e = .returned (.tuple #[.int .i64 0, .int .i64 0, .bool false]) ∧ ∃ q, w' = w.drewN q := by
  have HH := Aside0.mk h
  clear h
  go_enter Try.func13, Try.ntmps13
  go_wp2_with (go_at_call 15; refine (qlen_c HH.out).mono ?_; rintro e w1 ⟨rfl, q, rfl⟩)
  go_ret3
  exact ⟨rfl, by first | exact ⟨0, rfl⟩ | exact ⟨_, rfl⟩⟩
theorem qpopn_c {w : World} :
    Calls Try.prog 13 #[.pointer none] w fun e w' => e = .returned (.tuple #[.int .i64 0, .int .i64 0, .bool false]) ∧ ∃ q, w' = w.drewN q := by
  go_enter Try.func13, Try.ntmps13
  go_wp2_with (go_at_call 15; refine (qlen0_c).mono ?_; rintro e w1 ⟨rfl, q, rfl⟩)
  go_ret3
  exact ⟨rfl, by first | exact ⟨0, rfl⟩ | exact ⟨_, rfl⟩⟩
set_option maxHeartbeats 2000000 in
set_option maxRecDepth 100000 in
theorem qpop_c {av : Nat → Prop} {w : World} {base B : Nat} {l : List PR} (h : Bag av w base B l) (hl : l.length ≤ 1000) (hne : l ≠ []) :
    Calls Try.prog 13 #[.pointer (some ⟨B, 0, none⟩)] w fun e w' => e = .returned (.tuple #[.int .i64 (mn l).1, .int .i64 (mn l).2, .bool true]) ∧ Bag av w' base B (l.erase (mn l)) ∧ Stays av base w w' := by
  have HB := Aside0.mk h
  obtain ⟨v, hs, hP, hH, hp⟩ := h
  have hpl := hp.length_eq
  have hz : l.length ≠ 0 := fun e => hne (List.length_eq_zero_iff.mp e)
  have htop := top_mn hH hp hne
  obtain ⟨x, hx⟩ : ∃ x, x = mn l := ⟨_, rfl⟩
  rw [← hx] at htop ⊢
  have HH := Aside0.mk (And.intro hP (And.intro hH (And.intro hp (And.intro (show hs.length ≤ 1000 by omega) (And.intro (show hs.length ≠ 0 by omega) htop)))))
  have HX := Aside0.mk hx
  have hta : ∀ (v : Value) (W : World), (Instr.typeAssert (.iface 50 v) 20 50 false).run Try.prog W = .ok v W := fun v W => by rfl
  have hlen : ((l.length : Int) == 0) = false := beq_eq_false_iff_ne.mpr (by omega)
  obtain ⟨nl, hnl⟩ : ∃ nl, nl = l.length := ⟨_, rfl⟩
  have hzz : ¬ (nl : Int) = 0 := by omega
  have hlc := fun (W : World) (h : Bag av W base B l) => qlen_c h
  rw [← hnl] at hlc hlen
  have HLC := Aside0.mk hlc
  clear hP hH hp hl hpl hne hz htop hx hnl hlc
  go_enter Try.func13, Try.ntmps13
  go_wp2_with (first
    | (go_at_call 15; refine (HLC.out _ HB.out).mono ?_; rintro e w1 ⟨rfl, q, rfl⟩)
    | (go_at_call 20; refine (hpop_c (HH.out.1.drewN _) HH.out.2.1 HH.out.2.2.2.1 HH.out.2.2.2.2.1).mono ?_; rintro e w2 ⟨rfl, v2, ys, hp, hh, hP, hS⟩; rw [HH.out.2.2.2.2.2] at hp ⊢; have HR := Aside0.mk (And.intro hp (And.intro hh (And.intro hP hS))); clear hp hh hP hS))
  go_big_region
  all_goals go_wp2
  all_goals go_ret3
  all_goals (
    obtain ⟨hp, hh, hP, hS⟩ := HR.out
    refine ⟨rfl, ⟨v2, ys, hP.below (((Below.refl _ _).alloc (Nat.le_refl _) _).drew), hh, ?_⟩, ((Stays.drewN _ _).trans hS).trans (hP.stays (((Below.refl _ _).alloc (Nat.le_refl _) _).drew))⟩
    have h1 : l.Perm (x :: ys) := HH.out.2.2.1.symm.trans hp
    have h2 := h1.erase (mn l)
    rw [← HX.out, List.erase_cons_head] at h2
    exact h2.symm)
end Go.Proofs.Ytlpjlgjhhmfnlaa.P
-- written by wip/tool/ownprint.py of this claim's own repository, out of the translation's print
namespace Go.Proofs.Ytlpjlgjhhmfnlaa.P
open Go.RowKit Go.Proofs.YtlpjlgjhhmfnlaaW.PrintWords Go.Proofs.YtlpjlgjhhmfnlaaW.PrintLast Go.Proofs.YtlpjlgjhhmfnlaaW.PrintMore
attribute [local go_sem] max2_int min2_int max_two min_two max_three min_three max_four min_four   -- for this text's walks alone
set_option linter.unusedVariables false
set_option linter.unusedSimpArgs false

/-- A state of type 46 at block g of W; what its slices lead to came in by w0. -/
def IsS46 (w0 W : World) (g : Nat) (f0 : List (S50)) : Prop := ∃ A0 c0, W.heap[g]? = some (.cells #[.slice A0 f0.length c0] 46 (0, 0)) ∧ w0.heap.size ≤ g ∧ Kd.C k50 w0 A0 f0.length f0
theorem IsS46.grown {w0 W : World} {g : Nat} {f0 : List (S50)} {W1 : World} {row : Option Nat} (h : IsS46 w0 W g f0) (hw : W.grownBy W1 row) (hne : some g ≠ row) : IsS46 w0 W1 g f0 := by
  obtain ⟨A0, c0, hb, hg, hr0⟩ := h
  exact ⟨A0, c0, blk_grown hb hw hne, hg, hr0⟩
theorem IsS46.below {w0 W : World} {g : Nat} {f0 : List (S50)} {W1 : World} (h : IsS46 w0 W g f0) (hw : Below W.heap.size W W1) : IsS46 w0 W1 g f0 := h.grown (grown_of_below hw none) (by simp)
theorem IsS46.alloc {w0 W : World} {g : Nat} {f0 : List (S50)} (h : IsS46 w0 W g f0) (o : Obj) : IsS46 w0 (W.alloc o) g f0 := h.below (below_alloc (Below.refl _ _) o)
theorem IsS46.drewN {w0 W : World} {g : Nat} {f0 : List (S50)} (h : IsS46 w0 W g f0) (m : Nat) : IsS46 w0 (W.drewN m) g f0 := h
theorem IsS46.drew {w0 W : World} {g : Nat} {f0 : List (S50)} (h : IsS46 w0 W g f0) : IsS46 w0 W.drew g f0 := h
theorem IsS46.at_ {w0 W : World} {g : Nat} {f0 : List (S50)} {w' : World} {m : Nat} (hq : W.drewN m = w') (h : IsS46 w0 W g f0) : IsS46 w0 w' g f0 := by subst hq; exact IsS46.drewN h m
theorem IsS46.lt {w0 W : World} {g : Nat} {f0 : List (S50)} (h : IsS46 w0 W g f0) : g < W.heap.size := by
  obtain ⟨A0, c0, hb, hg, hr0⟩ := h
  exact blk_lt hb
theorem IsS46.new (w0 W : World) (A0 : Option Addr) (c0 : Nat) (f0 : List (S50)) (hB : Below w0.heap.size w0 W) (hr0 : Kd.C k50 w0 A0 f0.length f0) : IsS46 w0 (W.alloc (.cells #[.slice A0 f0.length c0] 46)) W.heap.size f0 := ⟨A0, c0, by simpa using heap_alloc_new W _, hB.size, hr0⟩

-- NOT PRINTED: function 25 (heap_up)

-- NOT PRINTED: function 19 (heap_Push)

-- NOT PRINTED: function 11 (order_Queue_Push)

-- NOT PRINTED: function 15 (order_Queue_Len)

-- NOT PRINTED: function 26 (heap_down)

-- NOT PRINTED: function 20 (heap_Pop)

-- NOT PRINTED: function 13 (order_Queue_Pop)

/-! ### greenwoodref01_Same: function 16 -/
def greenwoodref01_Same.l0 : Nat → List Int → List Int → Int → Option (Bool)
  | 0, _, _, _ => none
  | k + 1, x0, x1, x5 => if x5 < (x0.length : Int) then (if 0 ≤ x5 then (if x5 < (x1.length : Int) then (if (rd x0 x5) = (rd x1 x5) then (greenwoodref01_Same.l0 k x0 x1 (wrap64 (x5 + 1))) else (some false)) else (none)) else (none)) else (some true)
def greenwoodref01_Same.f (k : Nat) (l0 : List Int) (l1 : List Int) : Option (Bool) := if (l0.length : Int) = (l1.length : Int) then (greenwoodref01_Same.l0 k l0 l1 0) else (some false)
set_option maxHeartbeats 8000000 in
set_option maxRecDepth 100000 in
theorem greenwoodref01_Same.calls (k : Nat) (A0 : Option Addr) (c0 : Nat) (l0 : List Int) (A1 : Option Addr) (c1 : Nat) (l1 : List Int) (r : Bool) (w : World) (hr0 : Kd.C (Kd.int .i64) w A0 l0.length l0) (hc0 : l0.length ≤ c0) (hr1 : Kd.C (Kd.int .i64) w A1 l1.length l1) (hc1 : l1.length ≤ c1) (h : greenwoodref01_Same.f k l0 l1 = some r) :
    Calls Try.prog 16 #[.slice A0 l0.length c0, .slice A1 l1.length c1] w fun e w' => e = .returned (.bool r) ∧ Drawn0 w w' := by
  have HR0 := Aside0.mk hr0
  have HC0 := Aside0.mk hc0
  clear hr0 hc0
  have HR1 := Aside0.mk hr1
  have HC1 := Aside0.mk hc1
  clear hr1 hc1
  have H : (if (l0.length : Int) = (l1.length : Int) then (greenwoodref01_Same.l0 k l0 l1 0) else (some false)) = some r := h
  clear h
  by_cases c3 : (l0.length : Int) = (l1.length : Int)
  · rw [if_pos c3] at H
    have c3b0 : ((l0.length : Int) == (l1.length : Int)) = true := beq_iff_eq.mpr c3
    have c3b1 : ((l0.length : Int) != (l1.length : Int)) = false := bne_eq_false_iff_eq.mpr c3
    have c3b2 : (l0.length == l1.length) = true := by first | simpa using c3 | (simp at c3 ⊢; omega)
    clear c3
    have H' := Aside0.mk H
    clear H
    go_enter Try.func16, Try.ntmps16
    go_wp2
    repeat (go_quiet (fail); try go_wp2)
    go_loopg [5] k (fun kq v5 w' => ∃ (x5_1 : Int), v5 = .int .i64 x5_1 ∧ Aside0 (greenwoodref01_Same.l0 kq l0 l1 x5_1 = some r) ∧ Aside0 (kq ≤ k) ∧ Drawn0 w w')
    case atStart => exact ⟨(0), (by first | rfl | (simp; done) | (simp [*]; done)), H', ⟨Nat.le_refl _⟩, by repeat (first | exact Drawn0.refl _ | apply Drawn0.step)⟩
    case round =>
      clear H'
      try clear c1
      try clear p2
      try clear c3
      try clear c3b0
      try clear c3b1
      try clear c3b2
      obtain ⟨x5_1, rfl, HA, HK1, ⟨m1, rfl⟩⟩ := hrel
      cases gk with
      | zero => exact absurd HA.out (by simp [greenwoodref01_Same.l0])
      | succ k1 =>
        have H := HA.out
        clear HA
        simp only [greenwoodref01_Same.l0] at H
        by_cases c4 : x5_1 < (l0.length : Int)
        · rw [if_pos c4] at H
          have c4b0 : decide (x5_1 < (l0.length : Int)) = true := decide_eq_true c4
          clear c4
          by_cases c5 : 0 ≤ x5_1
          · rw [if_pos c5] at H
            have c5b0 : decide (0 ≤ x5_1) = true := decide_eq_true c5
            clear c5
            by_cases c6 : x5_1 < (l1.length : Int)
            · rw [if_pos c6] at H
              have c6b0 : decide (x5_1 < (l1.length : Int)) = true := decide_eq_true c6
              clear c6
              by_cases c7 : (rd l0 x5_1) = (rd l1 x5_1)
              · rw [if_pos c7] at H
                have c7b0 : ((rd l0 x5_1) == (rd l1 x5_1)) = true := beq_iff_eq.mpr c7
                have c7b1 : ((rd l0 x5_1) != (rd l1 x5_1)) = false := bne_eq_false_iff_eq.mpr c7
                clear c7
                have H' := Aside0.mk H
                clear H
                have p102 : 0 ≤ (x5_1 : Int) := of_decide_eq_true (by first | (with_reducible assumption) | assumption)
                have q102 : x5_1 < (l0.length : Int) := of_decide_eq_true (by first | (with_reducible assumption) | assumption)
                obtain ⟨ad102, e102, hx102_0⟩ := Kd.at_int HR0.out x5_1 p102 q102
                cases e102
                replace p102 := eq_true p102
                replace q102 := eq_true q102
                have p103 : 0 ≤ (x5_1 : Int) := of_decide_eq_true (by first | (with_reducible assumption) | assumption)
                have q103 : x5_1 < (l1.length : Int) := of_decide_eq_true (by first | (with_reducible assumption) | assumption)
                obtain ⟨ad103, e103, hx103_0⟩ := Kd.at_int HR1.out x5_1 p103 q103
                cases e103
                replace p103 := eq_true p103
                replace q103 := eq_true q103
                go_wp2
                repeat (go_quiet (fail); try go_wp2)
                go_roundg k1
                case measure => have := HK1.out; omega
                case rel => exact ⟨(wrap64 (x5_1 + 1)), (by first | rfl | (simp; done) | (simp [*]; done)), H', ⟨by have := HK1.out; omega⟩, by repeat (first | exact Drawn0.refl _ | apply Drawn0.step)⟩
              · rw [if_neg c7] at H
                have c7b0 : ((rd l0 x5_1) == (rd l1 x5_1)) = false := beq_eq_false_iff_ne.mpr c7
                have c7b1 : ((rd l0 x5_1) != (rd l1 x5_1)) = true := bne_iff_ne.mpr c7
                obtain rfl := Option.some.inj H
                have p102 : 0 ≤ (x5_1 : Int) := of_decide_eq_true (by first | (with_reducible assumption) | assumption)
                have q102 : x5_1 < (l0.length : Int) := of_decide_eq_true (by first | (with_reducible assumption) | assumption)
                obtain ⟨ad102, e102, hx102_0⟩ := Kd.at_int HR0.out x5_1 p102 q102
                cases e102
                replace p102 := eq_true p102
                replace q102 := eq_true q102
                have p103 : 0 ≤ (x5_1 : Int) := of_decide_eq_true (by first | (with_reducible assumption) | assumption)
                have q103 : x5_1 < (l1.length : Int) := of_decide_eq_true (by first | (with_reducible assumption) | assumption)
                obtain ⟨ad103, e103, hx103_0⟩ := Kd.at_int HR1.out x5_1 p103 q103
                cases e103
                replace p103 := eq_true p103
                replace q103 := eq_true q103
                go_wp2
                repeat (go_quiet (fail); try go_wp2)
                go_ret
                exact ⟨by first | rfl | (simp; done) | (simp [*]; done), by repeat (first | exact Drawn0.refl _ | apply Drawn0.step)⟩
            · rw [if_neg c6] at H
              exact absurd H (by simp)
          · rw [if_neg c5] at H
            exact absurd H (by simp)
        · rw [if_neg c4] at H
          have c4b0 : decide (x5_1 < (l0.length : Int)) = false := decide_eq_false c4
          clear c4
          obtain rfl := Option.some.inj H
          go_wp2
          repeat (go_quiet (fail); try go_wp2)
          go_ret
          exact ⟨by first | rfl | (simp; done) | (simp [*]; done), by repeat (first | exact Drawn0.refl _ | apply Drawn0.step)⟩
  · rw [if_neg c3] at H
    have c3b0 : ((l0.length : Int) == (l1.length : Int)) = false := beq_eq_false_iff_ne.mpr c3
    have c3b1 : ((l0.length : Int) != (l1.length : Int)) = true := bne_iff_ne.mpr c3
    have c3b2 : (l0.length == l1.length) = false := by first | simpa using c3 | (simp at c3 ⊢; omega)
    obtain rfl := Option.some.inj H
    go_enter Try.func16, Try.ntmps16
    go_wp2
    repeat (go_quiet (fail); try go_wp2)
    go_ret
    exact ⟨by first | rfl | (simp; done) | (simp [*]; done), by repeat (first | exact Drawn0.refl _ | apply Drawn0.step)⟩

-- NOT PRINTED: function 28 (slices_insertionSortCmpFunc_int)

-- NOT PRINTED: function 31 (slices_swapRangeCmpFunc_int)

-- NOT PRINTED: function 30 (slices_rotateCmpFunc_int)

-- NOT PRINTED: function 29 (slices_symMergeCmpFunc_int)

-- NOT PRINTED: function 27 (slices_stableCmpFunc_int)

-- NOT PRINTED: function 23 (slices_SortStableFunc_int_int)

/-! ### order_Greatest: function 17 -/
end Go.Proofs.Ytlpjlgjhhmfnlaa.P
/- Calls whose answers are fixed: walked. -/
namespace Go.Proofs.Ytlpjlgjhhmfnlaa.P
open Go.RowKit Go.Lib Go.Proofs.YtlpjlgjhhmfnlaaW.PrintWords Go.Proofs.YtlpjlgjhhmfnlaaW.PrintLast Go.Proofs.YtlpjlgjhhmfnlaaW.PrintMore
open Hp
set_option linter.unusedVariables false
set_option linter.unusedSimpArgs false

def greenwoodlaw08_fixed.f (k : Nat) : Option Bool := some true
theorem Bag.drewN {av : Nat → Prop} {w : World} {base B : Nat} {l : List PR} (h : Bag av w base B l) (q : Nat) : Bag av (w.drewN q) base B l := h.below (pw_below_drewN (Below.refl _ _) q)
theorem fx_pop1 {w : World} {base B : Nat} (h : Bag (fun _ => False) w base B [(5, 2), (5, 1), (-3, 9)]) : Calls Try.prog 13 #[.pointer (some ⟨B, 0, none⟩)] w fun e w' => e = .returned (.tuple #[.int .i64 (-3), .int .i64 9, .bool true]) ∧ Bag (fun _ => False) w' base B [(5, 2), (5, 1)] ∧ Stays (fun _ => False) base w w' := by
  have h1 := qpop_c h (by decide) (by decide)
  have e1 : mn [((5 : Int), (2 : Int)), (5, 1), (-3, 9)] = (-3, 9) := by decide
  have e2 : [((5 : Int), (2 : Int)), (5, 1), (-3, 9)].erase (-3, 9) = [(5, 2), (5, 1)] := by decide
  rw [e1, e2] at h1
  exact h1
theorem fx_pop2 {w : World} {base B : Nat} (h : Bag (fun _ => False) w base B [(5, 2), (5, 1)]) : Calls Try.prog 13 #[.pointer (some ⟨B, 0, none⟩)] w fun e w' => e = .returned (.tuple #[.int .i64 5, .int .i64 1, .bool true]) ∧ Bag (fun _ => False) w' base B [(5, 2)] ∧ Stays (fun _ => False) base w w' := by
  have h1 := qpop_c h (by decide) (by decide)
  have e1 : mn [((5 : Int), (2 : Int)), (5, 1)] = (5, 1) := by decide
  have e2 : [((5 : Int), (2 : Int)), (5, 1)].erase (5, 1) = [(5, 2)] := by decide
  rw [e1, e2] at h1
  exact h1
theorem fx_push {w : World} {base B : Nat} {l : List PR} (h : Bag (fun _ => False) w base B l) (hl : l.length ≤ 1000) (a b : Int) (l' : List PR) (e : l ++ [(a, b)] = l') : Calls Try.prog 11 #[.pointer (some ⟨B, 0, none⟩), .int .i64 a, .int .i64 b] w fun e w' => e = .returned (.tuple #[]) ∧ Bag (fun _ => False) w' base B l' ∧ Stays (fun _ => False) base w w' := by
  subst e
  exact qpush_c h hl a b
theorem lit_R (W : World) (base : Nat) (xs : List Int) (hb : base ≤ W.heap.size) (hm : xs.length ≤ 9223372036854775807) : (Kd.int .i64).R 3 (W.alloc (.cells (nums .i64 xs).toArray 3)) base (fun _ => True) (.slice (some ⟨W.heap.size, 0, none⟩) xs.length xs.length) xs :=
  Kd.R_of_own (own_lit W base 3 .i64 xs hb hm) (fun _ _ => trivial)
theorem lit_C (W : World) (xs : List Int) (hm : xs.length ≤ 9223372036854775807) : (Kd.int .i64).C (W.alloc (.cells (nums .i64 xs).toArray 3)) (some ⟨W.heap.size, 0, none⟩) xs.length xs :=
  (Kd.R_reads' (lit_R W 0 xs (Nat.zero_le _) hm)).2.2
set_option maxHeartbeats 400000 in
set_option maxRecDepth 100000 in
theorem greenwoodlaw08_fixed.calls (k : Nat) (r : Bool) (w : World) (h : greenwoodlaw08_fixed.f k = some r) :
    Calls Try.prog 9 #[] w fun e w' => e = .returned (.bool r) ∧ Below w.heap.size w w' := by
  obtain rfl : true = r := Option.some.inj h
  obtain ⟨B, hB⟩ : ∃ B, B = w.heap.size := ⟨_, rfl⟩
  have hnew := new_c (av := fun _ => False) (w := w) (base := w.heap.size) (Nat.le_refl _) (fun _ h => h.elim)
  rw [← hB] at hnew
  have HNEW := Aside0.mk hnew
  have HW := Aside0.mk hB
  clear hnew hB h
  go_enter Try.func9, Try.ntmps9
  go_wp2_with (first
    | (go_at_call 10; refine HNEW.out.mono ?_; rintro e w0 ⟨rfl, hb, hs⟩; have H0 := Aside0.mk (And.intro hb hs); clear hb hs)
    | (go_at_call 16; (have z := H10.out); clear z; refine (greenwoodref01_Same.calls 10 A c [1, 0, 2] (some ⟨w10.heap.size, 0, none⟩) 3 [1, 0, 2] true _ (Kd.C_alloc (Kd.R_reads' H10.out.1).2.2 _) (Kd.R_reads' H10.out.1).2.1 (lit_C w10 [1, 0, 2] (by decide)) (by decide) (by decide +kernel)).mono ?_; rintro e w11 ⟨rfl, hd⟩; have H11 := Aside0.mk hd; clear hd)
    | (go_at_call 17; (have z := H9.out); clear z; refine (order_Greatest.calls (some ⟨w9.heap.size, 0, none⟩) 3 [5, 9, 5] [1, 0, 2] _ (lit_C w9 [5, 9, 5] (by decide)) (by decide) (by decide)).mono ?_; rintro e w10 ⟨v, rfl, hR, hb⟩; obtain ⟨A, c, rfl⟩ := Kd.R_slice hR; have H10 := Aside0.mk (And.intro hR (And.intro H9.out.2 hb)); clear hR hb)
    | (go_at_call 15; (have z := H8.out); clear z; refine (qlen0_c).mono ?_; rintro e w9 ⟨rfl, q9, hw⟩; have H9 := Aside0.mk (And.intro (show Bag (fun _ => False) w9 B B [(5, 2)] by rw [hw]; exact H8.out.1.drewN q9) (show Stays (fun _ => False) B w w9 by rw [hw]; exact H8.out.2.trans (Stays.drewN _ _))); clear hw)
    | (go_at_call 15; (have z := H7.out); clear z; refine (qlen_c H7.out.1).mono ?_; rintro e w8 ⟨rfl, q8, hw⟩; have H8 := Aside0.mk (And.intro (show Bag (fun _ => False) w8 B B [(5, 2)] by rw [hw]; exact H7.out.1.drewN q8) (show Stays (fun _ => False) B w w8 by rw [hw]; exact H7.out.2.trans (Stays.drewN _ _))); clear hw)
    | (go_at_call 13; (have z := H6.out); clear z; refine (qpopn_c).mono ?_; rintro e w7 ⟨rfl, q7, hw⟩; have H7 := Aside0.mk (And.intro (show Bag (fun _ => False) w7 B B [(5, 2)] by rw [hw]; exact H6.out.1.drewN q7) (show Stays (fun _ => False) B w w7 by rw [hw]; exact H6.out.2.trans (Stays.drewN _ _))); clear hw)
    | (go_at_call 11; (have z := H5.out); clear z; refine (qpush0_c _ _).mono ?_; rintro e w6 ⟨rfl, q6, hw⟩; have H6 := Aside0.mk (And.intro (show Bag (fun _ => False) w6 B B [(5, 2)] by rw [hw]; exact H5.out.1.drewN q6) (show Stays (fun _ => False) B w w6 by rw [hw]; exact H5.out.2.trans (Stays.drewN _ _))); clear hw)
    | (go_at_call 13; (have z := H4.out); clear z; refine (fx_pop2 H4.out.1).mono ?_; rintro e w5 ⟨rfl, hb, hs⟩; have H5 := Aside0.mk (And.intro hb (Stays.trans H4.out.2 hs)); clear hb hs)
    | (go_at_call 13; (have z := H3.out); clear z; refine (fx_pop1 H3.out.1).mono ?_; rintro e w4 ⟨rfl, hb, hs⟩; have H4 := Aside0.mk (And.intro hb (Stays.trans H3.out.2 hs)); clear hb hs)
    | (go_at_call 11; (have z := H2.out); clear z; refine (fx_push H2.out.1 (by decide) (-3) 9 [(5, 2), (5, 1), (-3, 9)] rfl).mono ?_; rintro e w3 ⟨rfl, hb, hs⟩; have H3 := Aside0.mk (And.intro hb (Stays.trans H2.out.2 hs)); clear hb hs)
    | (go_at_call 11; (have z := H1.out); clear z; refine (fx_push H1.out.1 (by decide) 5 1 [(5, 2), (5, 1)] rfl).mono ?_; rintro e w2 ⟨rfl, hb, hs⟩; have H2 := Aside0.mk (And.intro hb (Stays.trans H1.out.2 hs)); clear hb hs)
    | (go_at_call 11; (have z := H0.out); clear z; refine (fx_push H0.out.1 (by decide) 5 2 [(5, 2)] rfl).mono ?_; rintro e w1 ⟨rfl, hb, hs⟩; have H1 := Aside0.mk (And.intro hb (Stays.trans H0.out.2 hs)); clear hb hs)
    )
  go_ret
  refine ⟨rfl, ?_⟩
  have hz : B ≤ w9.heap.size := by rw [HW.out]; exact H9.out.2.2.1
  have b1 := H9.out.2.1.alloc hz (.cells (nums .i64 [5, 9, 5]).toArray 3)
  have z1 : B ≤ (w9.alloc (.cells (nums .i64 [5, 9, 5]).toArray 3)).heap.size := Nat.le_trans hz (by simp)
  have b2 := b1.trans (H10.out.2.2.mono z1)
  have z2 : B ≤ w10.heap.size := Nat.le_trans z1 H10.out.2.2.size
  have b3 := b2.alloc z2 (.cells (nums .i64 [1, 0, 2]).toArray 3)
  have z3 : B ≤ (w10.alloc (.cells (nums .i64 [1, 0, 2]).toArray 3)).heap.size := Nat.le_trans z2 (by simp)
  have b4 := b3.trans (H11.out.below.mono z3)
  rw [← HW.out]
  first | exact b4 | exact b4.drew
end Go.Proofs.Ytlpjlgjhhmfnlaa.P
/- Values of printed functions: general words, and Same. (Cut out of ElimV for the other layers.) -/
namespace Go.Proofs.Ytlpjlgjhhmfnlaa.P
open Go.RowKit Go.Proofs.YtlpjlgjhhmfnlaaW.PrintWords Go.Proofs.YtlpjlgjhhmfnlaaW.PrintLast Go.Proofs.YtlpjlgjhhmfnlaaW.PrintMore
set_option linter.unusedVariables false
set_option linter.unusedSimpArgs false

theorem Ev.val {α : Type} {r t : α} (h : r = t) : Ev (fun _ => some r) t := by subst h; exact Ev.now r
theorem w1 {i : Nat} {n : Nat} (h : i < n) (hn : n ≤ 1000000) : wrap64 ((i : Int) + 1) = ((i + 1 : Nat) : Int) := by unfold wrap64; omega

end Go.Proofs.Ytlpjlgjhhmfnlaa.P
/- Layer 8, OrderSorts: walked over a bag of pairs. -/
namespace Go.Proofs.Ytlpjlgjhhmfnlaa.P
open Go.RowKit Go.Lib Go.Proofs.YtlpjlgjhhmfnlaaW.PrintWords Go.Proofs.YtlpjlgjhhmfnlaaW.PrintLast Go.Proofs.YtlpjlgjhhmfnlaaW.PrintMore
open Hp
set_option linter.unusedVariables false
set_option linter.unusedSimpArgs false

theorem fix8 (w : World) : Calls Try.prog 9 #[] w fun e w' => e = .returned (.bool true) ∧ Below w.heap.size w w' := greenwoodlaw08_fixed.calls 0 true w rfl
/-- the pairs of the first i numbers -/
def prs (l : List Int) (i : Nat) : List PR := (List.range i).map (fun j : Nat => (rd l (j : Int), (j : Int)))
theorem prs_len (l : List Int) (i : Nat) : (prs l i).length = i := by simp [prs]
theorem prs_succ (l : List Int) (i : Nat) : prs l (i + 1) = prs l i ++ [(rd l (i : Int), (i : Int))] := by simp [prs, List.range_succ]

theorem prs_mem {l : List Int} {i : Nat} {p : PR} (h : p ∈ prs l i) : ∃ j : Nat, j < i ∧ p = (rd l (j : Int), (j : Int)) := by
  simp only [prs, List.mem_map, List.mem_range] at h
  obtain ⟨j, hj, e⟩ := h
  exact ⟨j, hj, e.symm⟩
theorem prs_nodup (l : List Int) (i : Nat) : (prs l i).Nodup := by
  induction i with
  | zero => simp [prs]
  | succ i ih =>
    rw [prs_succ, List.nodup_append]
    refine ⟨ih, by simp, fun a ha b hb => ?_⟩
    obtain ⟨j, hj, rfl⟩ := prs_mem ha
    rw [List.mem_singleton] at hb
    subst hb
    intro e
    have := (Prod.ext_iff.1 e).2
    simp at this
    omega
/-- what is left in the queue at round i, and what has been seen -/
structure SortI (ks : List Int) (i : Nat) (la at_ : Int) (l : List PR) (s : List Bool) : Prop where
  len : l.length + i = ks.length
  nd : l.Nodup
  mem : ∀ p ∈ l, 0 ≤ p.2 ∧ p.2 < ks.length ∧ p.1 = rd ks p.2 ∧ rdOf false s p.2 = false
  sl : s.length = ks.length
  low : 0 < i → ∀ p ∈ l, le (la, at_) p
theorem SortI.start (ks : List Int) (la at_ : Int) : SortI ks 0 la at_ (prs ks ks.length) (List.replicate ks.length false) := by
  refine ⟨by rw [prs_len]; rfl, prs_nodup _ _, fun p hp => ?_, by simp, fun h => absurd h (Nat.lt_irrefl _)⟩
  obtain ⟨j, hj, rfl⟩ := prs_mem hp
  exact ⟨by simp, by simpa using hj, rfl, by simp [rdOf, List.getD_eq_getElem?_getD, List.getElem?_replicate, hj]⟩
theorem rdOf_set {s : List Bool} {x y : Int} (hx : 0 ≤ x) (hy : 0 ≤ y) (hne : x ≠ y) : rdOf false (s.set x.toNat true) y = rdOf false s y := by
  unfold rdOf
  rw [List.getD_eq_getElem?_getD, List.getD_eq_getElem?_getD, List.getElem?_set, if_neg (by omega)]
theorem SortI.next {ks : List Int} {i : Nat} {la at_ : Int} {l : List PR} {s : List Bool} (h : SortI ks i la at_ l s) (hlt : i < ks.length) :
    ∃ k x : Int, mn l = (k, x) ∧ l ≠ [] ∧ k = rd ks x ∧ 0 ≤ x ∧ x < ks.length ∧ rdOf false s x = false ∧ (0 < i → ¬ k < la ∧ ¬ (k = la ∧ x < at_)) ∧ SortI ks (i + 1) k x (l.erase (mn l)) (s.set x.toNat true) := by
  have hne : l ≠ [] := by
    intro e
    have := h.len
    rw [e] at this
    simp at this
    omega
  have hm := mn_mem hne
  obtain ⟨h0, h1, h2, h3⟩ := h.mem _ hm
  refine ⟨(mn l).1, (mn l).2, rfl, hne, h2, h0, h1, h3, fun hi => ?_, ?_, h.nd.erase _, fun p hp => ?_, by simp [h.sl], fun _ p hp => ?_⟩
  · have := h.low hi _ hm
    rw [le_iff] at this
    omega
  · have := List.length_erase_of_mem hm
    have := h.len
    have : 0 < l.length := List.length_pos_iff.mpr hne
    omega
  · obtain ⟨q1, q2, q3, q4⟩ := h.mem p (List.mem_of_mem_erase hp)
    refine ⟨q1, q2, q3, ?_⟩
    rw [rdOf_set h0 q1 ?_]
    · exact q4
    intro e
    have e2 : p = mn l := Prod.ext (by rw [q3, h2, e]) e.symm
    rw [e2] at hp
    exact absurd hp (List.Nodup.not_mem_erase h.nd)
  · exact mn_le l p (List.mem_of_mem_erase hp)
theorem Bag.widen {av : Nat → Prop} {w w1 : World} {base B : Nat} {l : List PR} (h : Bag (fun _ => False) w base B l) (hb : Below w.heap.size w w1) (hav : ∀ k, av k → w.heap.size ≤ k ∧ k < w1.heap.size) : Bag av w1 base B l := by
  obtain ⟨v, hs, hP, h2, h3⟩ := h
  refine ⟨v, hs, ⟨(hb.block B hP.bs).trans hP.box, hP.bb, fun ha => absurd hP.bs (Nat.not_lt.2 (hav B ha).1), ?_, fun k hk => (hav k hk).2⟩, h2, h3⟩
  exact Kd.R_mono (Kd.R_below (Kd.R_bound hP.row) hb) (fun k hk => ⟨hk.1.1, fun ha => absurd hk.2.2.1 (Nat.not_lt.2 (hav k ha).1)⟩)
theorem Bag.grown {av : Nat → Prop} {w w1 : World} {base B : Nat} {l : List PR} (h : Bag av w base B l) {row : Option Nat} (hg : w.grownBy w1 row) (hr : ∀ k, row = some k → av k) : Bag av w1 base B l := by
  obtain ⟨v, hs, hP, h2, h3⟩ := h
  refine ⟨v, hs, ⟨(hg.block B hP.bs (fun e => hP.nav (hr B e.symm))).trans hP.box, hP.bb, hP.nav, ?_, fun k hk => Nat.lt_of_lt_of_le (hP.lt k hk) hg.size⟩, h2, h3⟩
  exact Kd.R_grown hP.row hg (fun k hk e => hk.2 (hr k e.symm))
end Go.Proofs.Ytlpjlgjhhmfnlaa.P
/- The reference queue of layer 8: a row of pairs in a box. -/
namespace Go.Proofs.Ytlpjlgjhhmfnlaa.P
open Go.RowKit Go.Lib Go.Proofs.YtlpjlgjhhmfnlaaW.PrintWords Go.Proofs.YtlpjlgjhhmfnlaaW.PrintLast Go.Proofs.YtlpjlgjhhmfnlaaW.PrintMore
open Hp
set_option linter.unusedVariables false
set_option linter.unusedSimpArgs false

/-- a reference queue at G holds l; v: its row -/
structure RQ (w : World) (base G : Nat) (v : Value) (l : List PR) : Prop where
  box : w.heap[G]? = some (.cells #[v] 29 (0, 0))
  bg : base ≤ G
  row : pairKd.R 51 w base (fun k => k ≠ G) v l
theorem RQ.cell {w : World} {base G : Nat} {v : Value} {l : List PR} (h : RQ w base G v l) : w.cell? ⟨G, 0, none⟩ = some v ∧ w.frozen? ⟨G, 0, none⟩ = false := by
  have hb := h.box
  constructor
  · simp [World.cell?, hb]
  · simp [World.frozen?, hb]
theorem RQ.gs {w : World} {base G : Nat} {v : Value} {l : List PR} (h : RQ w base G v l) : G < w.heap.size := World.block_lt_of_cell? w _ h.cell.1
def rbl (v : Value) (G : Nat) (k : Nat) : Prop := k = G ∨ v.ownBlock = some k
/-- its blocks stay -/
theorem RQ.stays {w w' : World} {base G : Nat} {v : Value} {l : List PR} (h : RQ w base G v l) (hs : ∀ k, rbl v G k → w'.heap[k]? = w.heap[k]?) : RQ w' base G v l :=
  ⟨(hs G (.inl rfl)).trans h.box, h.bg, Kd.R_mono (Kd.R_step (Kd.R_tight rfl h.row) (fun k ho hk => hs k (.inr ho.symm))) (fun k hk => h.row.1 k hk.symm)⟩
/-- the bag goes round other blocks -/
theorem bag_av {av av' : Nat → Prop} {w w' : World} {base B G : Nat} {l : List PR} (h : Bag av w base B l) (hG : av G) (hs : ∀ k, k < w.heap.size → k ≠ G → w'.heap[k]? = w.heap[k]?) (hav : ∀ k, av' k → k = G ∨ w.heap.size ≤ k) (hlt : ∀ k, av' k → k < w'.heap.size) : Bag av' w' base B l := by
  obtain ⟨v, hs2, h1, h2, h3⟩ := h
  have hBG : B ≠ G := fun e => h1.nav (e ▸ hG)
  refine ⟨v, hs2, ⟨(hs B h1.bs hBG).trans h1.box, h1.bb, fun ha => ?_, ?_, hlt⟩, h2, h3⟩
  · rcases hav B ha with e | e
    · exact hBG e
    · have := h1.bs; omega
  · refine Kd.R_mono (Kd.R_step (Kd.R_bound h1.row) (fun k ho hk => hs k hk (fun e => ho.1.2 (e ▸ hG)))) (fun k hk => ⟨hk.1.1, fun ha => ?_⟩)
    rcases hav k ha with e | e
    · exact hk.1.2 (e ▸ hG)
    · have := hk.2.2.1; omega
theorem infoP2 : (Try.prog.info? 51).map (fun i => (i.zero, i.size, i.bytes)) = some (some (.agg #[.int .i64 0, .int .i64 0]), 2, 16) := by kernel_rfl
theorem RQ.at {w w' : World} {base G : Nat} {v : Value} {l : List PR} (h : RQ w base G v l) (hb : Below w.heap.size w w') : w'.cell? ⟨G, 0, none⟩ = some v ∧ w'.frozen? ⟨G, 0, none⟩ = false := (RQ.cell ⟨(hb.block G h.gs).trans h.box, h.bg, Kd.R_below h.row hb⟩)
set_option maxHeartbeats 4000000 in
set_option maxRecDepth 100000 in
theorem rpush_c {w : World} {base G : Nat} {v : Value} {l : List PR} (h : RQ w base G v l) (hb0 : base ≤ w.heap.size) (hl : l.length ≤ 1000) (a b : Int) :
    Calls Try.prog 12 #[.pointer (some ⟨G, 0, none⟩), .int .i64 a, .int .i64 b] w fun e w' => e = .returned (.tuple #[]) ∧ ∃ v', RQ w' base G v' (l ++ [(a, b)]) ∧ w.grownBy w' (some G) ∧ (∀ k, v'.ownBlock = some k → w.heap.size ≤ k) := by
  obtain ⟨A, c, rfl⟩ := Kd.R_slice h.row
  have HH := Aside0.mk h
  have HL := Aside0.mk hl
  have hGs := h.gs
  obtain ⟨c0, f0⟩ := h.cell
  have hlit := World.ownsRow_lit (base := w.heap.size) (e := 51) (size := 2) w #[] 0 (Nat.le_refl _) (by simp [maxLen]) (by simp)
  have hlit2 : (w.alloc (.cells #[] 51)).ownsRow w.heap.size 51 2 (.slice (some ⟨w.heap.size, 0, none⟩) 0 0) 0 [] := by simpa using hlit
  have H1 : Aside0 (pairKd.R 51 (w.alloc (.cells #[] 51)) w.heap.size (fun k => k ≠ G) (.slice (some ⟨w.heap.size, 0, none⟩) 0 0) [] ∧ Below w.heap.size w (w.alloc (.cells #[] 51))) := ⟨⟨fun k hk => by obtain rfl := Option.some.inj hk; exact Nat.ne_of_gt hGs, [], hlit2, Reps.none _ _⟩, (Below.refl _ _).alloc (Nat.le_refl _) _⟩
  clear h hl hlit hlit2
  go_enter Try.func12, Try.ntmps12
  go_wp2_with (first
      | ((with_reducible refine gate_dst (N := 17) rfl ?_); refine Kd.R_append pairKd w.heap.size rfl (.tmp 12) (.tmp 16) 27 51 (.agg #[.int .i64 0, .int .i64 0]) 16 rfl Try.underlying27 infoP2 rfl (by decide) (by omega) _ l (a, b) [.int .i64 a, .int .i64 b] (fun k => k ≠ G) (fun _ => False) rfl rfl ?aP (fun _ hk => hk.elim) ?aF ?aO H2.out.2 ?aS ?aL ?_; (case aP => exact ⟨[.int .i64 a], [.int .i64 b], rfl, rfl, rfl⟩); (case aF => exact (fun k hk => by have := H2.out.2.size; omega)); (case aO => exact H2.out.1); (case aS => exact H2.out.2.size); (case aL => have := HL.out; omega); intro v3 w3 ho hb hg hat; (obtain ⟨A3, c3', hv⟩ := Kd.R_slice ho); subst hv; (obtain ⟨c3, f3⟩ := RQ.at HH.out hb); (have H3 := Aside0.mk (And.intro ho hb)); clear ho hb hg hat)
      | ((with_reducible refine gate_dst (N := 12) rfl ?_); refine Kd.R_append_rows pairKd w.heap.size rfl (.tmp 7) (.tmp 11) 27 51 (.agg #[.int .i64 0, .int .i64 0]) 16 rfl Try.underlying27 infoP2 rfl (by decide) (by decide) _ [] l A l.length c (fun k => k ≠ G) (fun _ => False) rfl rfl H1.out.1 (Kd.C_below (Kd.R_reads' HH.out.row).2.2 H1.out.2) (fun x cs h => h) (fun k h => h.elim) (fun k hk => by have := H1.out.2.size; omega) H1.out.2 (Below.size H1.out.2) (by have := HL.out; simp; omega) ?_; intro v2 w2 ho hb hg hn; rw [List.nil_append] at ho; (have H2 := Aside0.mk (And.intro ho hb)); clear ho hb hg hn))
  first | go_end0 | ((try simp only [Exit.inBlock, Exit.then]); refine bodyPost_ret (results_none rfl _ _ _) rfl ?_)
  obtain ⟨ho, hb⟩ := H3.out
  refine ⟨rfl, _, ⟨?_, HH.out.bg, Kd.R_far (Kd.R_lower ho hb0) (fun k hk => hk) _⟩, ?_, fun k hk => Kd.R_base ho k hk⟩
  · have hbx := (hb.block G hGs).trans HH.out.box
    simp [World.setCell, Array.getElem?_modify, hbx]
  · exact ⟨hb.os, hb.tape, hb.output, by simpa [World.setCell] using hb.size, fun k hk hne => (Below.heap_setCell _ _ _ _ (fun e => hne (by rw [e]))).trans (hb.block k hk)⟩
end Go.Proofs.Ytlpjlgjhhmfnlaa.P
/- The reference queue of layer 8: less. -/
namespace Go.Proofs.Ytlpjlgjhhmfnlaa.P
open Go.RowKit Go.Lib Go.Proofs.YtlpjlgjhhmfnlaaW.PrintWords Go.Proofs.YtlpjlgjhhmfnlaaW.PrintLast Go.Proofs.YtlpjlgjhhmfnlaaW.PrintMore
open Hp
set_option linter.unusedVariables false
set_option linter.unusedSimpArgs false

set_option maxHeartbeats 4000000 in
set_option maxRecDepth 100000 in
theorem rless_c (w : World) (x y : PR) :
    Calls Try.prog 21 #[.agg #[.int .i64 x.1, .int .i64 x.2], .agg #[.int .i64 y.1, .int .i64 y.2]] w fun e w' => e = .returned (.bool (ls x y)) ∧ Below w.heap.size w w' := by
  obtain ⟨a, b⟩ := x
  obtain ⟨c, d⟩ := y
  have HB := Aside0.mk (Below.refl w.heap.size w)
  have hw : (decide (a < c) = true ∧ ls (a, b) (c, d) = true) ∨ (decide (a < c) = false ∧ (a == c) = false ∧ ls (a, b) (c, d) = false) ∨ (decide (a < c) = false ∧ (a == c) = true ∧ ls (a, b) (c, d) = decide (b < d)) := by
    by_cases h1 : a < c
    · exact .inl ⟨decide_eq_true h1, by rw [ls_iff]; exact .inl h1⟩
    by_cases h2 : a = c
    · exact .inr (.inr ⟨decide_eq_false h1, by simp [h2], by simp [ls, h2]⟩)
    · exact .inr (.inl ⟨decide_eq_false h1, by simp [h2], by simp [ls, h1, h2]⟩)
  rcases hw with ⟨h1, h2⟩ | ⟨h1, h2, h3⟩ | ⟨h1, h2, h3⟩
  all_goals
    go_enter Try.func21, Try.ntmps21
    go_wp2
    go_ret
    refine ⟨by simp [*], ?_⟩
    exact below_alloc (below_alloc HB.out _) _
end Go.Proofs.Ytlpjlgjhhmfnlaa.P
/- The reference queue of layer 8: Pop. -/
namespace Go.Proofs.Ytlpjlgjhhmfnlaa.P
open Go.RowKit Go.Lib Go.Proofs.YtlpjlgjhhmfnlaaW.PrintWords Go.Proofs.YtlpjlgjhhmfnlaaW.PrintLast Go.Proofs.YtlpjlgjhhmfnlaaW.PrintMore
open Hp
set_option linter.unusedVariables false
set_option linter.unusedSimpArgs false

theorem pairE_at {w : World} {e : TypeId} {base : Nat} {A : Option Addr} {n c : Nat} {ok : Nat → Prop} {xs : List PR} (h : pairKd.R e w base ok (.slice A n c) xs) (i : Nat) (hi : i < n) : ∃ g, A = some ⟨g, 0, none⟩ ∧ w.cell? ⟨g, i * 2, none⟩ = some (.int .i64 (gt xs i).1) ∧ w.cell? ⟨g, i * 2 + 1, none⟩ = some (.int .i64 (gt xs i).2) := by
  obtain ⟨inner, ho⟩ := Kd.R_own h
  obtain ⟨hn, _, hC⟩ := Kd.R_reads' h
  obtain ⟨g, rfl⟩ : ∃ g, A = some ⟨g, 0, none⟩ := by
    rcases ho.2 with ⟨h1, h2⟩ | ⟨g, cap, cur, h1, _⟩
    · injection h1 with h1 h3 h4
      omega
    · injection h1 with h1 h3 h4
      exact ⟨g, h1⟩
  refine ⟨g, rfl, ?_⟩
  obtain ⟨ad, c, hA, hl, hR, hc⟩ := ReadsRow.get_ hC (0, 0) (i : Int) (by omega) (by omega)
  injection hA with hA
  subst hA
  rw [Int.toNat_natCast] at hR hc
  obtain ⟨c0, c1, e, h0, h1⟩ := hR
  have h0' : c0 = [.int .i64 (gt xs i).1] := h0
  have h1' : c1 = [.int .i64 (gt xs i).2] := h1
  subst h0' h1'
  subst e
  have hz : pairKd.sz = 2 := rfl
  rw [hz] at hc
  have e0 : ∀ k : Nat, (⟨g, 0, none⟩ : Addr).add k = ⟨g, k, none⟩ := fun k => by
    unfold Addr.add; split
    · rename_i h; rw [h]
    · simp
  refine ⟨?_, ?_⟩
  · have := hc 0 _ rfl
    rw [Nat.add_zero, e0] at this
    exact this
  · have := hc 1 _ rfl
    rw [e0] at this
    exact this
set_option maxHeartbeats 4000000 in
set_option maxRecDepth 100000 in
theorem rpop_nil {w : World} {base G : Nat} {v : Value} (h : RQ w base G v []) :
    Calls Try.prog 14 #[.pointer (some ⟨G, 0, none⟩)] w fun e w' => e = .returned (.tuple #[.int .i64 0, .int .i64 0, .bool false]) ∧ Below w.heap.size w w' := by
  obtain ⟨A, c, rfl⟩ := Kd.R_slice h.row
  obtain ⟨c0, f0⟩ := h.cell
  have HB := Aside0.mk (Below.refl w.heap.size w)
  clear h
  go_enter Try.func14, Try.ntmps14
  go_wp2
  go_ret3
  exact ⟨rfl, HB.out⟩
end Go.Proofs.Ytlpjlgjhhmfnlaa.P
/- The reference queue of layer 8: Pop, of one that holds something. -/
namespace Go.Proofs.Ytlpjlgjhhmfnlaa.P
open Go.RowKit Go.Lib Go.Proofs.YtlpjlgjhhmfnlaaW.PrintWords Go.Proofs.YtlpjlgjhhmfnlaaW.PrintLast Go.Proofs.YtlpjlgjhhmfnlaaW.PrintMore
open Hp
set_option linter.unusedVariables false
set_option linter.unusedSimpArgs false

theorem below_drew1 {w0 w : World} {n : Nat} (h : Below n w0 w) : Below n w0 w.drew := h.trans ((Below.refl n w).drew)
theorem HB_step2 {w w1 w2 : World} (h : Aside0 (Below w.heap.size w w1)) (hb : Below w1.heap.size w1 w2) : Aside0 (Below w.heap.size w w2) := ⟨h.out.trans (hb.mono h.out.size)⟩
/-- the cells that the search reads, in every world further on -/
theorem rcells {w w0 : World} {base G g : Nat} {n c : Nat} {l : List PR} (h : RQ w base G (.slice (some ⟨g, 0, none⟩) n c) l) (i b : Nat) (hi : i < n) (hb : b < n) (w' : World) (hB : Aside0 (Below w.heap.size w w')) :
    w'.cell? ⟨G, 0, none⟩ = some (.slice (some ⟨g, 0, none⟩) n c) ∧ w'.frozen? ⟨G, 0, none⟩ = false ∧ w'.cell? ⟨g, i * 2, none⟩ = some (.int .i64 (gt l i).1) ∧ w'.cell? ⟨g, i * 2 + 1, none⟩ = some (.int .i64 (gt l i).2) ∧ w'.cell? ⟨g, b * 2, none⟩ = some (.int .i64 (gt l b).1) ∧ w'.cell? ⟨g, b * 2 + 1, none⟩ = some (.int .i64 (gt l b).2) := by
  obtain ⟨c1, f1⟩ := RQ.at h hB.out
  have hrow := Kd.R_below h.row hB.out
  obtain ⟨g1, hg1, x0, x1⟩ := pairE_at hrow i hi
  obtain ⟨g2, hg2, y0, y1⟩ := pairE_at hrow b hb
  have e1 : g1 = g := by injection hg1 with hg1; injection hg1 with hg1; exact hg1.symm
  have e2 : g2 = g := by injection hg2 with hg2; injection hg2 with hg2; exact hg2.symm
  rw [e1] at x0 x1
  rw [e2] at y0 y1
  exact ⟨c1, f1, x0, x1, y0, y1⟩

theorem alloc_new (w : World) (o : Obj) : (w.alloc o).heap[w.heap.size]? = some o := by
  show (w.heap.push o)[w.heap.size]? = some o
  simp
theorem erase_take_eq (l : List PR) (k : Nat) (h : k < l.length) : (l.take (k + 1)).eraseIdx k = (l.take k).eraseIdx k := by
  rw [List.eraseIdx_eq_take_drop_succ, List.eraseIdx_of_length_le (by rw [List.length_take]; omega), List.take_take, List.drop_eq_nil_of_le (by rw [List.length_take]; omega), List.append_nil, Nat.min_eq_left (by omega)]
theorem erase_take_ne (l : List PR) (k b : Nat) (h : k < l.length) (hb : k ≠ b) : (l.take (k + 1)).eraseIdx b = (l.take k).eraseIdx b ++ [gt l k] := by
  have e : l.take (k + 1) = l.take k ++ [gt l k] := by
    rw [List.take_add_one]
    simp [gt, List.getElem?_eq_getElem h]
  by_cases hbk : b < k
  · rw [e, List.eraseIdx_append_of_lt_length (by rw [List.length_take]; omega)]
  · rw [List.eraseIdx_of_length_le (by rw [List.length_take]; omega), List.eraseIdx_of_length_le (by rw [List.length_take]; omega), e]
theorem erase_perm (l : List PR) (b : Nat) (h : b < l.length) (x : PR) (hx : gt l b = x) : (l.eraseIdx b).Perm (l.erase x) := by
  have hg : l[b] = x := by rw [← hx]; simp [gt, List.getElem?_eq_getElem h]
  have h1 : (x :: l.eraseIdx b).Perm l := by
    rw [List.eraseIdx_eq_take_drop_succ]
    refine List.perm_middle.symm.trans ?_
    rw [← hg, ← List.drop_eq_getElem_cons h, List.take_append_drop]
  have h2 : l.Perm (x :: l.erase x) := List.perm_cons_erase (hg ▸ List.getElem_mem h)
  exact (h1.trans h2).cons_inv
theorem take_gt (l : List PR) (i : Nat) (h : i < l.length) : l.take (i + 1) = l.take i ++ [gt l i] := by
  rw [List.take_add_one]
  simp [gt, List.getElem?_eq_getElem h]
theorem mn_snoc {l : List PR} (h : l ≠ []) (x : PR) : mn (l ++ [x]) = if ls x (mn l) then x else mn l := by
  cases l with
  | nil => exact absurd rfl h
  | cons a t =>
    show mnF a (t ++ [x]) = _
    unfold mnF
    rw [List.foldl_append]
    rfl

set_option maxHeartbeats 4000000 in
set_option maxRecDepth 100000 in
theorem rpop_c {w : World} {base G : Nat} {v : Value} {l : List PR} (h : RQ w base G v l) (hb0 : base ≤ w.heap.size) (hl : l.length ≤ 1000) (hne : l ≠ []) :
    Calls Try.prog 14 #[.pointer (some ⟨G, 0, none⟩)] w fun e w' => e = .returned (.tuple #[.int .i64 (mn l).1, .int .i64 (mn l).2, .bool true]) ∧ ∃ v' l', l'.Perm (l.erase (mn l)) ∧ RQ w' base G v' l' ∧ w.grownBy w' (some G) ∧ (∀ k, v'.ownBlock = some k → w.heap.size ≤ k) := by
  obtain ⟨A, c, rfl⟩ := Kd.R_slice h.row
  obtain ⟨c0, f0⟩ := h.cell
  have hlen : 0 < l.length := List.length_pos_iff.mpr hne
  obtain ⟨g, hA, _⟩ := pairE_at h.row 0 hlen
  subst hA
  have HH := Aside0.mk h
  have HL := Aside0.mk hl
  have HB := Aside0.mk (Below.refl w.heap.size w)
  have hz : ((l.length : Int) == 0) = false := beq_eq_false_iff_ne.mpr (by omega)
  clear h hl
  go_enter Try.func14, Try.ntmps14
  go_wp2
  go_loopw [5, 6] (fun v5 v6 wr => ∃ (b i : Nat), b < i ∧ i ≤ l.length ∧ v5 = .int .i64 (b : Int) ∧ v6 = .int .i64 (i : Int) ∧ Aside0 (Below w.heap.size w wr) ∧ Aside0 (gt l b = mn (l.take i))) (fun _ v6 _ => (l.length - (RowKit.intOf v6).toNat))
  case atStart => exact ⟨0, 1, by omega, by omega, rfl, rfl, HB, ⟨by cases l with | nil => exact absurd rfl hne | cons a t => rfl⟩⟩
  case round =>
    obtain ⟨b, i, hbi, hi, rfl, rfl, HR, HT⟩ := hrel
    obtain ⟨c1, f1⟩ := RQ.at HH.out HR.out
    have hi100 : i < 1000000 := by have := HL.out; omega
    by_cases hlt : i < l.length
    · have hbl : b < l.length := by omega
      have hcells := Aside0.mk (rcells (w0 := w) HH.out i b hlt (by omega))
      go_wp2
      refine wp_region_held_drew (S := fun w' => Aside0 (Below w.heap.size w w')) (by kernel_rfl) (⟨below_drew1 HR.out⟩) (fun hHeld => ?_)
      (refine wpAnyH_take (i := 0) (v := ?_) rfl (by kernel_rfl) (by kernel_rfl) (by kernel_rfl) (fun _ _ _ h => h) (Or.inl ⟨by rfl, ?_⟩) (by assumption) ?_; rotate_left; focus (intro w_ hSw_; obtain ⟨z0, z1, z2, z3, z4, z5⟩ := hcells.out w_ hSw_; go_simp; try with_reducible rfl)); (try simp only [Act.put, List.getElem_toArray, List.getElem_cons_zero, List.getElem_cons_succ, List.setIfInBounds_toArray, List.set_cons_zero, List.set_cons_succ])
      (refine wpAnyH_take (i := 1) (v := ?_) rfl (by kernel_rfl) (by kernel_rfl) (by kernel_rfl) (fun _ _ _ h => h) (Or.inl ⟨by rfl, ?_⟩) (by assumption) ?_; rotate_left; focus (intro w_ hSw_; obtain ⟨z0, z1, z2, z3, z4, z5⟩ := hcells.out w_ hSw_; go_simp; try with_reducible rfl)); (try simp only [Act.put, List.getElem_toArray, List.getElem_cons_zero, List.getElem_cons_succ, List.setIfInBounds_toArray, List.set_cons_zero, List.set_cons_succ])
      (refine wpAnyH_take (i := 2) (v := ?_) rfl (by kernel_rfl) (by kernel_rfl) (by kernel_rfl) (fun _ _ _ h => h) (Or.inl ⟨by rfl, ?_⟩) (by assumption) ?_; rotate_left; focus (intro w_ hSw_; obtain ⟨z0, z1, z2, z3, z4, z5⟩ := hcells.out w_ hSw_; go_simp; try with_reducible rfl)); (try simp only [Act.put, List.getElem_toArray, List.getElem_cons_zero, List.getElem_cons_succ, List.setIfInBounds_toArray, List.set_cons_zero, List.set_cons_succ])
      (refine wpAnyH_take (i := 3) (v := ?_) rfl (by kernel_rfl) (by kernel_rfl) (by kernel_rfl) (fun _ _ _ h => h) (Or.inl ⟨by rfl, ?_⟩) (by assumption) ?_; rotate_left; focus (intro w_ hSw_; obtain ⟨z0, z1, z2, z3, z4, z5⟩ := hcells.out w_ hSw_; go_simp; try with_reducible rfl)); (try simp only [Act.put, List.getElem_toArray, List.getElem_cons_zero, List.getElem_cons_succ, List.setIfInBounds_toArray, List.set_cons_zero, List.set_cons_succ])
      (refine wpAnyH_take (i := 4) (v := ?_) rfl (by kernel_rfl) (by kernel_rfl) (by kernel_rfl) (fun _ _ _ h => h) (Or.inl ⟨by rfl, ?_⟩) (by assumption) ?_; rotate_left; focus (intro w_ hSw_; obtain ⟨z0, z1, z2, z3, z4, z5⟩ := hcells.out w_ hSw_; go_simp; try with_reducible rfl)); (try simp only [Act.put, List.getElem_toArray, List.getElem_cons_zero, List.getElem_cons_succ, List.setIfInBounds_toArray, List.set_cons_zero, List.set_cons_succ])
      (refine wpAnyH_take (i := 5) (v := ?_) rfl (by kernel_rfl) (by kernel_rfl) (by kernel_rfl) (fun _ _ _ h => h) (Or.inl ⟨by rfl, ?_⟩) (by assumption) ?_; rotate_left; focus (intro w_ hSw_; obtain ⟨z0, z1, z2, z3, z4, z5⟩ := hcells.out w_ hSw_; go_simp; try with_reducible rfl)); (try simp only [Act.put, List.getElem_toArray, List.getElem_cons_zero, List.getElem_cons_succ, List.setIfInBounds_toArray, List.set_cons_zero, List.set_cons_succ])
      (refine wpAnyH_take (i := 6) (v := ?_) rfl (by kernel_rfl) (by kernel_rfl) (by kernel_rfl) (fun _ _ _ h => h) (Or.inl ⟨by rfl, ?_⟩) (by assumption) ?_; rotate_left; focus (intro w_ hSw_; obtain ⟨z0, z1, z2, z3, z4, z5⟩ := hcells.out w_ hSw_; go_simp; try with_reducible rfl)); (try simp only [Act.put, List.getElem_toArray, List.getElem_cons_zero, List.getElem_cons_succ, List.setIfInBounds_toArray, List.set_cons_zero, List.set_cons_succ])
      (refine wpAnyH_take (i := 7) (v := ?_) rfl (by kernel_rfl) (by kernel_rfl) (by kernel_rfl) (fun _ _ _ h => h) (Or.inl ⟨by rfl, ?_⟩) (by assumption) ?_; rotate_left; focus (intro w_ hSw_; obtain ⟨z0, z1, z2, z3, z4, z5⟩ := hcells.out w_ hSw_; go_simp; try with_reducible rfl)); (try simp only [Act.put, List.getElem_toArray, List.getElem_cons_zero, List.getElem_cons_succ, List.setIfInBounds_toArray, List.set_cons_zero, List.set_cons_succ])
      (refine wpAnyH_take (i := 8) (v := ?_) rfl (by kernel_rfl) (by kernel_rfl) (by kernel_rfl) (fun _ _ _ h => h) (Or.inl ⟨by rfl, ?_⟩) (by assumption) ?_; rotate_left; focus (intro w_ hSw_; obtain ⟨z0, z1, z2, z3, z4, z5⟩ := hcells.out w_ hSw_; go_simp; try with_reducible rfl)); (try simp only [Act.put, List.getElem_toArray, List.getElem_cons_zero, List.getElem_cons_succ, List.setIfInBounds_toArray, List.set_cons_zero, List.set_cons_succ])
      (refine wpAnyH_take (i := 9) (v := ?_) rfl (by kernel_rfl) (by kernel_rfl) (by kernel_rfl) (fun _ _ _ h => h) (Or.inl ⟨by rfl, ?_⟩) (by assumption) ?_; rotate_left; focus (intro w_ hSw_; obtain ⟨z0, z1, z2, z3, z4, z5⟩ := hcells.out w_ hSw_; go_simp; try with_reducible rfl)); (try simp only [Act.put, List.getElem_toArray, List.getElem_cons_zero, List.getElem_cons_succ, List.setIfInBounds_toArray, List.set_cons_zero, List.set_cons_succ])
      (refine wpAnyH_take (i := 10) (v := ?_) rfl (by kernel_rfl) (by kernel_rfl) (by kernel_rfl) (fun _ _ _ h => h) (Or.inl ⟨by rfl, ?_⟩) (by assumption) ?_; rotate_left; focus (intro w_ hSw_; obtain ⟨z0, z1, z2, z3, z4, z5⟩ := hcells.out w_ hSw_; go_simp; try with_reducible rfl)); (try simp only [Act.put, List.getElem_toArray, List.getElem_cons_zero, List.getElem_cons_succ, List.setIfInBounds_toArray, List.set_cons_zero, List.set_cons_succ])
      (refine wpAnyH_take (i := 11) (v := ?_) rfl (by kernel_rfl) (by kernel_rfl) (by kernel_rfl) (fun _ _ _ h => h) (Or.inl ⟨by rfl, ?_⟩) (by assumption) ?_; rotate_left; focus (intro w_ hSw_; obtain ⟨z0, z1, z2, z3, z4, z5⟩ := hcells.out w_ hSw_; go_simp; try with_reducible rfl)); (try simp only [Act.put, List.getElem_toArray, List.getElem_cons_zero, List.getElem_cons_succ, List.setIfInBounds_toArray, List.set_cons_zero, List.set_cons_succ])
      (refine wpAnyH_take (i := 12) (v := ?_) rfl (by kernel_rfl) (by kernel_rfl) (by kernel_rfl) (fun _ _ _ h => h) (Or.inl ⟨by rfl, ?_⟩) (by assumption) ?_; rotate_left; focus (intro w_ hSw_; obtain ⟨z0, z1, z2, z3, z4, z5⟩ := hcells.out w_ hSw_; go_simp; try with_reducible rfl)); (try simp only [Act.put, List.getElem_toArray, List.getElem_cons_zero, List.getElem_cons_succ, List.setIfInBounds_toArray, List.set_cons_zero, List.set_cons_succ])
      (refine wpAnyH_take (i := 13) (v := ?_) rfl (by kernel_rfl) (by kernel_rfl) (by kernel_rfl) (fun _ _ _ h => h) (Or.inl ⟨by rfl, ?_⟩) (by assumption) ?_; rotate_left; focus (intro w_ hSw_; obtain ⟨z0, z1, z2, z3, z4, z5⟩ := hcells.out w_ hSw_; go_simp; try with_reducible rfl)); (try simp only [Act.put, List.getElem_toArray, List.getElem_cons_zero, List.getElem_cons_succ, List.setIfInBounds_toArray, List.set_cons_zero, List.set_cons_succ])
      refine wpAnyH_ready (rs := [14]) (by kernel_rfl) (by simp) ?_; refine AllReadyH.cons rfl (fun K hK => ?_) AllReadyH.nil; rw [if_pos (by rfl)]; (go_simp); (go_at_call 21; refine (rless_c _ _ _).mono ?_; rintro e w3 ⟨rfl, hb⟩; (have HB' := HB_step2 (by assumption) hb); clear hb); (first | skip); refine hK.out _ _ (by assumption) (fun hHeld => ?_); clear hK K; (try simp only [Act.put, List.getElem_toArray, List.getElem_cons_zero, List.getElem_cons_succ, List.setIfInBounds_toArray, List.set_cons_zero, List.set_cons_succ])
      refine wpAnyH_done (by kernel_rfl) ?_ _
      have hB3 : Aside0 (Below w.heap.size w w3) := by assumption
      have hne2 : l.take i ≠ [] := fun e => by have := congrArg List.length e; rw [List.length_take, List.length_nil] at this; omega
      cases hls : ls (gt l i) (gt l b) with
      | true =>
        go_wp2
        go_roundw
        case rel => exact ⟨i, i + 1, by omega, by omega, rfl, by simp, hB3, ⟨by rw [take_gt l i hlt, mn_snoc hne2, ← HT.out, hls]; rfl⟩⟩
        case measure => (simp only [RowKit.intOf]; omega)
      | false =>
        go_wp2
        go_roundw
        case rel => exact ⟨b, i + 1, by omega, by omega, rfl, by simp, hB3, ⟨by rw [take_gt l i hlt, mn_snoc hne2, ← HT.out, hls]; rfl⟩⟩
        case measure => (simp only [RowKit.intOf]; omega)
    · have hi2 : i = l.length := by omega
      subst hi2
      have hT : gt l b = mn l := by have := HT.out; rwa [List.take_length] at this
      clear HT hlt
      have hbl : b < l.length := by omega
      obtain ⟨z0, z1, z2, z3, z4, z5⟩ := rcells (w0 := w) HH.out b b hbl hbl wr HR
      obtain ⟨W0, hW0⟩ : ∃ W0, W0 = wr.alloc (Obj.cells #[.int .i64 (mn l).1, .int .i64 (mn l).2] 51) := ⟨_, rfl⟩
      obtain ⟨P, hPe⟩ : ∃ P, P = wr.heap.size := ⟨_, rfl⟩
      have hP : W0.heap.size = P + 1 := by rw [hW0, hPe]; exact Array.size_push ..
      have hGP : G < P := hPe ▸ Nat.lt_of_lt_of_le HH.out.gs HR.out.size
      have HW : Aside0 (Below w.heap.size w W0 ∧ W0.cell? ⟨P, 0, none⟩ = some (.int .i64 (mn l).1) ∧ W0.cell? ⟨P, 1, none⟩ = some (.int .i64 (mn l).2)) := by
        have hnew := alloc_new wr (Obj.cells #[.int .i64 (mn l).1, .int .i64 (mn l).2] 51)
        subst hW0 hPe
        exact ⟨HR.out.alloc HR.out.size _, by unfold World.cell?; rw [hnew]; rfl, by unfold World.cell?; rw [hnew]; rfl⟩
      have hlit := World.ownsRow_lit (base := W0.heap.size) (e := 51) (size := 2) W0 #[] 0 (Nat.le_refl _) (by simp [maxLen]) (by simp)
      have hlit2 : (W0.alloc (.cells #[] 51)).ownsRow W0.heap.size 51 2 (.slice (some ⟨W0.heap.size, 0, none⟩) 0 0) 0 [] := by simpa using hlit
      have H1 : Aside0 (pairKd.R 51 (W0.alloc (.cells #[] 51)) W0.heap.size (fun k => k ≠ G) (.slice (some ⟨W0.heap.size, 0, none⟩) 0 0) [] ∧ Below W0.heap.size W0 (W0.alloc (.cells #[] 51))) := ⟨⟨fun k hk => by obtain rfl := Option.some.inj hk; show W0.heap.size ≠ G; omega, [], hlit2, Reps.none _ _⟩, (Below.refl _ _).alloc (Nat.le_refl _) _⟩
      clear hlit hlit2 z2 z3
      go_wp2
      rw [← hW0, ← hPe, ← hP]
      have HP := Aside0.mk hP
      have HGP := Aside0.mk hGP
      clear hPe hW0 hP hGP
      go_loopw [8, 9] (fun v8 v9 w2 => ∃ k : Nat, k ≤ l.length ∧ v9 = .int .i64 (k : Int) ∧ Aside0 (pairKd.R 51 w2 W0.heap.size (fun k => k ≠ G) v8 ((l.take k).eraseIdx b) ∧ Below W0.heap.size W0 w2)) (fun _ v9 _ => (l.length - (RowKit.intOf v9).toNat))
      case atStart => exact ⟨0, by omega, rfl, by simpa using H1⟩
      case round =>
        obtain ⟨k, hk, rfl, H2⟩ := hrel
        have hB2 : Aside0 (Below w.heap.size w wr) := ⟨HW.out.1.trans (H2.out.2.mono (by have := HW.out.1.size; omega))⟩
        have hk100 : k < 1000000 := by have := HL.out; omega
        obtain ⟨c1, f1⟩ := RQ.at HH.out hB2.out
        by_cases hlt : k < l.length
        · obtain ⟨y0, y1, y2, y3, y4, y5⟩ := rcells (w0 := w) HH.out k b hlt hbl wr hB2
          obtain ⟨A8, c8, hv8⟩ := Kd.R_slice H2.out.1
          subst hv8
          clear y4 y5
          by_cases hkb : k = b
          · subst hkb
            go_wp2
            go_roundw
            case rel => exact ⟨k + 1, by omega, by simp, ⟨by rw [erase_take_eq l k hlt]; exact H2.out.1, H2.out.2⟩⟩
            case measure => simp [RowKit.intOf]; omega
          · go_wp2_with (first
      | ((with_reducible refine gate_dst (N := 70) rfl ?_); refine Kd.R_append pairKd W0.heap.size rfl (.tmp 61) (.tmp 69) 27 51 (.agg #[.int .i64 0, .int .i64 0]) 16 rfl Try.underlying27 infoP2 rfl (by decide) (by omega) _ ((l.take k).eraseIdx b) (gt l k) [.int .i64 (gt l k).1, .int .i64 (gt l k).2] (fun k => k ≠ G) (fun _ => False) rfl rfl ?aP (fun _ hk => hk.elim) ?aF ?aO H2.out.2 ?aS ?aL ?_; (case aP => exact ⟨[.int .i64 (gt l k).1], [.int .i64 (gt l k).2], rfl, rfl, rfl⟩); (case aF => exact (fun k hk => by have := H2.out.2.size; have := HGP.out; have := HP.out; show k ≠ G; omega)); (case aO => exact H2.out.1); (case aS => exact H2.out.2.size); (case aL => have := HL.out; have := List.length_eraseIdx_le (l.take k) b; rw [List.length_take] at this; omega); intro v3 w3 ho hb hg hat; (have H3 := Aside0.mk (And.intro ho hb)); clear ho hb hg hat))
            go_roundw
            case rel => exact ⟨k + 1, by omega, by simp, ⟨by rw [erase_take_ne l k b hlt hkb]; exact H3.out.1, H3.out.2⟩⟩
            case measure => simp [RowKit.intOf]; omega
        · have hke : k = l.length := by omega
          subst hke
          rw [List.take_length] at H2
          obtain ⟨A8, c8, hv8⟩ := Kd.R_slice H2.out.1
          subst hv8
          have p0 : wr.cell? ⟨P, 0, none⟩ = some (.int .i64 (mn l).1) := (Below.cell H2.out.2 (p := ⟨P, 0, none⟩) (by have := HP.out; show P < _; omega)).trans HW.out.2.1
          have p1 : wr.cell? ⟨P, 1, none⟩ = some (.int .i64 (mn l).2) := (Below.cell H2.out.2 (p := ⟨P, 1, none⟩) (by have := HP.out; show P < _; omega)).trans HW.out.2.2
          have hPG : P ≠ G := by have := HGP.out; omega
          go_wp2
          obtain ⟨W3, hW3⟩ : ∃ W3, W3 = wr.setCell ⟨G, 0, none⟩ (.slice A8 (l.eraseIdx b).length c8) := ⟨_, rfl⟩
          rw [← hW3]
          have hH3 : W3.heap[P]? = wr.heap[P]? := by rw [hW3]; exact Below.heap_setCell _ _ _ _ (fun e => hPG e)
          have q0 : W3.cell? ⟨P, 0, none⟩ = some (.int .i64 (mn l).1) := (World.cell?_of_block (w := wr) (a := ⟨P, 0, none⟩) hH3).trans p0
          have q1 : W3.cell? ⟨P, 1, none⟩ = some (.int .i64 (mn l).2) := (World.cell?_of_block (w := wr) (a := ⟨P, 1, none⟩) hH3).trans p1
          have HW3 := Aside0.mk hW3
          clear hW3 hH3 p0 p1
          go_region
          go_wp2
          go_ret3
          have hbB : Below w.heap.size w wr := HW.out.1.trans (H2.out.2.mono (by have := HW.out.1.size; omega))
          have hGs := HH.out.gs
          refine ⟨rfl, .slice A8 (l.eraseIdx b).length c8, l.eraseIdx b, erase_perm l b hbl _ hT, ⟨?_, HH.out.bg, ?_⟩, ?_, fun k hk => ?_⟩
          · have hbx := (hbB.block G hGs).trans HH.out.box
            show W3.heap[G]? = _
            rw [HW3.out]
            simp [World.setCell, Array.getElem?_modify, hbx]
          · have hR3 := Kd.R_far (Kd.R_lower H2.out.1 (base' := base) (by have := HW.out.1.size; omega)) (p := ⟨G, 0, none⟩) (fun k hk => hk) (.slice A8 (l.eraseIdx b).length c8)
            rw [← HW3.out] at hR3
            exact Kd.R_step hR3 (fun k _ _ => rfl)
          · refine ⟨?_, ?_, ?_, ?_, ?_⟩
            · show W3.os = _
              rw [HW3.out]; exact hbB.os
            · show W3.tape = _
              rw [HW3.out]; exact hbB.tape
            · show W3.output = _
              rw [HW3.out]; exact hbB.output
            · show w.heap.size ≤ W3.heap.size
              rw [HW3.out]; simpa [World.setCell] using hbB.size
            · intro k hk hne
              show W3.heap[k]? = _
              rw [HW3.out]
              exact (Below.heap_setCell _ _ _ _ (fun e => hne (by rw [e]))).trans (hbB.block k hk)
          · have := Kd.R_base H2.out.1 k hk
            have := HW.out.1.size
            omega
end Go.Proofs.Ytlpjlgjhhmfnlaa.P
/- What came in, opened kind by kind: an argument's reading tells a list (of lists ..) that its cells hold. -/
namespace Go.Proofs.Ytlpjlgjhhmfnlaa.P
open Go.RowKit Go.Proofs.YtlpjlgjhhmfnlaaW.PrintWords Go.Proofs.YtlpjlgjhhmfnlaaW.PrintLast Go.Proofs.YtlpjlgjhhmfnlaaW.PrintMore
set_option linter.unusedVariables false
set_option linter.unusedSimpArgs false

structure Opens (P : Program) (t : TypeId) {α : Type} (d : Kd α) (q : α → Prop) : Prop where
  sz : P.cellsOf t = d.sz
  op : ∀ {H : Type} {enc : TypeId × Value → H} {w : World} {base fuel : Nat} {held : Bool} {cs : List Value} {x : DataW H × List MemPlace}, DataW.trod enc P w base (fun _ => true) held fuel t cs = some x → ∃ a : α, d.K w a cs ∧ q a
section
variable {P : Program} {α : Type} {d : Kd α} {q : α → Prop}
theorem opens_int {t : TypeId} {k : IntKind} (ht : P.underlying t = some (.int k)) (hs : P.cellsOf t = 1) : Opens P t (Kd.int k) (fun n => (Lit.int k n).wf = true) :=
  ⟨hs, fun h => by
    obtain ⟨n, rfl, _, hw⟩ := DataW.trod_int ht h
    exact ⟨n, rfl, hw⟩⟩
theorem Opens.mono {t : TypeId} {q' : α → Prop} (h : Opens P t d q) (hq : ∀ a, q a → q' a) : Opens P t d q' :=
  ⟨h.sz, fun ht => by obtain ⟨a, hk, ha⟩ := h.op ht; exact ⟨a, hk, hq a ha⟩⟩
theorem opens_slice {t e : TypeId} (e' : Nat) (ht : P.underlying t = some (.slice e)) (hs : P.cellsOf t = 1) (h : Opens P e d q) : Opens P t (Kd.slice e' d) (fun l => l.length ≤ maxLen ∧ ∀ x ∈ l, q x) :=
  ⟨hs, fun {H enc w base fuel held cs x} htr => by
    rcases Deep.open_slice ht htr with ⟨rfl, _⟩ | ⟨a, len, cap, m, n, D, Pl, rfl, hb, hl, hm, hmm, _, hx⟩
    · exact ⟨[], ⟨none, 0, rfl, Nat.le_refl _, Kd.C_nil d w⟩, Nat.zero_le _, fun x hx => by cases hx⟩
    · simp only [if_true] at hmm
      have each : ∀ i, i < len → ∃ y : α, (∃ cs', w.cells? base (a.add (i * P.cellsOf e)) (P.cellsOf e) = some cs' ∧ d.K w y cs') ∧ q y := by
        intro i hi
        obtain ⟨cs', h1, h2⟩ := hx i (by omega)
        obtain ⟨y, hy, hqy⟩ := h.op h2
        exact ⟨y, ⟨cs', h1, hy⟩, hqy⟩
      by_cases h0 : len = 0
      · subst h0
        refine ⟨[], ⟨some a, cap, rfl, Nat.zero_le _, rfl, by simp, fun h => absurd h (Nat.lt_irrefl 0)⟩, Nat.zero_le _, fun x hx => by cases hx⟩
      · obtain ⟨y0, _, _⟩ := each 0 (by omega)
        have : Inhabited α := ⟨y0⟩
        obtain ⟨f, hf⟩ := Deep.choose_lt each
        have hlen : ((List.range len).map f).length = len := by simp
        refine ⟨(List.range len).map f, ⟨some a, cap, by rw [hlen], by rw [hlen]; exact hl, ⟨rfl, by rw [hlen]; unfold maxLen at hm; omega, fun _ => ⟨a, rfl, fun j p hj => ?_⟩⟩⟩, by rw [hlen]; omega, fun x hx => ?_⟩
        · have hjl := (List.getElem?_eq_some_iff.1 hj).1
          rw [hlen] at hjl
          rw [List.getElem?_map, List.getElem?_range hjl] at hj
          have hj' : f j = p := by simpa using hj
          subst hj'
          obtain ⟨⟨cs', h1, h2⟩, _⟩ := hf j hjl
          obtain ⟨_, hcl, hcell⟩ := World.cells?_some h1
          refine ⟨cs', by rw [hcl, h.sz], h2, fun i u hu => ?_⟩
          have hil := (List.getElem?_eq_some_iff.1 hu).1
          have := hcell i (by omega)
          rw [Deep.add_add, hu, h.sz] at this
          exact this
        · obtain ⟨i, hi, rfl⟩ := List.mem_map.1 hx
          exact (hf i (List.mem_range.1 hi)).2⟩
/-- an argument that is a slice -/
theorem Opens.arg {t : TypeId} {e' : Nat} (h : Opens P t (Kd.slice e' d) (fun l => l.length ≤ maxLen ∧ ∀ x ∈ l, q x)) {H : Type} {enc : TypeId × Value → H} {w : World} {base : Nat} {held : Bool} {v : Value} {dd : DataW H} {ps : List MemPlace} {a : Option Addr} {len cap : Nat} (hv : v = .slice a len cap)
    (ht : DataW.Trod enc P w base (fun _ => true) held t v dd ps) : ∃ l : List α, len = l.length ∧ l.length ≤ cap ∧ d.C w a l.length l ∧ l.length ≤ maxLen ∧ ∀ x ∈ l, q x := by
  obtain ⟨fuel, hf⟩ := ht
  obtain ⟨l, ⟨A, c, hcs, hl, hC⟩, hq1, hq2⟩ := h.op hf
  subst hv
  simp only [Value.cells] at hcs
  have hcs' : Value.slice a len cap = Value.slice A l.length c := by simpa using hcs
  injection hcs' with e1 e2 e3
  subst e1 e2 e3
  exact ⟨l, rfl, hl, hC, hq1, hq2⟩
end
end Go.Proofs.Ytlpjlgjhhmfnlaa.P
