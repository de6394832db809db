/- Texts of this claim's own repository, merged by wip/tool/pack.py: LinA, ElimA, ElimB, ElimC, ElimBasis, Px2B, Px2, Px3A, Modp, RefRank, RankWalk, ElimV, ElimW, Px8, ElimLaws, Opn. -/
import Derived.Deep.Slices
import Derived.ChangeArms
import Derived.ProofKit
import Derived.Test.YtepakefmioeilaaKElimUnits0
/- Linear algebra over the numbers modulo a prime: spans, independence, ranks. -/
namespace LinA
open NumTh (Pr)
set_option linter.unusedVariables false

/-- a column: a number for each row -/
abbrev V (p : Nat) := Nat → Fin p
variable {p : Nat} [NeZero p]

def zv : V p := fun _ => 0
def add (u v : V p) : V p := fun i => u i + v i
def smul (c : Fin p) (v : V p) : V p := fun i => c * v i

/-- what some columns span -/
inductive Sp (L : List (V p)) : V p → Prop
  | zero : Sp L zv
  | step (c : Fin p) {v w : V p} : v ∈ L → Sp L w → Sp L (add (smul c v) w)

theorem Sp.of_eq {L : List (V p)} {u v : V p} (h : Sp L u) (e : u = v) : Sp L v := e ▸ h
theorem Sp.mem {L : List (V p)} {v : V p} (h : v ∈ L) : Sp L v :=
  (Sp.step 1 h Sp.zero).of_eq (by funext i; simp only [add, smul, zv]; grind)
theorem Sp.add {L : List (V p)} {u v : V p} (hu : Sp L u) (hv : Sp L v) : Sp L (add u v) := by
  induction hu with
  | zero => exact hv.of_eq (by funext i; simp only [LinA.add, zv]; grind)
  | step c hm _ ih => exact (Sp.step c hm ih).of_eq (by funext i; simp only [LinA.add, smul]; grind)
theorem Sp.smul {L : List (V p)} {u : V p} (c : Fin p) (hu : Sp L u) : Sp L (smul c u) := by
  induction hu with
  | zero => exact Sp.zero.of_eq (by funext i; simp only [LinA.smul, zv]; grind)
  | step d hm _ ih => exact (Sp.step (c * d) hm ih).of_eq (by funext i; simp only [LinA.add, LinA.smul]; grind)
theorem Sp.trans {L M : List (V p)} {u : V p} (hu : Sp L u) (h : ∀ v ∈ L, Sp M v) : Sp M u := by
  induction hu with
  | zero => exact Sp.zero
  | step c hm _ ih => exact ((h _ hm).smul c).add ih
theorem Sp.mono {L M : List (V p)} {u : V p} (hu : Sp L u) (h : ∀ v ∈ L, v ∈ M) : Sp M u := hu.trans (fun v hv => Sp.mem (h v hv))
theorem Sp.nil {u : V p} (h : Sp [] u) : u = zv := by
  cases h with
  | zero => rfl
  | step c hm _ => cases hm
/-- of one more column: a number of it, and the rest -/
theorem Sp.cons {b : V p} {B : List (V p)} {v : V p} (h : Sp (b :: B) v) : ∃ (c : Fin p) (w : V p), v = LinA.add (LinA.smul c b) w ∧ Sp B w := by
  induction h with
  | zero => exact ⟨0, zv, by funext i; simp only [LinA.add, LinA.smul, zv]; grind, Sp.zero⟩
  | step d hm _ ih =>
    obtain ⟨c, w, he, hw⟩ := ih
    rcases List.mem_cons.mp hm with rfl | hm
    · exact ⟨d + c, w, by rw [he]; funext i; simp only [LinA.add, LinA.smul]; grind, hw⟩
    · exact ⟨c, LinA.add (LinA.smul d _) w, by rw [he]; funext i; simp only [LinA.add, LinA.smul]; grind, Sp.step d hm hw⟩

/-! combinations by numbers -/
def comb : List (Fin p) → List (V p) → V p
  | c :: cs, v :: vs => add (smul c v) (comb cs vs)
  | _, _ => zv
theorem comb_append {cs : List (Fin p)} {L : List (V p)} (ds : List (Fin p)) (M : List (V p)) (h : cs.length = L.length) : comb (cs ++ ds) (L ++ M) = add (comb cs L) (comb ds M) := by
  induction cs generalizing L with
  | nil =>
    cases L with
    | nil => funext i; simp only [List.nil_append, add, comb, zv]; grind
    | cons v L => simp at h
  | cons c cs ih =>
    cases L with
    | nil => simp at h
    | cons v L =>
      simp only [List.cons_append, comb]
      rw [ih (by simpa using h)]
      funext i; simp only [add, smul]; grind
theorem comb_sp (cs : List (Fin p)) (L : List (V p)) : Sp L (comb cs L) := by
  induction L generalizing cs with
  | nil => cases cs <;> exact Sp.zero
  | cons v L ih =>
    cases cs with
    | nil => exact Sp.zero
    | cons c cs => exact ((Sp.mem List.mem_cons_self).smul c).add ((ih cs).mono (fun _ h => List.mem_cons_of_mem _ h))

/-- dependent: numbers, not all 0, by which they come to 0 -/
def Dep (L : List (V p)) : Prop := ∃ cs : List (Fin p), cs.length = L.length ∧ (∃ c ∈ cs, c ≠ 0) ∧ comb cs L = zv

/-- a field: 1 is not 0, and there are inverses -/
structure Fld (p : Nat) [NeZero p] : Prop where
  one_ne : (1 : Fin p) ≠ 0
  inv : ∀ a : Fin p, a ≠ 0 → ∃ b : Fin p, a * b = 1

theorem comb_map_sub (t : V p → Fin p) (l : V p) : ∀ (cs : List (Fin p)) (L : List (V p)), cs.length = L.length →
    ∃ s : Fin p, comb cs (L.map fun v => add v (smul (t v) l)) = add (comb cs L) (smul s l) := by
  intro cs
  induction cs with
  | nil => intro L h; cases L with
    | nil => exact ⟨0, by funext i; simp only [comb, add, smul, zv]; grind⟩
    | cons v L => simp at h
  | cons c cs ih => intro L h; cases L with
    | nil => simp at h
    | cons v L =>
      obtain ⟨s, hs⟩ := ih L (by simpa using h)
      refine ⟨c * t v + s, ?_⟩
      simp only [List.map_cons, comb]
      rw [hs]
      funext i; simp only [add, smul]; grind

theorem comb_zero (L : List (V p)) (n : Nat) : comb (List.replicate n 0) L = zv := by
  induction L generalizing n with
  | nil => cases n <;> rfl
  | cons v L ih =>
    cases n with
    | zero => rfl
    | succ n => rw [List.replicate_succ, comb, ih]; funext i; simp only [add, smul, zv]; grind

/-- more columns than they are told by: dependent -/
theorem dep_of_many (hF : Fld p) : ∀ (B L : List (V p)), (∀ v ∈ L, Sp B v) → B.length < L.length → Dep L := by
  intro B
  induction B with
  | nil =>
    intro L hL hlt
    cases L with
    | nil => simp at hlt
    | cons v L =>
      refine ⟨1 :: List.replicate L.length 0, by simp, ⟨1, List.mem_cons_self, hF.one_ne⟩, ?_⟩
      have hv : v = zv := (hL v List.mem_cons_self).nil
      subst hv
      rw [comb, comb_zero]
      funext i; simp only [add, smul, zv]; grind
  | cons b B ih =>
    intro L hL hlt
    by_cases hall : ∀ v ∈ L, Sp B v
    · exact ih L hall (by simp at hlt; omega)
    · have : ∃ l ∈ L, ¬ Sp B l := by
        apply Classical.byContradiction
        intro hc
        exact hall (fun v hv => Classical.byContradiction fun hn => hc ⟨v, hv, hn⟩)
      obtain ⟨l, hl, hnl⟩ := this
      obtain ⟨X, Y, rfl⟩ := List.append_of_mem hl
      obtain ⟨c, w, he, hw⟩ := (hL l hl).cons
      have hc0 : c ≠ 0 := by
        intro h0
        apply hnl
        refine hw.of_eq ?_
        rw [he, h0]; funext i; simp only [add, smul]; grind
      obtain ⟨d, hd⟩ := hF.inv c hc0
      -- each other one, less so many of l, is told by B
      have hex : ∀ v ∈ X ++ l :: Y, ∃ t : Fin p, Sp B (add v (smul t l)) := by
        intro v hv
        obtain ⟨c', w', he', hw'⟩ := (hL v hv).cons
        refine ⟨-(c' * d), (hw'.add (hw.smul (-(c' * d)))).of_eq ?_⟩
        rw [he', he]
        funext i
        simp only [add, smul]
        grind
      have ht : ∃ t : V p → Fin p, ∀ v ∈ X ++ l :: Y, Sp B (add v (smul (t v) l)) := by
        refine ⟨fun v => @dite _ (∃ t : Fin p, Sp B (add v (smul t l))) (Classical.propDecidable _) (fun h => Classical.choose h) (fun _ => 0), fun v hv => ?_⟩
        have h := hex v hv
        show Sp B (add v (smul (@dite _ _ (Classical.propDecidable _) _ _) l))
        rw [dif_pos h]
        exact Classical.choose_spec h
      obtain ⟨t, ht⟩ := ht
      obtain ⟨ds, hlen, ⟨e, hem, hene⟩, hzero⟩ := ih ((X ++ Y).map fun v => add v (smul (t v) l)) (by
        intro v hv
        obtain ⟨u, hu, rfl⟩ := List.mem_map.mp hv
        refine ht u ?_
        rcases List.mem_append.mp hu with h | h
        · exact List.mem_append_left _ h
        · exact List.mem_append_right _ (List.mem_cons_of_mem _ h)) (by simp at hlt ⊢; omega)
      obtain ⟨s, hs⟩ := comb_map_sub t l ds (X ++ Y) (by simpa using hlen)
      rw [hs] at hzero
      -- the numbers: those of X, s of l, those of Y
      have hl2 : ds.length = X.length + Y.length := by simpa using hlen
      refine ⟨ds.take X.length ++ s :: ds.drop X.length, by simp; omega, ⟨e, ?_, hene⟩, ?_⟩
      · rw [← List.take_append_drop X.length ds] at hem
        rcases List.mem_append.mp hem with h | h
        · exact List.mem_append_left _ h
        · exact List.mem_append_right _ (List.mem_cons_of_mem _ h)
      · have h1 : comb ds (X ++ Y) = add (comb (ds.take X.length) X) (comb (ds.drop X.length) Y) := by
          rw [← comb_append _ _ (by simp; omega), List.take_append_drop]
        rw [comb_append _ _ (by simp; omega), comb]
        rw [h1] at hzero
        funext i
        have := congrFun hzero i
        simp only [add, smul, zv] at this ⊢
        grind

/-- each is told by none of those behind it -/
def Ind : List (V p) → Prop
  | [] => True
  | v :: L => ¬ Sp L v ∧ Ind L

theorem Ind.not_dep (hF : Fld p) : ∀ {L : List (V p)}, Ind L → ¬ Dep L := by
  intro L
  induction L with
  | nil => intro _ ⟨cs, hlen, ⟨c, hc, _⟩, _⟩; cases cs with
    | nil => cases hc
    | cons _ _ => simp at hlen
  | cons v L ih =>
    intro ⟨h1, h2⟩ ⟨cs, hlen, ⟨e, he, hene⟩, hz⟩
    cases cs with
    | nil => simp at hlen
    | cons c cs =>
      rw [comb] at hz
      by_cases hc : c = 0
      · subst hc
        refine ih h2 ⟨cs, by simpa using hlen, ⟨e, ?_, hene⟩, ?_⟩
        · rcases List.mem_cons.mp he with h | h
          · exact absurd h hene
          · exact h
        · funext i
          have := congrFun hz i
          simp only [add, smul, zv] at this ⊢
          grind
      · obtain ⟨d, hd⟩ := hF.inv c hc
        refine h1 (((comb_sp cs L).smul (-d)).of_eq ?_)
        funext i
        have := congrFun hz i
        simp only [add, smul, zv] at this ⊢
        grind

/-- independent ones are no more than those by which they are told -/
theorem ind_le (hF : Fld p) {A B : List (V p)} (hA : Ind A) (h : ∀ v ∈ A, Sp B v) : A.length ≤ B.length := by
  apply Classical.byContradiction
  intro hn
  exact hA.not_dep hF (dep_of_many hF B A h (by omega))

/-! the rank -/
open Classical in
/-- those that none behind them tell -/
noncomputable def gb : List (V p) → List (V p)
  | [] => []
  | v :: L => if Sp L v then gb L else v :: gb L
theorem gb_sub : ∀ (L : List (V p)), ∀ v ∈ gb L, v ∈ L := by
  intro L
  induction L with
  | nil => intro v hv; exact hv
  | cons u L ih =>
    intro v hv
    unfold gb at hv
    split at hv
    · exact List.mem_cons_of_mem _ (ih v hv)
    · rcases List.mem_cons.mp hv with rfl | h
      · exact List.mem_cons_self
      · exact List.mem_cons_of_mem _ (ih v h)
theorem gb_tells : ∀ (L : List (V p)), ∀ v ∈ L, Sp (gb L) v := by
  intro L
  induction L with
  | nil => intro v hv; cases hv
  | cons u L ih =>
    intro v hv
    unfold gb
    split
    · rename_i hs
      rcases List.mem_cons.mp hv with rfl | h
      · exact hs.trans ih
      · exact ih v h
    · rcases List.mem_cons.mp hv with rfl | h
      · exact Sp.mem List.mem_cons_self
      · exact (ih v h).mono (fun _ hx => List.mem_cons_of_mem _ hx)
theorem gb_ind : ∀ (L : List (V p)), Ind (gb L) := by
  intro L
  induction L with
  | nil => trivial
  | cons u L ih =>
    unfold gb
    split
    · exact ih
    · rename_i hs
      exact ⟨fun h => hs (h.mono (gb_sub L)), ih⟩
noncomputable def rk (L : List (V p)) : Nat := (gb L).length

/-- what is told has no greater rank -/
theorem rk_le (hF : Fld p) {L M : List (V p)} (h : ∀ v ∈ L, Sp M v) : rk L ≤ rk M :=
  ind_le hF (gb_ind L) (fun v hv => (h v (gb_sub L v hv)).trans (gb_tells M))
theorem rk_congr (hF : Fld p) {L M : List (V p)} (h : ∀ v ∈ L, Sp M v) (h' : ∀ v ∈ M, Sp L v) : rk L = rk M :=
  Nat.le_antisymm (rk_le hF h) (rk_le hF h')
theorem rk_cons_in {v : V p} {L : List (V p)} (h : Sp L v) : rk (v :: L) = rk L := by
  unfold rk; rw [gb, if_pos h]
theorem rk_cons_out {v : V p} {L : List (V p)} (h : ¬ Sp L v) : rk (v :: L) = rk L + 1 := by
  unfold rk; rw [gb, if_neg h, List.length_cons]
/-- a column more, at the end -/
theorem rk_snoc (hF : Fld p) (L : List (V p)) (v : V p) : rk (L ++ [v]) = rk (v :: L) :=
  rk_congr hF (fun u hu => Sp.mem (by
    rcases List.mem_append.mp hu with h | h
    · exact List.mem_cons_of_mem _ h
    · rw [List.mem_singleton.mp h]; exact List.mem_cons_self)) (fun u hu => Sp.mem (by
    rcases List.mem_cons.mp hu with rfl | h
    · exact List.mem_append_right _ (List.mem_singleton.mpr rfl)
    · exact List.mem_append_left _ h))
theorem rk_snoc_in (hF : Fld p) {v : V p} {L : List (V p)} (h : Sp L v) : rk (L ++ [v]) = rk L := by rw [rk_snoc hF, rk_cons_in h]
theorem rk_snoc_out (hF : Fld p) {v : V p} {L : List (V p)} (h : ¬ Sp L v) : rk (L ++ [v]) = rk L + 1 := by rw [rk_snoc hF, rk_cons_out h]

/-! the columns of one row each -/
def ev (j : Nat) : V p := fun i => if i = j then 1 else 0
def evs (n : Nat) : List (V p) := (List.range n).map ev
theorem sp_evs : ∀ (n : Nat) (v : V p), (∀ i, n ≤ i → v i = 0) → Sp (evs n) v := by
  intro n
  induction n with
  | zero => intro v hv; exact Sp.zero.of_eq (by funext i; exact (hv i (Nat.zero_le _)).symm)
  | succ n ih =>
    intro v hv
    have h1 := ih (fun i => if i = n then 0 else v i) (by
      intro i hi
      by_cases h : i = n
      · simp [h]
      · simp only [if_neg h]; exact hv i (by omega))
    have h2 : ∀ u ∈ (evs n : List (V p)), u ∈ (evs (n + 1) : List (V p)) := by
      intro u hu
      unfold evs at hu ⊢
      rw [List.range_succ, List.map_append]
      exact List.mem_append_left _ hu
    have h3 : ev n ∈ (evs (n + 1) : List (V p)) := by
      unfold evs
      rw [List.range_succ, List.map_append]
      exact List.mem_append_right _ (by simp)
    refine (((Sp.mem h3).smul (v n)).add (h1.mono h2)).of_eq ?_
    funext i
    simp only [add, smul, ev]
    by_cases h : i = n
    · subst h; simp only [if_true]; grind
    · simp only [if_neg h]; grind
/-! a prime makes a field -/
theorem fld_of_prime (hp : Pr p) : Fld p where
  one_ne := by
    intro h
    have := congrArg Fin.val h
    have h2 := hp.1
    obtain ⟨q, rfl⟩ : ∃ q, p = q + 2 := ⟨p - 2, by omega⟩
    simp at this
  inv := by
    intro a ha
    have hp2 := hp.1
    have hnd : ¬ p ∣ a.val := by
      intro h
      have h1 := a.isLt
      by_cases h0 : a.val = 0
      · exact ha (Fin.ext (by simpa using h0))
      · have := Nat.le_of_dvd (by omega) h; omega
    have hf := NumTh.fermat hp hnd
    refine ⟨⟨a.val ^ (p - 2) % p, Nat.mod_lt _ (by omega)⟩, ?_⟩
    apply Fin.ext
    rw [Fin.val_mul]
    show a.val * (a.val ^ (p - 2) % p) % p = _
    have h1 : ((1 : Fin p) : Fin p).val = 1 := by
      obtain ⟨q, rfl⟩ : ∃ q, p = q + 2 := ⟨p - 2, by omega⟩
      rfl
    rw [h1, Nat.mul_mod_mod, Nat.mul_comm, ← Nat.pow_succ]
    rw [show (p - 2).succ = p - 1 by omega]
    exact hf
end LinA
/- Layer 5: columns modulo a prime as vectors; what (*stair).reduce and climb compute, as spans. -/
namespace Go.Proofs.Ytepakefmioeilaa.P
open Go.RowKit Go.Proofs.YtepakefmioeilaaW.PrintWords Go.Proofs.YtepakefmioeilaaW.PrintLast Go.Proofs.YtepakefmioeilaaW.PrintMore
open LinA (V Sp zv smul comb rk Fld)
set_option linter.unusedVariables false
set_option linter.unusedSimpArgs false

theorem fin_ext {P : Nat} {a b : Fin P} (h : (a.val : Int) = (b.val : Int)) : a = b := Fin.ext (by omega)
section
variable {P : Nat} [NeZero P]
def cz (x : Int) : Fin P := Fin.ofNat P (x % P).toNat
theorem pz : (0 : Int) < (P : Int) := by have := Nat.pos_of_ne_zero (NeZero.ne P); omega
theorem cz_val (x : Int) : (((cz x : Fin P).val : Nat) : Int) = x % P := by
  have h0 := Int.emod_nonneg x (show (P : Int) ≠ 0 by have := pz (P := P); omega)
  have h1 := Int.emod_lt_of_pos x (pz (P := P))
  have h2 : (x % P).toNat < P := by omega
  show (((x % P).toNat % P : Nat) : Int) = _
  rw [Nat.mod_eq_of_lt h2]; omega
theorem cz_add (x y : Int) : (cz (x + y) : Fin P) = cz x + cz y := by
  apply fin_ext
  rw [cz_val, Fin.val_add, Int.natCast_emod, Int.natCast_add, cz_val, cz_val]
  exact Int.add_emod x y P
theorem cz_mul (x y : Int) : (cz (x * y) : Fin P) = cz x * cz y := by
  apply fin_ext
  rw [cz_val, Fin.val_mul, Int.natCast_emod, Int.natCast_mul, cz_val, cz_val]
  exact Int.mul_emod x y P
theorem cz_mod (x : Int) : (cz (x % P) : Fin P) = cz x := by
  apply fin_ext
  rw [cz_val, cz_val, Int.emod_emod]
theorem cz_0 : (cz 0 : Fin P) = 0 := by
  apply fin_ext
  rw [cz_val]; simp
theorem cz_neg (x : Int) : (cz (-x) : Fin P) = -cz x := by
  have h := cz_add (P := P) x (-x)
  rw [show x + -x = 0 by omega, cz_0] at h
  grind
theorem cz_sub (x y : Int) : (cz (x - y) : Fin P) = cz x - cz y := by
  rw [show x - y = x + -y by omega, cz_add, cz_neg]; grind
theorem cz_eq_zero {x : Int} (h0 : 0 ≤ x) (h1 : x < P) : (cz x : Fin P) = 0 ↔ x = 0 := by
  constructor
  · intro h
    have h2 := cz_val (P := P) x
    rw [h, Int.emod_eq_of_lt h0 h1] at h2
    simpa using h2.symm
  · rintro rfl; exact cz_0
theorem cz_inj {x y : Int} (hx : 0 ≤ x ∧ x < P) (hy : 0 ≤ y ∧ y < P) (h : (cz x : Fin P) = cz y) : x = y := by
  have h1 := cz_val (P := P) x
  have h2 := cz_val (P := P) y
  rw [h, h2, Int.emod_eq_of_lt hx.1 hx.2, Int.emod_eq_of_lt hy.1 hy.2] at h1
  exact h1.symm

def vec (c : List Int) : V P := fun i => cz (rd c (i : Int))
theorem rd_nat (c : List Int) (i : Nat) : rd c (i : Int) = (c[i]?).getD 0 := by simp [rd, List.getD_eq_getElem?_getD]
theorem vec_out {c : List Int} {i : Nat} (h : c.length ≤ i) : (vec c : V P) i = 0 := by
  unfold vec
  rw [rd_nat, List.getElem?_eq_none h]; exact cz_0
theorem vec_redCol (k : Int) {c x : List Int} (h : x.length = c.length) : (vec (redCol P k c x) : V P) = LinA.add (vec c) (smul (-cz k) (vec x)) := by
  funext i
  simp only [LinA.add, smul, vec]
  have hz : rd (redCol (P : Int) k c x) (i : Int) = if i < c.length then subm P k (rd c (i : Int)) (rd x (i : Int)) else 0 := by
    rw [rd_nat, rd_nat, rd_nat]
    unfold redCol
    rw [List.getElem?_zipWith]
    by_cases hi : i < c.length
    · rw [if_pos hi, List.getElem?_eq_getElem hi, List.getElem?_eq_getElem (by omega)]; rfl
    · rw [if_neg hi, List.getElem?_eq_none (by omega)]; rfl
  rw [hz]
  by_cases hi : i < c.length
  · rw [if_pos hi]
    unfold subm
    rw [cz_mod, cz_sub, cz_mul]; grind
  · rw [if_neg hi, rd_nat, rd_nat, List.getElem?_eq_none (by omega), List.getElem?_eq_none (by omega)]
    simp only [Option.getD_none, cz_0]; grind
theorem vec_scale (k : Int) (c : List Int) : (vec (c.map (fun x => x * k % P)) : V P) = smul (cz k) (vec c) := by
  funext i
  simp only [smul, vec]
  rw [rd_nat, rd_nat, List.getElem?_map]
  cases h : c[i]? with
  | none => simp only [Option.map_none, Option.getD_none, cz_0]; grind
  | some y => simp only [Option.map_some, Option.getD_some]; rw [cz_mod, cz_mul]; grind
theorem vec_zero {c : List Int} (hb : Bd (P : Int) c) : (vec c : V P) = zv ↔ c.any nz = false := by
  constructor
  · intro h
    rw [List.any_eq_false]
    intro y hy
    obtain ⟨i, hi⟩ := List.getElem?_of_mem hy
    have h1 := congrFun h i
    simp only [vec, zv, rd_nat, hi, Option.getD_some] at h1
    have := (cz_eq_zero (hb y hy).1 (hb y hy).2).1 h1
    simp [nz, this]
  · intro h
    funext i
    simp only [vec, zv, rd_nat]
    cases hi : c[i]? with
    | none => exact cz_0
    | some y =>
      have hy := List.mem_of_getElem? hi
      have := List.any_eq_false.1 h y hy
      simp only [nz, bne_iff_ne, ne_eq, Decidable.not_not] at this
      subst this
      exact cz_0
theorem vec_inj {c d : List Int} (hc : Bd (P : Int) c) (hd : Bd (P : Int) d) (hl : c.length = d.length) (h : (vec c : V P) = vec d) : c = d := by
  apply List.ext_getElem hl
  intro i h1 h2
  have h3 := congrFun h i
  simp only [vec, rd_nat, List.getElem?_eq_getElem h1, List.getElem?_eq_getElem h2, Option.getD_some] at h3
  exact cz_inj (hc _ (List.getElem_mem h1)) (hd _ (List.getElem_mem h2)) h3
end
end Go.Proofs.Ytepakefmioeilaa.P
/- Layer 5: what the steps of a stair tell of spans: reduce, add, climb. -/
namespace Go.Proofs.Ytepakefmioeilaa.P
open Go.RowKit Go.Proofs.YtepakefmioeilaaW.PrintWords Go.Proofs.YtepakefmioeilaaW.PrintLast Go.Proofs.YtepakefmioeilaaW.PrintMore
open LinA (V Sp zv smul comb rk Fld)
set_option linter.unusedVariables false
set_option linter.unusedSimpArgs false

theorem red1_len {P : Nat} {s : List Int × (Int → Int)} {x : T3} (h : x.col.length = s.1.length) : (red1 (P : Int) s x).1.length = s.1.length := by
  unfold red1
  split
  · rfl
  · simp [redCol, h]
theorem fold_off {P : Nat} (y : Int) : ∀ (S : List T3) (s : List Int × (Int → Int)), (∀ x ∈ S, x.frm y = 0) → s.2 y = 0 → (S.foldl (red1 (P : Int)) s).2 y = 0 := by
  intro S
  induction S with
  | nil => intro s _ h; exact h
  | cons x S ih =>
    intro s h h0
    rw [List.foldl_cons]
    refine ih _ (fun z hz => h z (List.mem_cons_of_mem _ hz)) ?_
    unfold red1
    split
    · exact h0
    · show (s.2 y + rd s.1 x.row * x.frm y) % P = 0
      rw [h0, h x List.mem_cons_self]; simp
section
variable {P : Nat} [NeZero P]
def pv (x : T3) : Nat := x.row.toNat
def vc (x : T3) : V P := vec x.col
theorem vec_pv (c : List Int) {x : T3} (h : 0 ≤ x.row) : (vec c : V P) (pv x) = cz (rd c x.row) := by
  unfold vec pv
  rw [show ((x.row.toNat : Nat) : Int) = x.row by omega]
theorem red1_vec {s : List Int × (Int → Int)} {x : T3} (h : x.col.length = s.1.length) (h0 : 0 ≤ x.row) :
    (vec (red1 P s x).1 : V P) = LinA.add (vec s.1) (smul (-(vec s.1 : V P) (pv x)) (vc x)) ∧ ∀ y, (cz ((red1 P s x).2 y) : Fin P) = cz (s.2 y) + (vec s.1 : V P) (pv x) * cz (x.frm y) := by
  rw [vec_pv s.1 h0]
  unfold red1
  by_cases hz : rd s.1 x.row = 0
  · rw [if_pos hz, hz, cz_0]
    refine ⟨?_, fun y => by grind⟩
    funext i
    simp only [LinA.add, smul]; grind
  · rw [if_neg hz]
    refine ⟨vec_redCol _ h, fun y => ?_⟩
    show (cz ((s.2 y + rd s.1 x.row * x.frm y) % P) : Fin P) = _
    rw [cz_mod, cz_add, cz_mul]
/-- where all steps are 0 there nothing is turned -/
theorem fold_far {q : Nat} : ∀ (S : List T3) (s : List Int × (Int → Int)), (∀ x ∈ S, x.col.length = s.1.length ∧ 0 ≤ x.row) → (∀ x ∈ S, (vc x : V P) q = 0) → (vec (S.foldl (red1 P) s).1 : V P) q = (vec s.1 : V P) q := by
  intro S
  induction S with
  | nil => intro s _ _; rfl
  | cons x S ih =>
    intro s h hz
    have hx := h x List.mem_cons_self
    rw [List.foldl_cons, ih _ (fun y hy => by rw [red1_len hx.1]; exact h y (List.mem_cons_of_mem _ hy)) (fun y hy => hz y (List.mem_cons_of_mem _ hy)), (red1_vec hx.1 hx.2).1]
    simp only [LinA.add, smul, hz x List.mem_cons_self]; grind
def Ech : List T3 → Prop
  | [] => True
  | x :: S => (vc x : V P) (pv x) = 1 ∧ (∀ y ∈ S, (vc y : V P) (pv x) = 0) ∧ Ech S
theorem ech_snoc : ∀ {S : List T3} {x : T3}, Ech (P := P) S → (vc x : V P) (pv x) = 1 → (∀ y ∈ S, (vc x : V P) (pv y) = 0) → Ech (P := P) (S ++ [x]) := by
  intro S
  induction S with
  | nil => intro x _ h1 _; exact ⟨h1, fun y hy => absurd hy List.not_mem_nil, trivial⟩
  | cons y S ih =>
    intro x h h1 h2
    refine ⟨h.1, fun z hz => ?_, ih h.2.2 h1 (fun z hz => h2 z (List.mem_cons_of_mem _ hz))⟩
    rcases List.mem_append.1 hz with hz | hz
    · exact h.2.1 z hz
    · rw [List.mem_singleton.1 hz]; exact h2 y List.mem_cons_self
theorem fold_pivots : ∀ (S : List T3) (s : List Int × (Int → Int)), (∀ x ∈ S, x.col.length = s.1.length ∧ 0 ≤ x.row) → Ech (P := P) S → ∀ x ∈ S, (vec (S.foldl (red1 P) s).1 : V P) (pv x) = 0 := by
  intro S
  induction S with
  | nil => intro s _ _ x hx; exact absurd hx List.not_mem_nil
  | cons y S ih =>
    intro s h he x hx
    have hy := h y List.mem_cons_self
    have h2 : ∀ z ∈ S, z.col.length = (red1 (P : Int) s y).1.length ∧ 0 ≤ z.row := fun z hz => by rw [red1_len hy.1]; exact h z (List.mem_cons_of_mem _ hz)
    rw [List.foldl_cons]
    rcases List.mem_cons.1 hx with rfl | hx
    · rw [fold_far S _ h2 he.2.1, (red1_vec hy.1 hy.2).1]
      simp only [LinA.add, smul, he.1]; grind
    · exact ih _ h2 he.2.2 x hx
theorem fold_span : ∀ (S : List T3) (s : List Int × (Int → Int)), (∀ x ∈ S, x.col.length = s.1.length ∧ 0 ≤ x.row) → ∃ w : V P, Sp (S.map vc) w ∧ (vec s.1 : V P) = LinA.add (vec (S.foldl (red1 P) s).1) w := by
  intro S
  induction S with
  | nil => intro s _; exact ⟨zv, Sp.zero, by funext i; simp only [LinA.add, zv, List.foldl_nil]; grind⟩
  | cons x S ih =>
    intro s h
    have hx := h x List.mem_cons_self
    obtain ⟨w, hw, he⟩ := ih (red1 P s x) (fun z hz => by rw [red1_len hx.1]; exact h z (List.mem_cons_of_mem _ hz))
    refine ⟨LinA.add (smul ((vec s.1 : V P) (pv x)) (vc x)) w, Sp.step _ List.mem_cons_self (hw.mono (fun z hz => List.mem_cons_of_mem _ hz)), ?_⟩
    rw [(red1_vec hx.1 hx.2).1] at he
    funext i
    have := congrFun he i
    simp only [LinA.add, smul, List.foldl_cons] at this ⊢
    grind
theorem sp_at {L : List (V P)} {q : Nat} (h : ∀ v ∈ L, v q = 0) {v : V P} (hv : Sp L v) : v q = 0 := by
  induction hv with
  | zero => rfl
  | step c hm _ ih => simp only [LinA.add, smul, h _ hm, ih]; grind
theorem ech_zero : ∀ {S : List T3} {v : V P}, Ech (P := P) S → Sp (S.map vc) v → (∀ x ∈ S, v (pv x) = 0) → v = zv := by
  intro S
  induction S with
  | nil => intro v _ hv _; exact hv.nil
  | cons x S ih =>
    intro v he hv hz
    obtain ⟨c, w, rfl, hw⟩ := Sp.cons hv
    have hwx : w (pv x) = 0 := sp_at (fun u hu => by
      obtain ⟨y, hy, rfl⟩ := List.mem_map.1 hu
      exact he.2.1 y hy) hw
    have h1 := hz x List.mem_cons_self
    simp only [LinA.add, smul, hwx, he.1] at h1
    have hc : c = 0 := by grind
    subst hc
    have hww : LinA.add (smul 0 (vc x)) w = w := by funext i; simp only [LinA.add, smul]; grind
    rw [hww] at hz ⊢
    exact ih he.2.2 hw (fun y hy => hz y (List.mem_cons_of_mem _ hy))
/-- what is left is nothing just where the steps tell the column -/
theorem reduce_zero {S : List T3} {c : List Int} (h : ∀ x ∈ S, x.col.length = c.length ∧ 0 ≤ x.row) (he : Ech (P := P) S) : (vec (reduce P S c).1 : V P) = zv ↔ Sp (S.map vc) (vec c : V P) := by
  obtain ⟨w, hw, hv⟩ := fold_span (P := P) S (c, fun _ => 0) h
  have hv' : (vec c : V P) = LinA.add (vec (reduce P S c).1) w := hv
  constructor
  · intro hz
    rw [hz] at hv'
    rw [hv']
    exact hw.of_eq (by funext i; simp only [LinA.add, zv]; grind)
  · intro hs
    refine ech_zero he (v := vec (reduce P S c).1) ?_ (fold_pivots S (c, fun _ => 0) h he)
    have h2 := hs.add (hw.smul (-1))
    rw [hv'] at h2
    exact h2.of_eq (by funext i; simp only [LinA.add, smul]; grind)

/-- combinations by numbers, of the first n columns -/
def lc (C : Nat → V P) (t : Int → Int) : Nat → V P
  | 0 => zv
  | n + 1 => LinA.add (lc C t n) (smul (cz (t (n : Int))) (C n))
theorem lc_lin (C : Nat → V P) {t t' f : Int → Int} (k : Fin P) (n : Nat) (h : ∀ y, (cz (t' y) : Fin P) = cz (t y) + k * cz (f y)) : lc C t' n = LinA.add (lc C t n) (smul k (lc C f n)) := by
  induction n with
  | zero => funext i; simp only [lc, LinA.add, smul, zv]; grind
  | succ n ih =>
    simp only [lc]
    rw [ih, h]
    funext i; simp only [LinA.add, smul]; grind
theorem lc_zero (C : Nat → V P) (n : Nat) : lc C (fun _ => 0) n = zv := by
  induction n with
  | zero => rfl
  | succ n ih =>
    simp only [lc, ih, cz_0]
    funext i; simp only [LinA.add, smul, zv]; grind
theorem fold_lc (C : Nat → V P) (n : Nat) : ∀ (S : List T3) (s : List Int × (Int → Int)), (∀ x ∈ S, x.col.length = s.1.length ∧ 0 ≤ x.row) → (∀ x ∈ S, (vc x : V P) = lc C x.frm n) →
    LinA.add (vec (S.foldl (red1 P) s).1 : V P) (lc C (S.foldl (red1 P) s).2 n) = LinA.add (vec s.1) (lc C s.2 n) := by
  intro S
  induction S with
  | nil => intro s _ _; rfl
  | cons x S ih =>
    intro s h hf
    have hx := h x List.mem_cons_self
    rw [List.foldl_cons, ih _ (fun z hz => by rw [red1_len hx.1]; exact h z (List.mem_cons_of_mem _ hz)) (fun z hz => hf z (List.mem_cons_of_mem _ hz))]
    obtain ⟨h1, h2⟩ := red1_vec (P := P) hx.1 hx.2
    rw [h1, lc_lin C _ n h2, ← hf x List.mem_cons_self]
    funext i; simp only [LinA.add, smul]; grind
theorem reduce_lc (C : Nat → V P) (n : Nat) {S : List T3} {c : List Int} (h : ∀ x ∈ S, x.col.length = c.length ∧ 0 ≤ x.row) (hf : ∀ x ∈ S, (vc x : V P) = lc C x.frm n) : (vec c : V P) = LinA.add (vec (reduce P S c).1) (lc C (reduce P S c).2 n) := by
  have := fold_lc C n S (c, fun _ => 0) h hf
  rw [lc_zero] at this
  show _ = LinA.add (vec (S.foldl (red1 P) (c, fun _ => 0)).1) (lc C (S.foldl (red1 P) (c, fun _ => 0)).2 n)
  rw [this]
  funext i; simp only [LinA.add, zv]; grind
end
end Go.Proofs.Ytepakefmioeilaa.P
/- Layer 5: what climb tells of its columns: the places that no columns ahead tell; and by which numbers. -/
namespace Go.Proofs.Ytepakefmioeilaa.P
open Go.RowKit Go.Proofs.YtepakefmioeilaaW.PrintWords Go.Proofs.YtepakefmioeilaaW.PrintLast Go.Proofs.YtepakefmioeilaaW.PrintMore
open LinA (V Sp zv smul comb rk Fld)
set_option linter.unusedVariables false
set_option linter.unusedSimpArgs false

theorem fidx_none {q : Int → Bool} {l : List Int} : fidx q l 0 < 0 ↔ l.any q = false := by
  have h := fidx_neg q l 0
  constructor
  · intro h1
    rw [← h]; exact decide_eq_false (by omega)
  · intro h1
    rw [h1] at h
    have := of_decide_eq_false h
    omega
section
variable {P : Nat} [NeZero P]
theorem fin_mz (a : Fin P) : a * 0 = 0 := by grind
theorem va1 (k : Fin P) {u r w : V P} (h : u = LinA.add r w) : smul k (LinA.add u (smul (-1) w)) = smul k r := by
  subst h; funext i; simp only [LinA.add, smul]; grind
theorem va2 {k b : Fin P} (h : k * b = 1) (r w : V P) : LinA.add (smul b (smul k r)) w = LinA.add r w := by
  funext i
  simp only [LinA.add, smul]
  have h5 : b * (k * r i) = (k * b) * r i := by grind
  rw [h5, h]; grind
theorem va3 (l u : V P) : LinA.add l (smul 0 u) = l := by funext i; simp only [LinA.add, smul]; grind
theorem va4 (k : Fin P) (l r : V P) : smul k r = LinA.add (smul (-k) l) (smul k (LinA.add r l)) := by funext i; simp only [LinA.add, smul]; grind
/-- what is known of the steps that come of some columns -/
structure Cl (m : Nat) (C : Nat → V P) (L : List (V P)) (k : Nat) (S : List T3) (out : List Int) : Prop where
  good : ∀ x ∈ S, Good (P : Int) m x
  ech : Ech (P := P) S
  span : ∀ v : V P, Sp (S.map vc) v ↔ Sp L v
  frm : ∀ x ∈ S, (vc x : V P) = lc C x.frm k
  off : ∀ x ∈ S, ∀ y, y ∉ out → x.frm y = 0
  lt : ∀ y ∈ out, 0 ≤ y ∧ y < k
  len : S.length = out.length
theorem Cl.reads {m : Nat} {C : Nat → V P} {L : List (V P)} {k : Nat} {S : List T3} {out : List Int} (h : Cl m C L k S out) {c : List Int} (hc : c.length = m) : ∀ x ∈ S, x.col.length = c.length ∧ 0 ≤ x.row := fun x hx => ⟨by rw [hc]; exact (h.good x hx).len, (h.good x hx).row0⟩
theorem Cl.tells {m : Nat} {C : Nat → V P} {L : List (V P)} {k : Nat} {S : List T3} {out : List Int} (h : Cl m C L k S out) {c : List Int} (hc : c.length = m) : (vec (reduce P S c).1 : V P) = zv ↔ Sp L (vec c : V P) := (reduce_zero (h.reads hc) h.ech).trans (h.span _)
theorem Cl.comb {m : Nat} {C : Nat → V P} {L : List (V P)} {k : Nat} {S : List T3} {out : List Int} (h : Cl m C L k S out) {c : List Int} (hc : c.length = m) : (vec c : V P) = LinA.add (vec (reduce P S c).1) (lc C (reduce P S c).2 k) := reduce_lc C k (h.reads hc) h.frm
theorem Cl.zeros {m : Nat} {C : Nat → V P} {L : List (V P)} {k : Nat} {S : List T3} {out : List Int} (h : Cl m C L k S out) (c : List Int) {y : Int} (hy : y ∉ out) : (reduce P S c).2 y = 0 := fold_off y S (c, fun _ => 0) (fun x hx => h.off x hx y hy) rfl
theorem red_good {p : Int} (hp : okP p) {m : Nat} {S : List T3} {c : List Int} (hS : ∀ x ∈ S, Good p m x) (hc : c.length = m) (hb : Bd p c) : (reduce p S c).1.length = m ∧ Bd p (reduce p S c).1 ∧ BdF p (reduce p S c).2 :=
  foldl_ok hp S (c, fun _ => 0) hc hb (fun _ => ⟨Int.le_refl _, (by have := hp.1; show (0:Int) < p; omega)⟩) hS

theorem addT_none {m : Nat} {C : Nat → V P} {L : List (V P)} {k : Nat} {S : List T3} {out : List Int} (hP : isP (P : Int) = true) (h : Cl m C L k S out) {c : List Int} (hc : c.length = m) (hb : Bd (P : Int) c) (at_ : Int) : addT P at_ S c = none ↔ Sp L (vec c : V P) := by
  rw [← h.tells hc, vec_zero (red_good (isP_ok hP) h.good hc hb).2.1, ← fidx_none]
  unfold addT
  by_cases h1 : fidx nz (reduce (P : Int) S c).1 0 < 0
  · rw [if_pos h1]; simp [h1]
  · rw [if_neg h1]; simp [h1]
theorem addT_some {m : Nat} {C : Nat → V P} {L : List (V P)} {k : Nat} {S : List T3} {out : List Int} (hP : isP (P : Int) = true) (h : Cl m C L k S out) {c : List Int} (hc : c.length = m) (hb : Bd (P : Int) c) (hk : C k = vec c) {t : T3} (ht : addT P k S c = some t) : Cl m C (L ++ [vec c]) (k + 1) (S ++ [t]) (out ++ [(k : Int)]) := by
  have hp := isP_ok hP
  have hgt := addT_good hP h.good hc hb ht
  obtain ⟨hrl, hrb, hrf⟩ := red_good hp h.good hc hb
  have hcomb := h.comb hc
  have hzero := fun y => h.zeros c (y := y)
  have hpiv := fold_pivots (P := P) S (c, fun _ => 0) (h.reads hc) h.ech
  have hpiv2 : ∀ x ∈ S, (vec (reduce P S c).1 : V P) (pv x) = 0 := hpiv
  obtain ⟨w, hw, hvw⟩ := fold_span (P := P) S (c, fun _ => 0) (h.reads hc)
  have hvw2 : (vec c : V P) = LinA.add (vec (reduce P S c).1) w := hvw
  have hfg := fidx_ge nz (reduce (P : Int) S c).1 0
  have hfa := fidx_at nz (reduce (P : Int) S c).1 0
  unfold addT at ht
  by_cases hneg : fidx nz (reduce (P : Int) S c).1 0 < 0
  · rw [if_pos hneg] at ht; cases ht
  rw [if_neg hneg] at ht
  have ht := (Option.some.inj ht).symm
  generalize fidx nz (reduce (P : Int) S c).1 0 = row at *
  generalize reduce (P : Int) S c = r at *
  have hr0 : 0 ≤ row := by omega
  have hr1 : row < (r.1.length : Int) := by have := hfg.2.1; omega
  have hnz : nz (rd r.1 row) = true := by have := hfa hr0; simpa using this
  have hab := hrb.at_ hr0 hr1
  have ha0 : rd r.1 row % (P : Int) ≠ 0 := by
    rw [Int.emod_eq_of_lt hab.1 hab.2]
    simpa [nz] using hnz
  have hin := pwi_spec hP ha0
  have hrow : t.row = row := by rw [ht]; rfl
  have hcol : t.col = r.1.map (fun x => x * pwi (rd r.1 row) P % P) := by rw [ht]; rfl
  have hfrm : ∀ y, t.frm y = if y = (k : Int) then pwi (rd r.1 row) P else (-(r.2 y) * pwi (rd r.1 row) P) % P := by rw [ht]; intro y; rfl
  clear ht hfg hfa hneg
  generalize pwi (rd r.1 row) (P : Int) = iv at *
  have hvt : (vc t : V P) = smul (cz iv) (vec r.1) := by unfold vc; rw [hcol, vec_scale]
  have hkout : (k : Int) ∉ out := fun hm => by have := h.lt _ hm; omega
  have hlc : ∀ n : Nat, n ≤ k → lc C t.frm n = smul (-cz iv) (lc C r.2 n) := by
    intro n
    induction n with
    | zero => intro _; funext i; simp only [lc, smul, zv]; grind
    | succ n ih =>
      intro hn
      simp only [lc]
      rw [ih (by omega), hfrm, if_neg (by omega), cz_mod, cz_mul, cz_neg]
      funext i; simp only [LinA.add, smul]; grind
  refine ⟨fun x hx => ?_, ech_snoc h.ech ?_ (fun y hy => ?_), fun v => ?_, fun x hx => ?_, fun x hx y hy => ?_, fun y hy => ?_, by simp [h.len]⟩
  · rcases List.mem_append.1 hx with hx | hx
    · exact h.good x hx
    · rw [List.mem_singleton.1 hx]; exact hgt
  · rw [hvt]
    show (cz iv : Fin P) * (vec r.1 : V P) (pv t) = 1
    rw [vec_pv r.1 (by rw [hrow]; exact hr0), hrow, ← cz_mul]
    apply fin_ext
    rw [cz_val, hin.2.2]
    have hp2 : 2 ≤ P := by have := (isP_true.mp hP).2.1; simpa using this
    show (1 : Int) = (((1 : Fin P).val : Nat) : Int)
    obtain ⟨q, rfl⟩ : ∃ q, P = q + 2 := ⟨P - 2, by omega⟩
    rfl
  · rw [hvt]
    show (cz iv : Fin P) * (vec r.1 : V P) (pv y) = 0
    rw [hpiv2 y hy]
    exact fin_mz _
  · constructor
    · intro hs
      refine hs.trans (fun u hu => ?_)
      rw [List.map_append] at hu
      rcases List.mem_append.1 hu with hu | hu
      · exact ((h.span u).1 (Sp.mem hu)).mono (fun z hz => List.mem_append_left _ hz)
      · simp only [List.map_cons, List.map_nil, List.mem_singleton] at hu
        subst hu
        rw [hvt]
        have h1 : Sp (L ++ [vec c]) (vec c : V P) := Sp.mem (List.mem_append_right _ (by simp))
        have h2 : Sp (L ++ [vec c]) w := ((h.span w).1 hw).mono (fun z hz => List.mem_append_left _ hz)
        have h3 := (h1.add (h2.smul (-1))).smul (cz iv)
        exact h3.of_eq (va1 _ hvw2)
    · intro hs
      refine hs.trans (fun u hu => ?_)
      rcases List.mem_append.1 hu with hu | hu
      · exact ((h.span u).2 (Sp.mem hu)).mono (fun z hz => by rw [List.map_append]; exact List.mem_append_left _ hz)
      · rw [List.mem_singleton.1 hu]
        have h1 : Sp ((S ++ [t]).map vc) (vc t : V P) := Sp.mem (by simp)
        have h2 : Sp ((S ++ [t]).map vc) w := hw.mono (fun z hz => by rw [List.map_append]; exact List.mem_append_left _ hz)
        have h3 := (h1.smul (cz (rd r.1 row))).add h2
        rw [hvt] at h3
        have h4 : (cz iv : Fin P) * cz (rd r.1 row) = 1 := by
          rw [← cz_mul]
          apply fin_ext
          rw [cz_val, hin.2.2]
          have hp2 : 2 ≤ P := by have := (isP_true.mp hP).2.1; simpa using this
          obtain ⟨q, rfl⟩ : ∃ q, P = q + 2 := ⟨P - 2, by omega⟩
          rfl
        rw [hvw2]
        exact h3.of_eq (va2 h4 _ _)
  · rcases List.mem_append.1 hx with hx | hx
    · simp only [lc]
      rw [h.off x hx _ hkout, cz_0, ← h.frm x hx]
      exact (va3 _ _).symm
    · rw [List.mem_singleton.1 hx]
      simp only [lc]
      rw [hlc k (Nat.le_refl _), hfrm, if_pos rfl, hk, hvt, hcomb]
      exact va4 _ _ _
  · have hy1 : y ∉ out := fun hm => hy (List.mem_append_left _ hm)
    have hy2 : y ≠ (k : Int) := fun e => hy (by rw [e]; exact List.mem_append_right _ (by simp))
    rcases List.mem_append.1 hx with hx | hx
    · exact h.off x hx y hy1
    · rw [List.mem_singleton.1 hx, hfrm, if_neg hy2, hzero y hy1]; simp
  · rcases List.mem_append.1 hy with hy | hy
    · have := h.lt y hy; omega
    · rw [List.mem_singleton.1 hy]; omega

open Classical in
/-- the places of the columns that none ahead of them tell -/
noncomputable def bas (vs : List (V P)) : Nat → List Int
  | 0 => []
  | k + 1 => bas vs k ++ if Sp (vs.take k) (vs.getD k zv) then [] else [(k : Int)]
theorem bas_in {vs : List (V P)} {k : Nat} (h : Sp (vs.take k) (vs.getD k zv)) : bas vs (k + 1) = bas vs k := by
  simp only [bas]; rw [if_pos h, List.append_nil]
theorem bas_out {vs : List (V P)} {k : Nat} (h : ¬ Sp (vs.take k) (vs.getD k zv)) : bas vs (k + 1) = bas vs k ++ [(k : Int)] := by
  simp only [bas]; rw [if_neg h]
theorem take_snoc {α : Type} (d : α) (l : List α) (k : Nat) (h : k < l.length) : l.take (k + 1) = l.take k ++ [l.getD k d] := by
  rw [List.take_add_one, List.getD_eq_getElem?_getD, List.getElem?_eq_getElem h]; rfl
theorem bas_len (hF : Fld P) (vs : List (V P)) : ∀ k, k ≤ vs.length → (bas vs k).length = rk (vs.take k) := by
  intro k
  induction k with
  | zero => intro _; rw [List.take_zero]; rfl
  | succ k ih =>
    intro h
    rw [take_snoc zv vs k (by omega)]
    by_cases hs : Sp (vs.take k) (vs.getD k zv)
    · rw [bas_in hs, LinA.rk_snoc_in hF hs, ih (by omega)]
    · rw [bas_out hs, LinA.rk_snoc_out hF hs, List.length_append, ih (by omega)]; rfl
theorem climb_cl {m : Nat} (hP : isP (P : Int) = true) (cols : List (List Int)) (hb : ∀ c ∈ cols, c.length = m ∧ Bd (P : Int) c) : ∀ (n k : Nat) (s : List T3 × List Int), cols.length - k = n → k ≤ cols.length →
    Cl m (fun i => (vec (cols.getD i []) : V P)) ((cols.take k).map vec) k s.1 s.2 → s.2 = bas (P := P) (cols.map vec) k →
    Cl m (fun i => (vec (cols.getD i []) : V P)) (cols.map vec) cols.length (climbS P (cols.drop k) k s).1 (climbS P (cols.drop k) k s).2 ∧ (climbS P (cols.drop k) k s).2 = bas (P := P) (cols.map vec) cols.length := by
  intro n
  induction n with
  | zero =>
    intro k s hn hk hcl hbs
    have e : k = cols.length := by omega
    subst e
    rw [List.drop_length]
    rw [List.take_length] at hcl
    exact ⟨hcl, hbs⟩
  | succ n ih =>
    intro k s hn hk hcl hbs
    have hlt : k < cols.length := by omega
    have hcm : cols[k] ∈ cols := List.getElem_mem hlt
    obtain ⟨hc, hbd⟩ := hb _ hcm
    have hgd : cols.getD k [] = cols[k] := by rw [List.getD_eq_getElem?_getD, List.getElem?_eq_getElem hlt]; rfl
    have hvg : (cols.map vec).getD k (zv : V P) = vec cols[k] := by rw [List.getD_eq_getElem?_getD, List.getElem?_map, List.getElem?_eq_getElem hlt]; rfl
    have htk : ((cols.map vec).take k : List (V P)) = (cols.take k).map vec := by rw [List.map_take]
    have hts : (cols.take (k + 1)).map vec = (cols.take k).map vec ++ [(vec cols[k] : V P)] := by
      rw [take_snoc [] cols k hlt, List.map_append, hgd]; rfl
    have hnone := addT_none hP hcl hc hbd (k : Int)
    rw [List.drop_eq_getElem_cons hlt]
    rw [show climbS (P : Int) (cols[k] :: cols.drop (k + 1)) k s = climbS P (cols.drop (k + 1)) (k + 1) (stepC P s k cols[k]) from rfl]
    cases ht : addT (P : Int) k s.1 cols[k] with
    | none =>
      have hsp := hnone.1 ht
      have hst : stepC (P : Int) s k cols[k] = s := by unfold stepC; rw [ht]
      rw [hst]
      refine ih (k + 1) s (by omega) (by omega) ?_ ?_
      · rw [hts]
        refine ⟨hcl.good, hcl.ech, fun v => (hcl.span v).trans ⟨fun h => h.mono (fun z hz => List.mem_append_left _ hz), fun h => h.trans (fun u hu => ?_)⟩, fun x hx => ?_, hcl.off, fun y hy => by have := hcl.lt y hy; omega, hcl.len⟩
        · rcases List.mem_append.1 hu with hu | hu
          · exact Sp.mem hu
          · rw [List.mem_singleton.1 hu]; exact hsp
        · rw [hcl.frm x hx]
          simp only [lc]
          rw [hcl.off x hx (k : Int) (fun hm => by have := hcl.lt _ hm; omega), cz_0]
          exact (va3 _ _).symm
      · rw [hbs, bas_in (by rw [hvg, htk]; exact hsp)]
    | some t =>
      have hsp : ¬ Sp ((cols.take k).map vec) (vec cols[k] : V P) := fun h => by rw [hnone.2 h] at ht; cases ht
      have hst : stepC (P : Int) s k cols[k] = (s.1 ++ [t], s.2 ++ [(k : Int)]) := by unfold stepC; rw [ht]
      rw [hst]
      refine ih (k + 1) _ (by omega) (by omega) ?_ ?_
      · rw [hts]
        exact addT_some hP hcl hc hbd (by show vec (cols.getD k []) = _; rw [hgd]) ht
      · show s.2 ++ [(k : Int)] = _
        rw [hbs, bas_out (by rw [hvg, htk]; exact hsp)]
theorem climb_all {m : Nat} (hP : isP (P : Int) = true) (cols : List (List Int)) (hb : ∀ c ∈ cols, c.length = m ∧ Bd (P : Int) c) :
    Cl m (fun i => (vec (cols.getD i []) : V P)) (cols.map vec) cols.length (climbS P cols 0 ([], [])).1 (climbS P cols 0 ([], [])).2 ∧ (climbS P cols 0 ([], [])).2 = bas (P := P) (cols.map vec) cols.length := by
  have h := climb_cl (m := m) hP cols hb cols.length 0 ([], []) (by omega) (by omega) ⟨fun x hx => absurd hx List.not_mem_nil, trivial, fun v => Iff.rfl, fun x hx => absurd hx List.not_mem_nil, fun x hx => absurd hx List.not_mem_nil, fun y hy => absurd hy List.not_mem_nil, rfl⟩ rfl
  rw [List.drop_zero] at h
  exact h
end
end Go.Proofs.Ytepakefmioeilaa.P
/- Layer 5: what elim.Basis and elim.Combo compute, and their walks. -/
namespace Go.Proofs.Ytepakefmioeilaa.P
open Go.RowKit Go.Proofs.YtepakefmioeilaaW.PrintWords Go.Proofs.YtepakefmioeilaaW.PrintLast Go.Proofs.YtepakefmioeilaaW.PrintMore
set_option linter.unusedVariables false
set_option linter.unusedSimpArgs false

theorem Ev.uniq {α : Type} {g : Nat → Option α} {r t : α} (hg : ∀ k, LeO (g k) (g (k + 1))) (h : Ev g r) {k : Nat} (hk : g k = some t) : t = r := by
  obtain ⟨K, hK⟩ := h
  have h1 := at_rounds hg (Nat.le_max_left k K) hk
  rw [hK _ (Nat.le_max_right k K)] at h1
  exact (Option.some.inj h1).symm
theorem may_true {k : Nat} {p rows : Int} {cols : List (List Int)} (h : elim_May.f k p rows cols = some true) : isP p = true ∧ 0 ≤ rows ∧ rows ≤ 64 ∧ cols.length ≤ 64 ∧ ∀ c ∈ cols, c.length = rows.toNat ∧ Bd p c := by
  unfold elim_May.f at h
  obtain ⟨t, ht, h⟩ := Option.bind_eq_some_iff.mp h
  have htt := Ev.uniq (modp_Prime.mono p) (Prime_eq p) ht
  simp only [Option.some.injEq, Bool.and_eq_true, Bool.not_eq_true', decide_eq_false_iff_not] at h
  obtain ⟨⟨⟨⟨h1, h2⟩, h3⟩, h4⟩, h5⟩ := h
  rw [htt] at h1
  refine ⟨h1, by omega, by omega, by omega, fun c hc => ?_⟩
  have h6 := List.any_eq_false.1 h5 c hc
  unfold elim_May.bad at h6
  simp only [Bool.or_eq_true, not_or, bne_iff_ne, ne_eq, Decidable.not_not, Bool.not_eq_true] at h6
  refine ⟨by omega, fun y hy => ?_⟩
  have h7 := List.any_eq_false.1 h6.2 y hy
  unfold elim_May.out at h7
  simp only [Bool.or_eq_true, decide_eq_true_eq, not_or] at h7
  omega

def elim_Basis.f (k : Nat) (a0 a1 : Int) (l2 : List (List Int)) : Option (List Int) :=
  (elim_May.f k a0 a1 l2).bind fun t => some (if t = true then (climbS a0 l2 0 ([], [])).2 else [])
theorem elim_Basis.mono : ∀ a0 a1 l2 k, LeO (elim_Basis.f k a0 a1 l2) (elim_Basis.f (k + 1) a0 a1 l2) := by
  intro a0 a1 l2 k
  unfold elim_Basis.f
  exact LeO.bind (elim_May.mono _ _ _ _) (fun _ => LeO.refl _)
set_option maxHeartbeats 400000 in
set_option maxRecDepth 100000 in
theorem elim_Basis.calls (k : Nat) (a0 a1 : Int) (A2 : Option Addr) (c2 : Nat) (l2 : List (List Int)) (r : List Int) (w : World) (hr2 : Kd.C (Kd.slice 3 (Kd.int .i64)) w A2 l2.length l2) (hc2 : l2.length ≤ c2) (h : elim_Basis.f k a0 a1 l2 = some r) :
    Calls Try.prog 12 #[.int .i64 a0, .int .i64 a1, .slice A2 l2.length c2] w fun e w' => ∃ v0_ : Value, e = .returned v0_ ∧ Kd.R (Kd.int .i64) 3 w' w.heap.size (fun _ => True) v0_ r ∧ Below w.heap.size w w' := by
  unfold elim_Basis.f at h
  obtain ⟨t, ht, h⟩ := Option.bind_eq_some_iff.mp h
  have HMAY := Aside0.mk (elim_May.calls k a0 a1 A2 c2 l2 t w hr2 hc2 ht)
  have HR := Aside0.mk hr2
  have HC := Aside0.mk hc2
  have HT := Aside0.mk ht
  replace h := Option.some.inj h
  have HE := Aside0.mk h
  clear hr2 hc2 ht h
  cases t with
  | false =>
    go_enter Try.func12, Try.ntmps12
    go_wp2_with (go_at_call 9; refine HMAY.out.mono ?_; rintro e w1 ⟨rfl, hb⟩; have HB := Aside0.mk hb; clear hb)
    go_ret
    refine ⟨_, rfl, ?_, HB.out⟩
    rw [← HE.out]
    exact Kd.R_nil _ _ _ _ _
  | true =>
    obtain ⟨hP, h0, h64, hn, hcs⟩ := may_true HT.out
    have HCL := Aside0.mk (fun W (hb : Below w.heap.size w W) => climb_c a0 a1.toNat A2 c2 l2 W hP (by omega) hn (Kd.C_below HR.out hb) HC.out hcs)
    clear hP h0 h64 hn hcs
    go_enter Try.func12, Try.ntmps12
    go_wp2_with (first
      | (go_at_call 9; refine HMAY.out.mono ?_; rintro e w1 ⟨rfl, hb⟩; have HB := Aside0.mk hb; clear hb)
      | (go_at_call 24; refine (HCL.out _ HB.out).mono ?_; rintro e w2 ⟨s, sv, S, v, rfl, hs, _, _, _, _, hv, hb, _, _, _⟩; have HV := Aside0.mk hv; have HB2 := Aside0.mk hb; clear hs hv hb))
    go_ret
    refine ⟨_, rfl, ?_, below_then HB.out (Below.size HB.out) HB2.out⟩
    rw [← HE.out]
    exact Kd.R_lower HV.out (Below.size HB.out)

def comboR (p : Int) (S : List T3) (n : Nat) (g : List Int) : List Int × Bool :=
  if (reduce p S g).1.any nz = true then ([], false) else ((List.range n).map (fun i : Nat => (reduce p S g).2 (i : Int)), true)
def elim_Combo.f (k : Nat) (a0 a1 : Int) (l2 : List (List Int)) (l3 : List Int) : Option (List Int × Bool) :=
  (elim_May.f k a0 a1 l2).bind fun t => if t = true then (elim_May.f k a0 a1 [l3]).bind fun u => if u = true then some (comboR a0 (climbS a0 l2 0 ([], [])).1 l2.length l3) else some ([], false) else some ([], false)
theorem elim_Combo.mono : ∀ a0 a1 l2 l3 k, LeO (elim_Combo.f k a0 a1 l2 l3) (elim_Combo.f (k + 1) a0 a1 l2 l3) := by
  intro a0 a1 l2 l3 k
  unfold elim_Combo.f
  exact LeO.bind (elim_May.mono _ _ _ _) (fun t => LeO.ite (LeO.bind (elim_May.mono _ _ _ _) (fun _ => LeO.refl _)) (LeO.refl _))

theorem climbS_good {p : Int} (hP : isP p = true) {m : Nat} : ∀ (cols : List (List Int)) (k : Nat) (s : List T3 × List Int), (∀ x ∈ s.1, Good p m x) → s.1.length ≤ k → s.2.length ≤ k → (∀ c ∈ cols, c.length = m ∧ Bd p c) → ∀ x ∈ (climbS p cols k s).1, Good p m x := by
  intro cols
  induction cols with
  | nil => intro k s h _ _ _; exact h
  | cons c r ih =>
    intro k s h h1 h2 hc
    obtain ⟨a, b, d⟩ := stepC_good hP h h1 h2 (hc c List.mem_cons_self).1 (hc c List.mem_cons_self).2
    exact ih (k + 1) _ a b d (fun x hx => hc x (List.mem_cons_of_mem _ hx))
theorem range_set (n : Nat) (g : Int → Int) (x v : Int) (h0 : 0 ≤ x) : ((List.range n).map (fun i : Nat => g i)).set x.toNat v = (List.range n).map (fun i : Nat => if (i : Int) = x then v else g i) := by
  apply List.ext_getElem?
  intro i
  rw [List.getElem?_set]
  simp only [List.length_map, List.length_range, List.getElem?_map]
  by_cases hi : i < n
  · rw [List.getElem?_range hi]
    simp only [Option.map_some]
    by_cases hx : x.toNat = i
    · rw [if_pos hx, if_pos (show x.toNat < n by omega), if_pos (show (i : Int) = x by omega)]
    · rw [if_neg hx, if_neg (show ¬ (i : Int) = x by omega)]
  · have : (List.range n)[i]? = none := by simp; omega
    rw [this]
    simp only [Option.map_none]
    by_cases hx : x.toNat = i
    · rw [if_pos hx, if_neg (show ¬ x.toNat < n by omega)]
    · rw [if_neg hx]
theorem replicate_range (n : Nat) : List.replicate n (0 : Int) = (List.range n).map (fun i : Nat => (fun _ : Int => (0 : Int)) (i : Int)) := by
  apply List.ext_getElem?
  intro i
  simp only [List.getElem?_replicate, List.getElem?_map]
  by_cases hi : i < n
  · rw [if_pos hi, List.getElem?_range hi]; rfl
  · have : (List.range n)[i]? = none := by simp; omega
    rw [if_neg hi, this]; rfl

/-- a row of one row -/
theorem one_row {W : World} {B : Nat} {A : Option Addr} {c : Nat} {l : List Int} (hc : W.cell? ⟨B, 0, none⟩ = some (.slice A l.length c)) (hl : l.length ≤ c) (hr : Kd.C (Kd.int .i64) W A l.length l) : Kd.C (Kd.slice 3 (Kd.int .i64)) W (some ⟨B, 0, none⟩) [l].length [l] := by
  refine ⟨rfl, by simp, fun _ => ⟨_, rfl, fun j p hj => ?_⟩⟩
  match j, hj with
  | 0, hj =>
    have hj' : l = p := by simpa using hj
    subst hj'
    refine ⟨[.slice A l.length c], rfl, ⟨A, c, rfl, hl, hr⟩, fun i u hu => ?_⟩
    match i, hu with
    | 0, hu =>
      have hu' : Value.slice A l.length c = u := by simpa using hu
      subst hu'
      simpa [Addr.add] using hc

set_option maxHeartbeats 400000 in
set_option maxRecDepth 100000 in
theorem elim_Combo.calls_ (k : Nat) (a0 a1 : Int) (A2 : Option Addr) (c2 : Nat) (l2 : List (List Int)) (A3 : Option Addr) (c3 : Nat) (l3 : List Int) (r : List Int × Bool) (w : World) (hr2 : Kd.C (Kd.slice 3 (Kd.int .i64)) w A2 l2.length l2) (hc2 : l2.length ≤ c2) (hr3 : Kd.C (Kd.int .i64) w A3 l3.length l3) (hc3 : l3.length ≤ c3) (h : elim_Combo.f k a0 a1 l2 l3 = some r) :
    Calls Try.prog 16 #[.int .i64 a0, .int .i64 a1, .slice A2 l2.length c2, .slice A3 l3.length c3] w fun e w' => ∃ v0_ : Value, e = .returned (.tuple #[v0_, .bool r.2]) ∧ Kd.R (Kd.int .i64) 3 w' w.heap.size (fun _ => True) v0_ r.1 ∧ Below w.heap.size w w' := by
  unfold elim_Combo.f at h
  obtain ⟨t, ht, h⟩ := Option.bind_eq_some_iff.mp h
  have HMAY := Aside0.mk (elim_May.calls k a0 a1 A2 c2 l2 t w hr2 hc2 ht)
  have HR := Aside0.mk hr2
  have HC := Aside0.mk hc2
  have HR3 := Aside0.mk hr3
  have HC3 := Aside0.mk hc3
  have HT := Aside0.mk ht
  clear hr2 hc2 hr3 hc3 ht
  cases t with
  | false =>
    have HE := Aside0.mk (Option.some.inj h)
    clear h
    go_enter Try.func16, Try.ntmps16
    go_wp2_with (go_at_call 9; refine HMAY.out.mono ?_; rintro e w1 ⟨rfl, hb⟩; have HB := Aside0.mk hb; clear hb)
    go_ret2
    refine ⟨_, by rw [← HE.out]; rfl, ?_, HB.out⟩
    rw [← HE.out]
    exact Kd.R_nil _ _ _ _ _
  | true =>
    rw [if_pos rfl] at h
    obtain ⟨u, hu, h⟩ := Option.bind_eq_some_iff.mp h
    have HM2 := Aside0.mk (fun W (hb : Below w.heap.size w W) (B : Nat) (hc : W.cell? ⟨B, 0, none⟩ = some (.slice A3 l3.length c3)) => elim_May.calls k a0 a1 (some ⟨B, 0, none⟩) 1 [l3] u W (one_row hc HC3.out (Kd.C_below HR3.out hb)) (by simp) hu)
    have HU := Aside0.mk hu
    clear hu
    cases u with
    | false =>
      have HE := Aside0.mk (Option.some.inj h)
      clear h
      go_enter Try.func16, Try.ntmps16
      go_wp2_with (fail)
      refine HMAY.out.mono ?_
      rintro e w1 ⟨rfl, hb⟩
      have HB := Aside0.mk hb
      clear hb
      go_wp2_with (fail)
      have hbx := HB.out.alloc (Below.size HB.out) (Obj.cells #[Value.slice A3 l3.length c3] 26)
      refine (HM2.out _ hbx w1.heap.size (by go_simp)).mono ?_
      rintro e w2 ⟨rfl, hb⟩
      have HB2 := Aside0.mk (below_then hbx (Below.size hbx) hb)
      clear hb hbx
      go_wp2_with (fail)
      go_ret2
      refine ⟨_, by rw [← HE.out]; rfl, ?_, HB2.out⟩
      rw [← HE.out]
      exact Kd.R_nil _ _ _ _ _
    | true =>
      have HE := Aside0.mk (Option.some.inj h)
      clear h
      obtain ⟨hP, h0, h64, hn, hcs⟩ := may_true HT.out
      have hg3 := (may_true HU.out).2.2.2.2 l3 List.mem_cons_self
      have HCL := Aside0.mk (fun W (hb : Below w.heap.size w W) => climb_c a0 a1.toNat A2 c2 l2 W hP (by omega) hn (Kd.C_below HR.out hb) HC.out hcs)
      have HPP := Aside0.mk (And.intro hP (And.intro hg3 (And.intro hn h64)))
      clear hP h0 h64 hn hcs hg3
      go_enter Try.func16, Try.ntmps16
      go_wp2_with (fail)
      refine HMAY.out.mono ?_
      rintro e w1 ⟨rfl, hb⟩
      have HB := Aside0.mk hb
      clear hb
      go_wp2_with (fail)
      have hbx := HB.out.alloc (Below.size HB.out) (Obj.cells #[Value.slice A3 l3.length c3] 26)
      refine (HM2.out _ hbx w1.heap.size (by go_simp)).mono ?_
      rintro e w2 ⟨rfl, hb⟩
      have HB2 := Aside0.mk (below_then hbx (Below.size hbx) hb)
      clear hb hbx
      go_wp2_with (fail)
      refine (HCL.out _ HB2.out).mono ?_
      rintro e w3 ⟨s, sv, S, v, rfl, hs, hsc, ⟨ok, hsr⟩, hM, hmap, hv, hb, hg, hsl, _⟩
      have HB3 := Aside0.mk (below_then HB2.out (Below.size HB2.out) hb)
      obtain ⟨As, cs, rfl, hlc, hSC⟩ := Kd.R_reads hsr
      have HRED := Aside0.mk (reduce_c s a0 l2.length S As cs A3 c3 l3 w3 (blk_cell hsc 0) (blk_cell hsc 1) hSC hlc hM (by have := HPP.out.2.2.1; omega) (isP_ok HPP.out.1) (Kd.C_below HR3.out HB3.out) HC3.out (by have := HPP.out.2.1.1; have := HPP.out.2.2; omega) HPP.out.2.1.2 (fun x hx => by have := hg x hx; rw [HPP.out.2.1.1]; exact this) (by have := HPP.out.2.2.1; omega))
      rw [hmap] at HRED
      clear hs hsc hsr hM hmap hv hb hg hsl hlc hSC
      go_wp2_with (fail)
      refine HRED.out.mono ?_
      rintro e w4 ⟨v4, b, rfl, hv4, hm4, hlt4, hb4⟩
      have HV4 := Aside0.mk hv4
      have HM4 := Aside0.mk hm4
      have HB4 := Aside0.mk (below_then HB3.out (Below.size HB3.out) hb4)
      clear hv4 hm4 hlt4 hb4
      go_wp2_with (fail)
      have hok := foldl_ok (isP_ok HPP.out.1) (m := a1.toNat) (climbS a0 l2 0 ([], [])).1 (l3, fun _ => 0) HPP.out.2.1.1 HPP.out.2.1.2 (fun _ => ⟨Int.le_refl _, (by have := isP_ok HPP.out.1; have := this.1; show (0:Int) < a0; omega)⟩) (climbS_good HPP.out.1 l2 0 ([], []) (fun x hx => absurd hx List.not_mem_nil) (Nat.le_refl _) (Nat.le_refl _) (may_true HT.out).2.2.2.2)
      have hok2 : (reduce a0 (climbS a0 l2 0 ([], [])).1 l3).1.length = a1.toNat ∧ Bd a0 (reduce a0 (climbS a0 l2 0 ([], [])).1 l3).1 ∧ BdF a0 (reduce a0 (climbS a0 l2 0 ([], [])).1 l3).2 := hok
      have hcr : comboR a0 (climbS a0 l2 0 ([], [])).1 l2.length l3 = if (reduce a0 (climbS a0 l2 0 ([], [])).1 l3).1.any nz = true then ([], false) else ((List.range l2.length).map (fun i : Nat => (reduce a0 (climbS a0 l2 0 ([], [])).1 l3).2 (i : Int)), true) := rfl
      have HCR := Aside0.mk (HE.out.symm.trans hcr)
      clear hok hcr HRED HCL HE HM2 HMAY
      generalize reduce a0 (climbS a0 l2 0 ([], [])).1 l3 = red at *
      obtain ⟨rest, tk⟩ := red
      dsimp only at hok2 HV4 HM4 HCR
      have HOK := Aside0.mk hok2
      clear hok2
      obtain ⟨Av, cv, rfl⟩ := Kd.R_slice HV4.out
      refine (hasInt_c Av cv rest 27 #[] nz w4 (Kd.R_reads' HV4.out).2.2 (Kd.R_reads' HV4.out).2.1 (by have := HOK.out.1; have := HPP.out.2.2.2; omega) (enters_of Try.func27 (by kernel_rfl) rfl) (fun n x _ => nz27_c x _)).mono ?_
      rintro e w5 ⟨rfl, ⟨q, rfl⟩⟩
      have HBq := Aside0.mk (pw_below_drewN HB4.out q)
      have HMq := Aside0.mk (HM4.out.drewN q)
      cases hany : rest.any nz with
      | true =>
        rw [hany, if_pos rfl] at HCR
        clear hany
        go_wp2_with (fail)
        go_ret2
        refine ⟨_, by rw [HCR.out]; rfl, ?_, HBq.out⟩
        rw [HCR.out]
        exact Kd.R_nil _ _ _ _ _
      | false =>
        rw [hany, if_neg (by simp)] at HCR
        clear hany
        generalize w4.drewN q = wq at HBq HMq ⊢
        have hn0 : 0 ≤ (l2.length : Int) := by omega
        go_wp2_with (first
          | ((with_reducible refine gate_dst (N := 46) rfl ?_); refine Kd.R_make (Kd.int .i64) w.heap.size 3 rfl (N := 46) rfl 26 _ _ rfl (l2.length : Int) rfl rfl Try.underlying26 (.int .i64 0) 8 infoI rfl (by decide) (by omega) 0 (ok := fun _ => True) (okp := fun _ => True) rfl (fun _ hk => hk) trivial (by omega) (by have := HPP.out.2.2.1; omega) HBq.out (Below.size HBq.out) ?_; intro v6 w6 ho6 hb6 hg6 hn6; have HO6 := Aside0.mk ho6; have HB6 := Aside0.mk hb6; have HM6 := Aside0.mk (HMq.out.kept hg6 (by simp)); clear ho6 hb6 hg6 hn6)
          | ((with_reducible refine gate_dst (N := 48) rfl ?_); refine range_step rfl _ rfl b (l2.length : Int) tk rfl HM6.out ?_; intro w7 left cnt hgo hleft hg7 hsz7))
        try go_simp
        have hrep := HO6.out
        rw [Int.toNat_natCast, replicate_range] at hrep
        obtain ⟨A6, c6, rfl⟩ := Kd.R_slice hrep
        have HO7 := Aside0.mk (Kd.R_grown (row := none) hrep hg7 (fun k _ => by simp))
        have HB7 := Aside0.mk (HB6.out.grown hg7 (Below.size HB6.out) (fun k hk => by simp at hk))
        have HGO := Aside0.mk hgo
        have HT7 : Aside0 (∀ y, (fun _ : Int => (0 : Int)) y = if left y = true then 0 else tk y) := ⟨fun y => by
          cases hly : left y with
          | true => simp
          | false => rw [hleft y hly]; simp⟩
        have hl64 : (l2.length : Int) ≤ 64 := by have := HPP.out.2.2.1; omega
        have hll : ((List.range l2.length).map (fun i : Nat => (fun _ : Int => (0 : Int)) (i : Int))).length = l2.length := by simp
        have HB6s := Aside0.mk (Below.size HB6.out)
        have HLTV := Aside0.mk (Kd.R_lt hrep)
        clear hrep hg7 hsz7 hgo hleft HO6
        rw [hll] at HO7
        rw [hll] at HLTV
        simp only [hll]
        generalize w6.heap.size = rr at HGO HB6s HLTV ⊢
        go_loopg [49] (cnt) (fun g2 s49 wx => ∃ (lf : Int → Bool) (ct : Nat) (f : Int → Int), ct ≤ g2 ∧ Aside0 (Goes wx b rr (l2.length : Int) tk lf ct) ∧ Aside0 (Kd.R (Kd.int .i64) 3 wx w.heap.size (fun _ => True) (.slice A6 l2.length c6) ((List.range l2.length).map (fun i : Nat => f i))) ∧ Aside0 (∀ y, f y = if lf y = true then 0 else tk y) ∧ Aside0 (Below w.heap.size w wx))
        case atStart => exact ⟨left, cnt, _, Nat.le_refl _, HGO, HO7, HT7, HB7⟩
        case round =>
          obtain ⟨lf, ct, f, hct, HGx, HOx, HTx, HBx⟩ := hrel
          have HWx := Aside0.mk hct
          clear hct
          by_cases hz0 : ct = 0
          · subst hz0
            go_wp2_with (first | ((with_reducible refine gate_dst (N := 49) rfl ?_); refine next_step rfl _ rfl b _ (l2.length : Int) tk lf 0 rfl HGx.out (fun _ hl => ?_) (fun x w5 c5 _ _ _ _ hlt5 => absurd hlt5 (by omega)); have HLF := Aside0.mk hl; clear hl))
            go_ret2
            refine ⟨_, by rw [HCR.out]; rfl, ?_, HBx.out⟩
            rw [HCR.out]
            have he : (fun i : Nat => f (i : Int)) = (fun i : Nat => tk (i : Int)) := funext fun i => by rw [HTx.out, HLF.out]; rfl
            rw [← he]; exact HOx.out
          · go_wp2_with (first | ((with_reducible refine gate_dst (N := 49) rfl ?_); refine next_step rfl _ rfl b _ (l2.length : Int) tk lf ct rfl HGx.out (fun h0 _ => absurd h0 hz0) (fun x w8 c8 hlx hx0 hxN hgo8 hlt8 hgr8 hsz8 hen => ?_); have HO8 := Aside0.mk (R_int_step HOx.out (fun k hk hlt => hgr8.block k hlt (fun e => by injection e with e; have := HLTV.out k hk; omega))); have HG8 := Aside0.mk hgo8; have HB8 := Aside0.mk (pw_below_grown HBx.out _ (Below.size HBx.out) hgr8 (fun k hk => by injection hk with hk; have := HB6s.out; omega)); have HX8 := Aside0.mk (And.intro hlx (And.intro hlt8 hgr8)); obtain ⟨g6, cap6, ev6, hgb6, _, cells6, hgc6⟩ := Kd.R_form HO8.out (by simp; omega); injection ev6 with ea6 eb6 ec6; clear eb6; subst ec6; subst ea6; obtain ⟨hcv, hfv⟩ := Kd.R_celln 0 HO8.out x hx0 hxN; generalize rdOf 0 _ x = zz at hcv; have HPUT := Aside0.mk (Kd.R_putn HO8.out x (tk x)); rw [range_set _ _ _ _ hx0] at HPUT; have HGB := Aside0.mk hgb6; have HGC := Aside0.mk hgc6; have HTY : Aside0 (∀ y, (if y = x then tk x else f y) = if (lf y && !decide (y = x)) = true then 0 else tk y) := ⟨fun y => by by_cases e : y = x <;> simp [e, HTx.out y]⟩; clear hlx hlt8 hgr8 hsz8 hgo8 hgb6 hgc6))
            have hset := gb_set w8 g6 x.toNat (.int .i64 (tk x))
            have hgx := HG8.out.kept hset (fun e => (HG8.out.map.ne_blk HGC.out) (by injection e)) (fun e => by injection e with e; have := HLTV.out g6 (by simp [Value.ownBlock]); omega)
            go_roundg c8
            case measure => have := HX8.out.2.1; have := HWx.out; omega
            case rel => exact ⟨_, c8, fun y => if y = x then tk x else f y, Nat.le_refl _, ⟨hgx⟩, HPUT, HTY, ⟨pw_below_grown HB8.out _ (Below.size HB8.out) hset (fun k hk => by injection hk with hk; rw [← hk]; exact HGB.out)⟩⟩
theorem elim_Combo.calls (k : Nat) (a0 a1 : Int) (A2 : Option Addr) (c2 : Nat) (l2 : List (List Int)) (A3 : Option Addr) (c3 : Nat) (l3 : List Int) (r1 : List Int) (r2 : Bool) (w : World) (hr2 : Kd.C (Kd.slice 3 (Kd.int .i64)) w A2 l2.length l2) (hc2 : l2.length ≤ c2) (hr3 : Kd.C (Kd.int .i64) w A3 l3.length l3) (hc3 : l3.length ≤ c3) (h : elim_Combo.f k a0 a1 l2 l3 = some (r1, r2)) :
    Calls Try.prog 16 #[.int .i64 a0, .int .i64 a1, .slice A2 l2.length c2, .slice A3 l3.length c3] w fun e w' => ∃ v0_ : Value, e = .returned (.tuple #[v0_, .bool r2]) ∧ Kd.R (Kd.int .i64) 3 w' w.heap.size (fun _ => True) v0_ r1 ∧ Below w.heap.size w w' := elim_Combo.calls_ k a0 a1 A2 c2 l2 A3 c3 l3 (r1, r2) w hr2 hc2 hr3 hc3 h
end Go.Proofs.Ytepakefmioeilaa.P
-- written by wip/tool/ownprint.py of this claim's own repository, out of the translation's print
namespace Go.Proofs.Ytepakefmioeilaa.P
open Go.RowKit Go.Proofs.YtepakefmioeilaaW.PrintWords Go.Proofs.YtepakefmioeilaaW.PrintLast Go.Proofs.YtepakefmioeilaaW.PrintMore
attribute [local go_sem] max2_int min2_int max_two min_two max_three min_three max_four min_four   -- for this text's walks alone
set_option linter.unusedVariables false
set_option linter.unusedSimpArgs false

/-! ### elim_Rank: function 14 -/
def elim_Rank.f (k : Nat) (a0 : Int) (a1 : Int) (l2 : List (List Int)) : Option (Int) := (elim_May.f k a0 a1 l2).bind fun t112 => (if t112 = true then ((elim_Basis.f k a0 a1 l2).bind fun t113 => (some (t113.length : Int))) else (some (-1)))
theorem elim_Rank.mono : ∀ a0 a1 a2 k, LeO (elim_Rank.f k a0 a1 a2) (elim_Rank.f (k + 1) a0 a1 a2) := by
  intro a0 a1 a2 k
  unfold elim_Rank.f
  repeat' first
      | (with_reducible exact elim_Basis.mono _ _ _ _)
      | (with_reducible exact elim_May.mono _ _ _ _)
      | (with_reducible exact LeO.refl _)
      | (with_reducible exact LeO.none _)
      | (with_reducible refine LeO.ite ?_ ?_)
      | (with_reducible refine LeO.bind ?_ (fun _ => ?_))
      | exact elim_Basis.mono _ _ _ _
      | exact elim_May.mono _ _ _ _
      | exact LeO.none _
      | refine LeO.ite ?_ ?_
      | refine LeO.bind ?_ (fun _ => ?_)
set_option maxHeartbeats 8000000 in
set_option maxRecDepth 100000 in
theorem elim_Rank.calls (k : Nat) (a0 : Int) (a1 : Int) (A2 : Option Addr) (c2 : Nat) (l2 : List (List Int)) (r : Int) (w : World) (hr2 : Kd.C (Kd.slice 3 (Kd.int .i64)) w A2 l2.length l2) (hc2 : l2.length ≤ c2) (h : elim_Rank.f k a0 a1 l2 = some r) :
    Calls Try.prog 14 #[.int .i64 a0, .int .i64 a1, .slice A2 l2.length c2] w fun e w' => e = .returned (.int .i64 r) ∧ Below w.heap.size w w' := by
  have HR2 := Aside0.mk hr2
  have HC2 := Aside0.mk hc2
  clear hr2 hc2
  have HB := Aside0.mk (Below.refl w.heap.size w)
  have H : ((elim_May.f k a0 a1 l2).bind fun t112 => (if t112 = true then ((elim_Basis.f k a0 a1 l2).bind fun t113 => (some (t113.length : Int))) else (some (-1)))) = some r := h
  clear h
  replace H := Option.bind_eq_some_iff.mp H
  obtain ⟨t112, A40, H⟩ := H
  replace H : (if t112 = true then ((elim_Basis.f k a0 a1 l2).bind fun t113 => (some (t113.length : Int))) else (some (-1))) = some r := H
  have A4 := Aside0.mk A40
  clear A40
  by_cases c5 : t112 = true
  · subst c5
    have H1 : ((elim_Basis.f k a0 a1 l2).bind fun t113 => (some (t113.length : Int))) = some r := by rw [if_pos rfl] at H; exact H
    clear H
    have H := H1
    clear H1
    replace H := Option.bind_eq_some_iff.mp H
    obtain ⟨t113, A60, H⟩ := H
    replace H : (some (t113.length : Int)) = some r := H
    have A6 := Aside0.mk A60
    clear A60
    obtain rfl := Option.some.inj H
    go_enter Try.func14, Try.ntmps14
    go_wp2_with (first | ((with_reducible refine gate_callee (f := 9) rfl ?_); refine goesL_ (some 10) rfl rfl Try.func9 (by kernel_rfl) rfl #[.int .i64 a0, .int .i64 a1, .slice A2 l2.length c2] rfl (by (try simp only [List.map_toArray, List.map_cons, List.map_nil]); first | done | rfl | (simp only [List.length_drop, List.length_take]; rfl)) ?_; (with_reducible refine (elim_May.calls k a0 a1 _ _ l2 true _ ?side1 ?side2 A4.out).mono ?_); (case side1 => repeat (first | exact HR2.out | (with_reducible refine Kd.C_alloc ?_ _) | (with_reducible refine Kd.C_drewN ?_ _) | (with_reducible refine Kd.C_drew ?_))); (case side2 => exact HC2.out); rintro e w7 ⟨rfl, hb⟩; refine ⟨_, rfl, ?_⟩; have n0_ := Aside0.mk (below_step (by repeat (first | (with_reducible first | exact HB.out | apply below_alloc | apply pw_below_drewN | apply below_drew1) | exact HB.out)) hb); clear HB; have HB := n0_; clear n0_; (try clear hb); (try clear hb2); (try clear hk); (try clear hi)) | ((with_reducible refine gate_callee (f := 12) rfl ?_); refine goesL_ (some 15) rfl rfl Try.func12 (by kernel_rfl) rfl #[.int .i64 a0, .int .i64 a1, .slice A2 l2.length c2] rfl (by (try simp only [List.map_toArray, List.map_cons, List.map_nil]); first | done | rfl | (simp only [List.length_drop, List.length_take]; rfl)) ?_; (with_reducible refine (elim_Basis.calls k a0 a1 _ _ l2 t113 _ ?side1 ?side2 A6.out).mono ?_); (case side1 => repeat (first | exact (Kd.C_below HR2.out HB.out) | (with_reducible refine Kd.C_alloc ?_ _) | (with_reducible refine Kd.C_drewN ?_ _) | (with_reducible refine Kd.C_drew ?_))); (case side2 => exact HC2.out); rintro e w8 ⟨v114, rfl, ho0, hb⟩; refine ⟨_, rfl, ?_⟩; have n0_ := Aside0.mk (Kd.R_lower ho0 (below_size (by repeat (first | (with_reducible first | exact HB.out | apply below_alloc | apply pw_below_drewN | apply below_drew1) | exact HB.out)))); have n1_ := Aside0.mk (below_step (by repeat (first | (with_reducible first | exact HB.out | apply below_alloc | apply pw_below_drewN | apply below_drew1) | exact HB.out)) hb); clear HB; have HO115 := n0_; have HB := n1_; clear n0_ n1_; (try clear hb); (try clear hb2); (try clear hk); (try clear hi); (try clear ho0); obtain ⟨Ao9, co9, eo9⟩ := Kd.R_slice HO115.out; subst eo9))
    go_ret
    exact ⟨by first | rfl | (simp [errW_none, errW_some] <;> rfl) | (simp [*, errW_none, errW_some] <;> rfl), by repeat (first | (with_reducible first | exact HB.out | apply below_alloc | apply pw_below_drewN | apply below_drew1) | exact HB.out)⟩
  · replace c5 := Bool.eq_false_iff.mpr c5
    subst c5
    have H1 : (some (-1)) = some r := by rw [if_neg (show ¬ (false = true) by decide)] at H; exact H
    clear H
    have H := H1
    clear H1
    obtain rfl := Option.some.inj H
    go_enter Try.func14, Try.ntmps14
    go_wp2_with (first | ((with_reducible refine gate_callee (f := 9) rfl ?_); refine goesL_ (some 10) rfl rfl Try.func9 (by kernel_rfl) rfl #[.int .i64 a0, .int .i64 a1, .slice A2 l2.length c2] rfl (by (try simp only [List.map_toArray, List.map_cons, List.map_nil]); first | done | rfl | (simp only [List.length_drop, List.length_take]; rfl)) ?_; (with_reducible refine (elim_May.calls k a0 a1 _ _ l2 false _ ?side1 ?side2 A4.out).mono ?_); (case side1 => repeat (first | exact HR2.out | (with_reducible refine Kd.C_alloc ?_ _) | (with_reducible refine Kd.C_drewN ?_ _) | (with_reducible refine Kd.C_drew ?_))); (case side2 => exact HC2.out); rintro e w10 ⟨rfl, hb⟩; refine ⟨_, rfl, ?_⟩; have n0_ := Aside0.mk (below_step (by repeat (first | (with_reducible first | exact HB.out | apply below_alloc | apply pw_below_drewN | apply below_drew1) | exact HB.out)) hb); clear HB; have HB := n0_; clear n0_; (try clear hb); (try clear hb2); (try clear hk); (try clear hi)))
    go_ret
    exact ⟨by first | rfl | (simp [errW_none, errW_some] <;> rfl) | (simp [*, errW_none, errW_some] <;> rfl), by repeat (first | (with_reducible first | exact HB.out | apply below_alloc | apply pw_below_drewN | apply below_drew1) | exact HB.out)⟩

-- NOT PRINTED: function 21 (slices_ContainsFunc_int_int_21)

/-! ### elim_Combo: function 16 -/
end Go.Proofs.Ytepakefmioeilaa.P
-- written by wip/tool/ownprint.py of this claim's own repository, out of the translation's print
namespace Go.Proofs.Ytepakefmioeilaa.P
open Go.RowKit Go.Proofs.YtepakefmioeilaaW.PrintWords Go.Proofs.YtepakefmioeilaaW.PrintLast Go.Proofs.YtepakefmioeilaaW.PrintMore
attribute [local go_sem] max2_int min2_int max_two min_two max_three min_three max_four min_four   -- for this text's walks alone
set_option linter.unusedVariables false
set_option linter.unusedSimpArgs false

/-! ### greenwoodlaw05_fixed: function 8 -/
def greenwoodlaw05_fixed.f (k : Nat)  : Option (Bool) := (some (([(([1, 2] : List Int)), (([2, 4] : List Int)), (([0, 1] : List Int))] : List (List Int)) : List (List Int))).bind fun y125 => ((elim_Combo.f k 5 2 y125 (([3, 4] : List Int))).bind fun bt131 => (if 2 ≤ (y125.length : Int) then ((elim_Combo.f k 5 2 (y125.take 2) (([0, 1] : List Int))).bind fun bt143 => ((elim_Combo.f k 5 2 ([] : List (List Int)) (([0, 0] : List Int))).bind fun bt150 => ((elim_Basis.f k 5 2 y125).bind fun t154 => ((greenwoodref01_Same.f k t154 (([0, 2] : List Int))).bind fun t160 => (if t160 = true then ((elim_Rank.f k 5 2 y125).bind fun t161 => (if t161 = 2 then (if bt131.2 = true then ((greenwoodref01_Same.f k bt131.1 (([3, 0, 3] : List Int))).bind fun t165 => (if t165 = true then (if bt143.2 = true then (some false) else (if bt150.2 = true then (if (bt150.1.length : Int) = 0 then ((elim_May.f k 5 2 y125).bind fun t166 => (if t166 = true then ((elim_May.f k 4 2 y125).bind fun t167 => (if t167 = true then (some false) else ((elim_Rank.f k 5 3 y125).bind fun t168 => (some (t168 == (-1)))))) else (some false))) else (some false)) else (some false))) else (some false))) else (some false)) else (some false))) else (some false)))))) else (none)))
theorem greenwoodlaw05_fixed.mono : ∀ k, LeO (greenwoodlaw05_fixed.f k ) (greenwoodlaw05_fixed.f (k + 1) ) := by
  intro  k
  unfold greenwoodlaw05_fixed.f
  repeat' first
      | (with_reducible exact elim_Basis.mono _ _ _ _)
      | (with_reducible exact elim_Combo.mono _ _ _ _ _)
      | (with_reducible exact elim_May.mono _ _ _ _)
      | (with_reducible exact elim_Rank.mono _ _ _ _)
      | (with_reducible exact greenwoodref01_Same.mono _ _ _)
      | (with_reducible exact LeO.refl _)
      | (with_reducible exact LeO.none _)
      | (with_reducible refine LeO.ite ?_ ?_)
      | (with_reducible refine LeO.bind ?_ (fun _ => ?_))
      | exact elim_Basis.mono _ _ _ _
      | exact elim_Combo.mono _ _ _ _ _
      | exact elim_May.mono _ _ _ _
      | exact elim_Rank.mono _ _ _ _
      | exact greenwoodref01_Same.mono _ _ _
      | exact LeO.none _
      | refine LeO.ite ?_ ?_
      | refine LeO.bind ?_ (fun _ => ?_)
set_option maxHeartbeats 8000000 in
set_option maxRecDepth 100000 in
theorem greenwoodlaw05_fixed.callsT (k : Nat)  (r : Bool) (w : World) (hrT : r = true) (h : greenwoodlaw05_fixed.f k  = some r) :
    Calls Try.prog 8 #[] w fun e w' => e = .returned (.bool r) ∧ Below w.heap.size w w' := by
  have HB := Aside0.mk (Below.refl w.heap.size w)
  have H : ((some (([(([1, 2] : List Int)), (([2, 4] : List Int)), (([0, 1] : List Int))] : List (List Int)) : List (List Int))).bind fun y125 => ((elim_Combo.f k 5 2 y125 (([3, 4] : List Int))).bind fun bt131 => (if 2 ≤ (y125.length : Int) then ((elim_Combo.f k 5 2 (y125.take 2) (([0, 1] : List Int))).bind fun bt143 => ((elim_Combo.f k 5 2 ([] : List (List Int)) (([0, 0] : List Int))).bind fun bt150 => ((elim_Basis.f k 5 2 y125).bind fun t154 => ((greenwoodref01_Same.f k t154 (([0, 2] : List Int))).bind fun t160 => (if t160 = true then ((elim_Rank.f k 5 2 y125).bind fun t161 => (if t161 = 2 then (if bt131.2 = true then ((greenwoodref01_Same.f k bt131.1 (([3, 0, 3] : List Int))).bind fun t165 => (if t165 = true then (if bt143.2 = true then (some false) else (if bt150.2 = true then (if (bt150.1.length : Int) = 0 then ((elim_May.f k 5 2 y125).bind fun t166 => (if t166 = true then ((elim_May.f k 4 2 y125).bind fun t167 => (if t167 = true then (some false) else ((elim_Rank.f k 5 3 y125).bind fun t168 => (some (t168 == (-1)))))) else (some false))) else (some false)) else (some false))) else (some false))) else (some false)) else (some false))) else (some false)))))) else (none)))) = some r := h
  clear h
  obtain ⟨y116, hy116⟩ : ∃ y_ : List Int, y_ = (([1, 2] : List Int)) := ⟨_, rfl⟩
  replace H : ((some (([y116, (([2, 4] : List Int)), (([0, 1] : List Int))] : List (List Int)) : List (List Int))).bind fun y125 => ((elim_Combo.f k 5 2 y125 (([3, 4] : List Int))).bind fun bt131 => (if 2 ≤ (y125.length : Int) then ((elim_Combo.f k 5 2 (y125.take 2) (([0, 1] : List Int))).bind fun bt143 => ((elim_Combo.f k 5 2 ([] : List (List Int)) (([0, 0] : List Int))).bind fun bt150 => ((elim_Basis.f k 5 2 y125).bind fun t154 => ((greenwoodref01_Same.f k t154 (([0, 2] : List Int))).bind fun t160 => (if t160 = true then ((elim_Rank.f k 5 2 y125).bind fun t161 => (if t161 = 2 then (if bt131.2 = true then ((greenwoodref01_Same.f k bt131.1 (([3, 0, 3] : List Int))).bind fun t165 => (if t165 = true then (if bt143.2 = true then (some false) else (if bt150.2 = true then (if (bt150.1.length : Int) = 0 then ((elim_May.f k 5 2 y125).bind fun t166 => (if t166 = true then ((elim_May.f k 4 2 y125).bind fun t167 => (if t167 = true then (some false) else ((elim_Rank.f k 5 3 y125).bind fun t168 => (some (t168 == (-1)))))) else (some false))) else (some false)) else (some false))) else (some false))) else (some false)) else (some false))) else (some false)))))) else (none)))) = some r := by first | (rw [hy116]; with_reducible exact H) | (have H2_ := (Option.bind_some _ _).symm.trans H; rw [hy116]; with_reducible exact H2_) | (have H2_ := (Option.bind_some _ _).symm.trans H; with_reducible exact H2_) | with_reducible exact H | (rw [hy116]; exact H) | exact H
  have Ny116 := Aside0.mk hy116
  clear hy116
  obtain ⟨y119, hy119⟩ : ∃ y_ : List Int, y_ = (([2, 4] : List Int)) := ⟨_, rfl⟩
  replace H : ((some (([y116, y119, (([0, 1] : List Int))] : List (List Int)) : List (List Int))).bind fun y125 => ((elim_Combo.f k 5 2 y125 (([3, 4] : List Int))).bind fun bt131 => (if 2 ≤ (y125.length : Int) then ((elim_Combo.f k 5 2 (y125.take 2) (([0, 1] : List Int))).bind fun bt143 => ((elim_Combo.f k 5 2 ([] : List (List Int)) (([0, 0] : List Int))).bind fun bt150 => ((elim_Basis.f k 5 2 y125).bind fun t154 => ((greenwoodref01_Same.f k t154 (([0, 2] : List Int))).bind fun t160 => (if t160 = true then ((elim_Rank.f k 5 2 y125).bind fun t161 => (if t161 = 2 then (if bt131.2 = true then ((greenwoodref01_Same.f k bt131.1 (([3, 0, 3] : List Int))).bind fun t165 => (if t165 = true then (if bt143.2 = true then (some false) else (if bt150.2 = true then (if (bt150.1.length : Int) = 0 then ((elim_May.f k 5 2 y125).bind fun t166 => (if t166 = true then ((elim_May.f k 4 2 y125).bind fun t167 => (if t167 = true then (some false) else ((elim_Rank.f k 5 3 y125).bind fun t168 => (some (t168 == (-1)))))) else (some false))) else (some false)) else (some false))) else (some false))) else (some false)) else (some false))) else (some false)))))) else (none)))) = some r := by first | (rw [hy119]; with_reducible exact H) | (have H2_ := (Option.bind_some _ _).symm.trans H; rw [hy119]; with_reducible exact H2_) | (have H2_ := (Option.bind_some _ _).symm.trans H; with_reducible exact H2_) | with_reducible exact H | (rw [hy119]; exact H) | exact H
  have Ny119 := Aside0.mk hy119
  clear hy119
  obtain ⟨y122, hy122⟩ : ∃ y_ : List Int, y_ = (([0, 1] : List Int)) := ⟨_, rfl⟩
  replace H : ((some (([y116, y119, y122] : List (List Int)) : List (List Int))).bind fun y125 => ((elim_Combo.f k 5 2 y125 (([3, 4] : List Int))).bind fun bt131 => (if 2 ≤ (y125.length : Int) then ((elim_Combo.f k 5 2 (y125.take 2) (([0, 1] : List Int))).bind fun bt143 => ((elim_Combo.f k 5 2 ([] : List (List Int)) (([0, 0] : List Int))).bind fun bt150 => ((elim_Basis.f k 5 2 y125).bind fun t154 => ((greenwoodref01_Same.f k t154 (([0, 2] : List Int))).bind fun t160 => (if t160 = true then ((elim_Rank.f k 5 2 y125).bind fun t161 => (if t161 = 2 then (if bt131.2 = true then ((greenwoodref01_Same.f k bt131.1 (([3, 0, 3] : List Int))).bind fun t165 => (if t165 = true then (if bt143.2 = true then (some false) else (if bt150.2 = true then (if (bt150.1.length : Int) = 0 then ((elim_May.f k 5 2 y125).bind fun t166 => (if t166 = true then ((elim_May.f k 4 2 y125).bind fun t167 => (if t167 = true then (some false) else ((elim_Rank.f k 5 3 y125).bind fun t168 => (some (t168 == (-1)))))) else (some false))) else (some false)) else (some false))) else (some false))) else (some false)) else (some false))) else (some false)))))) else (none)))) = some r := by first | (rw [hy122]; with_reducible exact H) | (have H2_ := (Option.bind_some _ _).symm.trans H; rw [hy122]; with_reducible exact H2_) | (have H2_ := (Option.bind_some _ _).symm.trans H; with_reducible exact H2_) | with_reducible exact H | (rw [hy122]; exact H) | exact H
  have Ny122 := Aside0.mk hy122
  clear hy122
  obtain ⟨y125, hy125⟩ : ∃ y_ : List (List Int), y_ = (([y116, y119, y122] : List (List Int))) := ⟨_, rfl⟩
  replace H : ((elim_Combo.f k 5 2 y125 (([3, 4] : List Int))).bind fun bt131 => (if 2 ≤ (y125.length : Int) then ((elim_Combo.f k 5 2 (y125.take 2) (([0, 1] : List Int))).bind fun bt143 => ((elim_Combo.f k 5 2 ([] : List (List Int)) (([0, 0] : List Int))).bind fun bt150 => ((elim_Basis.f k 5 2 y125).bind fun t154 => ((greenwoodref01_Same.f k t154 (([0, 2] : List Int))).bind fun t160 => (if t160 = true then ((elim_Rank.f k 5 2 y125).bind fun t161 => (if t161 = 2 then (if bt131.2 = true then ((greenwoodref01_Same.f k bt131.1 (([3, 0, 3] : List Int))).bind fun t165 => (if t165 = true then (if bt143.2 = true then (some false) else (if bt150.2 = true then (if (bt150.1.length : Int) = 0 then ((elim_May.f k 5 2 y125).bind fun t166 => (if t166 = true then ((elim_May.f k 4 2 y125).bind fun t167 => (if t167 = true then (some false) else ((elim_Rank.f k 5 3 y125).bind fun t168 => (some (t168 == (-1)))))) else (some false))) else (some false)) else (some false))) else (some false))) else (some false)) else (some false))) else (some false)))))) else (none))) = some r := by first | (rw [hy125]; with_reducible exact H) | (have H2_ := (Option.bind_some _ _).symm.trans H; rw [hy125]; with_reducible exact H2_) | (have H2_ := (Option.bind_some _ _).symm.trans H; with_reducible exact H2_) | with_reducible exact H | (rw [hy125]; exact H) | exact H
  have Ny125 := Aside0.mk hy125
  clear hy125
  obtain ⟨y128, hy128⟩ : ∃ y_ : List Int, y_ = (([3, 4] : List Int)) := ⟨_, rfl⟩
  replace H : ((elim_Combo.f k 5 2 y125 y128).bind fun bt131 => (if 2 ≤ (y125.length : Int) then ((elim_Combo.f k 5 2 (y125.take 2) (([0, 1] : List Int))).bind fun bt143 => ((elim_Combo.f k 5 2 ([] : List (List Int)) (([0, 0] : List Int))).bind fun bt150 => ((elim_Basis.f k 5 2 y125).bind fun t154 => ((greenwoodref01_Same.f k t154 (([0, 2] : List Int))).bind fun t160 => (if t160 = true then ((elim_Rank.f k 5 2 y125).bind fun t161 => (if t161 = 2 then (if bt131.2 = true then ((greenwoodref01_Same.f k bt131.1 (([3, 0, 3] : List Int))).bind fun t165 => (if t165 = true then (if bt143.2 = true then (some false) else (if bt150.2 = true then (if (bt150.1.length : Int) = 0 then ((elim_May.f k 5 2 y125).bind fun t166 => (if t166 = true then ((elim_May.f k 4 2 y125).bind fun t167 => (if t167 = true then (some false) else ((elim_Rank.f k 5 3 y125).bind fun t168 => (some (t168 == (-1)))))) else (some false))) else (some false)) else (some false))) else (some false))) else (some false)) else (some false))) else (some false)))))) else (none))) = some r := by first | (rw [hy128]; with_reducible exact H) | (have H2_ := (Option.bind_some _ _).symm.trans H; rw [hy128]; with_reducible exact H2_) | (have H2_ := (Option.bind_some _ _).symm.trans H; with_reducible exact H2_) | with_reducible exact H | (rw [hy128]; exact H) | exact H
  have Ny128 := Aside0.mk hy128
  clear hy128
  replace H := Option.bind_eq_some_iff.mp H
  obtain ⟨⟨t131, t132⟩, A10, H⟩ := H
  replace H : (if 2 ≤ (y125.length : Int) then ((elim_Combo.f k 5 2 (y125.take 2) (([0, 1] : List Int))).bind fun bt143 => ((elim_Combo.f k 5 2 ([] : List (List Int)) (([0, 0] : List Int))).bind fun bt150 => ((elim_Basis.f k 5 2 y125).bind fun t154 => ((greenwoodref01_Same.f k t154 (([0, 2] : List Int))).bind fun t160 => (if t160 = true then ((elim_Rank.f k 5 2 y125).bind fun t161 => (if t161 = 2 then (if t132 = true then ((greenwoodref01_Same.f k t131 (([3, 0, 3] : List Int))).bind fun t165 => (if t165 = true then (if bt143.2 = true then (some false) else (if bt150.2 = true then (if (bt150.1.length : Int) = 0 then ((elim_May.f k 5 2 y125).bind fun t166 => (if t166 = true then ((elim_May.f k 4 2 y125).bind fun t167 => (if t167 = true then (some false) else ((elim_Rank.f k 5 3 y125).bind fun t168 => (some (t168 == (-1)))))) else (some false))) else (some false)) else (some false))) else (some false))) else (some false)) else (some false))) else (some false)))))) else (none)) = some r := H
  have A1 := Aside0.mk A10
  clear A10
  by_cases c2 : 2 ≤ (y125.length : Int)
  · rw [if_pos c2] at H
    have c2b0 := eq_true c2
    have c2b1 : decide (2 ≤ (y125.length : Int)) = true := decide_eq_true c2
    clear c2
    obtain ⟨y135, hy135⟩ : ∃ y_ : List (List Int), y_ = (y125.take 2) := ⟨_, rfl⟩
    replace H : ((elim_Combo.f k 5 2 y135 (([0, 1] : List Int))).bind fun bt143 => ((elim_Combo.f k 5 2 ([] : List (List Int)) (([0, 0] : List Int))).bind fun bt150 => ((elim_Basis.f k 5 2 y125).bind fun t154 => ((greenwoodref01_Same.f k t154 (([0, 2] : List Int))).bind fun t160 => (if t160 = true then ((elim_Rank.f k 5 2 y125).bind fun t161 => (if t161 = 2 then (if t132 = true then ((greenwoodref01_Same.f k t131 (([3, 0, 3] : List Int))).bind fun t165 => (if t165 = true then (if bt143.2 = true then (some false) else (if bt150.2 = true then (if (bt150.1.length : Int) = 0 then ((elim_May.f k 5 2 y125).bind fun t166 => (if t166 = true then ((elim_May.f k 4 2 y125).bind fun t167 => (if t167 = true then (some false) else ((elim_Rank.f k 5 3 y125).bind fun t168 => (some (t168 == (-1)))))) else (some false))) else (some false)) else (some false))) else (some false))) else (some false)) else (some false))) else (some false)))))) = some r := by first | (rw [hy135]; with_reducible exact H) | (have H2_ := (Option.bind_some _ _).symm.trans H; rw [hy135]; with_reducible exact H2_) | (have H2_ := (Option.bind_some _ _).symm.trans H; with_reducible exact H2_) | with_reducible exact H | (rw [hy135]; exact H) | exact H
    have Ny135 := Aside0.mk hy135
    clear hy135
    obtain ⟨y140, hy140⟩ : ∃ y_ : List Int, y_ = (([0, 1] : List Int)) := ⟨_, rfl⟩
    replace H : ((elim_Combo.f k 5 2 y135 y140).bind fun bt143 => ((elim_Combo.f k 5 2 ([] : List (List Int)) (([0, 0] : List Int))).bind fun bt150 => ((elim_Basis.f k 5 2 y125).bind fun t154 => ((greenwoodref01_Same.f k t154 (([0, 2] : List Int))).bind fun t160 => (if t160 = true then ((elim_Rank.f k 5 2 y125).bind fun t161 => (if t161 = 2 then (if t132 = true then ((greenwoodref01_Same.f k t131 (([3, 0, 3] : List Int))).bind fun t165 => (if t165 = true then (if bt143.2 = true then (some false) else (if bt150.2 = true then (if (bt150.1.length : Int) = 0 then ((elim_May.f k 5 2 y125).bind fun t166 => (if t166 = true then ((elim_May.f k 4 2 y125).bind fun t167 => (if t167 = true then (some false) else ((elim_Rank.f k 5 3 y125).bind fun t168 => (some (t168 == (-1)))))) else (some false))) else (some false)) else (some false))) else (some false))) else (some false)) else (some false))) else (some false)))))) = some r := by first | (rw [hy140]; with_reducible exact H) | (have H2_ := (Option.bind_some _ _).symm.trans H; rw [hy140]; with_reducible exact H2_) | (have H2_ := (Option.bind_some _ _).symm.trans H; with_reducible exact H2_) | with_reducible exact H | (rw [hy140]; exact H) | exact H
    have Ny140 := Aside0.mk hy140
    clear hy140
    replace H := Option.bind_eq_some_iff.mp H
    obtain ⟨⟨t143, t144⟩, A30, H⟩ := H
    replace H : ((elim_Combo.f k 5 2 ([] : List (List Int)) (([0, 0] : List Int))).bind fun bt150 => ((elim_Basis.f k 5 2 y125).bind fun t154 => ((greenwoodref01_Same.f k t154 (([0, 2] : List Int))).bind fun t160 => (if t160 = true then ((elim_Rank.f k 5 2 y125).bind fun t161 => (if t161 = 2 then (if t132 = true then ((greenwoodref01_Same.f k t131 (([3, 0, 3] : List Int))).bind fun t165 => (if t165 = true then (if t144 = true then (some false) else (if bt150.2 = true then (if (bt150.1.length : Int) = 0 then ((elim_May.f k 5 2 y125).bind fun t166 => (if t166 = true then ((elim_May.f k 4 2 y125).bind fun t167 => (if t167 = true then (some false) else ((elim_Rank.f k 5 3 y125).bind fun t168 => (some (t168 == (-1)))))) else (some false))) else (some false)) else (some false))) else (some false))) else (some false)) else (some false))) else (some false))))) = some r := H
    have A3 := Aside0.mk A30
    clear A30
    obtain ⟨y147, hy147⟩ : ∃ y_ : List Int, y_ = (([0, 0] : List Int)) := ⟨_, rfl⟩
    replace H : ((elim_Combo.f k 5 2 ([] : List (List Int)) y147).bind fun bt150 => ((elim_Basis.f k 5 2 y125).bind fun t154 => ((greenwoodref01_Same.f k t154 (([0, 2] : List Int))).bind fun t160 => (if t160 = true then ((elim_Rank.f k 5 2 y125).bind fun t161 => (if t161 = 2 then (if t132 = true then ((greenwoodref01_Same.f k t131 (([3, 0, 3] : List Int))).bind fun t165 => (if t165 = true then (if t144 = true then (some false) else (if bt150.2 = true then (if (bt150.1.length : Int) = 0 then ((elim_May.f k 5 2 y125).bind fun t166 => (if t166 = true then ((elim_May.f k 4 2 y125).bind fun t167 => (if t167 = true then (some false) else ((elim_Rank.f k 5 3 y125).bind fun t168 => (some (t168 == (-1)))))) else (some false))) else (some false)) else (some false))) else (some false))) else (some false)) else (some false))) else (some false))))) = some r := by first | (rw [hy147]; with_reducible exact H) | (have H2_ := (Option.bind_some _ _).symm.trans H; rw [hy147]; with_reducible exact H2_) | (have H2_ := (Option.bind_some _ _).symm.trans H; with_reducible exact H2_) | with_reducible exact H | (rw [hy147]; exact H) | exact H
    have Ny147 := Aside0.mk hy147
    clear hy147
    replace H := Option.bind_eq_some_iff.mp H
    obtain ⟨⟨t150, t151⟩, A40, H⟩ := H
    replace H : ((elim_Basis.f k 5 2 y125).bind fun t154 => ((greenwoodref01_Same.f k t154 (([0, 2] : List Int))).bind fun t160 => (if t160 = true then ((elim_Rank.f k 5 2 y125).bind fun t161 => (if t161 = 2 then (if t132 = true then ((greenwoodref01_Same.f k t131 (([3, 0, 3] : List Int))).bind fun t165 => (if t165 = true then (if t144 = true then (some false) else (if t151 = true then (if (t150.length : Int) = 0 then ((elim_May.f k 5 2 y125).bind fun t166 => (if t166 = true then ((elim_May.f k 4 2 y125).bind fun t167 => (if t167 = true then (some false) else ((elim_Rank.f k 5 3 y125).bind fun t168 => (some (t168 == (-1)))))) else (some false))) else (some false)) else (some false))) else (some false))) else (some false)) else (some false))) else (some false)))) = some r := H
    have A4 := Aside0.mk A40
    clear A40
    replace H := Option.bind_eq_some_iff.mp H
    obtain ⟨t154, A50, H⟩ := H
    replace H : ((greenwoodref01_Same.f k t154 (([0, 2] : List Int))).bind fun t160 => (if t160 = true then ((elim_Rank.f k 5 2 y125).bind fun t161 => (if t161 = 2 then (if t132 = true then ((greenwoodref01_Same.f k t131 (([3, 0, 3] : List Int))).bind fun t165 => (if t165 = true then (if t144 = true then (some false) else (if t151 = true then (if (t150.length : Int) = 0 then ((elim_May.f k 5 2 y125).bind fun t166 => (if t166 = true then ((elim_May.f k 4 2 y125).bind fun t167 => (if t167 = true then (some false) else ((elim_Rank.f k 5 3 y125).bind fun t168 => (some (t168 == (-1)))))) else (some false))) else (some false)) else (some false))) else (some false))) else (some false)) else (some false))) else (some false))) = some r := H
    have A5 := Aside0.mk A50
    clear A50
    obtain ⟨y157, hy157⟩ : ∃ y_ : List Int, y_ = (([0, 2] : List Int)) := ⟨_, rfl⟩
    replace H : ((greenwoodref01_Same.f k t154 y157).bind fun t160 => (if t160 = true then ((elim_Rank.f k 5 2 y125).bind fun t161 => (if t161 = 2 then (if t132 = true then ((greenwoodref01_Same.f k t131 (([3, 0, 3] : List Int))).bind fun t165 => (if t165 = true then (if t144 = true then (some false) else (if t151 = true then (if (t150.length : Int) = 0 then ((elim_May.f k 5 2 y125).bind fun t166 => (if t166 = true then ((elim_May.f k 4 2 y125).bind fun t167 => (if t167 = true then (some false) else ((elim_Rank.f k 5 3 y125).bind fun t168 => (some (t168 == (-1)))))) else (some false))) else (some false)) else (some false))) else (some false))) else (some false)) else (some false))) else (some false))) = some r := by first | (rw [hy157]; with_reducible exact H) | (have H2_ := (Option.bind_some _ _).symm.trans H; rw [hy157]; with_reducible exact H2_) | (have H2_ := (Option.bind_some _ _).symm.trans H; with_reducible exact H2_) | with_reducible exact H | (rw [hy157]; exact H) | exact H
    have Ny157 := Aside0.mk hy157
    clear hy157
    replace H := Option.bind_eq_some_iff.mp H
    obtain ⟨t160, A60, H⟩ := H
    replace H : (if t160 = true then ((elim_Rank.f k 5 2 y125).bind fun t161 => (if t161 = 2 then (if t132 = true then ((greenwoodref01_Same.f k t131 (([3, 0, 3] : List Int))).bind fun t165 => (if t165 = true then (if t144 = true then (some false) else (if t151 = true then (if (t150.length : Int) = 0 then ((elim_May.f k 5 2 y125).bind fun t166 => (if t166 = true then ((elim_May.f k 4 2 y125).bind fun t167 => (if t167 = true then (some false) else ((elim_Rank.f k 5 3 y125).bind fun t168 => (some (t168 == (-1)))))) else (some false))) else (some false)) else (some false))) else (some false))) else (some false)) else (some false))) else (some false)) = some r := H
    have A6 := Aside0.mk A60
    clear A60
    by_cases c7 : t160 = true
    · subst c7
      have H1 : ((elim_Rank.f k 5 2 y125).bind fun t161 => (if t161 = 2 then (if t132 = true then ((greenwoodref01_Same.f k t131 (([3, 0, 3] : List Int))).bind fun t165 => (if t165 = true then (if t144 = true then (some false) else (if t151 = true then (if (t150.length : Int) = 0 then ((elim_May.f k 5 2 y125).bind fun t166 => (if t166 = true then ((elim_May.f k 4 2 y125).bind fun t167 => (if t167 = true then (some false) else ((elim_Rank.f k 5 3 y125).bind fun t168 => (some (t168 == (-1)))))) else (some false))) else (some false)) else (some false))) else (some false))) else (some false)) else (some false))) = some r := by rw [if_pos rfl] at H; exact H
      clear H
      have H := H1
      clear H1
      replace H := Option.bind_eq_some_iff.mp H
      obtain ⟨t161, A80, H⟩ := H
      replace H : (if t161 = 2 then (if t132 = true then ((greenwoodref01_Same.f k t131 (([3, 0, 3] : List Int))).bind fun t165 => (if t165 = true then (if t144 = true then (some false) else (if t151 = true then (if (t150.length : Int) = 0 then ((elim_May.f k 5 2 y125).bind fun t166 => (if t166 = true then ((elim_May.f k 4 2 y125).bind fun t167 => (if t167 = true then (some false) else ((elim_Rank.f k 5 3 y125).bind fun t168 => (some (t168 == (-1)))))) else (some false))) else (some false)) else (some false))) else (some false))) else (some false)) else (some false)) = some r := H
      have A8 := Aside0.mk A80
      clear A80
      by_cases c9 : t161 = 2
      · rw [if_pos c9] at H
        have c9b0 : (t161 == 2) = true := beq_iff_eq.mpr c9
        have c9b1 : (t161 != 2) = false := bne_eq_false_iff_eq.mpr c9
        clear c9
        by_cases c10 : t132 = true
        · subst c10
          have H1 : ((greenwoodref01_Same.f k t131 (([3, 0, 3] : List Int))).bind fun t165 => (if t165 = true then (if t144 = true then (some false) else (if t151 = true then (if (t150.length : Int) = 0 then ((elim_May.f k 5 2 y125).bind fun t166 => (if t166 = true then ((elim_May.f k 4 2 y125).bind fun t167 => (if t167 = true then (some false) else ((elim_Rank.f k 5 3 y125).bind fun t168 => (some (t168 == (-1)))))) else (some false))) else (some false)) else (some false))) else (some false))) = some r := by rw [if_pos rfl] at H; exact H
          clear H
          have H := H1
          clear H1
          obtain ⟨y162, hy162⟩ : ∃ y_ : List Int, y_ = (([3, 0, 3] : List Int)) := ⟨_, rfl⟩
          replace H : ((greenwoodref01_Same.f k t131 y162).bind fun t165 => (if t165 = true then (if t144 = true then (some false) else (if t151 = true then (if (t150.length : Int) = 0 then ((elim_May.f k 5 2 y125).bind fun t166 => (if t166 = true then ((elim_May.f k 4 2 y125).bind fun t167 => (if t167 = true then (some false) else ((elim_Rank.f k 5 3 y125).bind fun t168 => (some (t168 == (-1)))))) else (some false))) else (some false)) else (some false))) else (some false))) = some r := by first | (rw [hy162]; with_reducible exact H) | (have H2_ := (Option.bind_some _ _).symm.trans H; rw [hy162]; with_reducible exact H2_) | (have H2_ := (Option.bind_some _ _).symm.trans H; with_reducible exact H2_) | with_reducible exact H | (rw [hy162]; exact H) | exact H
          have Ny162 := Aside0.mk hy162
          clear hy162
          replace H := Option.bind_eq_some_iff.mp H
          obtain ⟨t165, A110, H⟩ := H
          replace H : (if t165 = true then (if t144 = true then (some false) else (if t151 = true then (if (t150.length : Int) = 0 then ((elim_May.f k 5 2 y125).bind fun t166 => (if t166 = true then ((elim_May.f k 4 2 y125).bind fun t167 => (if t167 = true then (some false) else ((elim_Rank.f k 5 3 y125).bind fun t168 => (some (t168 == (-1)))))) else (some false))) else (some false)) else (some false))) else (some false)) = some r := H
          have A11 := Aside0.mk A110
          clear A110
          by_cases c12 : t165 = true
          · subst c12
            have H1 : (if t144 = true then (some false) else (if t151 = true then (if (t150.length : Int) = 0 then ((elim_May.f k 5 2 y125).bind fun t166 => (if t166 = true then ((elim_May.f k 4 2 y125).bind fun t167 => (if t167 = true then (some false) else ((elim_Rank.f k 5 3 y125).bind fun t168 => (some (t168 == (-1)))))) else (some false))) else (some false)) else (some false))) = some r := by rw [if_pos rfl] at H; exact H
            clear H
            have H := H1
            clear H1
            by_cases c13 : t144 = true
            · subst c13
              have H1 : (some false) = some r := by rw [if_pos rfl] at H; exact H
              clear H
              have H := H1
              clear H1
              exact absurd ((Option.some.inj H).trans hrT) (by decide)
            · replace c13 := Bool.eq_false_iff.mpr c13
              subst c13
              have H1 : (if t151 = true then (if (t150.length : Int) = 0 then ((elim_May.f k 5 2 y125).bind fun t166 => (if t166 = true then ((elim_May.f k 4 2 y125).bind fun t167 => (if t167 = true then (some false) else ((elim_Rank.f k 5 3 y125).bind fun t168 => (some (t168 == (-1)))))) else (some false))) else (some false)) else (some false)) = some r := by rw [if_neg (show ¬ (false = true) by decide)] at H; exact H
              clear H
              have H := H1
              clear H1
              by_cases c14 : t151 = true
              · subst c14
                have H1 : (if (t150.length : Int) = 0 then ((elim_May.f k 5 2 y125).bind fun t166 => (if t166 = true then ((elim_May.f k 4 2 y125).bind fun t167 => (if t167 = true then (some false) else ((elim_Rank.f k 5 3 y125).bind fun t168 => (some (t168 == (-1)))))) else (some false))) else (some false)) = some r := by rw [if_pos rfl] at H; exact H
                clear H
                have H := H1
                clear H1
                by_cases c15 : (t150.length : Int) = 0
                · rw [if_pos c15] at H
                  have c15b0 : ((t150.length : Int) == 0) = true := beq_iff_eq.mpr c15
                  have c15b1 : ((t150.length : Int) != 0) = false := bne_eq_false_iff_eq.mpr c15
                  clear c15
                  replace H := Option.bind_eq_some_iff.mp H
                  obtain ⟨t166, A160, H⟩ := H
                  replace H : (if t166 = true then ((elim_May.f k 4 2 y125).bind fun t167 => (if t167 = true then (some false) else ((elim_Rank.f k 5 3 y125).bind fun t168 => (some (t168 == (-1)))))) else (some false)) = some r := H
                  have A16 := Aside0.mk A160
                  clear A160
                  by_cases c17 : t166 = true
                  · subst c17
                    have H1 : ((elim_May.f k 4 2 y125).bind fun t167 => (if t167 = true then (some false) else ((elim_Rank.f k 5 3 y125).bind fun t168 => (some (t168 == (-1)))))) = some r := by rw [if_pos rfl] at H; exact H
                    clear H
                    have H := H1
                    clear H1
                    replace H := Option.bind_eq_some_iff.mp H
                    obtain ⟨t167, A180, H⟩ := H
                    replace H : (if t167 = true then (some false) else ((elim_Rank.f k 5 3 y125).bind fun t168 => (some (t168 == (-1))))) = some r := H
                    have A18 := Aside0.mk A180
                    clear A180
                    by_cases c19 : t167 = true
                    · subst c19
                      have H1 : (some false) = some r := by rw [if_pos rfl] at H; exact H
                      clear H
                      have H := H1
                      clear H1
                      exact absurd ((Option.some.inj H).trans hrT) (by decide)
                    · replace c19 := Bool.eq_false_iff.mpr c19
                      subst c19
                      have H1 : ((elim_Rank.f k 5 3 y125).bind fun t168 => (some (t168 == (-1)))) = some r := by rw [if_neg (show ¬ (false = true) by decide)] at H; exact H
                      clear H
                      have H := H1
                      clear H1
                      replace H := Option.bind_eq_some_iff.mp H
                      obtain ⟨t168, A200, H⟩ := H
                      replace H : (some (t168 == (-1))) = some r := H
                      have A20 := Aside0.mk A200
                      clear A200
                      obtain rfl := Option.some.inj H
                      go_enter Try.func8, Try.ntmps8
                      go_wp2_with (first | ((with_reducible refine gate_dst (N := 8) rfl ?_); (try (refine gate_guard (by rfl) ?_; dsimp only)); refine Kd.R_lit (Kd.int .i64) _ 3 ?hg (N := 8) ?hd (xs := ([1, 2] : List Int)) (inner := [.int .i64 1, .int .i64 2]) (ok := fun _ => True) (okp := fun _ => True) ?hr ?hp (fun _ hk => hk) trivial (Below.refl _ _) (Nat.le_refl _) (by simp) ?_; (case hd => rfl); (case hg => rfl); (case hr => first | (go_simp; done) | (go_simp; rfl)); (case hp => exact (Reps.one (show Kd.M (Kd.int .i64) _ _ _ 1 [.int .i64 1] from rfl) (Reps.one (show Kd.M (Kd.int .i64) _ _ _ 2 [.int .i64 2] from rfl) (Reps.none _ _)))); intro v117 w21 ho22 hb hg_ hnew_; clear hg_ hnew_; (first | rw [← Ny116.out] at ho22 | (simp only [Int.reduceToNat] at ho22; rw [← Ny116.out] at ho22)); have n0_ := Aside0.mk (Kd.R_lower ho22 (below_size (by repeat (first | (with_reducible first | exact HB.out | apply below_alloc | apply pw_below_drewN | apply below_drew1) | exact HB.out)))); have n1_ := Aside0.mk (below_step (by repeat (first | (with_reducible first | exact HB.out | apply below_alloc | apply pw_below_drewN | apply below_drew1) | exact HB.out)) hb); clear HB; have HO118 := n0_; have HB := n1_; clear n0_ n1_; clear hb ho22) | ((with_reducible refine gate_dst (N := 9) rfl ?_); (try (refine gate_guard (by rfl) ?_; dsimp only)); refine Kd.R_lit (Kd.int .i64) _ 3 ?hg (N := 9) ?hd (xs := ([2, 4] : List Int)) (inner := [.int .i64 2, .int .i64 4]) (ok := fun _ => True) (okp := fun _ => True) ?hr ?hp (fun _ hk => hk) trivial (Below.refl _ _) (Nat.le_refl _) (by simp) ?_; (case hd => rfl); (case hg => rfl); (case hr => first | (go_simp; done) | (go_simp; rfl)); (case hp => exact (Reps.one (show Kd.M (Kd.int .i64) _ _ _ 2 [.int .i64 2] from rfl) (Reps.one (show Kd.M (Kd.int .i64) _ _ _ 4 [.int .i64 4] from rfl) (Reps.none _ _)))); intro v120 w23 ho24 hb hg_ hnew_; clear hg_ hnew_; (first | rw [← Ny119.out] at ho24 | (simp only [Int.reduceToNat] at ho24; rw [← Ny119.out] at ho24)); have n0_ := Aside0.mk (Kd.R_elder' (by (with_reducible repeat (first | apply Kd.R_alloc | apply Kd.R_drewN | apply Kd.R_drew)); exact HO118.out) (Kd.R_base ho24) hb); have n1_ := Aside0.mk (Kd.R_lower (Kd.R_new' ho24 (Kd.R_lt (by (with_reducible repeat (first | apply Kd.R_alloc | apply Kd.R_drewN | apply Kd.R_drew)); exact HO118.out))) (below_size (by repeat (first | (with_reducible first | exact HB.out | apply below_alloc | apply pw_below_drewN | apply below_drew1) | exact HB.out)))); have n2_ := Aside0.mk (below_step (by repeat (first | (with_reducible first | exact HB.out | apply below_alloc | apply pw_below_drewN | apply below_drew1) | exact HB.out)) hb); clear HO118; clear HB; have HO118 := n0_; have HO121 := n1_; have HB := n2_; clear n0_ n1_ n2_; clear hb ho24) | ((with_reducible refine gate_dst (N := 10) rfl ?_); (try (refine gate_guard (by rfl) ?_; dsimp only)); refine Kd.R_lit (Kd.int .i64) _ 3 ?hg (N := 10) ?hd (xs := ([0, 1] : List Int)) (inner := [.int .i64 0, .int .i64 1]) (ok := fun _ => True) (okp := fun _ => True) ?hr ?hp (fun _ hk => hk) trivial (Below.refl _ _) (Nat.le_refl _) (by simp) ?_; (case hd => rfl); (case hg => rfl); (case hr => first | (go_simp; done) | (go_simp; rfl)); (case hp => exact (Reps.one (show Kd.M (Kd.int .i64) _ _ _ 0 [.int .i64 0] from rfl) (Reps.one (show Kd.M (Kd.int .i64) _ _ _ 1 [.int .i64 1] from rfl) (Reps.none _ _)))); intro v123 w25 ho26 hb hg_ hnew_; clear hg_ hnew_; (first | rw [← Ny122.out] at ho26 | (simp only [Int.reduceToNat] at ho26; rw [← Ny122.out] at ho26)); have n0_ := Aside0.mk (Kd.R_elder' (by (with_reducible repeat (first | apply Kd.R_alloc | apply Kd.R_drewN | apply Kd.R_drew)); exact HO118.out) (Kd.R_base ho26) hb); have n1_ := Aside0.mk (Kd.R_elder' (by (with_reducible repeat (first | apply Kd.R_alloc | apply Kd.R_drewN | apply Kd.R_drew)); exact HO121.out) (Kd.R_base ho26) hb); have n2_ := Aside0.mk (Kd.R_lower (Kd.R_new' (Kd.R_new' ho26 (Kd.R_lt (by (with_reducible repeat (first | apply Kd.R_alloc | apply Kd.R_drewN | apply Kd.R_drew)); exact HO118.out))) (Kd.R_lt (by (with_reducible repeat (first | apply Kd.R_alloc | apply Kd.R_drewN | apply Kd.R_drew)); exact HO121.out))) (below_size (by repeat (first | (with_reducible first | exact HB.out | apply below_alloc | apply pw_below_drewN | apply below_drew1) | exact HB.out)))); have n3_ := Aside0.mk (below_step (by repeat (first | (with_reducible first | exact HB.out | apply below_alloc | apply pw_below_drewN | apply below_drew1) | exact HB.out)) hb); clear HO118; clear HO121; clear HB; have HO118 := n0_; have HO121 := n1_; have HO124 := n2_; have HB := n3_; clear n0_ n1_ n2_ n3_; clear hb ho26; obtain ⟨Ao27, co27, eo27⟩ := Kd.R_slice HO118.out; subst eo27; obtain ⟨Ao28, co28, eo28⟩ := Kd.R_slice HO121.out; subst eo28; obtain ⟨Ao29, co29, eo29⟩ := Kd.R_slice HO124.out; subst eo29) | ((with_reducible refine gate_dst (N := 11) rfl ?_); (try (refine gate_guard (by rfl) ?_; dsimp only)); refine Kd.N_lit (Kd.slice 3 (Kd.int .i64)) _ 26 ?hg (N' := 11) ?hd (xs := ([y116, y119, y122] : List (List Int))) (inner := [.slice Ao27 y116.length co27, .slice Ao28 y119.length co28, .slice Ao29 y122.length co29]) (ok := (fun _ => True)) (okp := (fun _ => True)) ?hr ?hp (fun _ hk => hk) ((show ∀ k_, w25.heap.size ≤ k_ → (fun _ => True) k_ from fun k_ hk => trivial) _ (Nat.le_refl _)) (Below.refl _ _) (Nat.le_refl _) (by simp) ?_; (case hd => rfl); (case hg => rfl); (case hr => first | (go_simp; done) | (go_simp; rfl)); (case hp => exact (Reps.one (show Kd.FK (Kd.slice 3 (Kd.int .i64)) _ _ y116 [.slice Ao27 y116.length co27] from (FKR2 (Kd.R_mono (ok' := (fun _ => True)) (HO118.out) (fun k_ hk => trivial)))) (Reps.one (show Kd.FK (Kd.slice 3 (Kd.int .i64)) _ _ y119 [.slice Ao28 y119.length co28] from (FKR2 (Kd.R_mono (ok' := (fun _ => True)) (HO121.out) (fun k_ hk => trivial)))) (Reps.one (show Kd.FK (Kd.slice 3 (Kd.int .i64)) _ _ y122 [.slice Ao29 y122.length co29] from (FKR2 (Kd.R_mono (ok' := (fun _ => True)) (HO124.out) (fun k_ hk => trivial)))) (Reps.none _ _))))); intro v126 w30 ho31 hb hg_ hnew_; clear hg_ hnew_; (first | rw [← Ny125.out] at ho31 | (simp only [Int.reduceToNat] at ho31; rw [← Ny125.out] at ho31)); have n0_ := Aside0.mk (Kd.N_lower ho31 (below_size (by repeat (first | (with_reducible first | exact HB.out | apply below_alloc | apply pw_below_drewN | apply below_drew1) | exact HB.out)))); have n1_ := Aside0.mk (below_step (by repeat (first | (with_reducible first | exact HB.out | apply below_alloc | apply pw_below_drewN | apply below_drew1) | exact HB.out)) hb); clear HB; clear HO118; clear HO121; clear HO124; have HO127 := n0_; have HB := n1_; clear n0_ n1_; clear hb ho31) | ((with_reducible refine gate_dst (N := 14) rfl ?_); (try (refine gate_guard (by rfl) ?_; dsimp only)); refine Kd.R_lit (Kd.int .i64) _ 3 ?hg (N := 14) ?hd (xs := ([3, 4] : List Int)) (inner := [.int .i64 3, .int .i64 4]) (ok := fun _ => True) (okp := fun _ => True) ?hr ?hp (fun _ hk => hk) trivial (Below.refl _ _) (Nat.le_refl _) (by simp) ?_; (case hd => rfl); (case hg => rfl); (case hr => first | (go_simp; done) | (go_simp; rfl)); (case hp => exact (Reps.one (show Kd.M (Kd.int .i64) _ _ _ 3 [.int .i64 3] from rfl) (Reps.one (show Kd.M (Kd.int .i64) _ _ _ 4 [.int .i64 4] from rfl) (Reps.none _ _)))); intro v129 w32 ho33 hb hg_ hnew_; clear hg_ hnew_; (first | rw [← Ny128.out] at ho33 | (simp only [Int.reduceToNat] at ho33; rw [← Ny128.out] at ho33)); have n0_ := Aside0.mk (Kd.N_elder' (by (with_reducible repeat (first | apply Kd.N_alloc | apply Kd.N_drewN | apply Kd.N_drew)); exact HO127.out) (Kd.R_base ho33) hb); have n1_ := Aside0.mk (Kd.R_lower ho33 (below_size (by repeat (first | (with_reducible first | exact HB.out | apply below_alloc | apply pw_below_drewN | apply below_drew1) | exact HB.out)))); have n2_ := Aside0.mk (below_step (by repeat (first | (with_reducible first | exact HB.out | apply below_alloc | apply pw_below_drewN | apply below_drew1) | exact HB.out)) hb); clear HO127; clear HB; have HO127 := n0_; have HO130 := n1_; have HB := n2_; clear n0_ n1_ n2_; clear hb ho33; obtain ⟨Ao34, co34, eo34⟩ := Kd.N_slice HO127.out; subst eo34; obtain ⟨Ao35, co35, eo35⟩ := Kd.R_slice HO130.out; subst eo35) | ((with_reducible refine gate_callee (f := 16) rfl ?_); refine goesL_ (some 15) rfl rfl Try.func16 (by kernel_rfl) rfl #[.int .i64 5, .int .i64 2, .slice Ao34 y125.length co34, .slice Ao35 y128.length co35] rfl (by (try simp only [List.map_toArray, List.map_cons, List.map_nil]); first | done | rfl | (simp only [List.length_drop, List.length_take]; rfl)) ?_; (with_reducible refine (elim_Combo.calls k 5 2 _ _ y125 _ _ y128 t131 true _ ?side1 ?side2 ?side3 ?side4 A1.out).mono ?_); (case side1 => repeat (first | exact (Kd.N_reads' HO127.out).2.2 | (with_reducible refine Kd.C_alloc ?_ _) | (with_reducible refine Kd.C_drewN ?_ _) | (with_reducible refine Kd.C_drew ?_))); (case side2 => exact (Kd.N_reads' HO127.out).2.1); (case side3 => repeat (first | exact (Kd.R_reads' HO130.out).2.2 | (with_reducible refine Kd.C_alloc ?_ _) | (with_reducible refine Kd.C_drewN ?_ _) | (with_reducible refine Kd.C_drew ?_))); (case side4 => exact (Kd.R_reads' HO130.out).2.1); rintro e w36 ⟨v133, rfl, ho0, hb⟩; refine ⟨_, rfl, ?_⟩; have n0_ := Aside0.mk (Kd.N_elder' (by (with_reducible repeat (first | apply Kd.N_alloc | apply Kd.N_drewN | apply Kd.N_drew)); exact HO127.out) (Kd.R_base ho0) hb); have n1_ := Aside0.mk (Kd.R_elder' (by (with_reducible repeat (first | apply Kd.R_alloc | apply Kd.R_drewN | apply Kd.R_drew)); exact HO130.out) (Kd.R_base ho0) hb); have n2_ := Aside0.mk (Kd.R_lower (Kd.R_new' ho0 (Kd.R_lt (by (with_reducible repeat (first | apply Kd.R_alloc | apply Kd.R_drewN | apply Kd.R_drew)); exact HO130.out))) (below_size (by repeat (first | (with_reducible first | exact HB.out | apply below_alloc | apply pw_below_drewN | apply below_drew1) | exact HB.out)))); have n3_ := Aside0.mk (below_step (by repeat (first | (with_reducible first | exact HB.out | apply below_alloc | apply pw_below_drewN | apply below_drew1) | exact HB.out)) hb); clear HO127; clear HO130; clear HB; have HO127 := n0_; have HO130 := n1_; have HO134 := n2_; have HB := n3_; clear n0_ n1_ n2_ n3_; (try clear hb); (try clear hb2); (try clear hk); (try clear hi); (try clear ho0); have q37 : (2 : Int) ≤ ((y125.length : Int) : Int) := of_decide_eq_true (by first | (with_reducible assumption) | assumption); obtain ⟨i037, hi037, _, hsz37, _⟩ := info_parts info26; have hroom37 : y125.length ≤ co34 := (Kd.N_reads' HO127.out).2.1; have hC37 : Kd.F (Kd.slice 3 (Kd.int .i64)) _ _ Ao34 y125.length y125 := (Kd.V_at (base := w.heap.size) (Kd.N_V HO127.out)).2.2; have hcut37 := cut_to (P := Try.prog) 22 26 .i64 Try.underlying22 hi037 Ao34 y125.length co34 2 (by omega) q37 hroom37; have hr37 := Kd.F_take (m := 2) hC37 (by omega); have hy37 : y135.length = (2 : Int).toNat := (by rw [Ny135.out, List.length_take]; omega); rw [← Ny135.out] at hr37; rw [← hy37] at hcut37; have HO139 := Aside0.mk (show Kd.V (Kd.slice 3 (Kd.int .i64)) 26 _ w.heap.size _ (.slice Ao34 y135.length co34) y135 from Kd.V_mk (by omega) hr37); have HC139 := Aside0.mk (show y135.length ≤ co34 from by omega); clear hr37 hC37 hroom37 hi037 hsz37; have KY37 := Aside0.mk hy37; clear hy37; replace q37 := eq_true q37) | ((with_reducible refine gate_dst (N := 21) rfl ?_); (try (refine gate_guard (by rfl) ?_; dsimp only)); refine Kd.R_lit (Kd.int .i64) _ 3 ?hg (N := 21) ?hd (xs := ([0, 1] : List Int)) (inner := [.int .i64 0, .int .i64 1]) (ok := fun _ => True) (okp := fun _ => True) ?hr ?hp (fun _ hk => hk) trivial (Below.refl _ _) (Nat.le_refl _) (by simp) ?_; (case hd => rfl); (case hg => rfl); (case hr => first | (go_simp; done) | (go_simp; rfl)); (case hp => exact (Reps.one (show Kd.M (Kd.int .i64) _ _ _ 0 [.int .i64 0] from rfl) (Reps.one (show Kd.M (Kd.int .i64) _ _ _ 1 [.int .i64 1] from rfl) (Reps.none _ _)))); intro v141 w38 ho39 hb hg_ hnew_; clear hg_ hnew_; (first | rw [← Ny140.out] at ho39 | (simp only [Int.reduceToNat] at ho39; rw [← Ny140.out] at ho39)); have n0_ := Aside0.mk (Kd.N_elder' (by (with_reducible repeat (first | apply Kd.N_alloc | apply Kd.N_drewN | apply Kd.N_drew)); exact HO127.out) (Kd.R_base ho39) hb); have n1_ := Aside0.mk (Kd.R_elder' (by (with_reducible repeat (first | apply Kd.R_alloc | apply Kd.R_drewN | apply Kd.R_drew)); exact HO130.out) (Kd.R_base ho39) hb); have n2_ := Aside0.mk (Kd.R_elder' (by (with_reducible repeat (first | apply Kd.R_alloc | apply Kd.R_drewN | apply Kd.R_drew)); exact HO134.out) (Kd.R_base ho39) hb); have n3_ := Aside0.mk (Kd.V_elder' (by (with_reducible repeat (first | apply Kd.V_alloc | apply Kd.V_drewN | apply Kd.V_drew)); exact HO139.out) (Kd.R_base ho39) hb); have n4_ := Aside0.mk (Kd.R_lower (Kd.R_new' (Kd.R_new' ho39 (Kd.R_lt (by (with_reducible repeat (first | apply Kd.R_alloc | apply Kd.R_drewN | apply Kd.R_drew)); exact HO130.out))) (Kd.R_lt (by (with_reducible repeat (first | apply Kd.R_alloc | apply Kd.R_drewN | apply Kd.R_drew)); exact HO134.out))) (below_size (by repeat (first | (with_reducible first | exact HB.out | apply below_alloc | apply pw_below_drewN | apply below_drew1) | exact HB.out)))); have n5_ := Aside0.mk (below_step (by repeat (first | (with_reducible first | exact HB.out | apply below_alloc | apply pw_below_drewN | apply below_drew1) | exact HB.out)) hb); clear HO127; clear HO130; clear HO134; clear HO139; clear HB; have HO127 := n0_; have HO130 := n1_; have HO134 := n2_; have HO139 := n3_; have HO142 := n4_; have HB := n5_; clear n0_ n1_ n2_ n3_ n4_ n5_; clear hb ho39; obtain ⟨Ao40, co40, eo40⟩ := Kd.R_slice HO142.out; subst eo40) | ((with_reducible refine gate_callee (f := 16) rfl ?_); refine goesL_ (some 22) rfl rfl Try.func16 (by kernel_rfl) rfl #[.int .i64 5, .int .i64 2, .slice Ao34 y135.length co34, .slice Ao40 y140.length co40] rfl (by (try simp only [List.map_toArray, List.map_cons, List.map_nil]); first | done | rfl | (simp only [List.length_drop, List.length_take]; rfl)) ?_; (with_reducible refine (elim_Combo.calls k 5 2 _ _ y135 _ _ y140 t143 false _ ?side1 ?side2 ?side3 ?side4 A3.out).mono ?_); (case side1 => repeat (first | exact (Kd.V_reads' HO139.out).2.2 | (with_reducible refine Kd.C_alloc ?_ _) | (with_reducible refine Kd.C_drewN ?_ _) | (with_reducible refine Kd.C_drew ?_))); (case side2 => exact (Kd.V_reads' HO139.out).2.1); (case side3 => repeat (first | exact (Kd.R_reads' HO142.out).2.2 | (with_reducible refine Kd.C_alloc ?_ _) | (with_reducible refine Kd.C_drewN ?_ _) | (with_reducible refine Kd.C_drew ?_))); (case side4 => exact (Kd.R_reads' HO142.out).2.1); rintro e w41 ⟨v145, rfl, ho0, hb⟩; refine ⟨_, rfl, ?_⟩; have n0_ := Aside0.mk (Kd.N_elder' (by (with_reducible repeat (first | apply Kd.N_alloc | apply Kd.N_drewN | apply Kd.N_drew)); exact HO127.out) (Kd.R_base ho0) hb); have n1_ := Aside0.mk (Kd.R_elder' (by (with_reducible repeat (first | apply Kd.R_alloc | apply Kd.R_drewN | apply Kd.R_drew)); exact HO130.out) (Kd.R_base ho0) hb); have n2_ := Aside0.mk (Kd.R_elder' (by (with_reducible repeat (first | apply Kd.R_alloc | apply Kd.R_drewN | apply Kd.R_drew)); exact HO134.out) (Kd.R_base ho0) hb); have n3_ := Aside0.mk (Kd.V_elder' (by (with_reducible repeat (first | apply Kd.V_alloc | apply Kd.V_drewN | apply Kd.V_drew)); exact HO139.out) (Kd.R_base ho0) hb); have n4_ := Aside0.mk (Kd.R_elder' (by (with_reducible repeat (first | apply Kd.R_alloc | apply Kd.R_drewN | apply Kd.R_drew)); exact HO142.out) (Kd.R_base ho0) hb); have n5_ := Aside0.mk (Kd.R_lower (Kd.R_new' (Kd.R_new' (Kd.R_new' ho0 (Kd.R_lt (by (with_reducible repeat (first | apply Kd.R_alloc | apply Kd.R_drewN | apply Kd.R_drew)); exact HO130.out))) (Kd.R_lt (by (with_reducible repeat (first | apply Kd.R_alloc | apply Kd.R_drewN | apply Kd.R_drew)); exact HO134.out))) (Kd.R_lt (by (with_reducible repeat (first | apply Kd.R_alloc | apply Kd.R_drewN | apply Kd.R_drew)); exact HO142.out))) (below_size (by repeat (first | (with_reducible first | exact HB.out | apply below_alloc | apply pw_below_drewN | apply below_drew1) | exact HB.out)))); have n6_ := Aside0.mk (below_step (by repeat (first | (with_reducible first | exact HB.out | apply below_alloc | apply pw_below_drewN | apply below_drew1) | exact HB.out)) hb); clear HO127; clear HO130; clear HO134; clear HO139; clear HO142; clear HB; have HO127 := n0_; have HO130 := n1_; have HO134 := n2_; have HO139 := n3_; have HO142 := n4_; have HO146 := n5_; have HB := n6_; clear n0_ n1_ n2_ n3_ n4_ n5_ n6_; (try clear hb); (try clear hb2); (try clear hk); (try clear hi); (try clear ho0)) | ((with_reducible refine gate_dst (N := 26) rfl ?_); (try (refine gate_guard (by rfl) ?_; dsimp only)); refine Kd.R_lit (Kd.int .i64) _ 3 ?hg (N := 26) ?hd (xs := ([0, 0] : List Int)) (inner := [.int .i64 0, .int .i64 0]) (ok := fun _ => True) (okp := fun _ => True) ?hr ?hp (fun _ hk => hk) trivial (Below.refl _ _) (Nat.le_refl _) (by simp) ?_; (case hd => rfl); (case hg => rfl); (case hr => first | (go_simp; done) | (go_simp; rfl)); (case hp => exact (Reps.one (show Kd.M (Kd.int .i64) _ _ _ 0 [.int .i64 0] from rfl) (Reps.one (show Kd.M (Kd.int .i64) _ _ _ 0 [.int .i64 0] from rfl) (Reps.none _ _)))); intro v148 w42 ho43 hb hg_ hnew_; clear hg_ hnew_; (first | rw [← Ny147.out] at ho43 | (simp only [Int.reduceToNat] at ho43; rw [← Ny147.out] at ho43)); have n0_ := Aside0.mk (Kd.N_elder' (by (with_reducible repeat (first | apply Kd.N_alloc | apply Kd.N_drewN | apply Kd.N_drew)); exact HO127.out) (Kd.R_base ho43) hb); have n1_ := Aside0.mk (Kd.R_elder' (by (with_reducible repeat (first | apply Kd.R_alloc | apply Kd.R_drewN | apply Kd.R_drew)); exact HO130.out) (Kd.R_base ho43) hb); have n2_ := Aside0.mk (Kd.R_elder' (by (with_reducible repeat (first | apply Kd.R_alloc | apply Kd.R_drewN | apply Kd.R_drew)); exact HO134.out) (Kd.R_base ho43) hb); have n3_ := Aside0.mk (Kd.V_elder' (by (with_reducible repeat (first | apply Kd.V_alloc | apply Kd.V_drewN | apply Kd.V_drew)); exact HO139.out) (Kd.R_base ho43) hb); have n4_ := Aside0.mk (Kd.R_elder' (by (with_reducible repeat (first | apply Kd.R_alloc | apply Kd.R_drewN | apply Kd.R_drew)); exact HO142.out) (Kd.R_base ho43) hb); have n5_ := Aside0.mk (Kd.R_elder' (by (with_reducible repeat (first | apply Kd.R_alloc | apply Kd.R_drewN | apply Kd.R_drew)); exact HO146.out) (Kd.R_base ho43) hb); have n6_ := Aside0.mk (Kd.R_lower (Kd.R_new' (Kd.R_new' (Kd.R_new' (Kd.R_new' ho43 (Kd.R_lt (by (with_reducible repeat (first | apply Kd.R_alloc | apply Kd.R_drewN | apply Kd.R_drew)); exact HO130.out))) (Kd.R_lt (by (with_reducible repeat (first | apply Kd.R_alloc | apply Kd.R_drewN | apply Kd.R_drew)); exact HO134.out))) (Kd.R_lt (by (with_reducible repeat (first | apply Kd.R_alloc | apply Kd.R_drewN | apply Kd.R_drew)); exact HO142.out))) (Kd.R_lt (by (with_reducible repeat (first | apply Kd.R_alloc | apply Kd.R_drewN | apply Kd.R_drew)); exact HO146.out))) (below_size (by repeat (first | (with_reducible first | exact HB.out | apply below_alloc | apply pw_below_drewN | apply below_drew1) | exact HB.out)))); have n7_ := Aside0.mk (below_step (by repeat (first | (with_reducible first | exact HB.out | apply below_alloc | apply pw_below_drewN | apply below_drew1) | exact HB.out)) hb); clear HO127; clear HO130; clear HO134; clear HO139; clear HO142; clear HO146; clear HB; have HO127 := n0_; have HO130 := n1_; have HO134 := n2_; have HO139 := n3_; have HO142 := n4_; have HO146 := n5_; have HO149 := n6_; have HB := n7_; clear n0_ n1_ n2_ n3_ n4_ n5_ n6_ n7_; clear hb ho43; obtain ⟨Ao44, co44, eo44⟩ := Kd.R_slice HO149.out; subst eo44) | ((with_reducible refine gate_callee (f := 16) rfl ?_); refine goesL_ (some 27) rfl rfl Try.func16 (by kernel_rfl) rfl #[.int .i64 5, .int .i64 2, .slice none 0 0, .slice Ao44 y147.length co44] rfl (by (try simp only [List.map_toArray, List.map_cons, List.map_nil]); first | done | rfl | (simp only [List.length_drop, List.length_take]; rfl)) ?_; (refine (elim_Combo.calls k 5 2 _ _ ([] : List (List Int)) _ _ y147 t150 true _ ?side1 ?side2 ?side3 ?side4 A4.out).mono ?_); (case side1 => exact Kd.C_nil _ _); (case side2 => exact Nat.le_refl _); (case side3 => repeat (first | exact (Kd.R_reads' HO149.out).2.2 | (with_reducible refine Kd.C_alloc ?_ _) | (with_reducible refine Kd.C_drewN ?_ _) | (with_reducible refine Kd.C_drew ?_))); (case side4 => exact (Kd.R_reads' HO149.out).2.1); rintro e w45 ⟨v152, rfl, ho0, hb⟩; refine ⟨_, rfl, ?_⟩; have n0_ := Aside0.mk (Kd.N_elder' (by (with_reducible repeat (first | apply Kd.N_alloc | apply Kd.N_drewN | apply Kd.N_drew)); exact HO127.out) (Kd.R_base ho0) hb); have n1_ := Aside0.mk (Kd.R_elder' (by (with_reducible repeat (first | apply Kd.R_alloc | apply Kd.R_drewN | apply Kd.R_drew)); exact HO130.out) (Kd.R_base ho0) hb); have n2_ := Aside0.mk (Kd.R_elder' (by (with_reducible repeat (first | apply Kd.R_alloc | apply Kd.R_drewN | apply Kd.R_drew)); exact HO134.out) (Kd.R_base ho0) hb); have n3_ := Aside0.mk (Kd.V_elder' (by (with_reducible repeat (first | apply Kd.V_alloc | apply Kd.V_drewN | apply Kd.V_drew)); exact HO139.out) (Kd.R_base ho0) hb); have n4_ := Aside0.mk (Kd.R_elder' (by (with_reducible repeat (first | apply Kd.R_alloc | apply Kd.R_drewN | apply Kd.R_drew)); exact HO142.out) (Kd.R_base ho0) hb); have n5_ := Aside0.mk (Kd.R_elder' (by (with_reducible repeat (first | apply Kd.R_alloc | apply Kd.R_drewN | apply Kd.R_drew)); exact HO146.out) (Kd.R_base ho0) hb); have n6_ := Aside0.mk (Kd.R_elder' (by (with_reducible repeat (first | apply Kd.R_alloc | apply Kd.R_drewN | apply Kd.R_drew)); exact HO149.out) (Kd.R_base ho0) hb); have n7_ := Aside0.mk (Kd.R_lower (Kd.R_new' (Kd.R_new' (Kd.R_new' (Kd.R_new' (Kd.R_new' ho0 (Kd.R_lt (by (with_reducible repeat (first | apply Kd.R_alloc | apply Kd.R_drewN | apply Kd.R_drew)); exact HO130.out))) (Kd.R_lt (by (with_reducible repeat (first | apply Kd.R_alloc | apply Kd.R_drewN | apply Kd.R_drew)); exact HO134.out))) (Kd.R_lt (by (with_reducible repeat (first | apply Kd.R_alloc | apply Kd.R_drewN | apply Kd.R_drew)); exact HO142.out))) (Kd.R_lt (by (with_reducible repeat (first | apply Kd.R_alloc | apply Kd.R_drewN | apply Kd.R_drew)); exact HO146.out))) (Kd.R_lt (by (with_reducible repeat (first | apply Kd.R_alloc | apply Kd.R_drewN | apply Kd.R_drew)); exact HO149.out))) (below_size (by repeat (first | (with_reducible first | exact HB.out | apply below_alloc | apply pw_below_drewN | apply below_drew1) | exact HB.out)))); have n8_ := Aside0.mk (below_step (by repeat (first | (with_reducible first | exact HB.out | apply below_alloc | apply pw_below_drewN | apply below_drew1) | exact HB.out)) hb); clear HO127; clear HO130; clear HO134; clear HO139; clear HO142; clear HO146; clear HO149; clear HB; have HO127 := n0_; have HO130 := n1_; have HO134 := n2_; have HO139 := n3_; have HO142 := n4_; have HO146 := n5_; have HO149 := n6_; have HO153 := n7_; have HB := n8_; clear n0_ n1_ n2_ n3_ n4_ n5_ n6_ n7_ n8_; (try clear hb); (try clear hb2); (try clear hk); (try clear hi); (try clear ho0)) | ((with_reducible refine gate_callee (f := 12) rfl ?_); refine goesL_ (some 31) rfl rfl Try.func12 (by kernel_rfl) rfl #[.int .i64 5, .int .i64 2, .slice Ao34 y125.length co34] rfl (by (try simp only [List.map_toArray, List.map_cons, List.map_nil]); first | done | rfl | (simp only [List.length_drop, List.length_take]; rfl)) ?_; (with_reducible refine (elim_Basis.calls k 5 2 _ _ y125 t154 _ ?side1 ?side2 A5.out).mono ?_); (case side1 => repeat (first | exact (Kd.N_reads' HO127.out).2.2 | (with_reducible refine Kd.C_alloc ?_ _) | (with_reducible refine Kd.C_drewN ?_ _) | (with_reducible refine Kd.C_drew ?_))); (case side2 => exact (Kd.N_reads' HO127.out).2.1); rintro e w46 ⟨v155, rfl, ho0, hb⟩; refine ⟨_, rfl, ?_⟩; have n0_ := Aside0.mk (Kd.N_elder' (by (with_reducible repeat (first | apply Kd.N_alloc | apply Kd.N_drewN | apply Kd.N_drew)); exact HO127.out) (Kd.R_base ho0) hb); have n1_ := Aside0.mk (Kd.R_elder' (by (with_reducible repeat (first | apply Kd.R_alloc | apply Kd.R_drewN | apply Kd.R_drew)); exact HO130.out) (Kd.R_base ho0) hb); have n2_ := Aside0.mk (Kd.R_elder' (by (with_reducible repeat (first | apply Kd.R_alloc | apply Kd.R_drewN | apply Kd.R_drew)); exact HO134.out) (Kd.R_base ho0) hb); have n3_ := Aside0.mk (Kd.V_elder' (by (with_reducible repeat (first | apply Kd.V_alloc | apply Kd.V_drewN | apply Kd.V_drew)); exact HO139.out) (Kd.R_base ho0) hb); have n4_ := Aside0.mk (Kd.R_elder' (by (with_reducible repeat (first | apply Kd.R_alloc | apply Kd.R_drewN | apply Kd.R_drew)); exact HO142.out) (Kd.R_base ho0) hb); have n5_ := Aside0.mk (Kd.R_elder' (by (with_reducible repeat (first | apply Kd.R_alloc | apply Kd.R_drewN | apply Kd.R_drew)); exact HO146.out) (Kd.R_base ho0) hb); have n6_ := Aside0.mk (Kd.R_elder' (by (with_reducible repeat (first | apply Kd.R_alloc | apply Kd.R_drewN | apply Kd.R_drew)); exact HO149.out) (Kd.R_base ho0) hb); have n7_ := Aside0.mk (Kd.R_elder' (by (with_reducible repeat (first | apply Kd.R_alloc | apply Kd.R_drewN | apply Kd.R_drew)); exact HO153.out) (Kd.R_base ho0) hb); have n8_ := Aside0.mk (Kd.R_lower (Kd.R_new' (Kd.R_new' (Kd.R_new' (Kd.R_new' (Kd.R_new' (Kd.R_new' ho0 (Kd.R_lt (by (with_reducible repeat (first | apply Kd.R_alloc | apply Kd.R_drewN | apply Kd.R_drew)); exact HO130.out))) (Kd.R_lt (by (with_reducible repeat (first | apply Kd.R_alloc | apply Kd.R_drewN | apply Kd.R_drew)); exact HO134.out))) (Kd.R_lt (by (with_reducible repeat (first | apply Kd.R_alloc | apply Kd.R_drewN | apply Kd.R_drew)); exact HO142.out))) (Kd.R_lt (by (with_reducible repeat (first | apply Kd.R_alloc | apply Kd.R_drewN | apply Kd.R_drew)); exact HO146.out))) (Kd.R_lt (by (with_reducible repeat (first | apply Kd.R_alloc | apply Kd.R_drewN | apply Kd.R_drew)); exact HO149.out))) (Kd.R_lt (by (with_reducible repeat (first | apply Kd.R_alloc | apply Kd.R_drewN | apply Kd.R_drew)); exact HO153.out))) (below_size (by repeat (first | (with_reducible first | exact HB.out | apply below_alloc | apply pw_below_drewN | apply below_drew1) | exact HB.out)))); have n9_ := Aside0.mk (below_step (by repeat (first | (with_reducible first | exact HB.out | apply below_alloc | apply pw_below_drewN | apply below_drew1) | exact HB.out)) hb); clear HO127; clear HO130; clear HO134; clear HO139; clear HO142; clear HO146; clear HO149; clear HO153; clear HB; have HO127 := n0_; have HO130 := n1_; have HO134 := n2_; have HO139 := n3_; have HO142 := n4_; have HO146 := n5_; have HO149 := n6_; have HO153 := n7_; have HO156 := n8_; have HB := n9_; clear n0_ n1_ n2_ n3_ n4_ n5_ n6_ n7_ n8_ n9_; (try clear hb); (try clear hb2); (try clear hk); (try clear hi); (try clear ho0)) | ((with_reducible refine gate_dst (N := 32) rfl ?_); (try (refine gate_guard (by rfl) ?_; dsimp only)); refine Kd.R_lit (Kd.int .i64) _ 3 ?hg (N := 32) ?hd (xs := ([0, 2] : List Int)) (inner := [.int .i64 0, .int .i64 2]) (ok := fun _ => True) (okp := fun _ => True) ?hr ?hp (fun _ hk => hk) trivial (Below.refl _ _) (Nat.le_refl _) (by simp) ?_; (case hd => rfl); (case hg => rfl); (case hr => first | (go_simp; done) | (go_simp; rfl)); (case hp => exact (Reps.one (show Kd.M (Kd.int .i64) _ _ _ 0 [.int .i64 0] from rfl) (Reps.one (show Kd.M (Kd.int .i64) _ _ _ 2 [.int .i64 2] from rfl) (Reps.none _ _)))); intro v158 w47 ho48 hb hg_ hnew_; clear hg_ hnew_; (first | rw [← Ny157.out] at ho48 | (simp only [Int.reduceToNat] at ho48; rw [← Ny157.out] at ho48)); have n0_ := Aside0.mk (Kd.N_elder' (by (with_reducible repeat (first | apply Kd.N_alloc | apply Kd.N_drewN | apply Kd.N_drew)); exact HO127.out) (Kd.R_base ho48) hb); have n1_ := Aside0.mk (Kd.R_elder' (by (with_reducible repeat (first | apply Kd.R_alloc | apply Kd.R_drewN | apply Kd.R_drew)); exact HO130.out) (Kd.R_base ho48) hb); have n2_ := Aside0.mk (Kd.R_elder' (by (with_reducible repeat (first | apply Kd.R_alloc | apply Kd.R_drewN | apply Kd.R_drew)); exact HO134.out) (Kd.R_base ho48) hb); have n3_ := Aside0.mk (Kd.V_elder' (by (with_reducible repeat (first | apply Kd.V_alloc | apply Kd.V_drewN | apply Kd.V_drew)); exact HO139.out) (Kd.R_base ho48) hb); have n4_ := Aside0.mk (Kd.R_elder' (by (with_reducible repeat (first | apply Kd.R_alloc | apply Kd.R_drewN | apply Kd.R_drew)); exact HO142.out) (Kd.R_base ho48) hb); have n5_ := Aside0.mk (Kd.R_elder' (by (with_reducible repeat (first | apply Kd.R_alloc | apply Kd.R_drewN | apply Kd.R_drew)); exact HO146.out) (Kd.R_base ho48) hb); have n6_ := Aside0.mk (Kd.R_elder' (by (with_reducible repeat (first | apply Kd.R_alloc | apply Kd.R_drewN | apply Kd.R_drew)); exact HO149.out) (Kd.R_base ho48) hb); have n7_ := Aside0.mk (Kd.R_elder' (by (with_reducible repeat (first | apply Kd.R_alloc | apply Kd.R_drewN | apply Kd.R_drew)); exact HO153.out) (Kd.R_base ho48) hb); have n8_ := Aside0.mk (Kd.R_elder' (by (with_reducible repeat (first | apply Kd.R_alloc | apply Kd.R_drewN | apply Kd.R_drew)); exact HO156.out) (Kd.R_base ho48) hb); have n9_ := Aside0.mk (Kd.R_lower (Kd.R_new' (Kd.R_new' (Kd.R_new' (Kd.R_new' (Kd.R_new' (Kd.R_new' (Kd.R_new' ho48 (Kd.R_lt (by (with_reducible repeat (first | apply Kd.R_alloc | apply Kd.R_drewN | apply Kd.R_drew)); exact HO130.out))) (Kd.R_lt (by (with_reducible repeat (first | apply Kd.R_alloc | apply Kd.R_drewN | apply Kd.R_drew)); exact HO134.out))) (Kd.R_lt (by (with_reducible repeat (first | apply Kd.R_alloc | apply Kd.R_drewN | apply Kd.R_drew)); exact HO142.out))) (Kd.R_lt (by (with_reducible repeat (first | apply Kd.R_alloc | apply Kd.R_drewN | apply Kd.R_drew)); exact HO146.out))) (Kd.R_lt (by (with_reducible repeat (first | apply Kd.R_alloc | apply Kd.R_drewN | apply Kd.R_drew)); exact HO149.out))) (Kd.R_lt (by (with_reducible repeat (first | apply Kd.R_alloc | apply Kd.R_drewN | apply Kd.R_drew)); exact HO153.out))) (Kd.R_lt (by (with_reducible repeat (first | apply Kd.R_alloc | apply Kd.R_drewN | apply Kd.R_drew)); exact HO156.out))) (below_size (by repeat (first | (with_reducible first | exact HB.out | apply below_alloc | apply pw_below_drewN | apply below_drew1) | exact HB.out)))); have n10_ := Aside0.mk (below_step (by repeat (first | (with_reducible first | exact HB.out | apply below_alloc | apply pw_below_drewN | apply below_drew1) | exact HB.out)) hb); clear HO127; clear HO130; clear HO134; clear HO139; clear HO142; clear HO146; clear HO149; clear HO153; clear HO156; clear HB; have HO127 := n0_; have HO130 := n1_; have HO134 := n2_; have HO139 := n3_; have HO142 := n4_; have HO146 := n5_; have HO149 := n6_; have HO153 := n7_; have HO156 := n8_; have HO159 := n9_; have HB := n10_; clear n0_ n1_ n2_ n3_ n4_ n5_ n6_ n7_ n8_ n9_ n10_; clear hb ho48; obtain ⟨Ao49, co49, eo49⟩ := Kd.R_slice HO156.out; subst eo49; obtain ⟨Ao50, co50, eo50⟩ := Kd.R_slice HO159.out; subst eo50) | ((with_reducible refine gate_callee (f := 11) rfl ?_); refine goesL_ (some 33) rfl rfl Try.func11 (by kernel_rfl) rfl #[.slice Ao49 t154.length co49, .slice Ao50 y157.length co50] rfl (by (try simp only [List.map_toArray, List.map_cons, List.map_nil]); first | done | rfl | (simp only [List.length_drop, List.length_take]; rfl)) ?_; (with_reducible refine (greenwoodref01_Same.calls k _ _ t154 _ _ y157 true _ ?side1 ?side2 ?side3 ?side4 A6.out).mono ?_); (case side1 => repeat (first | exact (Kd.R_reads' HO156.out).2.2 | (with_reducible refine Kd.C_alloc ?_ _) | (with_reducible refine Kd.C_drewN ?_ _) | (with_reducible refine Kd.C_drew ?_))); (case side2 => exact (Kd.R_reads' HO156.out).2.1); (case side3 => repeat (first | exact (Kd.R_reads' HO159.out).2.2 | (with_reducible refine Kd.C_alloc ?_ _) | (with_reducible refine Kd.C_drewN ?_ _) | (with_reducible refine Kd.C_drew ?_))); (case side4 => exact (Kd.R_reads' HO159.out).2.1); rintro e w' ⟨rfl, ⟨nd, rfl⟩⟩; refine ⟨_, rfl, ?_⟩) | (go_at_call 14; (with_reducible refine (elim_Rank.calls k 5 2 _ _ y125 t161 _ ?side1 ?side2 A8.out).mono ?_); (case side1 => repeat (first | exact (Kd.N_reads' HO127.out).2.2 | (with_reducible refine Kd.C_alloc ?_ _) | (with_reducible refine Kd.C_drewN ?_ _) | (with_reducible refine Kd.C_drew ?_))); (case side2 => exact (Kd.N_reads' HO127.out).2.1); rintro e w51 ⟨rfl, hb⟩; have n0_ := Aside0.mk (Kd.N_below (by (with_reducible repeat (first | apply Kd.N_alloc | apply Kd.N_drewN | apply Kd.N_drew)); exact HO127.out) hb); have n1_ := Aside0.mk (Kd.R_below (by (with_reducible repeat (first | apply Kd.R_alloc | apply Kd.R_drewN | apply Kd.R_drew)); exact HO130.out) hb); have n2_ := Aside0.mk (Kd.R_below (by (with_reducible repeat (first | apply Kd.R_alloc | apply Kd.R_drewN | apply Kd.R_drew)); exact HO134.out) hb); have n3_ := Aside0.mk (Kd.V_below (by (with_reducible repeat (first | apply Kd.V_alloc | apply Kd.V_drewN | apply Kd.V_drew)); exact HO139.out) hb); have n4_ := Aside0.mk (Kd.R_below (by (with_reducible repeat (first | apply Kd.R_alloc | apply Kd.R_drewN | apply Kd.R_drew)); exact HO142.out) hb); have n5_ := Aside0.mk (Kd.R_below (by (with_reducible repeat (first | apply Kd.R_alloc | apply Kd.R_drewN | apply Kd.R_drew)); exact HO146.out) hb); have n6_ := Aside0.mk (Kd.R_below (by (with_reducible repeat (first | apply Kd.R_alloc | apply Kd.R_drewN | apply Kd.R_drew)); exact HO149.out) hb); have n7_ := Aside0.mk (Kd.R_below (by (with_reducible repeat (first | apply Kd.R_alloc | apply Kd.R_drewN | apply Kd.R_drew)); exact HO153.out) hb); have n8_ := Aside0.mk (Kd.R_below (by (with_reducible repeat (first | apply Kd.R_alloc | apply Kd.R_drewN | apply Kd.R_drew)); exact HO156.out) hb); have n9_ := Aside0.mk (Kd.R_below (by (with_reducible repeat (first | apply Kd.R_alloc | apply Kd.R_drewN | apply Kd.R_drew)); exact HO159.out) hb); have n10_ := Aside0.mk (below_step (by repeat (first | (with_reducible first | exact HB.out | apply below_alloc | apply pw_below_drewN | apply below_drew1) | exact HB.out)) hb); clear HO127; clear HO130; clear HO134; clear HO139; clear HO142; clear HO146; clear HO149; clear HO153; clear HO156; clear HO159; clear HB; have HO127 := n0_; have HO130 := n1_; have HO134 := n2_; have HO139 := n3_; have HO142 := n4_; have HO146 := n5_; have HO149 := n6_; have HO153 := n7_; have HO156 := n8_; have HO159 := n9_; have HB := n10_; clear n0_ n1_ n2_ n3_ n4_ n5_ n6_ n7_ n8_ n9_ n10_; (try clear hb); (try clear hb2); (try clear hk); (try clear hi)) | ((with_reducible refine gate_dst (N := 44) rfl ?_); (try (refine gate_guard (by rfl) ?_; dsimp only)); refine Kd.R_lit (Kd.int .i64) _ 3 ?hg (N := 44) ?hd (xs := ([3, 0, 3] : List Int)) (inner := [.int .i64 3, .int .i64 0, .int .i64 3]) (ok := fun _ => True) (okp := fun _ => True) ?hr ?hp (fun _ hk => hk) trivial (Below.refl _ _) (Nat.le_refl _) (by simp) ?_; (case hd => rfl); (case hg => rfl); (case hr => first | (go_simp; done) | (go_simp; rfl)); (case hp => exact (Reps.one (show Kd.M (Kd.int .i64) _ _ _ 3 [.int .i64 3] from rfl) (Reps.one (show Kd.M (Kd.int .i64) _ _ _ 0 [.int .i64 0] from rfl) (Reps.one (show Kd.M (Kd.int .i64) _ _ _ 3 [.int .i64 3] from rfl) (Reps.none _ _))))); intro v163 w52 ho53 hb hg_ hnew_; clear hg_ hnew_; (first | rw [← Ny162.out] at ho53 | (simp only [Int.reduceToNat] at ho53; rw [← Ny162.out] at ho53)); have n0_ := Aside0.mk (Kd.N_elder' (by (with_reducible repeat (first | apply Kd.N_alloc | apply Kd.N_drewN | apply Kd.N_drew)); exact HO127.out) (Kd.R_base ho53) hb); have n1_ := Aside0.mk (Kd.R_elder' (by (with_reducible repeat (first | apply Kd.R_alloc | apply Kd.R_drewN | apply Kd.R_drew)); exact HO130.out) (Kd.R_base ho53) hb); have n2_ := Aside0.mk (Kd.R_elder' (by (with_reducible repeat (first | apply Kd.R_alloc | apply Kd.R_drewN | apply Kd.R_drew)); exact HO134.out) (Kd.R_base ho53) hb); have n3_ := Aside0.mk (Kd.V_elder' (by (with_reducible repeat (first | apply Kd.V_alloc | apply Kd.V_drewN | apply Kd.V_drew)); exact HO139.out) (Kd.R_base ho53) hb); have n4_ := Aside0.mk (Kd.R_elder' (by (with_reducible repeat (first | apply Kd.R_alloc | apply Kd.R_drewN | apply Kd.R_drew)); exact HO142.out) (Kd.R_base ho53) hb); have n5_ := Aside0.mk (Kd.R_elder' (by (with_reducible repeat (first | apply Kd.R_alloc | apply Kd.R_drewN | apply Kd.R_drew)); exact HO146.out) (Kd.R_base ho53) hb); have n6_ := Aside0.mk (Kd.R_elder' (by (with_reducible repeat (first | apply Kd.R_alloc | apply Kd.R_drewN | apply Kd.R_drew)); exact HO149.out) (Kd.R_base ho53) hb); have n7_ := Aside0.mk (Kd.R_elder' (by (with_reducible repeat (first | apply Kd.R_alloc | apply Kd.R_drewN | apply Kd.R_drew)); exact HO153.out) (Kd.R_base ho53) hb); have n8_ := Aside0.mk (Kd.R_elder' (by (with_reducible repeat (first | apply Kd.R_alloc | apply Kd.R_drewN | apply Kd.R_drew)); exact HO156.out) (Kd.R_base ho53) hb); have n9_ := Aside0.mk (Kd.R_elder' (by (with_reducible repeat (first | apply Kd.R_alloc | apply Kd.R_drewN | apply Kd.R_drew)); exact HO159.out) (Kd.R_base ho53) hb); have n10_ := Aside0.mk (Kd.R_lower (Kd.R_new' (Kd.R_new' (Kd.R_new' (Kd.R_new' (Kd.R_new' (Kd.R_new' (Kd.R_new' (Kd.R_new' ho53 (Kd.R_lt (by (with_reducible repeat (first | apply Kd.R_alloc | apply Kd.R_drewN | apply Kd.R_drew)); exact HO130.out))) (Kd.R_lt (by (with_reducible repeat (first | apply Kd.R_alloc | apply Kd.R_drewN | apply Kd.R_drew)); exact HO134.out))) (Kd.R_lt (by (with_reducible repeat (first | apply Kd.R_alloc | apply Kd.R_drewN | apply Kd.R_drew)); exact HO142.out))) (Kd.R_lt (by (with_reducible repeat (first | apply Kd.R_alloc | apply Kd.R_drewN | apply Kd.R_drew)); exact HO146.out))) (Kd.R_lt (by (with_reducible repeat (first | apply Kd.R_alloc | apply Kd.R_drewN | apply Kd.R_drew)); exact HO149.out))) (Kd.R_lt (by (with_reducible repeat (first | apply Kd.R_alloc | apply Kd.R_drewN | apply Kd.R_drew)); exact HO153.out))) (Kd.R_lt (by (with_reducible repeat (first | apply Kd.R_alloc | apply Kd.R_drewN | apply Kd.R_drew)); exact HO156.out))) (Kd.R_lt (by (with_reducible repeat (first | apply Kd.R_alloc | apply Kd.R_drewN | apply Kd.R_drew)); exact HO159.out))) (below_size (by repeat (first | (with_reducible first | exact HB.out | apply below_alloc | apply pw_below_drewN | apply below_drew1) | exact HB.out)))); have n11_ := Aside0.mk (below_step (by repeat (first | (with_reducible first | exact HB.out | apply below_alloc | apply pw_below_drewN | apply below_drew1) | exact HB.out)) hb); clear HO127; clear HO130; clear HO134; clear HO139; clear HO142; clear HO146; clear HO149; clear HO153; clear HO156; clear HO159; clear HB; have HO127 := n0_; have HO130 := n1_; have HO134 := n2_; have HO139 := n3_; have HO142 := n4_; have HO146 := n5_; have HO149 := n6_; have HO153 := n7_; have HO156 := n8_; have HO159 := n9_; have HO164 := n10_; have HB := n11_; clear n0_ n1_ n2_ n3_ n4_ n5_ n6_ n7_ n8_ n9_ n10_ n11_; clear hb ho53; obtain ⟨Ao54, co54, eo54⟩ := Kd.R_slice HO134.out; subst eo54; obtain ⟨Ao55, co55, eo55⟩ := Kd.R_slice HO164.out; subst eo55) | (go_at_call 11; (with_reducible refine (greenwoodref01_Same.calls k _ _ t131 _ _ y162 true _ ?side1 ?side2 ?side3 ?side4 A11.out).mono ?_); (case side1 => repeat (first | exact (Kd.R_reads' HO134.out).2.2 | (with_reducible refine Kd.C_alloc ?_ _) | (with_reducible refine Kd.C_drewN ?_ _) | (with_reducible refine Kd.C_drew ?_))); (case side2 => exact (Kd.R_reads' HO134.out).2.1); (case side3 => repeat (first | exact (Kd.R_reads' HO164.out).2.2 | (with_reducible refine Kd.C_alloc ?_ _) | (with_reducible refine Kd.C_drewN ?_ _) | (with_reducible refine Kd.C_drew ?_))); (case side4 => exact (Kd.R_reads' HO164.out).2.1); rintro e w' ⟨rfl, ⟨nd, rfl⟩⟩; obtain ⟨Ao56, co56, eo56⟩ := Kd.R_slice HO153.out; subst eo56) | (go_at_call 9; (with_reducible refine (elim_May.calls k 5 2 _ _ y125 true _ ?side1 ?side2 A16.out).mono ?_); (case side1 => repeat (first | exact (Kd.N_reads' HO127.out).2.2 | (with_reducible refine Kd.C_alloc ?_ _) | (with_reducible refine Kd.C_drewN ?_ _) | (with_reducible refine Kd.C_drew ?_))); (case side2 => exact (Kd.N_reads' HO127.out).2.1); rintro e w57 ⟨rfl, hb⟩; have n0_ := Aside0.mk (Kd.N_below (by (with_reducible repeat (first | apply Kd.N_alloc | apply Kd.N_drewN | apply Kd.N_drew)); exact HO127.out) hb); have n1_ := Aside0.mk (Kd.R_below (by (with_reducible repeat (first | apply Kd.R_alloc | apply Kd.R_drewN | apply Kd.R_drew)); exact HO130.out) hb); have n2_ := Aside0.mk (Kd.R_below (by (with_reducible repeat (first | apply Kd.R_alloc | apply Kd.R_drewN | apply Kd.R_drew)); exact HO134.out) hb); have n3_ := Aside0.mk (Kd.V_below (by (with_reducible repeat (first | apply Kd.V_alloc | apply Kd.V_drewN | apply Kd.V_drew)); exact HO139.out) hb); have n4_ := Aside0.mk (Kd.R_below (by (with_reducible repeat (first | apply Kd.R_alloc | apply Kd.R_drewN | apply Kd.R_drew)); exact HO142.out) hb); have n5_ := Aside0.mk (Kd.R_below (by (with_reducible repeat (first | apply Kd.R_alloc | apply Kd.R_drewN | apply Kd.R_drew)); exact HO146.out) hb); have n6_ := Aside0.mk (Kd.R_below (by (with_reducible repeat (first | apply Kd.R_alloc | apply Kd.R_drewN | apply Kd.R_drew)); exact HO149.out) hb); have n7_ := Aside0.mk (Kd.R_below (by (with_reducible repeat (first | apply Kd.R_alloc | apply Kd.R_drewN | apply Kd.R_drew)); exact HO153.out) hb); have n8_ := Aside0.mk (Kd.R_below (by (with_reducible repeat (first | apply Kd.R_alloc | apply Kd.R_drewN | apply Kd.R_drew)); exact HO156.out) hb); have n9_ := Aside0.mk (Kd.R_below (by (with_reducible repeat (first | apply Kd.R_alloc | apply Kd.R_drewN | apply Kd.R_drew)); exact HO159.out) hb); have n10_ := Aside0.mk (Kd.R_below (by (with_reducible repeat (first | apply Kd.R_alloc | apply Kd.R_drewN | apply Kd.R_drew)); exact HO164.out) hb); have n11_ := Aside0.mk (below_step (by repeat (first | (with_reducible first | exact HB.out | apply below_alloc | apply pw_below_drewN | apply below_drew1) | exact HB.out)) hb); clear HO127; clear HO130; clear HO134; clear HO139; clear HO142; clear HO146; clear HO149; clear HO153; clear HO156; clear HO159; clear HO164; clear HB; have HO127 := n0_; have HO130 := n1_; have HO134 := n2_; have HO139 := n3_; have HO142 := n4_; have HO146 := n5_; have HO149 := n6_; have HO153 := n7_; have HO156 := n8_; have HO159 := n9_; have HO164 := n10_; have HB := n11_; clear n0_ n1_ n2_ n3_ n4_ n5_ n6_ n7_ n8_ n9_ n10_ n11_; (try clear hb); (try clear hb2); (try clear hk); (try clear hi)) | (go_at_call 9; (with_reducible refine (elim_May.calls k 4 2 _ _ y125 false _ ?side1 ?side2 A18.out).mono ?_); (case side1 => repeat (first | exact (Kd.N_reads' HO127.out).2.2 | (with_reducible refine Kd.C_alloc ?_ _) | (with_reducible refine Kd.C_drewN ?_ _) | (with_reducible refine Kd.C_drew ?_))); (case side2 => exact (Kd.N_reads' HO127.out).2.1); rintro e w58 ⟨rfl, hb⟩; have n0_ := Aside0.mk (Kd.N_below (by (with_reducible repeat (first | apply Kd.N_alloc | apply Kd.N_drewN | apply Kd.N_drew)); exact HO127.out) hb); have n1_ := Aside0.mk (Kd.R_below (by (with_reducible repeat (first | apply Kd.R_alloc | apply Kd.R_drewN | apply Kd.R_drew)); exact HO130.out) hb); have n2_ := Aside0.mk (Kd.R_below (by (with_reducible repeat (first | apply Kd.R_alloc | apply Kd.R_drewN | apply Kd.R_drew)); exact HO134.out) hb); have n3_ := Aside0.mk (Kd.V_below (by (with_reducible repeat (first | apply Kd.V_alloc | apply Kd.V_drewN | apply Kd.V_drew)); exact HO139.out) hb); have n4_ := Aside0.mk (Kd.R_below (by (with_reducible repeat (first | apply Kd.R_alloc | apply Kd.R_drewN | apply Kd.R_drew)); exact HO142.out) hb); have n5_ := Aside0.mk (Kd.R_below (by (with_reducible repeat (first | apply Kd.R_alloc | apply Kd.R_drewN | apply Kd.R_drew)); exact HO146.out) hb); have n6_ := Aside0.mk (Kd.R_below (by (with_reducible repeat (first | apply Kd.R_alloc | apply Kd.R_drewN | apply Kd.R_drew)); exact HO149.out) hb); have n7_ := Aside0.mk (Kd.R_below (by (with_reducible repeat (first | apply Kd.R_alloc | apply Kd.R_drewN | apply Kd.R_drew)); exact HO153.out) hb); have n8_ := Aside0.mk (Kd.R_below (by (with_reducible repeat (first | apply Kd.R_alloc | apply Kd.R_drewN | apply Kd.R_drew)); exact HO156.out) hb); have n9_ := Aside0.mk (Kd.R_below (by (with_reducible repeat (first | apply Kd.R_alloc | apply Kd.R_drewN | apply Kd.R_drew)); exact HO159.out) hb); have n10_ := Aside0.mk (Kd.R_below (by (with_reducible repeat (first | apply Kd.R_alloc | apply Kd.R_drewN | apply Kd.R_drew)); exact HO164.out) hb); have n11_ := Aside0.mk (below_step (by repeat (first | (with_reducible first | exact HB.out | apply below_alloc | apply pw_below_drewN | apply below_drew1) | exact HB.out)) hb); clear HO127; clear HO130; clear HO134; clear HO139; clear HO142; clear HO146; clear HO149; clear HO153; clear HO156; clear HO159; clear HO164; clear HB; have HO127 := n0_; have HO130 := n1_; have HO134 := n2_; have HO139 := n3_; have HO142 := n4_; have HO146 := n5_; have HO149 := n6_; have HO153 := n7_; have HO156 := n8_; have HO159 := n9_; have HO164 := n10_; have HB := n11_; clear n0_ n1_ n2_ n3_ n4_ n5_ n6_ n7_ n8_ n9_ n10_ n11_; (try clear hb); (try clear hb2); (try clear hk); (try clear hi)) | (go_at_call 14; (with_reducible refine (elim_Rank.calls k 5 3 _ _ y125 t168 _ ?side1 ?side2 A20.out).mono ?_); (case side1 => repeat (first | exact (Kd.N_reads' HO127.out).2.2 | (with_reducible refine Kd.C_alloc ?_ _) | (with_reducible refine Kd.C_drewN ?_ _) | (with_reducible refine Kd.C_drew ?_))); (case side2 => exact (Kd.N_reads' HO127.out).2.1); rintro e w59 ⟨rfl, hb⟩; have n0_ := Aside0.mk (Kd.N_below (by (with_reducible repeat (first | apply Kd.N_alloc | apply Kd.N_drewN | apply Kd.N_drew)); exact HO127.out) hb); have n1_ := Aside0.mk (Kd.R_below (by (with_reducible repeat (first | apply Kd.R_alloc | apply Kd.R_drewN | apply Kd.R_drew)); exact HO130.out) hb); have n2_ := Aside0.mk (Kd.R_below (by (with_reducible repeat (first | apply Kd.R_alloc | apply Kd.R_drewN | apply Kd.R_drew)); exact HO134.out) hb); have n3_ := Aside0.mk (Kd.V_below (by (with_reducible repeat (first | apply Kd.V_alloc | apply Kd.V_drewN | apply Kd.V_drew)); exact HO139.out) hb); have n4_ := Aside0.mk (Kd.R_below (by (with_reducible repeat (first | apply Kd.R_alloc | apply Kd.R_drewN | apply Kd.R_drew)); exact HO142.out) hb); have n5_ := Aside0.mk (Kd.R_below (by (with_reducible repeat (first | apply Kd.R_alloc | apply Kd.R_drewN | apply Kd.R_drew)); exact HO146.out) hb); have n6_ := Aside0.mk (Kd.R_below (by (with_reducible repeat (first | apply Kd.R_alloc | apply Kd.R_drewN | apply Kd.R_drew)); exact HO149.out) hb); have n7_ := Aside0.mk (Kd.R_below (by (with_reducible repeat (first | apply Kd.R_alloc | apply Kd.R_drewN | apply Kd.R_drew)); exact HO153.out) hb); have n8_ := Aside0.mk (Kd.R_below (by (with_reducible repeat (first | apply Kd.R_alloc | apply Kd.R_drewN | apply Kd.R_drew)); exact HO156.out) hb); have n9_ := Aside0.mk (Kd.R_below (by (with_reducible repeat (first | apply Kd.R_alloc | apply Kd.R_drewN | apply Kd.R_drew)); exact HO159.out) hb); have n10_ := Aside0.mk (Kd.R_below (by (with_reducible repeat (first | apply Kd.R_alloc | apply Kd.R_drewN | apply Kd.R_drew)); exact HO164.out) hb); have n11_ := Aside0.mk (below_step (by repeat (first | (with_reducible first | exact HB.out | apply below_alloc | apply pw_below_drewN | apply below_drew1) | exact HB.out)) hb); clear HO127; clear HO130; clear HO134; clear HO139; clear HO142; clear HO146; clear HO149; clear HO153; clear HO156; clear HO159; clear HO164; clear HB; have HO127 := n0_; have HO130 := n1_; have HO134 := n2_; have HO139 := n3_; have HO142 := n4_; have HO146 := n5_; have HO149 := n6_; have HO153 := n7_; have HO156 := n8_; have HO159 := n9_; have HO164 := n10_; have HB := n11_; clear n0_ n1_ n2_ n3_ n4_ n5_ n6_ n7_ n8_ n9_ n10_ n11_; (try clear hb); (try clear hb2); (try clear hk); (try clear hi)))
                      go_ret
                      exact ⟨by first | rfl | (simp [errW_none, errW_some] <;> rfl) | (simp [*, errW_none, errW_some] <;> rfl), by repeat (first | (with_reducible first | exact HB.out | apply below_alloc | apply pw_below_drewN | apply below_drew1) | exact HB.out)⟩
                  · replace c17 := Bool.eq_false_iff.mpr c17
                    subst c17
                    have H1 : (some false) = some r := by rw [if_neg (show ¬ (false = true) by decide)] at H; exact H
                    clear H
                    have H := H1
                    clear H1
                    exact absurd ((Option.some.inj H).trans hrT) (by decide)
                · rw [if_neg c15] at H
                  have c15b0 : ((t150.length : Int) == 0) = false := beq_eq_false_iff_ne.mpr c15
                  have c15b1 : ((t150.length : Int) != 0) = true := bne_iff_ne.mpr c15
                  have c15b2 : ¬ (t150 = []) := fun h_ => c15 (by rw [h_]; rfl)
                  exact absurd ((Option.some.inj H).trans hrT) (by decide)
              · replace c14 := Bool.eq_false_iff.mpr c14
                subst c14
                have H1 : (some false) = some r := by rw [if_neg (show ¬ (false = true) by decide)] at H; exact H
                clear H
                have H := H1
                clear H1
                exact absurd ((Option.some.inj H).trans hrT) (by decide)
          · replace c12 := Bool.eq_false_iff.mpr c12
            subst c12
            have H1 : (some false) = some r := by rw [if_neg (show ¬ (false = true) by decide)] at H; exact H
            clear H
            have H := H1
            clear H1
            exact absurd ((Option.some.inj H).trans hrT) (by decide)
        · replace c10 := Bool.eq_false_iff.mpr c10
          subst c10
          have H1 : (some false) = some r := by rw [if_neg (show ¬ (false = true) by decide)] at H; exact H
          clear H
          have H := H1
          clear H1
          exact absurd ((Option.some.inj H).trans hrT) (by decide)
      · rw [if_neg c9] at H
        have c9b0 : (t161 == 2) = false := beq_eq_false_iff_ne.mpr c9
        have c9b1 : (t161 != 2) = true := bne_iff_ne.mpr c9
        exact absurd ((Option.some.inj H).trans hrT) (by decide)
    · replace c7 := Bool.eq_false_iff.mpr c7
      subst c7
      have H1 : (some false) = some r := by rw [if_neg (show ¬ (false = true) by decide)] at H; exact H
      clear H
      have H := H1
      clear H1
      exact absurd ((Option.some.inj H).trans hrT) (by decide)
  · rw [if_neg c2] at H
    exact absurd H (by simp)
theorem greenwoodlaw05_fixed.val : ∃ K, greenwoodlaw05_fixed.f K = some true := ⟨400, by decide +kernel⟩
theorem greenwoodlaw05_fixed.calls (k : Nat) (r : Bool) (w : World) (h : greenwoodlaw05_fixed.f k  = some r) :
    Calls Try.prog 8 #[] w fun e w' => e = .returned (.bool r) ∧ Below w.heap.size w w' :=
  greenwoodlaw05_fixed.callsT k r w (by obtain ⟨K, hK⟩ := greenwoodlaw05_fixed.val; have h1 := at_rounds greenwoodlaw05_fixed.mono (Nat.le_max_left k K) h; have h2 := at_rounds greenwoodlaw05_fixed.mono (Nat.le_max_right k K) hK; rw [h1] at h2; exact Option.some.inj h2) h
/-! ### greenwoodref04_Prime: function 23 -/
mutual
def greenwoodref04_Prime.j0 : Nat → Int → Bool → Option (Bool)
  | 0, _, _ => none
  | k + 1, x0, x9 => if x9 = true then (some false) else (greenwoodref04_Prime.l0 k x0 2)
def greenwoodref04_Prime.l0 : Nat → Int → Int → Option (Bool)
  | 0, _, _ => none
  | k + 1, x0, x3 => if (wrap64 (x3 * x3)) ≤ x0 then (if x3 = 0 then (none) else (if (Int.tmod x0 x3) = 0 then (some false) else (greenwoodref04_Prime.l0 k x0 (wrap64 (x3 + 1))))) else (some true)
end
def greenwoodref04_Prime.f (k : Nat) (a0 : Int) : Option (Bool) := if a0 < 2 then (greenwoodref04_Prime.j0 k a0 true) else (greenwoodref04_Prime.j0 k a0 (decide (a0 > 2147483647)))
theorem greenwoodref04_Prime.mono_l : ∀ k, (∀ y0 y1, LeO (greenwoodref04_Prime.j0 k y0 y1) (greenwoodref04_Prime.j0 (k + 1) y0 y1)) ∧ (∀ y0 y1, LeO (greenwoodref04_Prime.l0 k y0 y1) (greenwoodref04_Prime.l0 (k + 1) y0 y1))
  | 0 => ⟨fun _ _ r h => by simp [greenwoodref04_Prime.j0] at h, fun _ _ r h => by simp [greenwoodref04_Prime.l0] at h⟩
  | k + 1 => by
    obtain ⟨ih0, ih1⟩ := greenwoodref04_Prime.mono_l k
    refine ⟨?_, ?_⟩
    · intro y0 y1
      unfold greenwoodref04_Prime.j0
      repeat' first
      | (with_reducible exact ih0 _ _)
      | (with_reducible exact ih1 _ _)
      | (with_reducible exact LeO.refl _)
      | (with_reducible exact LeO.none _)
      | (with_reducible refine LeO.ite ?_ ?_)
      | (with_reducible refine LeO.bind ?_ (fun _ => ?_))
      | exact ih0 _ _
      | exact ih1 _ _
      | exact LeO.none _
      | refine LeO.ite ?_ ?_
      | refine LeO.bind ?_ (fun _ => ?_)
    · intro y0 y1
      unfold greenwoodref04_Prime.l0
      repeat' first
      | (with_reducible exact ih0 _ _)
      | (with_reducible exact ih1 _ _)
      | (with_reducible exact LeO.refl _)
      | (with_reducible exact LeO.none _)
      | (with_reducible refine LeO.ite ?_ ?_)
      | (with_reducible refine LeO.bind ?_ (fun _ => ?_))
      | exact ih0 _ _
      | exact ih1 _ _
      | exact LeO.none _
      | refine LeO.ite ?_ ?_
      | refine LeO.bind ?_ (fun _ => ?_)
theorem greenwoodref04_Prime.mono : ∀ a0 k, LeO (greenwoodref04_Prime.f k a0) (greenwoodref04_Prime.f (k + 1) a0) := by
  intro a0 k
  obtain ⟨ih0, ih1⟩ := greenwoodref04_Prime.mono_l k
  unfold greenwoodref04_Prime.f
  repeat' first
      | (with_reducible exact ih0 _ _)
      | (with_reducible exact ih1 _ _)
      | (with_reducible exact LeO.refl _)
      | (with_reducible exact LeO.none _)
      | (with_reducible refine LeO.ite ?_ ?_)
      | (with_reducible refine LeO.bind ?_ (fun _ => ?_))
      | exact ih0 _ _
      | exact ih1 _ _
      | exact LeO.none _
      | refine LeO.ite ?_ ?_
      | refine LeO.bind ?_ (fun _ => ?_)
set_option maxHeartbeats 8000000 in
set_option maxRecDepth 100000 in
theorem greenwoodref04_Prime.calls (k : Nat) (a0 : Int) (r : Bool) (w : World) (h : greenwoodref04_Prime.f k a0 = some r) :
    Calls Try.prog 23 #[.int .i64 a0] w fun e w' => e = .returned (.bool r) ∧ Drawn0 w w' := by
  have H : (if a0 < 2 then (greenwoodref04_Prime.j0 k a0 true) else (greenwoodref04_Prime.j0 k a0 (decide (a0 > 2147483647)))) = some r := h
  clear h
  have HC2 := Aside0.mk H
  clear H
  go_enter Try.func23, Try.ntmps23
  go_upto_region 1 with (fail)
  go_cut [9] (fun v9 wc => ∃ (kq : Nat) (x9_1 : Bool), v9 = .bool x9_1 ∧ Aside0 (greenwoodref04_Prime.j0 kq a0 x9_1 = some r) ∧ Aside0 (kq ≤ k) ∧ Drawn0 w wc)
  case first =>
    have H := HC2.out
    clear HC2
    by_cases c3 : a0 < 2
    · rw [if_pos c3] at H
      have c3b0 : decide (a0 < 2) = true := decide_eq_true c3
      clear c3
      (first | rw [c3b0] | (simp only [i64_w, i32_w]; rw [c3b0]) | skip)
      have H' := Aside0.mk H
      clear H
      go_wp2
      go_meet
      case rel => exact ⟨_, (true), (by first | rfl | (simp; done) | (simp [*]; done)), H', ⟨by first | omega | exact Nat.le_refl _⟩, by repeat (first | exact Drawn0.refl _ | apply Drawn0.step)⟩
    · rw [if_neg c3] at H
      have c3b0 : decide (a0 < 2) = false := decide_eq_false c3
      clear c3
      (first | rw [c3b0] | (simp only [i64_w, i32_w]; rw [c3b0]) | skip)
      have H' := Aside0.mk H
      clear H
      go_wp2
      go_meet
      case rel => exact ⟨_, (decide (a0 > 2147483647)), (by first | rfl | (simp; done) | (simp [*]; done)), H', ⟨by first | omega | exact Nat.le_refl _⟩, by repeat (first | exact Drawn0.refl _ | apply Drawn0.step)⟩
  case rest =>
    clear HC2
    try clear c2
    try clear p2
    try clear c3
    try clear c3b0
    obtain ⟨kq, x9_1, rfl, HA, HJ1, ⟨mc1, rfl⟩⟩ := hcut
    cases kq with
    | zero => exact absurd HA.out (by simp [greenwoodref04_Prime.j0])
    | succ kj1 =>
      have H := HA.out
      clear HA
      simp only [greenwoodref04_Prime.j0] at H
      by_cases c4 : x9_1 = true
      · subst c4
        have H1 : (some false) = some r := by rw [if_pos rfl] at H; exact H
        clear H
        have H := H1
        clear H1
        obtain rfl := Option.some.inj H
        go_wp2
        go_ret
        exact ⟨by first | rfl | (simp; done) | (simp [*]; done), by repeat (first | exact Drawn0.refl _ | apply Drawn0.step)⟩
      · replace c4 := Bool.eq_false_iff.mpr c4
        subst c4
        have H1 : (greenwoodref04_Prime.l0 kj1 a0 2) = some r := by rw [if_neg (show ¬ (false = true) by decide)] at H; exact H
        clear H
        have H := H1
        clear H1
        have H' := Aside0.mk H
        clear H
        go_wp2
        go_loopg [3] kj1 (fun kq v3 w' => ∃ (x3_2 : Int), v3 = .int .i64 x3_2 ∧ Aside0 (greenwoodref04_Prime.l0 kq a0 x3_2 = some r) ∧ Aside0 (kq ≤ kj1) ∧ Drawn0 w w')
        case atStart => exact ⟨(2), (by first | rfl | (simp; done) | (simp [*]; done)), H', ⟨Nat.le_refl _⟩, by repeat (first | exact Drawn0.refl _ | apply Drawn0.step)⟩
        case round =>
          clear H'
          try clear c1
          try clear c2
          try clear p2
          try clear c3
          try clear c3b0
          try clear c4
          try clear p2
          obtain ⟨x3_2, rfl, HA, HK2, ⟨m2, rfl⟩⟩ := hrel
          cases gk with
          | zero => exact absurd HA.out (by simp [greenwoodref04_Prime.l0])
          | succ k2 =>
            have H := HA.out
            clear HA
            simp only [greenwoodref04_Prime.l0] at H
            by_cases c5 : (wrap64 (x3_2 * x3_2)) ≤ a0
            · rw [if_pos c5] at H
              have c5b0 : decide ((wrap64 (x3_2 * x3_2)) ≤ a0) = true := decide_eq_true c5
              clear c5
              by_cases c6 : x3_2 = 0
              · rw [if_pos c6] at H
                exact absurd H (by simp)
              · rw [if_neg c6] at H
                have c6b0 : (x3_2 == 0) = false := beq_eq_false_iff_ne.mpr c6
                have c6b1 : (x3_2 != 0) = true := bne_iff_ne.mpr c6
                by_cases c7 : (Int.tmod a0 x3_2) = 0
                · rw [if_pos c7] at H
                  have c7b0 : ((Int.tmod a0 x3_2) == 0) = true := beq_iff_eq.mpr c7
                  have c7b1 : ((Int.tmod a0 x3_2) != 0) = false := bne_eq_false_iff_eq.mpr c7
                  clear c7
                  obtain rfl := Option.some.inj H
                  go_wp2
                  go_ret
                  exact ⟨by first | rfl | (simp; done) | (simp [*]; done), by repeat (first | exact Drawn0.refl _ | apply Drawn0.step)⟩
                · rw [if_neg c7] at H
                  have c7b0 : ((Int.tmod a0 x3_2) == 0) = false := beq_eq_false_iff_ne.mpr c7
                  have c7b1 : ((Int.tmod a0 x3_2) != 0) = true := bne_iff_ne.mpr c7
                  have H' := Aside0.mk H
                  clear H
                  go_wp2
                  go_roundg k2
                  case measure => have := HJ1.out; have := HK2.out; omega
                  case rel => exact ⟨(wrap64 (x3_2 + 1)), (by first | rfl | (simp; done) | (simp [*]; done)), H', ⟨by have := HJ1.out; have := HK2.out; omega⟩, by repeat (first | exact Drawn0.refl _ | apply Drawn0.step)⟩
            · rw [if_neg c5] at H
              have c5b0 : decide ((wrap64 (x3_2 * x3_2)) ≤ a0) = false := decide_eq_false c5
              clear c5
              obtain rfl := Option.some.inj H
              go_wp2
              go_ret
              exact ⟨by first | rfl | (simp; done) | (simp [*]; done), by repeat (first | exact Drawn0.refl _ | apply Drawn0.step)⟩
end Go.Proofs.Ytepakefmioeilaa.P
-- written by wip/tool/ownprint.py of this claim's own repository, out of the translation's print
namespace Go.Proofs.Ytepakefmioeilaa.P
open Go.RowKit Go.Proofs.YtepakefmioeilaaW.PrintWords Go.Proofs.YtepakefmioeilaaW.PrintLast Go.Proofs.YtepakefmioeilaaW.PrintMore
attribute [local go_sem] max2_int min2_int max_two min_two max_three min_three max_four min_four   -- for this text's walks alone
set_option linter.unusedVariables false
set_option linter.unusedSimpArgs false

/-! ### greenwoodref05_May: function 10 -/
mutual
def greenwoodref05_May.j0 : Nat → Int → Int → List (List Int) → Bool → Option (Bool)
  | 0, _, _, _, _ => none
  | k + 1, x0, x1, x2, x24 => if x24 = true then (some false) else (greenwoodref05_May.l0 k x0 x1 x2 0)
def greenwoodref05_May.l0 : Nat → Int → Int → List (List Int) → Int → Option (Bool)
  | 0, _, _, _, _ => none
  | k + 1, x0, x1, x2, x7 => if x7 < (x2.length : Int) then (if 0 ≤ x7 then (if ((rd_L1 x2 x7).length : Int) = x1 then (greenwoodref05_May.l1 k x0 x1 x2 x7 0) else (some false)) else (none)) else (some true)
def greenwoodref05_May.l1 : Nat → Int → Int → List (List Int) → Int → Int → Option (Bool)
  | 0, _, _, _, _, _ => none
  | k + 1, x0, x1, x2, x7, x8 => if x8 < x1 then (if 0 ≤ x7 then (if x7 < (x2.length : Int) then (if 0 ≤ x8 then (if x8 < ((rd_L1 x2 x7).length : Int) then (if (rd (rd_L1 x2 x7) x8) < 0 then (some false) else (if (rd (rd_L1 x2 x7) x8) ≥ x0 then (some false) else (greenwoodref05_May.l1 k x0 x1 x2 x7 (wrap64 (x8 + 1))))) else (none)) else (none)) else (none)) else (none)) else (greenwoodref05_May.l0 k x0 x1 x2 (wrap64 (x7 + 1)))
end
def greenwoodref05_May.f (k : Nat) (a0 : Int) (a1 : Int) (l2 : List (List Int)) : Option (Bool) := (greenwoodref04_Prime.f k a0).bind fun t169 => (if t169 = true then (if a1 < 0 then (greenwoodref05_May.j0 k a0 a1 l2 true) else (if a1 > 64 then (greenwoodref05_May.j0 k a0 a1 l2 true) else (greenwoodref05_May.j0 k a0 a1 l2 (decide ((l2.length : Int) > 64))))) else (greenwoodref05_May.j0 k a0 a1 l2 true))
set_option maxHeartbeats 8000000 in
set_option maxRecDepth 100000 in
theorem greenwoodref05_May.calls (k : Nat) (a0 : Int) (a1 : Int) (A2 : Option Addr) (c2 : Nat) (l2 : List (List Int)) (r : Bool) (w : World) (hr2 : Kd.C (Kd.slice 3 (Kd.int .i64)) w A2 l2.length l2) (hc2 : l2.length ≤ c2) (h : greenwoodref05_May.f k a0 a1 l2 = some r) :
    Calls Try.prog 10 #[.int .i64 a0, .int .i64 a1, .slice A2 l2.length c2] w fun e w' => e = .returned (.bool r) ∧ Drawn0 w w' := by
  have HR2 := Aside0.mk hr2
  have HC2 := Aside0.mk hc2
  clear hr2 hc2
  have H : ((greenwoodref04_Prime.f k a0).bind fun t169 => (if t169 = true then (if a1 < 0 then (greenwoodref05_May.j0 k a0 a1 l2 true) else (if a1 > 64 then (greenwoodref05_May.j0 k a0 a1 l2 true) else (greenwoodref05_May.j0 k a0 a1 l2 (decide ((l2.length : Int) > 64))))) else (greenwoodref05_May.j0 k a0 a1 l2 true))) = some r := h
  clear h
  have HC4 := Aside0.mk H
  clear H
  go_enter Try.func10, Try.ntmps10
  go_upto_region 1 with (fail)
  go_cut [24] (fun v24 wc => ∃ (kq : Nat) (x24_3 : Bool), v24 = .bool x24_3 ∧ Aside0 (greenwoodref05_May.j0 kq a0 a1 l2 x24_3 = some r) ∧ Aside0 (kq ≤ k) ∧ Drawn0 w wc)
  case first =>
    have H := HC4.out
    clear HC4
    replace H := Option.bind_eq_some_iff.mp H
    obtain ⟨t169, A50, H⟩ := H
    replace H : (if t169 = true then (if a1 < 0 then (greenwoodref05_May.j0 k a0 a1 l2 true) else (if a1 > 64 then (greenwoodref05_May.j0 k a0 a1 l2 true) else (greenwoodref05_May.j0 k a0 a1 l2 (decide ((l2.length : Int) > 64))))) else (greenwoodref05_May.j0 k a0 a1 l2 true)) = some r := H
    have A5 := Aside0.mk A50
    clear A50
    by_cases c6 : t169 = true
    · subst c6
      have H1 : (if a1 < 0 then (greenwoodref05_May.j0 k a0 a1 l2 true) else (if a1 > 64 then (greenwoodref05_May.j0 k a0 a1 l2 true) else (greenwoodref05_May.j0 k a0 a1 l2 (decide ((l2.length : Int) > 64))))) = some r := by rw [if_pos rfl] at H; exact H
      clear H
      have H := H1
      clear H1
      by_cases c7 : a1 < 0
      · rw [if_pos c7] at H
        have c7b0 : decide (a1 < 0) = true := decide_eq_true c7
        clear c7
        (first | rw [c7b0] | (simp only [i64_w, i32_w]; rw [c7b0]) | skip)
        have H' := Aside0.mk H
        clear H
        go_wp2_with (first | ((with_reducible refine gate_callee (f := 23) rfl ?_); refine goesL_ (some 10) rfl rfl Try.func23 (by kernel_rfl) rfl #[.int .i64 a0] rfl (by (try simp only [List.map_toArray, List.map_cons, List.map_nil]); first | done | rfl | (simp only [List.length_drop, List.length_take]; rfl)) ?_; (with_reducible refine (greenwoodref04_Prime.calls k a0 true _ A5.out).mono ?_); rintro e w' ⟨rfl, ⟨nd, rfl⟩⟩; refine ⟨_, rfl, ?_⟩))
        go_meet
        case rel => exact ⟨_, (true), (by first | rfl | (simp; done) | (simp [*]; done)), H', ⟨by first | omega | exact Nat.le_refl _⟩, by repeat (first | exact Drawn0.refl _ | apply Drawn0.step)⟩
      · rw [if_neg c7] at H
        have c7b0 : decide (a1 < 0) = false := decide_eq_false c7
        clear c7
        (first | rw [c7b0] | (simp only [i64_w, i32_w]; rw [c7b0]) | skip)
        by_cases c8 : a1 > 64
        · rw [if_pos c8] at H
          have c8b0 : decide (64 < a1) = true := decide_eq_true c8
          clear c8
          have H' := Aside0.mk H
          clear H
          go_wp2_with (first | ((with_reducible refine gate_callee (f := 23) rfl ?_); refine goesL_ (some 10) rfl rfl Try.func23 (by kernel_rfl) rfl #[.int .i64 a0] rfl (by (try simp only [List.map_toArray, List.map_cons, List.map_nil]); first | done | rfl | (simp only [List.length_drop, List.length_take]; rfl)) ?_; (with_reducible refine (greenwoodref04_Prime.calls k a0 true _ A5.out).mono ?_); rintro e w' ⟨rfl, ⟨nd, rfl⟩⟩; refine ⟨_, rfl, ?_⟩))
          go_meet
          case rel => exact ⟨_, (true), (by first | rfl | (simp; done) | (simp [*]; done)), H', ⟨by first | omega | exact Nat.le_refl _⟩, by repeat (first | exact Drawn0.refl _ | apply Drawn0.step)⟩
        · rw [if_neg c8] at H
          have c8b0 : decide (64 < a1) = false := decide_eq_false c8
          clear c8
          have H' := Aside0.mk H
          clear H
          go_wp2_with (first | ((with_reducible refine gate_callee (f := 23) rfl ?_); refine goesL_ (some 10) rfl rfl Try.func23 (by kernel_rfl) rfl #[.int .i64 a0] rfl (by (try simp only [List.map_toArray, List.map_cons, List.map_nil]); first | done | rfl | (simp only [List.length_drop, List.length_take]; rfl)) ?_; (with_reducible refine (greenwoodref04_Prime.calls k a0 true _ A5.out).mono ?_); rintro e w' ⟨rfl, ⟨nd, rfl⟩⟩; refine ⟨_, rfl, ?_⟩))
          go_meet
          case rel => exact ⟨_, (decide ((l2.length : Int) > 64)), (by first | rfl | (simp; done) | (simp [*]; done)), H', ⟨by first | omega | exact Nat.le_refl _⟩, by repeat (first | exact Drawn0.refl _ | apply Drawn0.step)⟩
    · replace c6 := Bool.eq_false_iff.mpr c6
      subst c6
      have H1 : (greenwoodref05_May.j0 k a0 a1 l2 true) = some r := by rw [if_neg (show ¬ (false = true) by decide)] at H; exact H
      clear H
      have H := H1
      clear H1
      have H' := Aside0.mk H
      clear H
      go_wp2_with (first | ((with_reducible refine gate_callee (f := 23) rfl ?_); refine goesL_ (some 10) rfl rfl Try.func23 (by kernel_rfl) rfl #[.int .i64 a0] rfl (by (try simp only [List.map_toArray, List.map_cons, List.map_nil]); first | done | rfl | (simp only [List.length_drop, List.length_take]; rfl)) ?_; (with_reducible refine (greenwoodref04_Prime.calls k a0 false _ A5.out).mono ?_); rintro e w' ⟨rfl, ⟨nd, rfl⟩⟩; refine ⟨_, rfl, ?_⟩))
      go_meet
      case rel => exact ⟨_, (true), (by first | rfl | (simp; done) | (simp [*]; done)), H', ⟨by first | omega | exact Nat.le_refl _⟩, by repeat (first | exact Drawn0.refl _ | apply Drawn0.step)⟩
  case rest =>
    clear HC4
    try clear c1
    try clear c2
    try clear p2
    try clear c6
    try clear c7
    try clear c7b0
    try clear c8
    try clear c8b0
    obtain ⟨kq, x24_3, rfl, HA, HJ3, ⟨mc3, rfl⟩⟩ := hcut
    cases kq with
    | zero => exact absurd HA.out (by simp [greenwoodref05_May.j0])
    | succ kj3 =>
      have H := HA.out
      clear HA
      simp only [greenwoodref05_May.j0] at H
      by_cases c9 : x24_3 = true
      · subst c9
        have H1 : (some false) = some r := by rw [if_pos rfl] at H; exact H
        clear H
        have H := H1
        clear H1
        obtain rfl := Option.some.inj H
        go_wp2
        go_ret
        exact ⟨by first | rfl | (simp; done) | (simp [*]; done), by repeat (first | exact Drawn0.refl _ | apply Drawn0.step)⟩
      · replace c9 := Bool.eq_false_iff.mpr c9
        subst c9
        have H1 : (greenwoodref05_May.l0 kj3 a0 a1 l2 0) = some r := by rw [if_neg (show ¬ (false = true) by decide)] at H; exact H
        clear H
        have H := H1
        clear H1
        have H' := Aside0.mk H
        clear H
        go_wp2
        go_loopg [7] kj3 (fun kq v7 w' => ∃ (x7_2 : Int), v7 = .int .i64 x7_2 ∧ Aside0 (greenwoodref05_May.l0 kq a0 a1 l2 x7_2 = some r) ∧ Aside0 (kq ≤ kj3) ∧ Drawn0 w w')
        case atStart => exact ⟨(0), (by first | rfl | (simp; done) | (simp [*]; done)), H', ⟨Nat.le_refl _⟩, by repeat (first | exact Drawn0.refl _ | apply Drawn0.step)⟩
        case round =>
          clear H'
          try clear c1
          try clear c2
          try clear p2
          try clear c3
          try clear c6
          try clear c7
          try clear c7b0
          try clear c8
          try clear c8b0
          try clear c9
          try clear p2
          obtain ⟨x7_2, rfl, HA, HK2, ⟨m2, rfl⟩⟩ := hrel
          cases gk with
          | zero => exact absurd HA.out (by simp [greenwoodref05_May.l0])
          | succ k2 =>
            have H := HA.out
            clear HA
            simp only [greenwoodref05_May.l0] at H
            by_cases c10 : x7_2 < (l2.length : Int)
            · rw [if_pos c10] at H
              have c10b0 : decide (x7_2 < (l2.length : Int)) = true := decide_eq_true c10
              clear c10
              by_cases c11 : 0 ≤ x7_2
              · rw [if_pos c11] at H
                have c11b0 : decide (0 ≤ x7_2) = true := decide_eq_true c11
                clear c11
                by_cases c12 : ((rd_L1 l2 x7_2).length : Int) = a1
                · rw [if_pos c12] at H
                  have c12b0 : (((rd_L1 l2 x7_2).length : Int) == a1) = true := beq_iff_eq.mpr c12
                  have c12b1 : (((rd_L1 l2 x7_2).length : Int) != a1) = false := bne_eq_false_iff_eq.mpr c12
                  clear c12
                  have H' := Aside0.mk H
                  clear H
                  have p170 : 0 ≤ (x7_2 : Int) := of_decide_eq_true (by first | (with_reducible assumption) | assumption)
                  have q170 : x7_2 < (l2.length : Int) := of_decide_eq_true (by first | (with_reducible assumption) | assumption)
                  obtain ⟨ad170, A170_0, c170_0, e170, hx170_0, hl170_0, hi170_0⟩ := at_L1 HR2.out x7_2 p170 q170
                  cases e170
                  have HR170_0 := Aside0.mk hi170_0
                  have HC170_0 := Aside0.mk hl170_0
                  clear hi170_0 hl170_0
                  replace p170 := eq_true p170
                  replace q170 := eq_true q170
                  go_wp2
                  go_loopg [8] k2 (fun kq v8 w' => ∃ (x8_3 : Int), v8 = .int .i64 x8_3 ∧ Aside0 (greenwoodref05_May.l1 kq a0 a1 l2 x7_2 x8_3 = some r) ∧ Aside0 (kq ≤ k2) ∧ Drawn0 w w')
                  case atStart => exact ⟨(0), (by first | rfl | (simp; done) | (simp [*]; done)), H', ⟨Nat.le_refl _⟩, by repeat (first | exact Drawn0.refl _ | apply Drawn0.step)⟩
                  case round =>
                    clear H'
                    try clear c1
                    try clear p1
                    try clear q1
                    try clear hx1
                    try clear c2
                    try clear p2
                    try clear c3
                    try clear c6
                    try clear c7
                    try clear c7b0
                    try clear c8
                    try clear c8b0
                    try clear c9
                    try clear c10
                    try clear c10b0
                    try clear c11
                    try clear c11b0
                    try clear c12
                    try clear c12b0
                    try clear c12b1
                    try clear hx170_0
                    try clear p170
                    try clear p2
                    try clear q170
                    obtain ⟨x8_3, rfl, HA, HK3, ⟨m3, rfl⟩⟩ := hrel
                    cases gk with
                    | zero => exact absurd HA.out (by simp [greenwoodref05_May.l1])
                    | succ k3 =>
                      have H := HA.out
                      clear HA
                      simp only [greenwoodref05_May.l1] at H
                      by_cases c13 : x8_3 < a1
                      · rw [if_pos c13] at H
                        have c13b0 : decide (x8_3 < a1) = true := decide_eq_true c13
                        clear c13
                        by_cases c14 : 0 ≤ x7_2
                        · rw [if_pos c14] at H
                          have c14b0 : decide (0 ≤ x7_2) = true := decide_eq_true c14
                          clear c14
                          by_cases c15 : x7_2 < (l2.length : Int)
                          · rw [if_pos c15] at H
                            have c15b0 : decide (x7_2 < (l2.length : Int)) = true := decide_eq_true c15
                            clear c15
                            by_cases c16 : 0 ≤ x8_3
                            · rw [if_pos c16] at H
                              have c16b0 : decide (0 ≤ x8_3) = true := decide_eq_true c16
                              clear c16
                              by_cases c17 : x8_3 < ((rd_L1 l2 x7_2).length : Int)
                              · rw [if_pos c17] at H
                                have c17b0 : decide (x8_3 < ((rd_L1 l2 x7_2).length : Int)) = true := decide_eq_true c17
                                clear c17
                                by_cases c18 : (rd (rd_L1 l2 x7_2) x8_3) < 0
                                · rw [if_pos c18] at H
                                  have c18b0 : decide ((rd (rd_L1 l2 x7_2) x8_3) < 0) = true := decide_eq_true c18
                                  clear c18
                                  obtain rfl := Option.some.inj H
                                  have p171 : 0 ≤ (x7_2 : Int) := of_decide_eq_true (by first | (with_reducible assumption) | assumption)
                                  have q171 : x7_2 < (l2.length : Int) := of_decide_eq_true (by first | (with_reducible assumption) | assumption)
                                  obtain ⟨ad171, A171_0, c171_0, e171, hx171_0, hl171_0, hi171_0⟩ := at_L1 HR2.out x7_2 p171 q171
                                  obtain rfl : ad170 = ad171 := (by injection e171)
                                  have HR171_0 := Aside0.mk hi171_0
                                  have HC171_0 := Aside0.mk hl171_0
                                  clear hi171_0 hl171_0
                                  replace p171 := eq_true p171
                                  replace q171 := eq_true q171
                                  have p172 : 0 ≤ (x8_3 : Int) := of_decide_eq_true (by first | (with_reducible assumption) | assumption)
                                  have q172 : x8_3 < ((rd_L1 l2 x7_2).length : Int) := of_decide_eq_true (by first | (with_reducible assumption) | assumption)
                                  obtain ⟨ad172, e172, hx172_0⟩ := Kd.at_int HR171_0.out x8_3 p172 q172
                                  cases e172
                                  replace p172 := eq_true p172
                                  replace q172 := eq_true q172
                                  go_wp2
                                  go_ret
                                  exact ⟨by first | rfl | (simp; done) | (simp [*]; done), by repeat (first | exact Drawn0.refl _ | apply Drawn0.step)⟩
                                · rw [if_neg c18] at H
                                  have c18b0 : decide ((rd (rd_L1 l2 x7_2) x8_3) < 0) = false := decide_eq_false c18
                                  clear c18
                                  by_cases c19 : (rd (rd_L1 l2 x7_2) x8_3) ≥ a0
                                  · rw [if_pos c19] at H
                                    have c19b0 : decide (a0 ≤ (rd (rd_L1 l2 x7_2) x8_3)) = true := decide_eq_true c19
                                    clear c19
                                    obtain rfl := Option.some.inj H
                                    have p171 : 0 ≤ (x7_2 : Int) := of_decide_eq_true (by first | (with_reducible assumption) | assumption)
                                    have q171 : x7_2 < (l2.length : Int) := of_decide_eq_true (by first | (with_reducible assumption) | assumption)
                                    obtain ⟨ad171, A171_0, c171_0, e171, hx171_0, hl171_0, hi171_0⟩ := at_L1 HR2.out x7_2 p171 q171
                                    obtain rfl : ad170 = ad171 := (by injection e171)
                                    have HR171_0 := Aside0.mk hi171_0
                                    have HC171_0 := Aside0.mk hl171_0
                                    clear hi171_0 hl171_0
                                    replace p171 := eq_true p171
                                    replace q171 := eq_true q171
                                    have p172 : 0 ≤ (x8_3 : Int) := of_decide_eq_true (by first | (with_reducible assumption) | assumption)
                                    have q172 : x8_3 < ((rd_L1 l2 x7_2).length : Int) := of_decide_eq_true (by first | (with_reducible assumption) | assumption)
                                    obtain ⟨ad172, e172, hx172_0⟩ := Kd.at_int HR171_0.out x8_3 p172 q172
                                    cases e172
                                    replace p172 := eq_true p172
                                    replace q172 := eq_true q172
                                    have p173 : 0 ≤ (x7_2 : Int) := of_decide_eq_true (by first | (with_reducible assumption) | assumption)
                                    have q173 : x7_2 < (l2.length : Int) := of_decide_eq_true (by first | (with_reducible assumption) | assumption)
                                    obtain ⟨ad173, A173_0, c173_0, e173, hx173_0, hl173_0, hi173_0⟩ := at_L1 HR2.out x7_2 p173 q173
                                    obtain rfl : ad170 = ad173 := (by injection e173)
                                    have HR173_0 := Aside0.mk hi173_0
                                    have HC173_0 := Aside0.mk hl173_0
                                    clear hi173_0 hl173_0
                                    replace p173 := eq_true p173
                                    replace q173 := eq_true q173
                                    have ea_ := Option.some.inj (hx171_0.symm.trans hx173_0)
                                    injection ea_ with ea_ en_ ec_
                                    subst ea_
                                    subst ec_
                                    clear en_
                                    have p174 : 0 ≤ (x8_3 : Int) := of_decide_eq_true (by first | (with_reducible assumption) | assumption)
                                    have q174 : x8_3 < ((rd_L1 l2 x7_2).length : Int) := of_decide_eq_true (by first | (with_reducible assumption) | assumption)
                                    obtain ⟨ad174, e174, hx174_0⟩ := Kd.at_int HR173_0.out x8_3 p174 q174
                                    cases e174
                                    replace p174 := eq_true p174
                                    replace q174 := eq_true q174
                                    go_wp2
                                    go_ret
                                    exact ⟨by first | rfl | (simp; done) | (simp [*]; done), by repeat (first | exact Drawn0.refl _ | apply Drawn0.step)⟩
                                  · rw [if_neg c19] at H
                                    have c19b0 : decide (a0 ≤ (rd (rd_L1 l2 x7_2) x8_3)) = false := decide_eq_false c19
                                    clear c19
                                    have H' := Aside0.mk H
                                    clear H
                                    have p171 : 0 ≤ (x7_2 : Int) := of_decide_eq_true (by first | (with_reducible assumption) | assumption)
                                    have q171 : x7_2 < (l2.length : Int) := of_decide_eq_true (by first | (with_reducible assumption) | assumption)
                                    obtain ⟨ad171, A171_0, c171_0, e171, hx171_0, hl171_0, hi171_0⟩ := at_L1 HR2.out x7_2 p171 q171
                                    obtain rfl : ad170 = ad171 := (by injection e171)
                                    have HR171_0 := Aside0.mk hi171_0
                                    have HC171_0 := Aside0.mk hl171_0
                                    clear hi171_0 hl171_0
                                    replace p171 := eq_true p171
                                    replace q171 := eq_true q171
                                    have p172 : 0 ≤ (x8_3 : Int) := of_decide_eq_true (by first | (with_reducible assumption) | assumption)
                                    have q172 : x8_3 < ((rd_L1 l2 x7_2).length : Int) := of_decide_eq_true (by first | (with_reducible assumption) | assumption)
                                    obtain ⟨ad172, e172, hx172_0⟩ := Kd.at_int HR171_0.out x8_3 p172 q172
                                    cases e172
                                    replace p172 := eq_true p172
                                    replace q172 := eq_true q172
                                    have p173 : 0 ≤ (x7_2 : Int) := of_decide_eq_true (by first | (with_reducible assumption) | assumption)
                                    have q173 : x7_2 < (l2.length : Int) := of_decide_eq_true (by first | (with_reducible assumption) | assumption)
                                    obtain ⟨ad173, A173_0, c173_0, e173, hx173_0, hl173_0, hi173_0⟩ := at_L1 HR2.out x7_2 p173 q173
                                    obtain rfl : ad170 = ad173 := (by injection e173)
                                    have HR173_0 := Aside0.mk hi173_0
                                    have HC173_0 := Aside0.mk hl173_0
                                    clear hi173_0 hl173_0
                                    replace p173 := eq_true p173
                                    replace q173 := eq_true q173
                                    have ea_ := Option.some.inj (hx171_0.symm.trans hx173_0)
                                    injection ea_ with ea_ en_ ec_
                                    subst ea_
                                    subst ec_
                                    clear en_
                                    have p174 : 0 ≤ (x8_3 : Int) := of_decide_eq_true (by first | (with_reducible assumption) | assumption)
                                    have q174 : x8_3 < ((rd_L1 l2 x7_2).length : Int) := of_decide_eq_true (by first | (with_reducible assumption) | assumption)
                                    obtain ⟨ad174, e174, hx174_0⟩ := Kd.at_int HR173_0.out x8_3 p174 q174
                                    cases e174
                                    replace p174 := eq_true p174
                                    replace q174 := eq_true q174
                                    go_wp2
                                    go_roundg k3
                                    case measure => have := HJ3.out; have := HK2.out; have := HK3.out; omega
                                    case rel => exact ⟨(wrap64 (x8_3 + 1)), (by first | rfl | (simp; done) | (simp [*]; done)), H', ⟨by have := HJ3.out; have := HK2.out; have := HK3.out; omega⟩, by repeat (first | exact Drawn0.refl _ | apply Drawn0.step)⟩
                              · rw [if_neg c17] at H
                                exact absurd H (by simp)
                            · rw [if_neg c16] at H
                              exact absurd H (by simp)
                          · rw [if_neg c15] at H
                            exact absurd H (by simp)
                        · rw [if_neg c14] at H
                          exact absurd H (by simp)
                      · rw [if_neg c13] at H
                        have c13b0 : decide (x8_3 < a1) = false := decide_eq_false c13
                        clear c13
                        have H' := Aside0.mk H
                        clear H
                        go_wp2
                        go_roundg k3
                        case measure => have := HJ3.out; have := HK2.out; have := HK3.out; omega
                        case rel => exact ⟨(wrap64 (x7_2 + 1)), (by first | rfl | (simp; done) | (simp [*]; done)), H', ⟨by have := HJ3.out; have := HK2.out; have := HK3.out; omega⟩, by repeat (first | exact Drawn0.refl _ | apply Drawn0.step)⟩
                · rw [if_neg c12] at H
                  have c12b0 : (((rd_L1 l2 x7_2).length : Int) == a1) = false := beq_eq_false_iff_ne.mpr c12
                  have c12b1 : (((rd_L1 l2 x7_2).length : Int) != a1) = true := bne_iff_ne.mpr c12
                  obtain rfl := Option.some.inj H
                  have p170 : 0 ≤ (x7_2 : Int) := of_decide_eq_true (by first | (with_reducible assumption) | assumption)
                  have q170 : x7_2 < (l2.length : Int) := of_decide_eq_true (by first | (with_reducible assumption) | assumption)
                  obtain ⟨ad170, A170_0, c170_0, e170, hx170_0, hl170_0, hi170_0⟩ := at_L1 HR2.out x7_2 p170 q170
                  cases e170
                  have HR170_0 := Aside0.mk hi170_0
                  have HC170_0 := Aside0.mk hl170_0
                  clear hi170_0 hl170_0
                  replace p170 := eq_true p170
                  replace q170 := eq_true q170
                  go_wp2
                  go_ret
                  exact ⟨by first | rfl | (simp; done) | (simp [*]; done), by repeat (first | exact Drawn0.refl _ | apply Drawn0.step)⟩
              · rw [if_neg c11] at H
                exact absurd H (by simp)
            · rw [if_neg c10] at H
              have c10b0 : decide (x7_2 < (l2.length : Int)) = false := decide_eq_false c10
              clear c10
              obtain rfl := Option.some.inj H
              go_wp2
              go_ret
              exact ⟨by first | rfl | (simp; done) | (simp [*]; done), by repeat (first | exact Drawn0.refl _ | apply Drawn0.step)⟩

/-! ### greenwoodref05_rank: function 25 -/
end Go.Proofs.Ytepakefmioeilaa.P
/- What the document's answer for package modp tells: primes, powers, inverses. No condition. -/
namespace Go.Proofs.Ytepakefmioeilaa.P
open Go.RowKit Go.Proofs.YtepakefmioeilaaW.PrintWords NumTh
set_option linter.unusedVariables false
set_option linter.unusedSimpArgs false
/-! ## primes -/
theorem rPrime_l0 (P : Nat) (h1 : 2 ≤ P) (hP : P ≤ 2147483647) : ∀ (m d : Nat), m = 46341 - d → 2 ≤ d → d ≤ 46341 → (∀ e, 2 ≤ e → e < d → ¬ e ∣ P) →
    ∃ k, greenwoodref04_Prime.l0 k (P : Int) (d : Int) = some (isP (P : Int)) := by
  intro m
  induction m with
  | zero =>
    intro d hm hd hd2 hno
    have hd4 : d = 46341 := by omega
    subst hd4
    refine ⟨1, ?_⟩
    unfold greenwoodref04_Prime.l0
    rw [wrap_id (by omega) (by omega), if_neg (by omega)]
    congr 1
    symm
    rw [isP_true]
    refine ⟨by omega, ?_⟩
    apply Classical.byContradiction
    intro hn
    obtain ⟨q, hq, hqP, hqq⟩ := exists_small_pr P h1 hn
    refine hno q hq.1 ?_ hqP
    apply Classical.byContradiction
    intro hx
    have := Nat.mul_le_mul (show 46341 ≤ q by omega) (show 46341 ≤ q by omega)
    omega
  | succ m ih =>
    intro d hm hd hd2 hno
    have hdd : d * d ≤ 46341 * 46341 := Nat.mul_le_mul hd2 hd2
    have edd : (d : Int) * (d : Int) = ((d * d : Nat) : Int) := (Int.natCast_mul d d).symm
    have hmod : Int.tmod (P : Int) (d : Int) = ((P % d : Nat) : Int) := by
      rw [Int.tmod_eq_emod_of_nonneg (by omega)]; rfl
    by_cases hle : d * d ≤ P
    · by_cases h0 : P % d = 0
      · refine ⟨1, ?_⟩
        unfold greenwoodref04_Prime.l0
        rw [edd, wrap_id (by omega) (by omega), if_pos (by omega), if_neg (by omega), hmod, if_pos (by omega)]
        congr 1
        symm
        rw [isP_false]
        rintro ⟨_, _, h⟩
        have hdlt : d < P := by
          have := Nat.mul_le_mul hd (Nat.le_refl d); omega
        rcases h d (Nat.dvd_of_mod_eq_zero h0) with h4 | h4
        · omega
        · have h5 : d = P := h4
          omega
      · obtain ⟨k, hk⟩ := ih (d + 1) (by omega) (by omega) (by omega) (by
          intro e he1 he2 hdv
          by_cases hed : e = d
          · subst hed; exact h0 (Nat.mod_eq_zero_of_dvd hdv)
          · exact hno e he1 (by omega) hdv)
        refine ⟨k + 1, ?_⟩
        unfold greenwoodref04_Prime.l0
        rw [edd, wrap_id (by omega) (by omega), if_pos (by omega), if_neg (by omega), hmod, if_neg (by omega), wrap_id (by omega) (by omega)]
        exact hk
    · refine ⟨1, ?_⟩
      unfold greenwoodref04_Prime.l0
      rw [edd, wrap_id (by omega) (by omega), if_neg (by omega)]
      congr 1
      symm
      rw [isP_true]
      refine ⟨by omega, ?_⟩
      apply Classical.byContradiction
      intro hn
      obtain ⟨q, hq, hqP, hqq⟩ := exists_small_pr P h1 hn
      refine hno q hq.1 ?_ hqP
      apply Classical.byContradiction
      intro hx
      have := Nat.mul_le_mul (show d ≤ q by omega) (show d ≤ q by omega)
      omega

/-- WHAT THE DOCUMENT'S Prime TELLS -/
theorem rPrime_eq (p : Int) : Ev (fun k => greenwoodref04_Prime.f k p) (isP p) := by
  by_cases c1 : p < 2
  · rw [isP_false.mpr (by rintro ⟨_, h, _⟩; omega)]
    refine Ev.of (greenwoodref04_Prime.mono p) (k := 1) ?_
    unfold greenwoodref04_Prime.f
    rw [if_pos c1]; rfl
  by_cases c2 : p > 2147483647
  · rw [isP_false.mpr (by rintro ⟨h, _⟩; omega)]
    refine Ev.of (greenwoodref04_Prime.mono p) (k := 1) ?_
    unfold greenwoodref04_Prime.f
    rw [if_neg c1, decide_eq_true c2]; rfl
  obtain ⟨k, hk⟩ := rPrime_l0 p.toNat (by omega) (by omega) 46339 2 (by omega) (by omega) (by omega) (by intro e h1 h2; omega)
  have e1 : ((p.toNat : Nat) : Int) = p := by omega
  rw [e1] at hk
  refine Ev.of (greenwoodref04_Prime.mono p) (k := k + 1) ?_
  unfold greenwoodref04_Prime.f
  rw [if_neg c1, decide_eq_false c2, greenwoodref04_Prime.j0, if_neg (by decide)]
  exact hk

end Go.Proofs.Ytepakefmioeilaa.P
/- Layer 5, the document's rank, by elimination row by row: what it computes, and its walk. -/
namespace Go.Proofs.Ytepakefmioeilaa.P
open Go.RowKit Go.Proofs.YtepakefmioeilaaW.PrintWords Go.Proofs.YtepakefmioeilaaW.PrintLast Go.Proofs.YtepakefmioeilaaW.PrintMore
set_option linter.unusedVariables false
set_option linter.unusedSimpArgs false

abbrev SV := {v : Value // v.oneCell' = true}
def svKd : Kd SV := Kd.scalar Subtype.val (fun x => x.2)
/-- rows of one's own, in a row of one's own: no two in one block -/
structure Mat (w : World) (base : Nat) (V : Value) (vs : List SV) (xs : List (List Int)) : Prop where
  outer : svKd.R 26 w base (fun _ => True) V vs
  len : vs.length = xs.length
  inner : ∀ (j : Nat) (v : SV) (x : List Int), vs[j]? = some v → xs[j]? = some x → (Kd.int .i64).R 3 w base (fun _ => True) v.1 x
  dist : ∀ (i j : Nat) (vi vj : SV), vs[i]? = some vi → vs[j]? = some vj → i ≠ j → ∀ k, vi.1.ownBlock = some k → vj.1.ownBlock ≠ some k

theorem Mat.typed {w : World} {base : Nat} {V : Value} {vs : List SV} {xs : List (List Int)} (h : Mat w base V vs xs) {j : Nat} {v : SV} (hv : vs[j]? = some v) {k : Nat} (hk : v.1.ownBlock = some k) : (∃ cells, w.heap[k]? = some (.cells cells 3 (0, 0))) ∧ base ≤ k ∧ k < w.heap.size := by
  have hj := (List.getElem?_eq_some_iff.1 hv).1
  have hx : xs[j]? = some (xs[j]'(by have := h.len; omega)) := List.getElem?_eq_getElem _
  have hR := h.inner j v _ hv hx
  obtain ⟨inner, ho⟩ := Kd.R_own hR
  exact ⟨own_typed ho k hk, own_base ho k hk, own_lt ho k hk⟩
/-- one row is written -/
theorem Mat.put {w w1 : World} {base : Nat} {V : Value} {vs : List SV} {xs : List (List Int)} (h : Mat w base V vs xs) (i : Nat) (v : SV) (hv : vs[i]? = some v) (x' : List Int) (hR : (Kd.int .i64).R 3 w1 base (fun _ => True) v.1 x') (hg : w.grownBy w1 v.1.ownBlock) : Mat w1 base V vs (xs.set i x') := by
  refine ⟨?_, by rw [List.length_set]; exact h.len, fun j vj x hvj hx => ?_, h.dist⟩
  · refine Kd.R_mono (Kd.R_grown (Kd.R_bound h.outer) hg (fun k hk he => ?_)) (fun _ _ => trivial)
    obtain ⟨_, _, _, q, hq, cells, hc⟩ := hk
    obtain ⟨⟨cells', hc'⟩, _⟩ := h.typed hv he.symm
    rw [hc] at hc'
    injection hc' with hc'
    injection hc' with _ hc'
    subst hc'
    revert hq; decide
  · rw [List.getElem?_set] at hx
    by_cases hij : i = j
    · subst hij
      rw [if_pos rfl] at hx
      split at hx
      · injection hx with hx; subst hx
        rw [hv] at hvj; injection hvj with hvj; subst hvj
        exact hR
      · cases hx
    · rw [if_neg hij] at hx
      exact R_int_step (h.inner j vj x hvj hx) (fun k hk hlt => hg.block k hlt (fun e => h.dist i j v vj hv hvj hij k e.symm hk))
theorem Mat.below {w w1 : World} {base : Nat} {V : Value} {vs : List SV} {xs : List (List Int)} (h : Mat w base V vs xs) (hb : Below w.heap.size w w1) : Mat w1 base V vs xs :=
  ⟨Kd.R_below h.outer hb, h.len, fun j v x hv hx => Kd.R_below (h.inner j v x hv hx) hb, h.dist⟩
theorem Mat.row {w : World} {base : Nat} {V : Value} {vs : List SV} {xs : List (List Int)} (h : Mat w base V vs xs) (i : Nat) (x : List Int) (hx : xs[i]? = some x) (hp : 0 < x.length) : ∃ v g c, vs[i]? = some v ∧ v.1 = .slice (some ⟨g, 0, none⟩) x.length c ∧ base ≤ g ∧ g < w.heap.size ∧ ∃ cells, w.heap[g]? = some (.cells cells 3 (0, 0)) := by
  have hi : i < vs.length := by have := (List.getElem?_eq_some_iff.1 hx).1; have := h.len; omega
  have hv := List.getElem?_eq_getElem hi
  obtain ⟨g, c, hv1, hb, hl, hc⟩ := Kd.R_form (h.inner i _ x hv hx) hp
  exact ⟨_, g, c, hv, hv1, hb, hl, hc⟩
end Go.Proofs.Ytepakefmioeilaa.P
/- Layer 5, the walk of the document's rank. -/
namespace Go.Proofs.Ytepakefmioeilaa.P
open Go.RowKit Go.Proofs.YtepakefmioeilaaW.PrintWords Go.Proofs.YtepakefmioeilaaW.PrintLast Go.Proofs.YtepakefmioeilaaW.PrintMore
set_option linter.unusedVariables false
set_option linter.unusedSimpArgs false

theorem Mat.drew {w : World} {base : Nat} {V : Value} {vs : List SV} {xs : List (List Int)} (h : Mat w base V vs xs) : Mat w.drew base V vs xs := h.below (Below.refl _ _).drew

end Go.Proofs.Ytepakefmioeilaa.P
/- Layer 5: what the printed functions come to. -/
namespace Go.Proofs.Ytepakefmioeilaa.P
open Go.RowKit Go.Proofs.YtepakefmioeilaaW.PrintWords Go.Proofs.YtepakefmioeilaaW.PrintLast Go.Proofs.YtepakefmioeilaaW.PrintMore
open LinA (V Sp zv smul comb rk Fld)
set_option linter.unusedVariables false
set_option linter.unusedSimpArgs false

theorem Ev.ifp {α : Type} {c : Prop} [Decidable c] {g f : Nat → Option α} {r : α} (h : c) (e : Ev g r) : Ev (fun n => if c then g n else f n) r := by
  simp only [if_pos h]; exact e
theorem Ev.ifn {α : Type} {c : Prop} [Decidable c] {g f : Nat → Option α} {r : α} (h : ¬ c) (e : Ev f r) : Ev (fun n => if c then g n else f n) r := by
  simp only [if_neg h]; exact e
theorem Ev.val {α : Type} {r t : α} (h : r = t) : Ev (fun _ => some r) t := by subst h; exact Ev.now r
theorem Ev.bnd {α β : Type} {a : α} {f : Nat → α → Option β} {r : β} (k : Ev (fun n => f n a) r) : Ev (fun n => (some a).bind (f n)) r := k
theorem rd_at {l : List Int} {i : Nat} (h : i < l.length) : rd l (i : Int) = l[i] := by simp [rd, List.getD_eq_getElem?_getD, List.getElem?_eq_getElem h]
theorem rdL_at {l : List (List Int)} {i : Nat} (h : i < l.length) : rd_L1 l (i : Int) = l[i] := by simp [rd_L1, List.getD_eq_getElem?_getD, List.getElem?_eq_getElem h]
theorem w1 {i : Nat} {n : Nat} (h : i < n) (hn : n ≤ 1000000) : wrap64 ((i : Int) + 1) = ((i + 1 : Nat) : Int) := by rw [wrap_id (by omega) (by omega)]; omega

/-! ### Same -/
theorem same_l0 (a b : List Int) (hl : a.length = b.length) (hn : a.length ≤ 1000000) : ∀ (d i : Nat), a.length - i = d → i ≤ a.length → Ev (fun k => greenwoodref01_Same.l0 k a b (i : Int)) (decide (a.drop i = b.drop i)) := by
  intro d
  induction d with
  | zero =>
    intro i h1 h2
    refine Ev.step (fun k => by rw [greenwoodref01_Same.l0]) ?_
    refine Ev.ifn (by omega) (Ev.val ?_)
    rw [List.drop_of_length_le (by omega), List.drop_of_length_le (by omega)]; rfl
  | succ d ih =>
    intro i h1 h2
    have hi : i < a.length := by omega
    have hj : i < b.length := by omega
    refine Ev.step (fun k => by rw [greenwoodref01_Same.l0]) ?_
    refine Ev.ifp (by omega) (Ev.ifp (by omega) (Ev.ifp (by omega) ?_))
    rw [rd_at hi, rd_at hj, List.drop_eq_getElem_cons hi, List.drop_eq_getElem_cons hj, w1 hi hn]
    by_cases he : a[i] = b[i]
    · refine Ev.ifp he ?_
      have e : decide (a[i] :: a.drop (i + 1) = b[i] :: b.drop (i + 1)) = decide (a.drop (i + 1) = b.drop (i + 1)) := by
        apply decide_eq_decide.mpr; rw [List.cons.injEq]; exact ⟨fun h => h.2, fun h => ⟨he, h⟩⟩
      rw [e]
      exact ih (i + 1) (by omega) (by omega)
    · refine Ev.ifn he (Ev.val ?_)
      exact (decide_eq_false (fun h => he (List.cons.inj h).1)).symm
theorem same_ev (a b : List Int) (hn : a.length ≤ 1000000) : Ev (fun k => greenwoodref01_Same.f k a b) (decide (a = b)) := by
  unfold greenwoodref01_Same.f
  by_cases hl : a.length = b.length
  · refine Ev.ifp (by omega) ?_
    have := same_l0 a b hl hn a.length 0 (by omega) (by omega)
    simpa using this
  · refine Ev.ifn (by omega) (Ev.val ?_)
    have : a ≠ b := fun h => hl (by rw [h])
    simp [this]

/-! ### May -/
noncomputable def mayB (p rows : Int) (cols : List (List Int)) : Bool := isP p && !decide (rows < 0) && !decide (64 < rows) && !decide (64 < (cols.length : Int)) && !(cols.any (elim_May.bad p rows))
theorem may_ev (p rows : Int) (cols : List (List Int)) : Ev (fun k => elim_May.f k p rows cols) (mayB p rows cols) := by
  unfold elim_May.f
  exact Ev.bind (Prime_eq p) (Ev.now _)
theorem rmay_l1 (p : Int) (rows : Nat) (cols : List (List Int)) (hn : cols.length ≤ 64) (hr : rows ≤ 64) (i : Nat) (hi : i < cols.length) (hl : (cols[i]).length = rows) (r : Bool) (hnext : Ev (fun k => greenwoodref05_May.l0 k p rows cols ((i + 1 : Nat) : Int)) r) : ∀ (d j : Nat), rows - j = d → j ≤ rows →
    Ev (fun k => greenwoodref05_May.l1 k p rows cols (i : Int) (j : Int)) (if ((cols[i]).drop j).any (elim_May.out p) = true then false else r) := by
  intro d
  induction d with
  | zero =>
    intro j h1 h2
    refine Ev.step (fun k => by rw [greenwoodref05_May.l1]) ?_
    refine Ev.ifn (by omega) ?_
    rw [w1 hi (by omega), List.drop_of_length_le (by omega)]
    exact hnext
  | succ d ih =>
    intro j h1 h2
    have hj : j < (cols[i]).length := by omega
    refine Ev.step (fun k => by rw [greenwoodref05_May.l1]) ?_
    rw [rdL_at hi, rd_at hj]
    refine Ev.ifp (by omega) (Ev.ifp (by omega) (Ev.ifp (by omega) (Ev.ifp (by omega) (Ev.ifp (by omega) ?_))))
    rw [List.drop_eq_getElem_cons hj, List.any_cons]
    have ho : elim_May.out p (cols[i])[j] = (decide ((cols[i])[j] < 0) || decide (p ≤ (cols[i])[j])) := rfl
    by_cases a : (cols[i])[j] < 0
    · refine Ev.ifp a (Ev.val ?_)
      rw [ho, decide_eq_true a]; rfl
    · refine Ev.ifn a ?_
      by_cases b : (cols[i])[j] ≥ p
      · refine Ev.ifp b (Ev.val ?_)
        rw [ho, decide_eq_true (show p ≤ (cols[i])[j] from b), Bool.or_true]; rfl
      · refine Ev.ifn b ?_
        rw [ho, decide_eq_false a, decide_eq_false (show ¬ p ≤ (cols[i])[j] from b), Bool.or_false, Bool.false_or, w1 (n := rows) (by omega) (by omega)]
        exact ih (j + 1) (by omega) (by omega)
theorem rmay_l0 (p : Int) (rows : Nat) (cols : List (List Int)) (hn : cols.length ≤ 64) (hr : rows ≤ 64) : ∀ (d i : Nat), cols.length - i = d → i ≤ cols.length → Ev (fun k => greenwoodref05_May.l0 k p rows cols (i : Int)) (!((cols.drop i).any (elim_May.bad p rows))) := by
  intro d
  induction d with
  | zero =>
    intro i h1 h2
    refine Ev.step (fun k => by rw [greenwoodref05_May.l0]) ?_
    refine Ev.ifn (by omega) (Ev.val ?_)
    rw [List.drop_of_length_le (by omega)]; rfl
  | succ d ih =>
    intro i h1 h2
    have hi : i < cols.length := by omega
    refine Ev.step (fun k => by rw [greenwoodref05_May.l0]) ?_
    rw [rdL_at hi]
    refine Ev.ifp (by omega) (Ev.ifp (by omega) ?_)
    rw [List.drop_eq_getElem_cons hi, List.any_cons]
    by_cases hl : ((cols[i]).length : Int) = (rows : Int)
    · refine Ev.ifp hl ?_
      have h3 := rmay_l1 p rows cols hn hr i hi (by omega) _ (ih (i + 1) (by omega) (by omega)) rows 0 (by omega) (by omega)
      rw [List.drop_zero] at h3
      have hb : elim_May.bad p rows cols[i] = (cols[i]).any (elim_May.out p) := by
        unfold elim_May.bad
        rw [hl, bne_self_eq_false, Bool.false_or]
      rw [hb]
      cases h4 : (cols[i]).any (elim_May.out p) with
      | true => rw [h4, if_pos rfl] at h3; exact h3
      | false => rw [h4, if_neg (by decide)] at h3; exact h3
    · refine Ev.ifn hl (Ev.val ?_)
      have hb : elim_May.bad p rows cols[i] = true := by
        unfold elim_May.bad
        rw [bne_iff_ne.mpr hl, Bool.true_or]
      rw [hb]; rfl
theorem rmay_ev (p rows : Int) (cols : List (List Int)) : Ev (fun k => greenwoodref05_May.f k p rows cols) (mayB p rows cols) := by
  unfold greenwoodref05_May.f
  refine Ev.bind (rPrime_eq p) ?_
  unfold mayB
  have hf : ∀ r, r = false → Ev (fun k => greenwoodref05_May.j0 k p rows cols true) r := fun r hr => Ev.step (fun k => by rw [greenwoodref05_May.j0]) (Ev.ifp rfl (Ev.val hr.symm))
  cases hp : isP p with
  | false => exact Ev.ifn (by decide) (hf _ rfl)
  | true =>
    refine Ev.ifp rfl ?_
    by_cases h1 : rows < 0
    · exact Ev.ifp h1 (hf _ (by simp [h1]))
    refine Ev.ifn h1 ?_
    by_cases h2 : rows > 64
    · exact Ev.ifp h2 (hf _ (by simp [h2]))
    refine Ev.ifn h2 ?_
    by_cases h3 : (cols.length : Int) > 64
    · rw [decide_eq_true h3]
      exact hf _ (by simp [show (64 : Int) < cols.length from h3])
    · rw [decide_eq_false h3]
      refine Ev.step (fun k => by rw [greenwoodref05_May.j0]) (Ev.ifn (by decide) ?_)
      obtain ⟨n, rfl⟩ : ∃ n : Nat, rows = (n : Int) := ⟨rows.toNat, by omega⟩
      have := rmay_l0 p n cols (by omega) (by omega) cols.length 0 (by omega) (by omega)
      rw [List.drop_zero] at this
      simpa [h1, show ¬ (64 : Int) < n by omega, show ¬ (64 : Int) < cols.length by omega] using this
theorem mayB_true {p rows : Int} {cols : List (List Int)} (h : mayB p rows cols = true) : isP p = true ∧ 0 ≤ rows ∧ rows ≤ 64 ∧ cols.length ≤ 64 ∧ ∀ c ∈ cols, c.length = rows.toNat ∧ Bd p c := by
  obtain ⟨k, hk⟩ := (may_ev p rows cols).rounds
  rw [h] at hk
  exact may_true hk
theorem mayB_mk {p rows : Int} {cols : List (List Int)} (hp : isP p = true) (h0 : 0 ≤ rows) (h1 : rows ≤ 64) (hn : cols.length ≤ 64) (hc : ∀ c ∈ cols, c.length = rows.toNat ∧ Bd p c) : mayB p rows cols = true := by
  unfold mayB
  have : cols.any (elim_May.bad p rows) = false := by
    rw [List.any_eq_false]
    intro c hm
    obtain ⟨a, b⟩ := hc c hm
    have e : c.any (elim_May.out p) = false := by
      rw [List.any_eq_false]
      intro y hy
      have := b y hy
      simp [elim_May.out]; omega
    unfold elim_May.bad
    rw [e, Bool.or_false]
    have : ((c.length : Int) != rows) = false := by rw [bne_eq_false_iff_eq]; omega
    rw [this]; decide
  rw [hp, this]
  simp; omega

/-! ### bases and ranks -/
section
variable {P : Nat} [NeZero P]
noncomputable def basN (P : Nat) [NeZero P] (cols : List (List Int)) : List Int := bas (cols.map vec : List (V P)) cols.length
noncomputable def rkN (P : Nat) [NeZero P] (cols : List (List Int)) : Nat := rk (cols.map vec : List (V P))
theorem fldP (hP : isP (P : Int) = true) : Fld P := LinA.fld_of_prime (by have := isP_true.mp hP; simpa using this.2)
theorem basN_len (hP : isP (P : Int) = true) (cols : List (List Int)) : (basN P cols).length = rkN P cols := by
  have := bas_len (fldP hP) (cols.map vec : List (V P)) cols.length (by simp)
  unfold basN rkN
  rw [this, List.take_of_length_le (by simp)]
theorem basis_ev {rows : Int} {cols : List (List Int)} (h : mayB P rows cols = true) : Ev (fun k => elim_Basis.f k P rows cols) (basN P cols) := by
  unfold elim_Basis.f
  obtain ⟨hP, h0, h64, hn, hcs⟩ := mayB_true h
  have := may_ev (P : Int) rows cols
  rw [h] at this
  refine Ev.bind this (Ev.val ?_)
  rw [if_pos rfl]
  exact (climb_all hP cols hcs).2
theorem erank_ev {rows : Int} {cols : List (List Int)} (h : mayB P rows cols = true) : Ev (fun k => elim_Rank.f k P rows cols) (rkN P cols : Int) := by
  unfold elim_Rank.f
  have := may_ev (P : Int) rows cols
  rw [h] at this
  refine Ev.bind this (Ev.ifp rfl (Ev.bind (basis_ev h) (Ev.val ?_)))
  rw [basN_len (mayB_true h).1]
end
end Go.Proofs.Ytepakefmioeilaa.P
/- Layer 5: sums and combinations. -/
namespace Go.Proofs.Ytepakefmioeilaa.P
open Go.RowKit Go.Proofs.YtepakefmioeilaaW.PrintWords Go.Proofs.YtepakefmioeilaaW.PrintLast Go.Proofs.YtepakefmioeilaaW.PrintMore
open LinA (V Sp zv smul comb rk Fld)
set_option linter.unusedVariables false
set_option linter.unusedSimpArgs false

theorem getD_at {cols : List (List Int)} {i : Nat} (h : i < cols.length) : cols.getD i [] = cols[i] := by rw [List.getD_eq_getElem?_getD, List.getElem?_eq_getElem h]; rfl
section
variable {P : Nat} [NeZero P]
def cv (P : Nat) [NeZero P] (cols : List (List Int)) (i : Nat) : V P := vec (cols.getD i [])
theorem lc_congr (C : Nat → V P) {t t' : Int → Int} : ∀ n : Nat, (∀ i : Nat, i < n → t (i : Int) = t' (i : Int)) → lc C t n = lc C t' n := by
  intro n
  induction n with
  | zero => intro _; rfl
  | succ n ih => intro h; simp only [lc]; rw [ih (fun i hi => h i (by omega)), h n (by omega)]
theorem va0 (l : V P) : LinA.add zv l = l := by funext i; simp only [LinA.add, zv]; grind
theorem combo_ev {rows : Int} {cols : List (List Int)} {goal : List Int} (h : mayB P rows cols = true) (hg : mayB P rows [goal] = true) : ∃ (c : List Int) (ok : Bool), Ev (fun k => elim_Combo.f k P rows cols goal) (c, ok) ∧ (ok = true ↔ Sp (cols.map vec) (vec goal : V P)) ∧ (ok = false → c = []) ∧
    (ok = true → c.length = cols.length ∧ (∀ i : Nat, i < cols.length → 0 ≤ rd c (i : Int) ∧ rd c (i : Int) < P) ∧ (∀ i : Nat, i < cols.length → (i : Int) ∉ basN P cols → rd c (i : Int) = 0) ∧ (vec goal : V P) = lc (cv P cols) (rd c) cols.length) := by
  obtain ⟨hP, h0, h64, hn, hcs⟩ := mayB_true h
  obtain ⟨hgl, hgb⟩ := (mayB_true hg).2.2.2.2 goal (by simp)
  obtain ⟨hcl, hbs⟩ := climb_all hP cols hcs
  have htells := hcl.tells hgl
  have hcomb := hcl.comb hgl
  have hzer := fun y => hcl.zeros goal (y := y)
  obtain ⟨hrl, hrb, hrf⟩ := red_good (isP_ok hP) hcl.good hgl hgb
  rw [vec_zero hrb] at htells
  have hev : Ev (fun k => elim_Combo.f k P rows cols goal) (comboR P (climbS P cols 0 ([], [])).1 cols.length goal) := by
    unfold elim_Combo.f
    have h1 := may_ev (P : Int) rows cols
    have h2 := may_ev (P : Int) rows [goal]
    rw [h] at h1
    rw [hg] at h2
    exact Ev.bind h1 (Ev.ifp rfl (Ev.bind h2 (Ev.ifp rfl (Ev.now _))))
  unfold comboR at hev
  rw [hbs] at hzer
  generalize reduce (P : Int) (climbS P cols 0 ([], [])).1 goal = rr at *
  cases ha : rr.1.any nz with
  | true =>
    rw [ha, if_pos rfl] at hev
    exact ⟨[], false, hev, ⟨(fun h => by cases h), fun hs => absurd (htells.2 hs) (by rw [ha]; decide)⟩, fun _ => rfl, fun h => by cases h⟩
  | false =>
    rw [ha, if_neg (by decide)] at hev
    have hrd : ∀ i : Nat, i < cols.length → rd ((List.range cols.length).map (fun i : Nat => rr.2 (i : Int))) (i : Int) = rr.2 (i : Int) := by
      intro i hi
      rw [rd_nat, List.getElem?_map, List.getElem?_range hi]; rfl
    refine ⟨_, true, hev, ⟨fun _ => htells.1 ha, fun _ => rfl⟩, (fun h => by cases h), fun _ => ⟨by simp, fun i hi => ?_, fun i hi hni => ?_, ?_⟩⟩
    · rw [hrd i hi]; exact hrf _
    · rw [hrd i hi]; exact hzer _ hni
    · have hz := (vec_zero (P := P) hrb).2 ha
      rw [hcomb, hz, lc_congr (cv P cols) (t := rd _) (t' := rr.2) cols.length hrd]
      exact va0 _
end
end Go.Proofs.Ytepakefmioeilaa.P
-- written by wip/tool/ownprint.py of this claim's own repository, out of the translation's print
namespace Go.Proofs.Ytepakefmioeilaa.P
open Go.RowKit Go.Proofs.YtepakefmioeilaaW.PrintWords Go.Proofs.YtepakefmioeilaaW.PrintLast Go.Proofs.YtepakefmioeilaaW.PrintMore
attribute [local go_sem] max2_int min2_int max_two min_two max_three min_three max_four min_four   -- for this text's walks alone
set_option linter.unusedVariables false
set_option linter.unusedSimpArgs false

theorem FKR8 {α : Type} {d : Kd α} {e e' n c base : Nat} {ok : Nat → Prop} {W : World} {A : Option Addr} {xs : List α} (h : d.R e W base ok (.slice A n c) xs) : Kd.FK (Kd.slice e' d) W ok xs [.slice A n c] := by
  have h1 := (Kd.R_reads' h).1
  subst h1
  exact Kd.FK_slice_mk (Kd.R_reads' h).2.1 (Kd.R_F h)
/-! ### greenwoodlaw05_ElimUnits: function 6 -/
mutual
def greenwoodlaw05_ElimUnits.j0 : Nat → Int → List Int → Int → Bool → Option (Bool)
  | 0, _, _, _, _ => none
  | k + 1, x0, x1, x5, x27 => if x27 = true then ((greenwoodlaw05_fixed.f k).bind fun t303 => (some t303)) else (greenwoodlaw05_ElimUnits.l0 k x0 x1 x5 (([] : List (List Int))) (([] : List Int)) 0)
def greenwoodlaw05_ElimUnits.l0 : Nat → Int → List Int → Int → List (List Int) → List Int → Int → Option (Bool)
  | 0, _, _, _, _, _, _ => none
  | k + 1, x0, x1, x5, x6, x7, x8 => if x8 < x5 then (if 0 ≤ x5 then (if (x5 : Int).toNat ≤ 35184372088832 then ((some (List.replicate (x5 : Int).toNat 0 : List Int)).bind fun y310 => (if 0 ≤ x8 then (if x8 < (y310.length : Int) then (if x6.length < 5864062014805 then (if x7.length < 17592186044416 then (greenwoodlaw05_ElimUnits.l0 k x0 x1 x5 (x6 ++ [(y310.set (x8 : Int).toNat 1)]) (x7 ++ [x8]) (wrap64 (x8 + 1))) else (none)) else (none)) else (none)) else (none))) else (none)) else (none)) else ((elim_Combo.f k x0 x5 x6 x1).bind fun bt320 => ((elim_Basis.f k x0 x5 x6).bind fun t324 => ((greenwoodref01_Same.f k t324 x7).bind fun t327 => (if t327 = true then ((elim_Rank.f k x0 x5 x6).bind fun t328 => (if t328 = x5 then (if bt320.2 = true then ((greenwoodref01_Same.f k bt320.1 x1).bind fun t329 => (some t329)) else (some false)) else (some false))) else (some false)))))
end
def greenwoodlaw05_ElimUnits.f (k : Nat) (a0 : Int) (l1 : List Int) : Option (Bool) := (greenwoodlaw05_fixed.f k).bind fun t298 => (if t298 = true then (if (l1.length : Int) > 20 then (greenwoodlaw05_ElimUnits.j0 k a0 l1 (l1.length : Int) true) else ((greenwoodref05_May.f k a0 (l1.length : Int) (([l1] : List (List Int)))).bind fun t302 => (greenwoodlaw05_ElimUnits.j0 k a0 l1 (l1.length : Int) (!t302)))) else (greenwoodlaw05_ElimUnits.j0 k a0 l1 (l1.length : Int) true))
set_option maxHeartbeats 8000000 in
set_option maxRecDepth 100000 in
theorem greenwoodlaw05_ElimUnits.callsT (k : Nat) (a0 : Int) (P1_ : Nat → Prop) (A1 : Option Addr) (c1 : Nat) (l1 : List Int) (r : Bool) (w : World) (hs1 : Kd.V (Kd.int .i64) 3 w w.heap.size (fun k_ => P1_ k_) (.slice A1 l1.length c1) l1) (hrT : r = true) (h : greenwoodlaw05_ElimUnits.f k a0 l1 = some r) :
    Calls Try.prog 6 #[.int .i64 a0, .slice A1 l1.length c1] w fun e w' => e = .returned (.bool r) ∧ Below w.heap.size w w' := by
  have HO1 := Aside0.mk (show Kd.V (Kd.int .i64) 3 w w.heap.size (fun k_ => (P1_ k_ ∨ w.heap.size ≤ k_)) (.slice A1 l1.length c1) l1 from Kd.V_mono hs1 (fun k_ hk => .inl hk))
  have HB := Aside0.mk (Below.refl w.heap.size w)
  have H : ((greenwoodlaw05_fixed.f k).bind fun t298 => (if t298 = true then (if (l1.length : Int) > 20 then (greenwoodlaw05_ElimUnits.j0 k a0 l1 (l1.length : Int) true) else ((greenwoodref05_May.f k a0 (l1.length : Int) (([l1] : List (List Int)))).bind fun t302 => (greenwoodlaw05_ElimUnits.j0 k a0 l1 (l1.length : Int) (!t302)))) else (greenwoodlaw05_ElimUnits.j0 k a0 l1 (l1.length : Int) true))) = some r := h
  clear h
  have HC3 := Aside0.mk H
  clear H
  go_enter Try.func6, Try.ntmps6
  go_upto_region 2 with (fail)
  go_cut [27] (fun v27 wc => ∃ (kq : Nat) (x27_2 : Bool), v27 = .bool x27_2 ∧ Aside0 (greenwoodlaw05_ElimUnits.j0 kq a0 l1 (l1.length : Int) x27_2 = some r) ∧ Aside0 (kq ≤ k) ∧ Aside0 (Kd.V (Kd.int .i64) 3 wc w.heap.size (fun k_ => (P1_ k_ ∨ w.heap.size ≤ k_)) (.slice A1 l1.length c1) l1) ∧ Aside0 (Below w.heap.size w wc))
  case first =>
    have H := HC3.out
    clear HC3
    replace H := Option.bind_eq_some_iff.mp H
    obtain ⟨t298, A40, H⟩ := H
    replace H : (if t298 = true then (if (l1.length : Int) > 20 then (greenwoodlaw05_ElimUnits.j0 k a0 l1 (l1.length : Int) true) else ((greenwoodref05_May.f k a0 (l1.length : Int) (([l1] : List (List Int)))).bind fun t302 => (greenwoodlaw05_ElimUnits.j0 k a0 l1 (l1.length : Int) (!t302)))) else (greenwoodlaw05_ElimUnits.j0 k a0 l1 (l1.length : Int) true)) = some r := H
    have A4 := Aside0.mk A40
    clear A40
    by_cases c5 : t298 = true
    · subst c5
      have H1 : (if (l1.length : Int) > 20 then (greenwoodlaw05_ElimUnits.j0 k a0 l1 (l1.length : Int) true) else ((greenwoodref05_May.f k a0 (l1.length : Int) (([l1] : List (List Int)))).bind fun t302 => (greenwoodlaw05_ElimUnits.j0 k a0 l1 (l1.length : Int) (!t302)))) = some r := by rw [if_pos rfl] at H; exact H
      clear H
      have H := H1
      clear H1
      by_cases c6 : (l1.length : Int) > 20
      · rw [if_pos c6] at H
        have c6b0 : decide (20 < (l1.length : Int)) = true := decide_eq_true c6
        have c6b1 : decide (20 < l1.length) = true := decide_eq_true (by omega)
        clear c6
        (first | rw [c6b0] | (simp only [i64_w, i32_w]; rw [c6b0]) | skip)
        have H' := Aside0.mk H
        clear H
        go_wp2_with (first | ((with_reducible refine gate_callee (f := 8) rfl ?_); refine goesL_ (some 14) rfl rfl Try.func8 (by kernel_rfl) rfl #[] rfl (by (try simp only [List.map_toArray, List.map_cons, List.map_nil]); first | done | rfl | (simp only [List.length_drop, List.length_take]; rfl)) ?_; (with_reducible refine (greenwoodlaw05_fixed.calls k  true _ A4.out).mono ?_); rintro e w7 ⟨rfl, hb⟩; refine ⟨_, rfl, ?_⟩; have n0_ := Aside0.mk (Kd.V_below (by (with_reducible repeat (first | apply Kd.V_alloc | apply Kd.V_drewN | apply Kd.V_drew)); exact HO1.out) hb); have n1_ := Aside0.mk (below_step (by repeat (first | (with_reducible first | exact HB.out | apply below_alloc | apply pw_below_drewN | apply below_drew1) | exact HB.out)) hb); clear HO1; clear HB; have HO1 := n0_; have HB := n1_; clear n0_ n1_; (try clear hb); (try clear hb2); (try clear hk); (try clear hi)))
        go_meet
        case rel => exact ⟨_, (true), (by first | rfl | (simp; done) | (simp [*]; done)), H', ⟨by first | omega | exact Nat.le_refl _⟩, ⟨by (with_reducible repeat (first | apply Kd.V_alloc | apply Kd.V_drewN | apply Kd.V_drew)); exact HO1.out⟩, ⟨by repeat (first | (with_reducible first | exact HB.out | apply below_alloc | apply pw_below_drewN | apply below_drew1) | exact HB.out)⟩⟩
      · rw [if_neg c6] at H
        have c6b0 : decide (20 < (l1.length : Int)) = false := decide_eq_false c6
        have c6b1 : decide (20 < l1.length) = false := decide_eq_false (by omega)
        clear c6
        (first | rw [c6b0] | (simp only [i64_w, i32_w]; rw [c6b0]) | skip)
        obtain ⟨y299, hy299⟩ : ∃ y_ : List (List Int), y_ = (([l1] : List (List Int))) := ⟨_, rfl⟩
        replace H : ((greenwoodref05_May.f k a0 (l1.length : Int) y299).bind fun t302 => (greenwoodlaw05_ElimUnits.j0 k a0 l1 (l1.length : Int) (!t302))) = some r := by first | (rw [hy299]; with_reducible exact H) | (have H2_ := (Option.bind_some _ _).symm.trans H; rw [hy299]; with_reducible exact H2_) | (have H2_ := (Option.bind_some _ _).symm.trans H; with_reducible exact H2_) | with_reducible exact H | (rw [hy299]; exact H) | exact H
        have Ny299 := Aside0.mk hy299
        clear hy299
        replace H := Option.bind_eq_some_iff.mp H
        obtain ⟨t302, A80, H⟩ := H
        replace H : (greenwoodlaw05_ElimUnits.j0 k a0 l1 (l1.length : Int) (!t302)) = some r := H
        have A8 := Aside0.mk A80
        clear A80
        have H' := Aside0.mk H
        clear H
        go_wp2_with (first | ((with_reducible refine gate_callee (f := 8) rfl ?_); refine goesL_ (some 14) rfl rfl Try.func8 (by kernel_rfl) rfl #[] rfl (by (try simp only [List.map_toArray, List.map_cons, List.map_nil]); first | done | rfl | (simp only [List.length_drop, List.length_take]; rfl)) ?_; (with_reducible refine (greenwoodlaw05_fixed.calls k  true _ A4.out).mono ?_); rintro e w9 ⟨rfl, hb⟩; refine ⟨_, rfl, ?_⟩; have n0_ := Aside0.mk (Kd.V_below (by (with_reducible repeat (first | apply Kd.V_alloc | apply Kd.V_drewN | apply Kd.V_drew)); exact HO1.out) hb); have n1_ := Aside0.mk (below_step (by repeat (first | (with_reducible first | exact HB.out | apply below_alloc | apply pw_below_drewN | apply below_drew1) | exact HB.out)) hb); clear HO1; clear HB; have HO1 := n0_; have HB := n1_; clear n0_ n1_; (try clear hb); (try clear hb2); (try clear hk); (try clear hi)) | ((with_reducible refine gate_dst (N := 24) rfl ?_); (try (refine gate_guard (by rfl) ?_; dsimp only)); refine Kd.N_lit (Kd.slice 3 (Kd.int .i64)) _ 26 ?hg (N' := 24) ?hd (xs := ([l1] : List (List Int))) (inner := [.slice A1 l1.length c1]) (ok := (fun k_ => (P1_ k_ ∨ w.heap.size ≤ k_))) (okp := (fun k_ => (P1_ k_ ∨ w.heap.size ≤ k_))) ?hr ?hp (fun _ hk => hk) ((show ∀ k_, w9.heap.size ≤ k_ → (fun k_ => (P1_ k_ ∨ w.heap.size ≤ k_)) k_ from fun k_ hk => (.inr (Nat.le_trans (below_size (by repeat (first | (with_reducible first | exact HB.out | apply below_alloc | apply pw_below_drewN | apply below_drew1) | exact HB.out))) hk))) _ (Nat.le_refl _)) (Below.refl _ _) (Nat.le_refl _) (by simp) ?_; (case hd => rfl); (case hg => rfl); (case hr => first | (go_simp; done) | (go_simp; rfl)); (case hp => exact (Reps.one (show Kd.FK (Kd.slice 3 (Kd.int .i64)) _ _ l1 [.slice A1 l1.length c1] from (Kd.FK_slice_mk (Kd.V_reads' (Kd.V_mono (ok' := (fun k_ => (P1_ k_ ∨ w.heap.size ≤ k_))) (HO1.out) (fun k_ hk => hk))).2.1 (Kd.V_F (Kd.V_mono (ok' := (fun k_ => (P1_ k_ ∨ w.heap.size ≤ k_))) (HO1.out) (fun k_ hk => hk))))) (Reps.none _ _))); intro v300 w10 ho11 hb hg_ hnew_; clear hg_ hnew_; (first | rw [← Ny299.out] at ho11 | (simp only [Int.reduceToNat] at ho11; rw [← Ny299.out] at ho11)); have n0_ := Aside0.mk (Kd.V_elder' (by (with_reducible repeat (first | apply Kd.V_alloc | apply Kd.V_drewN | apply Kd.V_drew)); exact HO1.out) (Kd.N_base ho11) hb); have n1_ := Aside0.mk (Kd.N_lower ho11 (below_size (by repeat (first | (with_reducible first | exact HB.out | apply below_alloc | apply pw_below_drewN | apply below_drew1) | exact HB.out)))); have n2_ := Aside0.mk (below_step (by repeat (first | (with_reducible first | exact HB.out | apply below_alloc | apply pw_below_drewN | apply below_drew1) | exact HB.out)) hb); clear HO1; clear HB; have HO1 := n0_; have HO301 := n1_; have HB := n2_; clear n0_ n1_ n2_; clear hb ho11; obtain ⟨Ao12, co12, eo12⟩ := Kd.N_slice HO301.out; subst eo12) | (go_at_call 10; (with_reducible refine (greenwoodref05_May.calls k a0 (l1.length : Int) _ _ y299 t302 _ ?side1 ?side2 A8.out).mono ?_); (case side1 => repeat (first | exact (Kd.N_reads' HO301.out).2.2 | (with_reducible refine Kd.C_alloc ?_ _) | (with_reducible refine Kd.C_drewN ?_ _) | (with_reducible refine Kd.C_drew ?_))); (case side2 => exact (Kd.N_reads' HO301.out).2.1); rintro e w' ⟨rfl, ⟨nd, rfl⟩⟩))
        go_meet
        case rel => exact ⟨_, (!t302), (by first | rfl | (simp; done) | (simp [*]; done)), H', ⟨by first | omega | exact Nat.le_refl _⟩, ⟨by (with_reducible repeat (first | apply Kd.V_alloc | apply Kd.V_drewN | apply Kd.V_drew)); exact Kd.V_mono HO1.out (fun _ hk => hk.1)⟩, ⟨by repeat (first | (with_reducible first | exact HB.out | apply below_alloc | apply pw_below_drewN | apply below_drew1) | exact HB.out)⟩⟩
    · replace c5 := Bool.eq_false_iff.mpr c5
      subst c5
      have H1 : (greenwoodlaw05_ElimUnits.j0 k a0 l1 (l1.length : Int) true) = some r := by rw [if_neg (show ¬ (false = true) by decide)] at H; exact H
      clear H
      have H := H1
      clear H1
      have H' := Aside0.mk H
      clear H
      go_wp2_with (first | ((with_reducible refine gate_callee (f := 8) rfl ?_); refine goesL_ (some 14) rfl rfl Try.func8 (by kernel_rfl) rfl #[] rfl (by (try simp only [List.map_toArray, List.map_cons, List.map_nil]); first | done | rfl | (simp only [List.length_drop, List.length_take]; rfl)) ?_; (with_reducible refine (greenwoodlaw05_fixed.calls k  false _ A4.out).mono ?_); rintro e w13 ⟨rfl, hb⟩; refine ⟨_, rfl, ?_⟩; have n0_ := Aside0.mk (Kd.V_below (by (with_reducible repeat (first | apply Kd.V_alloc | apply Kd.V_drewN | apply Kd.V_drew)); exact HO1.out) hb); have n1_ := Aside0.mk (below_step (by repeat (first | (with_reducible first | exact HB.out | apply below_alloc | apply pw_below_drewN | apply below_drew1) | exact HB.out)) hb); clear HO1; clear HB; have HO1 := n0_; have HB := n1_; clear n0_ n1_; (try clear hb); (try clear hb2); (try clear hk); (try clear hi)))
      go_meet
      case rel => exact ⟨_, (true), (by first | rfl | (simp; done) | (simp [*]; done)), H', ⟨by first | omega | exact Nat.le_refl _⟩, ⟨by (with_reducible repeat (first | apply Kd.V_alloc | apply Kd.V_drewN | apply Kd.V_drew)); exact HO1.out⟩, ⟨by repeat (first | (with_reducible first | exact HB.out | apply below_alloc | apply pw_below_drewN | apply below_drew1) | exact HB.out)⟩⟩
  case rest =>
    clear HC3
    try clear c1
    try clear p2
    try clear c5
    try clear c6
    try clear c6b0
    try clear c6b1
    try clear c8
    obtain ⟨kq, x27_2, rfl, HA, HJ2, HO_1, HB⟩ := hcut
    cases kq with
    | zero => exact absurd HA.out (by simp [greenwoodlaw05_ElimUnits.j0])
    | succ kj2 =>
      have H := HA.out
      clear HA
      simp only [greenwoodlaw05_ElimUnits.j0] at H
      by_cases c14 : x27_2 = true
      · subst c14
        have H1 : ((greenwoodlaw05_fixed.f kj2).bind fun t303 => (some t303)) = some r := by rw [if_pos rfl] at H; exact H
        clear H
        have H := H1
        clear H1
        replace H := Option.bind_eq_some_iff.mp H
        obtain ⟨t303, A150, H⟩ := H
        replace H : (some t303) = some r := H
        have A15 := Aside0.mk A150
        clear A150
        obtain rfl := Option.some.inj H
        go_wp2_with (first | ((with_reducible refine gate_callee (f := 8) rfl ?_); refine goesL_ (some 28) rfl rfl Try.func8 (by kernel_rfl) rfl #[] rfl (by (try simp only [List.map_toArray, List.map_cons, List.map_nil]); first | done | rfl | (simp only [List.length_drop, List.length_take]; rfl)) ?_; (with_reducible refine (greenwoodlaw05_fixed.calls kj2  t303 _ A15.out).mono ?_); rintro e w16 ⟨rfl, hb⟩; refine ⟨_, rfl, ?_⟩; have n0_ := Aside0.mk (Kd.V_below (by (with_reducible repeat (first | apply Kd.V_alloc | apply Kd.V_drewN | apply Kd.V_drew)); exact HO_1.out) hb); have n1_ := Aside0.mk (below_step (by repeat (first | (with_reducible first | exact HB.out | apply below_alloc | apply pw_below_drewN | apply below_drew1) | exact HB.out)) hb); clear HO_1; clear HB; have HO_1 := n0_; have HB := n1_; clear n0_ n1_; (try clear hb); (try clear hb2); (try clear hk); (try clear hi)))
        go_ret
        exact ⟨by first | rfl | (simp [errW_none, errW_some] <;> rfl) | (simp [*, errW_none, errW_some] <;> rfl), by repeat (first | (with_reducible first | exact HB.out | apply below_alloc | apply pw_below_drewN | apply below_drew1) | exact HB.out)⟩
      · replace c14 := Bool.eq_false_iff.mpr c14
        subst c14
        have H1 : (greenwoodlaw05_ElimUnits.l0 kj2 a0 l1 (l1.length : Int) (([] : List (List Int))) (([] : List Int)) 0) = some r := by rw [if_neg (show ¬ (false = true) by decide)] at H; exact H
        clear H
        have H := H1
        clear H1
        obtain ⟨y304, hy304⟩ : ∃ y_ : List (List Int), y_ = (([] : List (List Int))) := ⟨_, rfl⟩
        replace H : (greenwoodlaw05_ElimUnits.l0 kj2 a0 l1 (l1.length : Int) y304 (([] : List Int)) 0) = some r := by first | (rw [hy304]; with_reducible exact H) | (have H2_ := (Option.bind_some _ _).symm.trans H; rw [hy304]; with_reducible exact H2_) | (have H2_ := (Option.bind_some _ _).symm.trans H; with_reducible exact H2_) | with_reducible exact H | (rw [hy304]; exact H) | exact H
        have Ny304 := Aside0.mk hy304
        clear hy304
        obtain ⟨y307, hy307⟩ : ∃ y_ : List Int, y_ = (([] : List Int)) := ⟨_, rfl⟩
        replace H : (greenwoodlaw05_ElimUnits.l0 kj2 a0 l1 (l1.length : Int) y304 y307 0) = some r := by first | (rw [hy307]; with_reducible exact H) | (have H2_ := (Option.bind_some _ _).symm.trans H; rw [hy307]; with_reducible exact H2_) | (have H2_ := (Option.bind_some _ _).symm.trans H; with_reducible exact H2_) | with_reducible exact H | (rw [hy307]; exact H) | exact H
        have Ny307 := Aside0.mk hy307
        clear hy307
        have H' := Aside0.mk H
        clear H
        go_wp2_with (first | ((with_reducible refine gate_dst (N := 29) rfl ?_); (try (refine gate_guard (by rfl) ?_; dsimp only)); refine Kd.N_lit (Kd.slice 3 (Kd.int .i64)) _ 26 ?hg (N' := 29) ?hd (xs := ([] : List (List Int))) (inner := []) (ok := (fun k_ => (P1_ k_ ∨ w.heap.size ≤ k_))) (okp := (fun k_ => (P1_ k_ ∨ w.heap.size ≤ k_))) ?hr ?hp (fun _ hk => hk) ((show ∀ k_, wc.heap.size ≤ k_ → (fun k_ => (P1_ k_ ∨ w.heap.size ≤ k_)) k_ from fun k_ hk => (.inr (Nat.le_trans (below_size (by repeat (first | (with_reducible first | exact HB.out | apply below_alloc | apply pw_below_drewN | apply below_drew1) | exact HB.out))) hk))) _ (Nat.le_refl _)) (Below.refl _ _) (Nat.le_refl _) (by simp) ?_; (case hd => rfl); (case hg => rfl); (case hr => first | (go_simp; done) | (go_simp; rfl)); (case hp => exact (Reps.none _ _)); intro v305 w17 ho18 hb hg_ hnew_; clear hg_ hnew_; (first | rw [← Ny304.out] at ho18 | (simp only [Int.reduceToNat] at ho18; rw [← Ny304.out] at ho18)); have n0_ := Aside0.mk (Kd.V_elder' (by (with_reducible repeat (first | apply Kd.V_alloc | apply Kd.V_drewN | apply Kd.V_drew)); exact HO_1.out) (Kd.N_base ho18) hb); have n1_ := Aside0.mk (Kd.N_lower ho18 (below_size (by repeat (first | (with_reducible first | exact HB.out | apply below_alloc | apply pw_below_drewN | apply below_drew1) | exact HB.out)))); have n2_ := Aside0.mk (below_step (by repeat (first | (with_reducible first | exact HB.out | apply below_alloc | apply pw_below_drewN | apply below_drew1) | exact HB.out)) hb); clear HO_1; clear HB; have HO_1 := n0_; have HO306 := n1_; have HB := n2_; clear n0_ n1_ n2_; clear hb ho18) | ((with_reducible refine gate_dst (N := 30) rfl ?_); (try (refine gate_guard (by rfl) ?_; dsimp only)); refine Kd.R_lit (Kd.int .i64) _ 3 ?hg (N := 30) ?hd (xs := ([] : List Int)) (inner := []) (ok := fun _ => True) (okp := fun _ => True) ?hr ?hp (fun _ hk => hk) trivial (Below.refl _ _) (Nat.le_refl _) (by simp) ?_; (case hd => rfl); (case hg => rfl); (case hr => first | (go_simp; done) | (go_simp; rfl)); (case hp => exact (Reps.none _ _)); intro v308 w19 ho20 hb hg_ hnew_; clear hg_ hnew_; (first | rw [← Ny307.out] at ho20 | (simp only [Int.reduceToNat] at ho20; rw [← Ny307.out] at ho20)); have n0_ := Aside0.mk (Kd.V_elder' (by (with_reducible repeat (first | apply Kd.V_alloc | apply Kd.V_drewN | apply Kd.V_drew)); exact HO_1.out) (Kd.R_base ho20) hb); have n1_ := Aside0.mk (Kd.N_elder' (by (with_reducible repeat (first | apply Kd.N_alloc | apply Kd.N_drewN | apply Kd.N_drew)); exact HO306.out) (Kd.R_base ho20) hb); have n2_ := Aside0.mk (Kd.R_lower (Kd.R_newM (M := fun k_ => (w.heap.size ≤ k_)) ho20 (below_size (by repeat (first | (with_reducible first | exact HB.out | apply below_alloc | apply pw_below_drewN | apply below_drew1) | exact HB.out))) (fun k_ h_ => h_)) (below_size (by repeat (first | (with_reducible first | exact HB.out | apply below_alloc | apply pw_below_drewN | apply below_drew1) | exact HB.out)))); have n3_ := Aside0.mk (below_step (by repeat (first | (with_reducible first | exact HB.out | apply below_alloc | apply pw_below_drewN | apply below_drew1) | exact HB.out)) hb); clear HO_1; clear HO306; clear HB; have HO_1 := n0_; have HO306 := n1_; have HO309 := n2_; have HB := n3_; clear n0_ n1_ n2_ n3_; clear hb ho20))
        go_loopg [6, 7, 8] kj2 (fun kq v6 v7 v8 w' => ∃ (x1_2 : List Int) (x6_2 : List (List Int)) (x7_2 : List Int) (x8_2 : Int), v8 = .int .i64 x8_2 ∧ Aside0 (greenwoodlaw05_ElimUnits.l0 kq a0 x1_2 (l1.length : Int) x6_2 x7_2 x8_2 = some r) ∧ Aside0 (kq ≤ kj2) ∧ Aside0 (Kd.V (Kd.int .i64) 3 w' w.heap.size (fun k_ => (P1_ k_ ∨ w.heap.size ≤ k_) ∧ some k_ ≠ (v6 : Value).ownBlock ∧ some k_ ≠ (v7 : Value).ownBlock) (.slice A1 l1.length c1) x1_2) ∧ Aside0 (Kd.N (Kd.slice 3 (Kd.int .i64)) 26 w' w.heap.size (fun k_ => (P1_ k_ ∨ w.heap.size ≤ k_) ∧ some k_ ≠ (v7 : Value).ownBlock) v6 x6_2) ∧ Aside0 (Kd.R (Kd.int .i64) 3 w' w.heap.size (fun k_ => (w.heap.size ≤ k_)) v7 x7_2) ∧ Aside0 (Below w.heap.size w w'))
        case atStart => exact ⟨(l1), (y304), (y307), (0), (by first | rfl | (simp; done) | (simp [*]; done)), H', ⟨Nat.le_refl _⟩, ⟨by (with_reducible repeat (first | apply Kd.V_alloc | apply Kd.V_drewN | apply Kd.V_drew)); exact Kd.V_mono HO_1.out (fun _ hk => ⟨hk.1.1, ⟨hk.1.2, hk.2⟩⟩)⟩, ⟨by (with_reducible repeat (first | apply Kd.N_alloc | apply Kd.N_drewN | apply Kd.N_drew)); exact HO306.out⟩, ⟨by (with_reducible repeat (first | apply Kd.R_alloc | apply Kd.R_drewN | apply Kd.R_drew)); exact Kd.R_mono HO309.out (fun _ hk => hk.1)⟩, ⟨by repeat (first | (with_reducible first | exact HB.out | apply below_alloc | apply pw_below_drewN | apply below_drew1) | exact HB.out)⟩⟩
        case round =>
          clear H'
          try clear c1
          try clear p2
          try clear c5
          try clear c6
          try clear c6b0
          try clear c6b1
          try clear c8
          try clear c14
          try clear p2
          obtain ⟨x1_2, x6_2, x7_2, x8_2, rfl, HA, HK2, HO_1, HO_6, HO_7, HB⟩ := hrel
          have hl1_2 := (Kd.V_reads' HO_1.out).1
          rw [hl1_2] at HO_1
          (try simp only [hl1_2])
          (try simp only [hl1_2] at HO_6)
          (try simp only [hl1_2] at HO_7)
          cases gk with
          | zero => exact absurd HA.out (by simp [greenwoodlaw05_ElimUnits.l0])
          | succ k2 =>
            have H := HA.out
            clear HA
            simp only [greenwoodlaw05_ElimUnits.l0] at H
            (try simp only [hl1_2] at H)
            by_cases c21 : x8_2 < (x1_2.length : Int)
            · rw [if_pos c21] at H
              have c21b0 : decide (x8_2 < (x1_2.length : Int)) = true := decide_eq_true c21
              clear c21
              by_cases c22 : 0 ≤ (x1_2.length : Int)
              · rw [if_pos c22] at H
                have c22b0 := eq_true c22
                have c22b1 : decide (0 ≤ (x1_2.length : Int)) = true := decide_eq_true c22
                clear c22
                by_cases c23 : ((x1_2.length : Int) : Int).toNat ≤ 35184372088832
                · rw [if_pos c23] at H
                  have c23b0 := eq_true c23
                  have c23b1 : decide (((x1_2.length : Int) : Int).toNat ≤ 35184372088832) = true := decide_eq_true c23
                  clear c23
                  obtain ⟨y310, hy310⟩ : ∃ y_ : List Int, y_ = (List.replicate ((x1_2.length : Int) : Int).toNat 0) := ⟨_, rfl⟩
                  replace H : (if 0 ≤ x8_2 then (if x8_2 < (y310.length : Int) then (if x6_2.length < 5864062014805 then (if x7_2.length < 17592186044416 then (greenwoodlaw05_ElimUnits.l0 k2 a0 x1_2 (x1_2.length : Int) (x6_2 ++ [(y310.set (x8_2 : Int).toNat 1)]) (x7_2 ++ [x8_2]) (wrap64 (x8_2 + 1))) else (none)) else (none)) else (none)) else (none)) = some r := by first | (rw [hy310]; with_reducible exact H) | (have H2_ := (Option.bind_some _ _).symm.trans H; rw [hy310]; with_reducible exact H2_) | (have H2_ := (Option.bind_some _ _).symm.trans H; with_reducible exact H2_) | with_reducible exact H | (rw [hy310]; exact H) | exact H
                  have Ny310 := Aside0.mk hy310
                  clear hy310
                  by_cases c24 : 0 ≤ x8_2
                  · rw [if_pos c24] at H
                    have c24b0 : decide (0 ≤ x8_2) = true := decide_eq_true c24
                    clear c24
                    by_cases c25 : x8_2 < (y310.length : Int)
                    · rw [if_pos c25] at H
                      have c25b0 : decide (x8_2 < (y310.length : Int)) = true := decide_eq_true c25
                      clear c25
                      obtain ⟨y313, hy313⟩ : ∃ y_ : List Int, y_ = (y310.set (x8_2 : Int).toNat 1) := ⟨_, rfl⟩
                      replace H : (if x6_2.length < 5864062014805 then (if x7_2.length < 17592186044416 then (greenwoodlaw05_ElimUnits.l0 k2 a0 x1_2 (x1_2.length : Int) (x6_2 ++ [y313]) (x7_2 ++ [x8_2]) (wrap64 (x8_2 + 1))) else (none)) else (none)) = some r := by first | (rw [hy313]; with_reducible exact H) | (have H2_ := (Option.bind_some _ _).symm.trans H; rw [hy313]; with_reducible exact H2_) | (have H2_ := (Option.bind_some _ _).symm.trans H; with_reducible exact H2_) | with_reducible exact H | (rw [hy313]; exact H) | exact H
                      have Ny313 := Aside0.mk hy313
                      clear hy313
                      by_cases c27 : x6_2.length < 5864062014805
                      · rw [if_pos c27] at H
                        have LMc27 := Aside0.mk c27
                        clear c27
                        obtain ⟨y314, hy314⟩ : ∃ y_ : List (List Int), y_ = (x6_2 ++ [y313]) := ⟨_, rfl⟩
                        replace H : (if x7_2.length < 17592186044416 then (greenwoodlaw05_ElimUnits.l0 k2 a0 x1_2 (x1_2.length : Int) y314 (x7_2 ++ [x8_2]) (wrap64 (x8_2 + 1))) else (none)) = some r := by first | (rw [hy314]; with_reducible exact H) | (have H2_ := (Option.bind_some _ _).symm.trans H; rw [hy314]; with_reducible exact H2_) | (have H2_ := (Option.bind_some _ _).symm.trans H; with_reducible exact H2_) | with_reducible exact H | (rw [hy314]; exact H) | exact H
                        have Ny314 := Aside0.mk hy314
                        clear hy314
                        by_cases c28 : x7_2.length < 17592186044416
                        · rw [if_pos c28] at H
                          have LMc28 := Aside0.mk c28
                          clear c28
                          obtain ⟨y317, hy317⟩ : ∃ y_ : List Int, y_ = (x7_2 ++ [x8_2]) := ⟨_, rfl⟩
                          replace H : (greenwoodlaw05_ElimUnits.l0 k2 a0 x1_2 (x1_2.length : Int) y314 y317 (wrap64 (x8_2 + 1))) = some r := by first | (rw [hy317]; with_reducible exact H) | (have H2_ := (Option.bind_some _ _).symm.trans H; rw [hy317]; with_reducible exact H2_) | (have H2_ := (Option.bind_some _ _).symm.trans H; with_reducible exact H2_) | with_reducible exact H | (rw [hy317]; exact H) | exact H
                          have Ny317 := Aside0.mk hy317
                          clear hy317
                          have H' := Aside0.mk H
                          clear H
                          go_wp2_with (first | ((with_reducible refine gate_dst (N := 37) rfl ?_); (try (refine gate_guard (by rfl) ?_; dsimp only)); refine Kd.R_make (Kd.int .i64) _ 3 rfl (N := 37) rfl 26 _ _ rfl (x1_2.length : Int) rfl rfl Try.underlying26 (.int .i64 0) 8 info3 rfl (by decide) (by omega) 0 (ok := fun _ => True) (okp := fun _ => True) rfl (fun _ hk => hk) trivial (of_decide_eq_true (by first | (with_reducible assumption) | assumption)) (Nat.le_trans (Nat.mul_le_mul_right _ (of_decide_eq_true (by first | (with_reducible assumption) | assumption) : (x1_2.length : Int).toNat ≤ 35184372088832)) (by omega)) (Below.refl _ _) (Nat.le_refl _) ?_; intro v311 w29 ho30 hb hg_ hnew_; clear hg_ hnew_; (first | rw [← Ny310.out] at ho30 | (simp only [Int.reduceToNat] at ho30; rw [← Ny310.out] at ho30)); have n0_ := Aside0.mk (Kd.V_elder' (by (with_reducible repeat (first | apply Kd.V_alloc | apply Kd.V_drewN | apply Kd.V_drew)); exact HO_1.out) (Kd.R_base ho30) hb); have n1_ := Aside0.mk (Kd.N_elder' (by (with_reducible repeat (first | apply Kd.N_alloc | apply Kd.N_drewN | apply Kd.N_drew)); exact HO_6.out) (Kd.R_base ho30) hb); have n2_ := Aside0.mk (Kd.R_elder' (by (with_reducible repeat (first | apply Kd.R_alloc | apply Kd.R_drewN | apply Kd.R_drew)); exact HO_7.out) (Kd.R_base ho30) hb); have n3_ := Aside0.mk (Kd.R_lower (Kd.R_new' (Kd.R_newM (M := fun k_ => (w.heap.size ≤ k_)) ho30 (below_size (by repeat (first | (with_reducible first | exact HB.out | apply below_alloc | apply pw_below_drewN | apply below_drew1) | exact HB.out))) (fun k_ h_ => h_)) (Kd.R_lt (by (with_reducible repeat (first | apply Kd.R_alloc | apply Kd.R_drewN | apply Kd.R_drew)); exact HO_7.out))) (below_size (by repeat (first | (with_reducible first | exact HB.out | apply below_alloc | apply pw_below_drewN | apply below_drew1) | exact HB.out)))); have n4_ := Aside0.mk (below_step (by repeat (first | (with_reducible first | exact HB.out | apply below_alloc | apply pw_below_drewN | apply below_drew1) | exact HB.out)) hb); clear HO_1; clear HO_6; clear HO_7; clear HB; have HO_1 := n0_; have HO_6 := n1_; have HO_7 := n2_; have HO312 := n3_; have HB := n4_; clear n0_ n1_ n2_ n3_ n4_; clear hb ho30; have p26 : 0 ≤ (x8_2 : Int) := of_decide_eq_true (by first | (with_reducible assumption) | assumption); have q26 : (x8_2 : Int) < ((y310.length : Int) : Int) := of_decide_eq_true (by first | (with_reducible assumption) | assumption); obtain ⟨go26, co26, eo26, gb26, gl26, cl26, HG26⟩ := Kd.R_form HO312.out (by omega); (first | cases eo26 | (injection eo26 with ea_ en_ ec_; (first | subst ea_ | (injection ea_ with ea_; subst ea_)); subst ec_; clear en_)); have GB26 := Aside0.mk gb26; have GG26 := Aside0.mk HG26; clear gb26 gl26 HG26; obtain ⟨hx26_0, hf26_0⟩ := Kd.R_celln 0 HO312.out (x8_2 : Int) p26 q26; replace p26 := eq_true p26; replace q26 := eq_true q26; have n_ := Aside0.mk (Kd.R_mono (ok' := (fun k_ => (w.heap.size ≤ k_) ∧ some k_ ≠ (u7 : Value).ownBlock)) HO312.out (fun k_ hk => ⟨hk.1.1, hk.2⟩)); clear HO312; have HO312 := n_; clear n_; obtain ⟨hy31_, hz31_⟩ := Kd.R_celln 0 HO312.out (x8_2 : Int) (of_decide_eq_true (by first | (with_reducible assumption) | assumption)) (of_decide_eq_true (by first | (with_reducible assumption) | assumption)); have HP31 := Kd.R_putg HO312.out (x8_2 : Int) 1) | ((with_reducible refine gate_store (t := 3) (p := 40) rfl ?_); refine store_event (t := 3) (p := 40) (v := ?vo_w32) (w1 := (w29.setCell ⟨go26, (x8_2 : Int).toNat, none⟩ (.int .i64 1))) ?hg ?ho ?hn ?hr ?_; (case ho => rfl); (case hg => rfl); (case hn => rfl); (case hr => first | (go_simp; done) | (go_simp; rfl)); intro w32 hw; have hg : w29.grownBy w32 (some go26) := (by rw [hw]; exact HP31.2); have hp_ : Kd.R (Kd.int .i64) 3 w32 w.heap.size (fun k_ => (w.heap.size ≤ k_) ∧ some k_ ≠ (u7 : Value).ownBlock) (.slice (some ⟨go26, 0, none⟩) y310.length co26) y313 := (by rw [hw, Ny313.out]; exact HP31.1); clear HP31; have n0_ := Aside0.mk (Kd.V_afterv (v := (.slice (some ⟨go26, 0, none⟩) y310.length co26)) (v1 := (.slice (some ⟨go26, 0, none⟩) y310.length co26)) (ok := (fun k_ => (P1_ k_ ∨ w.heap.size ≤ k_) ∧ some k_ ≠ (u6 : Value).ownBlock ∧ some k_ ≠ (u7 : Value).ownBlock)) (by (with_reducible repeat (first | apply Kd.V_alloc | apply Kd.V_drewN | apply Kd.V_drew)); exact HO_1.out) hg (.inl rfl)); have n1_ := Aside0.mk (Kd.N_afterv (v := (.slice (some ⟨go26, 0, none⟩) y310.length co26)) (v1 := (.slice (some ⟨go26, 0, none⟩) y310.length co26)) (ok := (fun k_ => (P1_ k_ ∨ w.heap.size ≤ k_) ∧ some k_ ≠ (u7 : Value).ownBlock)) (by (with_reducible repeat (first | apply Kd.N_alloc | apply Kd.N_drewN | apply Kd.N_drew)); exact HO_6.out) hg (.inl rfl)); have n2_ := Aside0.mk (Kd.R_after (v := (.slice (some ⟨go26, 0, none⟩) y310.length co26)) (v1 := (.slice (some ⟨go26, 0, none⟩) y310.length co26)) (ok := (fun k_ => (w.heap.size ≤ k_))) (by (with_reducible repeat (first | apply Kd.R_alloc | apply Kd.R_drewN | apply Kd.R_drew)); exact HO_7.out) hg (.inl rfl)); have n3_ := Aside0.mk (hp_); have n4_ := Aside0.mk ((by rw [hw]; exact below_set (HB.out) GB26.out : Below w.heap.size w w32)); clear HO_1; clear HO_6; clear HO_7; clear HO312; clear HB; have HO_1 := n0_; have HO_6 := n1_; have HO_7 := n2_; have HO312 := n3_; have HB := n4_; clear n0_ n1_ n2_ n3_ n4_; clear hg hw hp_) | ((with_reducible refine gate_builtin (b := .append) (xs := #[.tmp 41, .tmp 43]) rfl ?_); (try (refine gate_guard (by rfl) ?_; dsimp only)); at_builtin; refine Kd.N_append (Kd.slice 3 (Kd.int .i64)) (w0 := w) w.heap.size rfl (.tmp 41) (.tmp 43) 22 26 (.slice none 0 0) 24 rfl Try.underlying22 info26 rfl (by decide) (by omega) u6 x6_2 y313 [.slice (some ⟨go26, 0, none⟩) y310.length co26] (fun k_ => (P1_ k_ ∨ w.heap.size ≤ k_) ∧ some k_ ≠ (u7 : Value).ownBlock) (fun k_ => ((fun k_ => (P1_ k_ ∨ w.heap.size ≤ k_) ∧ some k_ ≠ (u7 : Value).ownBlock)) k_ ∧ some k_ ≠ (u6 : Value).ownBlock) rfl rfl ?aP (fun _ hk => hk) ?aF ?aO ?aB ?aS ?aL ?_; (case aP => exact (FKR8 (Kd.R_mono (ok' := (fun k_ => ((fun k_ => (P1_ k_ ∨ w.heap.size ≤ k_) ∧ some k_ ≠ (u7 : Value).ownBlock)) k_ ∧ some k_ ≠ (u6 : Value).ownBlock)) (Kd.R_apart' (HO312.out) (Kd.N_typed HO_6.out) (by decide)) (fun k_ hk => ⟨⟨(.inr (hk.1.1)), hk.1.2⟩, hk.2⟩)))); (case aB => exact (by repeat (first | (with_reducible first | exact HB.out | apply below_alloc | apply pw_below_drewN | apply below_drew1) | exact HB.out))); (case aF => exact (fun k_ hk => ⟨(.inr (Nat.le_trans (below_size (by repeat (first | (with_reducible first | exact HB.out | apply below_alloc | apply pw_below_drewN | apply below_drew1) | exact HB.out))) hk)), Kd.fresh' (Kd.R_lt (by (with_reducible repeat (first | apply Kd.R_alloc | apply Kd.R_drewN | apply Kd.R_drew)); exact HO_7.out)) k_ hk⟩)); (case aO => exact (by (with_reducible repeat (first | apply Kd.N_alloc | apply Kd.N_drewN | apply Kd.N_drew)); exact Kd.N_mono HO_6.out (fun _ hk => ⟨hk.1.1, hk.1.2⟩))); (case aS => exact (below_size (by repeat (first | (with_reducible first | exact HB.out | apply below_alloc | apply pw_below_drewN | apply below_drew1) | exact HB.out)))); (case aL => have := LMc27.out; omega); intro v315 w33 ho hb hg hat; rw [← Ny314.out] at ho; have n0_ := Aside0.mk (Kd.V_afterv (ok := (fun k_ => (P1_ k_ ∨ w.heap.size ≤ k_) ∧ some k_ ≠ (u7 : Value).ownBlock ∧ some k_ ≠ (.slice (some ⟨go26, 0, none⟩) y310.length co26 : Value).ownBlock)) (by (with_reducible repeat (first | apply Kd.V_alloc | apply Kd.V_drewN | apply Kd.V_drew)); exact Kd.V_mono HO_1.out (fun _ hk => ⟨⟨hk.1.1, ⟨hk.1.2.2, hk.2⟩⟩, hk.1.2.1⟩)) hg hat); have n1_ := Aside0.mk (Kd.R_over' (by (with_reducible repeat (first | apply Kd.R_alloc | apply Kd.R_drewN | apply Kd.R_drew)); exact HO_7.out) (Kd.N_typed (by (with_reducible repeat (first | apply Kd.N_alloc | apply Kd.N_drewN | apply Kd.N_drew)); exact HO_6.out)) (by decide) hg); have n2_ := Aside0.mk (hb); have n3_ := Aside0.mk (ho); clear HO_1; clear HO_7; clear HB; clear HO_6; clear HO312; have HO_1 := n0_; have HO_7 := n1_; have HB := n2_; have HO316 := n3_; clear n0_ n1_ n2_ n3_; clear ho hb hg hat) | ((with_reducible refine gate_builtin (b := .append) (xs := #[.tmp 45, .tmp 47]) rfl ?_); (try (refine gate_guard (by rfl) ?_; dsimp only)); at_builtin; refine Kd.R_append (Kd.int .i64) (w0 := w) w.heap.size rfl (.tmp 45) (.tmp 47) 26 3 (.int .i64 0) 8 rfl Try.underlying26 info3 rfl (by decide) (by omega) u7 x7_2 x8_2 [.int .i64 x8_2] (fun k_ => (w.heap.size ≤ k_)) (fun _ => False) rfl rfl ?aP (fun _ hk => hk.elim) ?aF ?aO ?aB ?aS ?aL ?_; (case aP => exact rfl); (case aB => exact (by repeat (first | (with_reducible first | exact HB.out | apply below_alloc | apply pw_below_drewN | apply below_drew1) | exact HB.out))); (case aF => exact (fun k_ hk => (Nat.le_trans (below_size (by repeat (first | (with_reducible first | exact HB.out | apply below_alloc | apply pw_below_drewN | apply below_drew1) | exact HB.out))) hk))); (case aO => exact (by (with_reducible repeat (first | apply Kd.R_alloc | apply Kd.R_drewN | apply Kd.R_drew)); exact Kd.R_mono HO_7.out (fun _ hk => hk.1))); (case aS => exact (below_size (by repeat (first | (with_reducible first | exact HB.out | apply below_alloc | apply pw_below_drewN | apply below_drew1) | exact HB.out)))); (case aL => have := LMc28.out; omega); intro v318 w34 ho hb hg hat; rw [← Ny317.out] at ho; have n0_ := Aside0.mk (Kd.V_afterv (ok := (fun k_ => (P1_ k_ ∨ w.heap.size ≤ k_) ∧ some k_ ≠ (v315 : Value).ownBlock)) (by (with_reducible repeat (first | apply Kd.V_alloc | apply Kd.V_drewN | apply Kd.V_drew)); exact Kd.V_mono HO_1.out (fun _ hk => ⟨⟨hk.1.1, hk.2⟩, hk.1.2.1⟩)) hg hat); have n1_ := Aside0.mk (Kd.N_afterv (ok := (fun k_ => (P1_ k_ ∨ w.heap.size ≤ k_))) (by (with_reducible repeat (first | apply Kd.N_alloc | apply Kd.N_drewN | apply Kd.N_drew)); exact HO316.out) hg hat); have n2_ := Aside0.mk (hb); have n3_ := Aside0.mk (ho); clear HO_1; clear HO316; clear HB; clear HO_7; have HO_1 := n0_; have HO316 := n1_; have HB := n2_; have HO319 := n3_; clear n0_ n1_ n2_ n3_; clear ho hb hg hat))
                          (try simp only [← hl1_2])
                          (try simp only [← hl1_2] at H')
                          go_roundg k2
                          case measure => have := HJ2.out; have := HK2.out; omega
                          case rel => exact ⟨(x1_2), (y314), (y317), (wrap64 (x8_2 + 1)), (by first | rfl | (simp; done) | (simp [*]; done)), H', ⟨by have := HJ2.out; have := HK2.out; omega⟩, ⟨by (try simp only [hl1_2]); (with_reducible repeat (first | apply Kd.V_alloc | apply Kd.V_drewN | apply Kd.V_drew)); exact Kd.V_mono HO_1.out (fun _ hk => ⟨hk.1.1, ⟨hk.1.2, hk.2⟩⟩)⟩, ⟨by (try simp only [hl1_2]); (with_reducible repeat (first | apply Kd.N_alloc | apply Kd.N_drewN | apply Kd.N_drew)); exact HO316.out⟩, ⟨by (try simp only [hl1_2]); (with_reducible repeat (first | apply Kd.R_alloc | apply Kd.R_drewN | apply Kd.R_drew)); exact HO319.out⟩, ⟨by repeat (first | (with_reducible first | exact HB.out | apply below_alloc | apply pw_below_drewN | apply below_drew1) | exact HB.out)⟩⟩
                        · rw [if_neg c28] at H
                          exact absurd H (by simp)
                      · rw [if_neg c27] at H
                        exact absurd H (by simp)
                    · rw [if_neg c25] at H
                      exact absurd H (by simp)
                  · rw [if_neg c24] at H
                    exact absurd H (by simp)
                · rw [if_neg c23] at H
                  exact absurd H (by simp)
              · rw [if_neg c22] at H
                exact absurd H (by simp)
            · rw [if_neg c21] at H
              have c21b0 : decide (x8_2 < (x1_2.length : Int)) = false := decide_eq_false c21
              clear c21
              replace H := Option.bind_eq_some_iff.mp H
              obtain ⟨⟨t320, t321⟩, A350, H⟩ := H
              replace H : ((elim_Basis.f k2 a0 (x1_2.length : Int) x6_2).bind fun t324 => ((greenwoodref01_Same.f k2 t324 x7_2).bind fun t327 => (if t327 = true then ((elim_Rank.f k2 a0 (x1_2.length : Int) x6_2).bind fun t328 => (if t328 = (x1_2.length : Int) then (if t321 = true then ((greenwoodref01_Same.f k2 t320 x1_2).bind fun t329 => (some t329)) else (some false)) else (some false))) else (some false)))) = some r := H
              have A35 := Aside0.mk A350
              clear A350
              replace H := Option.bind_eq_some_iff.mp H
              obtain ⟨t324, A360, H⟩ := H
              replace H : ((greenwoodref01_Same.f k2 t324 x7_2).bind fun t327 => (if t327 = true then ((elim_Rank.f k2 a0 (x1_2.length : Int) x6_2).bind fun t328 => (if t328 = (x1_2.length : Int) then (if t321 = true then ((greenwoodref01_Same.f k2 t320 x1_2).bind fun t329 => (some t329)) else (some false)) else (some false))) else (some false))) = some r := H
              have A36 := Aside0.mk A360
              clear A360
              replace H := Option.bind_eq_some_iff.mp H
              obtain ⟨t327, A370, H⟩ := H
              replace H : (if t327 = true then ((elim_Rank.f k2 a0 (x1_2.length : Int) x6_2).bind fun t328 => (if t328 = (x1_2.length : Int) then (if t321 = true then ((greenwoodref01_Same.f k2 t320 x1_2).bind fun t329 => (some t329)) else (some false)) else (some false))) else (some false)) = some r := H
              have A37 := Aside0.mk A370
              clear A370
              by_cases c38 : t327 = true
              · subst c38
                have H1 : ((elim_Rank.f k2 a0 (x1_2.length : Int) x6_2).bind fun t328 => (if t328 = (x1_2.length : Int) then (if t321 = true then ((greenwoodref01_Same.f k2 t320 x1_2).bind fun t329 => (some t329)) else (some false)) else (some false))) = some r := by rw [if_pos rfl] at H; exact H
                clear H
                have H := H1
                clear H1
                replace H := Option.bind_eq_some_iff.mp H
                obtain ⟨t328, A390, H⟩ := H
                replace H : (if t328 = (x1_2.length : Int) then (if t321 = true then ((greenwoodref01_Same.f k2 t320 x1_2).bind fun t329 => (some t329)) else (some false)) else (some false)) = some r := H
                have A39 := Aside0.mk A390
                clear A390
                by_cases c40 : t328 = (x1_2.length : Int)
                · rw [if_pos c40] at H
                  have c40b0 : (t328 == (x1_2.length : Int)) = true := beq_iff_eq.mpr c40
                  have c40b1 : (t328 != (x1_2.length : Int)) = false := bne_eq_false_iff_eq.mpr c40
                  clear c40
                  by_cases c41 : t321 = true
                  · subst c41
                    have H1 : ((greenwoodref01_Same.f k2 t320 x1_2).bind fun t329 => (some t329)) = some r := by rw [if_pos rfl] at H; exact H
                    clear H
                    have H := H1
                    clear H1
                    replace H := Option.bind_eq_some_iff.mp H
                    obtain ⟨t329, A420, H⟩ := H
                    replace H : (some t329) = some r := H
                    have A42 := Aside0.mk A420
                    clear A420
                    obtain rfl := Option.some.inj H
                    obtain ⟨Ao43, co43, eo43⟩ := Kd.N_slice HO_6.out
                    subst eo43
                    go_wp2_with (first | ((with_reducible refine gate_callee (f := 16) rfl ?_); refine goesL_ (some 54) rfl rfl Try.func16 (by kernel_rfl) rfl #[.int .i64 a0, .int .i64 (x1_2.length : Int), .slice Ao43 x6_2.length co43, .slice A1 x1_2.length c1] rfl (by (try simp only [List.map_toArray, List.map_cons, List.map_nil]); first | done | rfl | (simp only [List.length_drop, List.length_take]; rfl)) ?_; (with_reducible refine (elim_Combo.calls k2 a0 (x1_2.length : Int) _ _ x6_2 _ _ x1_2 t320 true _ ?side1 ?side2 ?side3 ?side4 A35.out).mono ?_); (case side1 => repeat (first | exact (Kd.N_reads' HO_6.out).2.2 | (with_reducible refine Kd.C_alloc ?_ _) | (with_reducible refine Kd.C_drewN ?_ _) | (with_reducible refine Kd.C_drew ?_))); (case side2 => exact (Kd.N_reads' HO_6.out).2.1); (case side3 => repeat (first | exact (Kd.V_reads' HO_1.out).2.2 | (with_reducible refine Kd.C_alloc ?_ _) | (with_reducible refine Kd.C_drewN ?_ _) | (with_reducible refine Kd.C_drew ?_))); (case side4 => exact (Kd.V_reads' HO_1.out).2.1); rintro e w44 ⟨v322, rfl, ho0, hb⟩; refine ⟨_, rfl, ?_⟩; have n0_ := Aside0.mk (Kd.V_elder' (by (with_reducible repeat (first | apply Kd.V_alloc | apply Kd.V_drewN | apply Kd.V_drew)); exact HO_1.out) (Kd.R_base ho0) hb); have n1_ := Aside0.mk (Kd.N_elder' (by (with_reducible repeat (first | apply Kd.N_alloc | apply Kd.N_drewN | apply Kd.N_drew)); exact HO_6.out) (Kd.R_base ho0) hb); have n2_ := Aside0.mk (Kd.R_elder' (by (with_reducible repeat (first | apply Kd.R_alloc | apply Kd.R_drewN | apply Kd.R_drew)); exact HO_7.out) (Kd.R_base ho0) hb); have n3_ := Aside0.mk (Kd.R_lower (Kd.R_new' (Kd.R_newM (M := fun k_ => (w.heap.size ≤ k_)) ho0 (below_size (by repeat (first | (with_reducible first | exact HB.out | apply below_alloc | apply pw_below_drewN | apply below_drew1) | exact HB.out))) (fun k_ h_ => h_)) (Kd.R_lt (by (with_reducible repeat (first | apply Kd.R_alloc | apply Kd.R_drewN | apply Kd.R_drew)); exact HO_7.out))) (below_size (by repeat (first | (with_reducible first | exact HB.out | apply below_alloc | apply pw_below_drewN | apply below_drew1) | exact HB.out)))); have n4_ := Aside0.mk (below_step (by repeat (first | (with_reducible first | exact HB.out | apply below_alloc | apply pw_below_drewN | apply below_drew1) | exact HB.out)) hb); clear HO_1; clear HO_6; clear HO_7; clear HB; have HO_1 := n0_; have HO_6 := n1_; have HO_7 := n2_; have HO323 := n3_; have HB := n4_; clear n0_ n1_ n2_ n3_ n4_; (try clear hb); (try clear hb2); (try clear hk); (try clear hi); (try clear ho0)) | ((with_reducible refine gate_callee (f := 12) rfl ?_); refine goesL_ (some 60) rfl rfl Try.func12 (by kernel_rfl) rfl #[.int .i64 a0, .int .i64 (x1_2.length : Int), .slice Ao43 x6_2.length co43] rfl (by (try simp only [List.map_toArray, List.map_cons, List.map_nil]); first | done | rfl | (simp only [List.length_drop, List.length_take]; rfl)) ?_; (with_reducible refine (elim_Basis.calls k2 a0 (x1_2.length : Int) _ _ x6_2 t324 _ ?side1 ?side2 A36.out).mono ?_); (case side1 => repeat (first | exact (Kd.N_reads' HO_6.out).2.2 | (with_reducible refine Kd.C_alloc ?_ _) | (with_reducible refine Kd.C_drewN ?_ _) | (with_reducible refine Kd.C_drew ?_))); (case side2 => exact (Kd.N_reads' HO_6.out).2.1); rintro e w45 ⟨v325, rfl, ho0, hb⟩; refine ⟨_, rfl, ?_⟩; have n0_ := Aside0.mk (Kd.V_elder' (by (with_reducible repeat (first | apply Kd.V_alloc | apply Kd.V_drewN | apply Kd.V_drew)); exact HO_1.out) (Kd.R_base ho0) hb); have n1_ := Aside0.mk (Kd.N_elder' (by (with_reducible repeat (first | apply Kd.N_alloc | apply Kd.N_drewN | apply Kd.N_drew)); exact HO_6.out) (Kd.R_base ho0) hb); have n2_ := Aside0.mk (Kd.R_elder' (by (with_reducible repeat (first | apply Kd.R_alloc | apply Kd.R_drewN | apply Kd.R_drew)); exact HO_7.out) (Kd.R_base ho0) hb); have n3_ := Aside0.mk (Kd.R_elder' (by (with_reducible repeat (first | apply Kd.R_alloc | apply Kd.R_drewN | apply Kd.R_drew)); exact HO323.out) (Kd.R_base ho0) hb); have n4_ := Aside0.mk (Kd.R_lower (Kd.R_new' (Kd.R_new' (Kd.R_newM (M := fun k_ => (w.heap.size ≤ k_)) ho0 (below_size (by repeat (first | (with_reducible first | exact HB.out | apply below_alloc | apply pw_below_drewN | apply below_drew1) | exact HB.out))) (fun k_ h_ => h_)) (Kd.R_lt (by (with_reducible repeat (first | apply Kd.R_alloc | apply Kd.R_drewN | apply Kd.R_drew)); exact HO_7.out))) (Kd.R_lt (by (with_reducible repeat (first | apply Kd.R_alloc | apply Kd.R_drewN | apply Kd.R_drew)); exact HO323.out))) (below_size (by repeat (first | (with_reducible first | exact HB.out | apply below_alloc | apply pw_below_drewN | apply below_drew1) | exact HB.out)))); have n5_ := Aside0.mk (below_step (by repeat (first | (with_reducible first | exact HB.out | apply below_alloc | apply pw_below_drewN | apply below_drew1) | exact HB.out)) hb); clear HO_1; clear HO_6; clear HO_7; clear HO323; clear HB; have HO_1 := n0_; have HO_6 := n1_; have HO_7 := n2_; have HO323 := n3_; have HO326 := n4_; have HB := n5_; clear n0_ n1_ n2_ n3_ n4_ n5_; (try clear hb); (try clear hb2); (try clear hk); (try clear hi); (try clear ho0); obtain ⟨Ao46, co46, eo46⟩ := Kd.R_slice HO326.out; subst eo46; obtain ⟨Ao47, co47, eo47⟩ := Kd.R_slice HO_7.out; subst eo47) | ((with_reducible refine gate_callee (f := 11) rfl ?_); refine goesL_ (some 62) rfl rfl Try.func11 (by kernel_rfl) rfl #[.slice Ao46 t324.length co46, .slice Ao47 x7_2.length co47] rfl (by (try simp only [List.map_toArray, List.map_cons, List.map_nil]); first | done | rfl | (simp only [List.length_drop, List.length_take]; rfl)) ?_; (with_reducible refine (greenwoodref01_Same.calls k2 _ _ t324 _ _ x7_2 true _ ?side1 ?side2 ?side3 ?side4 A37.out).mono ?_); (case side1 => repeat (first | exact (Kd.R_reads' HO326.out).2.2 | (with_reducible refine Kd.C_alloc ?_ _) | (with_reducible refine Kd.C_drewN ?_ _) | (with_reducible refine Kd.C_drew ?_))); (case side2 => exact (Kd.R_reads' HO326.out).2.1); (case side3 => repeat (first | exact (Kd.R_reads' HO_7.out).2.2 | (with_reducible refine Kd.C_alloc ?_ _) | (with_reducible refine Kd.C_drewN ?_ _) | (with_reducible refine Kd.C_drew ?_))); (case side4 => exact (Kd.R_reads' HO_7.out).2.1); rintro e w' ⟨rfl, ⟨nd, rfl⟩⟩; refine ⟨_, rfl, ?_⟩) | (go_at_call 14; (with_reducible refine (elim_Rank.calls k2 a0 (x1_2.length : Int) _ _ x6_2 t328 _ ?side1 ?side2 A39.out).mono ?_); (case side1 => repeat (first | exact (Kd.N_reads' HO_6.out).2.2 | (with_reducible refine Kd.C_alloc ?_ _) | (with_reducible refine Kd.C_drewN ?_ _) | (with_reducible refine Kd.C_drew ?_))); (case side2 => exact (Kd.N_reads' HO_6.out).2.1); rintro e w48 ⟨rfl, hb⟩; have n0_ := Aside0.mk (Kd.V_below (by (with_reducible repeat (first | apply Kd.V_alloc | apply Kd.V_drewN | apply Kd.V_drew)); exact HO_1.out) hb); have n1_ := Aside0.mk (Kd.N_below (by (with_reducible repeat (first | apply Kd.N_alloc | apply Kd.N_drewN | apply Kd.N_drew)); exact HO_6.out) hb); have n2_ := Aside0.mk (Kd.R_below (by (with_reducible repeat (first | apply Kd.R_alloc | apply Kd.R_drewN | apply Kd.R_drew)); exact HO_7.out) hb); have n3_ := Aside0.mk (Kd.R_below (by (with_reducible repeat (first | apply Kd.R_alloc | apply Kd.R_drewN | apply Kd.R_drew)); exact HO323.out) hb); have n4_ := Aside0.mk (Kd.R_below (by (with_reducible repeat (first | apply Kd.R_alloc | apply Kd.R_drewN | apply Kd.R_drew)); exact HO326.out) hb); have n5_ := Aside0.mk (below_step (by repeat (first | (with_reducible first | exact HB.out | apply below_alloc | apply pw_below_drewN | apply below_drew1) | exact HB.out)) hb); clear HO_1; clear HO_6; clear HO_7; clear HO323; clear HO326; clear HB; have HO_1 := n0_; have HO_6 := n1_; have HO_7 := n2_; have HO323 := n3_; have HO326 := n4_; have HB := n5_; clear n0_ n1_ n2_ n3_ n4_ n5_; (try clear hb); (try clear hb2); (try clear hk); (try clear hi); obtain ⟨Ao49, co49, eo49⟩ := Kd.R_slice HO323.out; subst eo49) | (go_at_call 11; (with_reducible refine (greenwoodref01_Same.calls k2 _ _ t320 _ _ x1_2 t329 _ ?side1 ?side2 ?side3 ?side4 A42.out).mono ?_); (case side1 => repeat (first | exact (Kd.R_reads' HO323.out).2.2 | (with_reducible refine Kd.C_alloc ?_ _) | (with_reducible refine Kd.C_drewN ?_ _) | (with_reducible refine Kd.C_drew ?_))); (case side2 => exact (Kd.R_reads' HO323.out).2.1); (case side3 => repeat (first | exact (Kd.V_reads' HO_1.out).2.2 | (with_reducible refine Kd.C_alloc ?_ _) | (with_reducible refine Kd.C_drewN ?_ _) | (with_reducible refine Kd.C_drew ?_))); (case side4 => exact (Kd.V_reads' HO_1.out).2.1); rintro e w' ⟨rfl, ⟨nd, rfl⟩⟩))
                    go_ret
                    exact ⟨by first | rfl | (simp [errW_none, errW_some] <;> rfl) | (simp [*, errW_none, errW_some] <;> rfl), by repeat (first | (with_reducible first | exact HB.out | apply below_alloc | apply pw_below_drewN | apply below_drew1) | exact HB.out)⟩
                  · replace c41 := Bool.eq_false_iff.mpr c41
                    subst c41
                    have H1 : (some false) = some r := by rw [if_neg (show ¬ (false = true) by decide)] at H; exact H
                    clear H
                    have H := H1
                    clear H1
                    exact absurd ((Option.some.inj H).trans hrT) (by decide)
                · rw [if_neg c40] at H
                  have c40b0 : (t328 == (x1_2.length : Int)) = false := beq_eq_false_iff_ne.mpr c40
                  have c40b1 : (t328 != (x1_2.length : Int)) = true := bne_iff_ne.mpr c40
                  exact absurd ((Option.some.inj H).trans hrT) (by decide)
              · replace c38 := Bool.eq_false_iff.mpr c38
                subst c38
                have H1 : (some false) = some r := by rw [if_neg (show ¬ (false = true) by decide)] at H; exact H
                clear H
                have H := H1
                clear H1
                exact absurd ((Option.some.inj H).trans hrT) (by decide)

end Go.Proofs.Ytepakefmioeilaa.P
/- Layer 5: the five laws, of what the printed functions compute. -/
namespace Go.Proofs.Ytepakefmioeilaa.P
open Go.RowKit Go.Proofs.YtepakefmioeilaaW.PrintWords Go.Proofs.YtepakefmioeilaaW.PrintLast Go.Proofs.YtepakefmioeilaaW.PrintMore
open LinA (V Sp zv smul comb rk Fld)
set_option linter.unusedVariables false
set_option linter.unusedSimpArgs false

theorem fixed_ev : Ev (fun k => greenwoodlaw05_fixed.f k) true := by
  obtain ⟨K, hK⟩ := greenwoodlaw05_fixed.val
  exact Ev.of greenwoodlaw05_fixed.mono hK
theorem may_nat {p rows : Int} {cols : List (List Int)} (h : mayB p rows cols = true) : ∃ (P : Nat) (_ : NeZero P), p = (P : Int) := by
  have hp := (isP_true.mp (mayB_true h).1).2.1
  exact ⟨p.toNat, ⟨by omega⟩, by omega⟩
/-! ### ElimCombines -/
section
variable {P : Nat} [NeZero P]
end
/-! ### ElimTwice -/
section
variable {P : Nat} [NeZero P]
end
/-! ### ElimRank -/
section
variable {P : Nat} [NeZero P]
end
/-! ### ElimUnits -/
def uni (n i : Nat) : List Int := (List.replicate n 0).set i 1
theorem uni_ok {P : Nat} (hP : isP (P : Int) = true) (n i : Nat) : (uni n i).length = n ∧ Bd (P : Int) (uni n i) := by
  have hp2 : (2 : Int) ≤ P := by have := (isP_true.mp hP).2.1; omega
  refine ⟨by simp [uni], fun y hy => ?_⟩
  rcases List.mem_or_eq_of_mem_set hy with hy | rfl
  · have := (List.mem_replicate.1 hy).2; omega
  · omega
section
variable {P : Nat} [NeZero P]
def unis (n m : Nat) : List (List Int) := (List.range m).map (uni n)
theorem vec_uni (hP : isP (P : Int) = true) {n i : Nat} (h : i < n) : (vec (uni n i) : V P) = LinA.ev i := by
  funext j
  simp only [vec, LinA.ev]
  rw [rd_nat]
  unfold uni
  rw [List.getElem?_set, List.length_replicate]
  by_cases e : i = j
  · subst e
    rw [if_pos rfl, if_pos h, if_pos rfl]
    apply fin_ext
    rw [cz_val]
    have hp2 : 2 ≤ P := by have := (isP_true.mp hP).2.1; simpa using this
    obtain ⟨q, rfl⟩ : ∃ q, P = q + 2 := ⟨P - 2, by omega⟩
    show (1 : Int) % ((q + 2 : Nat) : Int) = _
    rw [Int.emod_eq_of_lt (by omega) (by omega)]; rfl
  · rw [if_neg e, if_neg (fun h => e h.symm), List.getElem?_replicate]
    split <;> exact cz_0
theorem vec_unis (hP : isP (P : Int) = true) {n m : Nat} (h : m ≤ n) : ((unis n m).map vec : List (V P)) = LinA.evs m := by
  unfold unis LinA.evs
  rw [List.map_map]
  refine List.map_congr_left (fun i hi => ?_)
  exact vec_uni hP (by have := List.mem_range.1 hi; omega)
theorem ev_out (hF : Fld P) (k : Nat) : ¬ Sp (LinA.evs k : List (V P)) (LinA.ev k) := by
  intro h
  have h1 : (LinA.ev k : V P) k = 0 := sp_at (L := LinA.evs k) (fun v hv => by
    obtain ⟨i, hi, rfl⟩ := List.mem_map.1 hv
    have := List.mem_range.1 hi
    simp only [LinA.ev]
    rw [if_neg (by omega)]) h
  simp only [LinA.ev, if_true] at h1
  exact hF.one_ne h1
theorem bas_evs (hF : Fld P) (n : Nat) : ∀ k, k ≤ n → bas (LinA.evs n : List (V P)) k = (List.range k).map (fun i : Nat => (i : Int)) := by
  intro k
  induction k with
  | zero => intro _; rfl
  | succ k ih =>
    intro h
    have h1 : (LinA.evs n : List (V P)).take k = LinA.evs k := by
      unfold LinA.evs
      rw [← List.map_take, List.take_range, Nat.min_eq_left (by omega)]
    have h2 : (LinA.evs n : List (V P)).getD k zv = LinA.ev k := by
      unfold LinA.evs
      rw [List.getD_eq_getElem?_getD, List.getElem?_map, List.getElem?_range (by omega)]; rfl
    rw [bas_out (by rw [h1, h2]; exact ev_out hF k), ih (by omega), List.range_succ, List.map_append]; rfl
theorem lc_evs (C : Nat → V P) (t : Int → Int) (j : Nat) : ∀ n : Nat, (∀ i, i < n → C i = LinA.ev i) → (lc C t n) j = if j < n then cz (t (j : Int)) else 0 := by
  intro n
  induction n with
  | zero => intro _; rfl
  | succ n ih =>
    intro h
    simp only [lc, LinA.add, smul]
    rw [ih (fun i hi => h i (by omega)), h n (by omega)]
    simp only [LinA.ev]
    by_cases e : j = n
    · subst e
      rw [if_neg (by omega), if_pos rfl, if_pos (by omega)]; grind
    · rw [if_neg e]
      by_cases h2 : j < n
      · rw [if_pos h2, if_pos (by omega)]; grind
      · rw [if_neg h2, if_neg (by omega)]; grind
theorem units_l0 {goal : List Int} (hn : goal.length ≤ 20) (h : mayB P (goal.length : Int) [goal] = true) : ∀ (d i : Nat), goal.length - i = d → i ≤ goal.length →
    Ev (fun k => greenwoodlaw05_ElimUnits.l0 k P goal (goal.length : Int) (unis goal.length i) ((List.range i).map (fun i : Nat => (i : Int))) (i : Int)) true := by
  obtain ⟨hP, h0, h64, _, hcs⟩ := mayB_true h
  obtain ⟨_, hgb⟩ := hcs goal (by simp)
  have hF := fldP hP
  intro d
  induction d with
  | zero =>
    intro i hd hi
    have e : i = goal.length := by omega
    subst e
    refine Ev.step (fun k => by rw [greenwoodlaw05_ElimUnits.l0]) ?_
    have hlen : (unis goal.length goal.length).length = goal.length := by simp [unis]
    have hu : mayB P (goal.length : Int) (unis goal.length goal.length) = true := mayB_mk hP h0 h64 (by omega) (fun c hc => by
      obtain ⟨i, _, rfl⟩ := List.mem_map.1 hc
      rw [Int.toNat_natCast]
      exact uni_ok hP _ _)
    have hbn : basN P (unis goal.length goal.length) = (List.range goal.length).map (fun i : Nat => (i : Int)) := by
      unfold basN
      rw [vec_unis hP (Nat.le_refl _), hlen]
      exact bas_evs hF _ _ (Nat.le_refl _)
    have hsp : Sp ((unis goal.length goal.length).map vec) (vec goal : V P) := by
      rw [vec_unis hP (Nat.le_refl _)]
      exact LinA.sp_evs _ _ (fun i hi => vec_out hi)
    obtain ⟨c, ok, hev, hok, hno, hyes⟩ := combo_ev hu h
    have hokt := hok.2 hsp
    subst hokt
    obtain ⟨hl, hbb, hz, hv⟩ := hyes rfl
    rw [hlen] at hl hbb hz hv
    have hcb : Bd (P : Int) c := by
      intro y hy
      obtain ⟨i, hi⟩ := List.getElem?_of_mem hy
      have hil := (List.getElem?_eq_some_iff.1 hi).1
      have := hbb i (by omega)
      rw [rd_nat, hi] at this
      exact this
    have hce : c = goal := by
      refine vec_inj (P := P) hcb hgb hl ?_
      rw [hv]
      funext j
      rw [lc_evs _ _ j goal.length (fun i hi => by
        unfold cv
        rw [getD_at (by omega)]
        have : (unis goal.length goal.length)[i]'(by omega) = uni goal.length i := by simp [unis]
        rw [this]
        exact vec_uni hP hi)]
      by_cases hj : j < goal.length
      · rw [if_pos hj]; rfl
      · rw [if_neg hj]; exact vec_out (by omega)
    subst hce
    have hs := same_ev ((List.range c.length).map (fun i : Nat => (i : Int))) ((List.range c.length).map (fun i : Nat => (i : Int))) (by simp; omega)
    rw [decide_eq_true rfl] at hs
    have hs2 := same_ev c c (by omega)
    rw [decide_eq_true rfl] at hs2
    have hb := basis_ev hu
    rw [hbn] at hb
    have hr := erank_ev hu
    rw [← basN_len hP, hbn, List.length_map, List.length_range] at hr
    exact Ev.ifn (by omega) (Ev.bind hev (Ev.bind hb (Ev.bind hs (Ev.ifp rfl (Ev.bind hr (Ev.ifp rfl (Ev.ifp rfl (Ev.bind hs2 (Ev.now _)))))))))
  | succ d ih =>
    intro i hd hi
    have hlt : i < goal.length := by omega
    refine Ev.step (fun k => by rw [greenwoodlaw05_ElimUnits.l0]) ?_
    refine Ev.ifp (by omega) (Ev.ifp (by omega) (Ev.ifp (by omega) (Ev.bnd ?_)))
    rw [Int.toNat_natCast, Int.toNat_natCast, List.length_replicate, w1 hlt (by omega)]
    have h3 := ih (i + 1) (by omega) (by omega)
    unfold unis at h3
    rw [List.range_succ, List.map_append, List.map_append] at h3
    exact Ev.ifp (by omega) (Ev.ifp (by omega) (Ev.ifp (by simp [unis]; omega) (Ev.ifp (by simp; omega) h3)))
end
theorem ElimUnits_ev (p : Int) (goal : List Int) : Ev (fun k => greenwoodlaw05_ElimUnits.f k p goal) true := by
  unfold greenwoodlaw05_ElimUnits.f
  have hf : Ev (fun k => greenwoodlaw05_ElimUnits.j0 k p goal (goal.length : Int) true) true := Ev.step (fun k => by rw [greenwoodlaw05_ElimUnits.j0]) (Ev.ifp rfl (Ev.bind fixed_ev (Ev.now _)))
  refine Ev.bind fixed_ev (Ev.ifp rfl ?_)
  by_cases h1 : (goal.length : Int) > 20
  · exact Ev.ifp h1 hf
  refine Ev.ifn h1 (Ev.bind (rmay_ev _ _ _) ?_)
  cases hm : mayB p (goal.length : Int) [goal] with
  | false => exact hf
  | true =>
    obtain ⟨P, hP, rfl⟩ := may_nat hm
    refine Ev.step (fun k => by rw [greenwoodlaw05_ElimUnits.j0]) (Ev.ifn (by decide) ?_)
    exact units_l0 (by omega) hm goal.length 0 (by omega) (by omega)
end Go.Proofs.Ytepakefmioeilaa.P
/- What came in, opened kind by kind: an argument's reading tells a list (of lists ..) that its cells hold. -/
namespace Go.Proofs.Ytepakefmioeilaa.P
open Go.RowKit Go.Proofs.YtepakefmioeilaaW.PrintWords Go.Proofs.YtepakefmioeilaaW.PrintLast Go.Proofs.YtepakefmioeilaaW.PrintMore
set_option linter.unusedVariables false
set_option linter.unusedSimpArgs false

structure Opens (P : Program) (t : TypeId) {α : Type} (d : Kd α) (q : α → Prop) : Prop where
  sz : P.cellsOf t = d.sz
  op : ∀ {H : Type} {enc : TypeId × Value → H} {w : World} {base fuel : Nat} {held : Bool} {cs : List Value} {x : DataW H × List MemPlace}, DataW.trod enc P w base (fun _ => true) held fuel t cs = some x → ∃ a : α, d.K w a cs ∧ q a
section
variable {P : Program} {α : Type} {d : Kd α} {q : α → Prop}
theorem opens_int {t : TypeId} {k : IntKind} (ht : P.underlying t = some (.int k)) (hs : P.cellsOf t = 1) : Opens P t (Kd.int k) (fun n => (Lit.int k n).wf = true) :=
  ⟨hs, fun h => by
    obtain ⟨n, rfl, _, hw⟩ := DataW.trod_int ht h
    exact ⟨n, rfl, hw⟩⟩
theorem Opens.mono {t : TypeId} {q' : α → Prop} (h : Opens P t d q) (hq : ∀ a, q a → q' a) : Opens P t d q' :=
  ⟨h.sz, fun ht => by obtain ⟨a, hk, ha⟩ := h.op ht; exact ⟨a, hk, hq a ha⟩⟩
theorem opens_slice {t e : TypeId} (e' : Nat) (ht : P.underlying t = some (.slice e)) (hs : P.cellsOf t = 1) (h : Opens P e d q) : Opens P t (Kd.slice e' d) (fun l => l.length ≤ maxLen ∧ ∀ x ∈ l, q x) :=
  ⟨hs, fun {H enc w base fuel held cs x} htr => by
    rcases Deep.open_slice ht htr with ⟨rfl, _⟩ | ⟨a, len, cap, m, n, D, Pl, rfl, hb, hl, hm, hmm, _, hx⟩
    · exact ⟨[], ⟨none, 0, rfl, Nat.le_refl _, Kd.C_nil d w⟩, Nat.zero_le _, fun x hx => by cases hx⟩
    · simp only [if_true] at hmm
      have each : ∀ i, i < len → ∃ y : α, (∃ cs', w.cells? base (a.add (i * P.cellsOf e)) (P.cellsOf e) = some cs' ∧ d.K w y cs') ∧ q y := by
        intro i hi
        obtain ⟨cs', h1, h2⟩ := hx i (by omega)
        obtain ⟨y, hy, hqy⟩ := h.op h2
        exact ⟨y, ⟨cs', h1, hy⟩, hqy⟩
      by_cases h0 : len = 0
      · subst h0
        refine ⟨[], ⟨some a, cap, rfl, Nat.zero_le _, rfl, by simp, fun h => absurd h (Nat.lt_irrefl 0)⟩, Nat.zero_le _, fun x hx => by cases hx⟩
      · obtain ⟨y0, _, _⟩ := each 0 (by omega)
        have : Inhabited α := ⟨y0⟩
        obtain ⟨f, hf⟩ := Deep.choose_lt each
        have hlen : ((List.range len).map f).length = len := by simp
        refine ⟨(List.range len).map f, ⟨some a, cap, by rw [hlen], by rw [hlen]; exact hl, ⟨rfl, by rw [hlen]; unfold maxLen at hm; omega, fun _ => ⟨a, rfl, fun j p hj => ?_⟩⟩⟩, by rw [hlen]; omega, fun x hx => ?_⟩
        · have hjl := (List.getElem?_eq_some_iff.1 hj).1
          rw [hlen] at hjl
          rw [List.getElem?_map, List.getElem?_range hjl] at hj
          have hj' : f j = p := by simpa using hj
          subst hj'
          obtain ⟨⟨cs', h1, h2⟩, _⟩ := hf j hjl
          obtain ⟨_, hcl, hcell⟩ := World.cells?_some h1
          refine ⟨cs', by rw [hcl, h.sz], h2, fun i u hu => ?_⟩
          have hil := (List.getElem?_eq_some_iff.1 hu).1
          have := hcell i (by omega)
          rw [Deep.add_add, hu, h.sz] at this
          exact this
        · obtain ⟨i, hi, rfl⟩ := List.mem_map.1 hx
          exact (hf i (List.mem_range.1 hi)).2⟩
/-- an argument that is a slice -/
theorem Opens.arg {t : TypeId} {e' : Nat} (h : Opens P t (Kd.slice e' d) (fun l => l.length ≤ maxLen ∧ ∀ x ∈ l, q x)) {H : Type} {enc : TypeId × Value → H} {w : World} {base : Nat} {held : Bool} {v : Value} {dd : DataW H} {ps : List MemPlace} {a : Option Addr} {len cap : Nat} (hv : v = .slice a len cap)
    (ht : DataW.Trod enc P w base (fun _ => true) held t v dd ps) : ∃ l : List α, len = l.length ∧ l.length ≤ cap ∧ d.C w a l.length l ∧ l.length ≤ maxLen ∧ ∀ x ∈ l, q x := by
  obtain ⟨fuel, hf⟩ := ht
  obtain ⟨l, ⟨A, c, hcs, hl, hC⟩, hq1, hq2⟩ := h.op hf
  subst hv
  simp only [Value.cells] at hcs
  have hcs' : Value.slice a len cap = Value.slice A l.length c := by simpa using hcs
  injection hcs' with e1 e2 e3
  subst e1 e2 e3
  exact ⟨l, rfl, hl, hC, hq1, hq2⟩
end
/-- what came in is only read: it may be shared -/
theorem V_of_C {α : Type} {d : Kd α} (hd : Kd.Heap d) {e base c : Nat} {w : World} {A : Option Addr} {xs : List α} (h : d.C w A xs.length xs) (hc : xs.length ≤ c) : Kd.V d e w base (fun _ => True) (.slice A xs.length c) xs :=
  Kd.V_mk hc (fun W' hW => hd.C (fun k hk => hW k trivial hk) h)
end Go.Proofs.Ytepakefmioeilaa.P
