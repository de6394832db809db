/- Texts of this claim's own repository, merged by wip/tool/pack.py: LinA, ElimA, ElimB, ElimC, ElimBasis, Px2B, Px2, Px3A, Modp, RefRank, RankWalk, ElimR, Px4. -/
import Derived.Test.YtepakefmioeilaaKElimCombines0
/- Linear algebra over the numbers modulo a prime: spans, independence, ranks. -/
namespace LinA
open NumTh (Pr)
set_option linter.unusedVariables false

/-- a column: a number for each row -/
abbrev V (p : Nat) := Nat → Fin p
variable {p : Nat} [NeZero p]

def zv : V p := fun _ => 0
def add (u v : V p) : V p := fun i => u i + v i
def smul (c : Fin p) (v : V p) : V p := fun i => c * v i

/-- what some columns span -/
inductive Sp (L : List (V p)) : V p → Prop
  | zero : Sp L zv
  | step (c : Fin p) {v w : V p} : v ∈ L → Sp L w → Sp L (add (smul c v) w)

theorem Sp.of_eq {L : List (V p)} {u v : V p} (h : Sp L u) (e : u = v) : Sp L v := e ▸ h
theorem Sp.mem {L : List (V p)} {v : V p} (h : v ∈ L) : Sp L v :=
  (Sp.step 1 h Sp.zero).of_eq (by funext i; simp only [add, smul, zv]; grind)
theorem Sp.add {L : List (V p)} {u v : V p} (hu : Sp L u) (hv : Sp L v) : Sp L (add u v) := by
  induction hu with
  | zero => exact hv.of_eq (by funext i; simp only [LinA.add, zv]; grind)
  | step c hm _ ih => exact (Sp.step c hm ih).of_eq (by funext i; simp only [LinA.add, smul]; grind)
theorem Sp.smul {L : List (V p)} {u : V p} (c : Fin p) (hu : Sp L u) : Sp L (smul c u) := by
  induction hu with
  | zero => exact Sp.zero.of_eq (by funext i; simp only [LinA.smul, zv]; grind)
  | step d hm _ ih => exact (Sp.step (c * d) hm ih).of_eq (by funext i; simp only [LinA.add, LinA.smul]; grind)
theorem Sp.trans {L M : List (V p)} {u : V p} (hu : Sp L u) (h : ∀ v ∈ L, Sp M v) : Sp M u := by
  induction hu with
  | zero => exact Sp.zero
  | step c hm _ ih => exact ((h _ hm).smul c).add ih
theorem Sp.mono {L M : List (V p)} {u : V p} (hu : Sp L u) (h : ∀ v ∈ L, v ∈ M) : Sp M u := hu.trans (fun v hv => Sp.mem (h v hv))
theorem Sp.nil {u : V p} (h : Sp [] u) : u = zv := by
  cases h with
  | zero => rfl
  | step c hm _ => cases hm
/-- of one more column: a number of it, and the rest -/
theorem Sp.cons {b : V p} {B : List (V p)} {v : V p} (h : Sp (b :: B) v) : ∃ (c : Fin p) (w : V p), v = LinA.add (LinA.smul c b) w ∧ Sp B w := by
  induction h with
  | zero => exact ⟨0, zv, by funext i; simp only [LinA.add, LinA.smul, zv]; grind, Sp.zero⟩
  | step d hm _ ih =>
    obtain ⟨c, w, he, hw⟩ := ih
    rcases List.mem_cons.mp hm with rfl | hm
    · exact ⟨d + c, w, by rw [he]; funext i; simp only [LinA.add, LinA.smul]; grind, hw⟩
    · exact ⟨c, LinA.add (LinA.smul d _) w, by rw [he]; funext i; simp only [LinA.add, LinA.smul]; grind, Sp.step d hm hw⟩

/-! combinations by numbers -/
def comb : List (Fin p) → List (V p) → V p
  | c :: cs, v :: vs => add (smul c v) (comb cs vs)
  | _, _ => zv
theorem comb_append {cs : List (Fin p)} {L : List (V p)} (ds : List (Fin p)) (M : List (V p)) (h : cs.length = L.length) : comb (cs ++ ds) (L ++ M) = add (comb cs L) (comb ds M) := by
  induction cs generalizing L with
  | nil =>
    cases L with
    | nil => funext i; simp only [List.nil_append, add, comb, zv]; grind
    | cons v L => simp at h
  | cons c cs ih =>
    cases L with
    | nil => simp at h
    | cons v L =>
      simp only [List.cons_append, comb]
      rw [ih (by simpa using h)]
      funext i; simp only [add, smul]; grind
theorem comb_sp (cs : List (Fin p)) (L : List (V p)) : Sp L (comb cs L) := by
  induction L generalizing cs with
  | nil => cases cs <;> exact Sp.zero
  | cons v L ih =>
    cases cs with
    | nil => exact Sp.zero
    | cons c cs => exact ((Sp.mem List.mem_cons_self).smul c).add ((ih cs).mono (fun _ h => List.mem_cons_of_mem _ h))

/-- dependent: numbers, not all 0, by which they come to 0 -/
def Dep (L : List (V p)) : Prop := ∃ cs : List (Fin p), cs.length = L.length ∧ (∃ c ∈ cs, c ≠ 0) ∧ comb cs L = zv

/-- a field: 1 is not 0, and there are inverses -/
structure Fld (p : Nat) [NeZero p] : Prop where
  one_ne : (1 : Fin p) ≠ 0
  inv : ∀ a : Fin p, a ≠ 0 → ∃ b : Fin p, a * b = 1

theorem comb_map_sub (t : V p → Fin p) (l : V p) : ∀ (cs : List (Fin p)) (L : List (V p)), cs.length = L.length →
    ∃ s : Fin p, comb cs (L.map fun v => add v (smul (t v) l)) = add (comb cs L) (smul s l) := by
  intro cs
  induction cs with
  | nil => intro L h; cases L with
    | nil => exact ⟨0, by funext i; simp only [comb, add, smul, zv]; grind⟩
    | cons v L => simp at h
  | cons c cs ih => intro L h; cases L with
    | nil => simp at h
    | cons v L =>
      obtain ⟨s, hs⟩ := ih L (by simpa using h)
      refine ⟨c * t v + s, ?_⟩
      simp only [List.map_cons, comb]
      rw [hs]
      funext i; simp only [add, smul]; grind

theorem comb_zero (L : List (V p)) (n : Nat) : comb (List.replicate n 0) L = zv := by
  induction L generalizing n with
  | nil => cases n <;> rfl
  | cons v L ih =>
    cases n with
    | zero => rfl
    | succ n => rw [List.replicate_succ, comb, ih]; funext i; simp only [add, smul, zv]; grind

/-- more columns than they are told by: dependent -/
theorem dep_of_many (hF : Fld p) : ∀ (B L : List (V p)), (∀ v ∈ L, Sp B v) → B.length < L.length → Dep L := by
  intro B
  induction B with
  | nil =>
    intro L hL hlt
    cases L with
    | nil => simp at hlt
    | cons v L =>
      refine ⟨1 :: List.replicate L.length 0, by simp, ⟨1, List.mem_cons_self, hF.one_ne⟩, ?_⟩
      have hv : v = zv := (hL v List.mem_cons_self).nil
      subst hv
      rw [comb, comb_zero]
      funext i; simp only [add, smul, zv]; grind
  | cons b B ih =>
    intro L hL hlt
    by_cases hall : ∀ v ∈ L, Sp B v
    · exact ih L hall (by simp at hlt; omega)
    · have : ∃ l ∈ L, ¬ Sp B l := by
        apply Classical.byContradiction
        intro hc
        exact hall (fun v hv => Classical.byContradiction fun hn => hc ⟨v, hv, hn⟩)
      obtain ⟨l, hl, hnl⟩ := this
      obtain ⟨X, Y, rfl⟩ := List.append_of_mem hl
      obtain ⟨c, w, he, hw⟩ := (hL l hl).cons
      have hc0 : c ≠ 0 := by
        intro h0
        apply hnl
        refine hw.of_eq ?_
        rw [he, h0]; funext i; simp only [add, smul]; grind
      obtain ⟨d, hd⟩ := hF.inv c hc0
      -- each other one, less so many of l, is told by B
      have hex : ∀ v ∈ X ++ l :: Y, ∃ t : Fin p, Sp B (add v (smul t l)) := by
        intro v hv
        obtain ⟨c', w', he', hw'⟩ := (hL v hv).cons
        refine ⟨-(c' * d), (hw'.add (hw.smul (-(c' * d)))).of_eq ?_⟩
        rw [he', he]
        funext i
        simp only [add, smul]
        grind
      have ht : ∃ t : V p → Fin p, ∀ v ∈ X ++ l :: Y, Sp B (add v (smul (t v) l)) := by
        refine ⟨fun v => @dite _ (∃ t : Fin p, Sp B (add v (smul t l))) (Classical.propDecidable _) (fun h => Classical.choose h) (fun _ => 0), fun v hv => ?_⟩
        have h := hex v hv
        show Sp B (add v (smul (@dite _ _ (Classical.propDecidable _) _ _) l))
        rw [dif_pos h]
        exact Classical.choose_spec h
      obtain ⟨t, ht⟩ := ht
      obtain ⟨ds, hlen, ⟨e, hem, hene⟩, hzero⟩ := ih ((X ++ Y).map fun v => add v (smul (t v) l)) (by
        intro v hv
        obtain ⟨u, hu, rfl⟩ := List.mem_map.mp hv
        refine ht u ?_
        rcases List.mem_append.mp hu with h | h
        · exact List.mem_append_left _ h
        · exact List.mem_append_right _ (List.mem_cons_of_mem _ h)) (by simp at hlt ⊢; omega)
      obtain ⟨s, hs⟩ := comb_map_sub t l ds (X ++ Y) (by simpa using hlen)
      rw [hs] at hzero
      -- the numbers: those of X, s of l, those of Y
      have hl2 : ds.length = X.length + Y.length := by simpa using hlen
      refine ⟨ds.take X.length ++ s :: ds.drop X.length, by simp; omega, ⟨e, ?_, hene⟩, ?_⟩
      · rw [← List.take_append_drop X.length ds] at hem
        rcases List.mem_append.mp hem with h | h
        · exact List.mem_append_left _ h
        · exact List.mem_append_right _ (List.mem_cons_of_mem _ h)
      · have h1 : comb ds (X ++ Y) = add (comb (ds.take X.length) X) (comb (ds.drop X.length) Y) := by
          rw [← comb_append _ _ (by simp; omega), List.take_append_drop]
        rw [comb_append _ _ (by simp; omega), comb]
        rw [h1] at hzero
        funext i
        have := congrFun hzero i
        simp only [add, smul, zv] at this ⊢
        grind

/-- each is told by none of those behind it -/
def Ind : List (V p) → Prop
  | [] => True
  | v :: L => ¬ Sp L v ∧ Ind L

theorem Ind.not_dep (hF : Fld p) : ∀ {L : List (V p)}, Ind L → ¬ Dep L := by
  intro L
  induction L with
  | nil => intro _ ⟨cs, hlen, ⟨c, hc, _⟩, _⟩; cases cs with
    | nil => cases hc
    | cons _ _ => simp at hlen
  | cons v L ih =>
    intro ⟨h1, h2⟩ ⟨cs, hlen, ⟨e, he, hene⟩, hz⟩
    cases cs with
    | nil => simp at hlen
    | cons c cs =>
      rw [comb] at hz
      by_cases hc : c = 0
      · subst hc
        refine ih h2 ⟨cs, by simpa using hlen, ⟨e, ?_, hene⟩, ?_⟩
        · rcases List.mem_cons.mp he with h | h
          · exact absurd h hene
          · exact h
        · funext i
          have := congrFun hz i
          simp only [add, smul, zv] at this ⊢
          grind
      · obtain ⟨d, hd⟩ := hF.inv c hc
        refine h1 (((comb_sp cs L).smul (-d)).of_eq ?_)
        funext i
        have := congrFun hz i
        simp only [add, smul, zv] at this ⊢
        grind

/-- independent ones are no more than those by which they are told -/
theorem ind_le (hF : Fld p) {A B : List (V p)} (hA : Ind A) (h : ∀ v ∈ A, Sp B v) : A.length ≤ B.length := by
  apply Classical.byContradiction
  intro hn
  exact hA.not_dep hF (dep_of_many hF B A h (by omega))

/-! the rank -/
open Classical in
/-- those that none behind them tell -/
noncomputable def gb : List (V p) → List (V p)
  | [] => []
  | v :: L => if Sp L v then gb L else v :: gb L
theorem gb_sub : ∀ (L : List (V p)), ∀ v ∈ gb L, v ∈ L := by
  intro L
  induction L with
  | nil => intro v hv; exact hv
  | cons u L ih =>
    intro v hv
    unfold gb at hv
    split at hv
    · exact List.mem_cons_of_mem _ (ih v hv)
    · rcases List.mem_cons.mp hv with rfl | h
      · exact List.mem_cons_self
      · exact List.mem_cons_of_mem _ (ih v h)
theorem gb_tells : ∀ (L : List (V p)), ∀ v ∈ L, Sp (gb L) v := by
  intro L
  induction L with
  | nil => intro v hv; cases hv
  | cons u L ih =>
    intro v hv
    unfold gb
    split
    · rename_i hs
      rcases List.mem_cons.mp hv with rfl | h
      · exact hs.trans ih
      · exact ih v h
    · rcases List.mem_cons.mp hv with rfl | h
      · exact Sp.mem List.mem_cons_self
      · exact (ih v h).mono (fun _ hx => List.mem_cons_of_mem _ hx)
theorem gb_ind : ∀ (L : List (V p)), Ind (gb L) := by
  intro L
  induction L with
  | nil => trivial
  | cons u L ih =>
    unfold gb
    split
    · exact ih
    · rename_i hs
      exact ⟨fun h => hs (h.mono (gb_sub L)), ih⟩
noncomputable def rk (L : List (V p)) : Nat := (gb L).length

/-- what is told has no greater rank -/
theorem rk_le (hF : Fld p) {L M : List (V p)} (h : ∀ v ∈ L, Sp M v) : rk L ≤ rk M :=
  ind_le hF (gb_ind L) (fun v hv => (h v (gb_sub L v hv)).trans (gb_tells M))
theorem rk_congr (hF : Fld p) {L M : List (V p)} (h : ∀ v ∈ L, Sp M v) (h' : ∀ v ∈ M, Sp L v) : rk L = rk M :=
  Nat.le_antisymm (rk_le hF h) (rk_le hF h')
theorem rk_len (L : List (V p)) : rk L ≤ L.length := by
  unfold rk
  induction L with
  | nil => exact Nat.le_refl _
  | cons v L ih =>
    unfold gb
    split
    · simp; omega
    · simp; omega
theorem rk_cons_in {v : V p} {L : List (V p)} (h : Sp L v) : rk (v :: L) = rk L := by
  unfold rk; rw [gb, if_pos h]
theorem rk_cons_out {v : V p} {L : List (V p)} (h : ¬ Sp L v) : rk (v :: L) = rk L + 1 := by
  unfold rk; rw [gb, if_neg h, List.length_cons]
/-- a column more, at the end -/
theorem rk_snoc (hF : Fld p) (L : List (V p)) (v : V p) : rk (L ++ [v]) = rk (v :: L) :=
  rk_congr hF (fun u hu => Sp.mem (by
    rcases List.mem_append.mp hu with h | h
    · exact List.mem_cons_of_mem _ h
    · rw [List.mem_singleton.mp h]; exact List.mem_cons_self)) (fun u hu => Sp.mem (by
    rcases List.mem_cons.mp hu with rfl | h
    · exact List.mem_append_right _ (List.mem_singleton.mpr rfl)
    · exact List.mem_append_left _ h))
theorem rk_snoc_in (hF : Fld p) {v : V p} {L : List (V p)} (h : Sp L v) : rk (L ++ [v]) = rk L := by rw [rk_snoc hF, rk_cons_in h]
theorem rk_snoc_out (hF : Fld p) {v : V p} {L : List (V p)} (h : ¬ Sp L v) : rk (L ++ [v]) = rk L + 1 := by rw [rk_snoc hF, rk_cons_out h]

/-! the columns of one row each -/
def ev (j : Nat) : V p := fun i => if i = j then 1 else 0
/-! a prime makes a field -/
theorem fld_of_prime (hp : Pr p) : Fld p where
  one_ne := by
    intro h
    have := congrArg Fin.val h
    have h2 := hp.1
    obtain ⟨q, rfl⟩ : ∃ q, p = q + 2 := ⟨p - 2, by omega⟩
    simp at this
  inv := by
    intro a ha
    have hp2 := hp.1
    have hnd : ¬ p ∣ a.val := by
      intro h
      have h1 := a.isLt
      by_cases h0 : a.val = 0
      · exact ha (Fin.ext (by simpa using h0))
      · have := Nat.le_of_dvd (by omega) h; omega
    have hf := NumTh.fermat hp hnd
    refine ⟨⟨a.val ^ (p - 2) % p, Nat.mod_lt _ (by omega)⟩, ?_⟩
    apply Fin.ext
    rw [Fin.val_mul]
    show a.val * (a.val ^ (p - 2) % p) % p = _
    have h1 : ((1 : Fin p) : Fin p).val = 1 := by
      obtain ⟨q, rfl⟩ : ∃ q, p = q + 2 := ⟨p - 2, by omega⟩
      rfl
    rw [h1, Nat.mul_mod_mod, Nat.mul_comm, ← Nat.pow_succ]
    rw [show (p - 2).succ = p - 1 by omega]
    exact hf
end LinA
/- Layer 5: columns modulo a prime as vectors; what (*stair).reduce and climb compute, as spans. -/
namespace Go.Proofs.Ytepakefmioeilaa.P
open Go.RowKit Go.Proofs.YtepakefmioeilaaW.PrintWords Go.Proofs.YtepakefmioeilaaW.PrintLast Go.Proofs.YtepakefmioeilaaW.PrintMore
open LinA (V Sp zv smul comb rk Fld)
set_option linter.unusedVariables false
set_option linter.unusedSimpArgs false

theorem fin_ext {P : Nat} {a b : Fin P} (h : (a.val : Int) = (b.val : Int)) : a = b := Fin.ext (by omega)
section
variable {P : Nat} [NeZero P]
def cz (x : Int) : Fin P := Fin.ofNat P (x % P).toNat
theorem pz : (0 : Int) < (P : Int) := by have := Nat.pos_of_ne_zero (NeZero.ne P); omega
theorem cz_val (x : Int) : (((cz x : Fin P).val : Nat) : Int) = x % P := by
  have h0 := Int.emod_nonneg x (show (P : Int) ≠ 0 by have := pz (P := P); omega)
  have h1 := Int.emod_lt_of_pos x (pz (P := P))
  have h2 : (x % P).toNat < P := by omega
  show (((x % P).toNat % P : Nat) : Int) = _
  rw [Nat.mod_eq_of_lt h2]; omega
theorem cz_add (x y : Int) : (cz (x + y) : Fin P) = cz x + cz y := by
  apply fin_ext
  rw [cz_val, Fin.val_add, Int.natCast_emod, Int.natCast_add, cz_val, cz_val]
  exact Int.add_emod x y P
theorem cz_mul (x y : Int) : (cz (x * y) : Fin P) = cz x * cz y := by
  apply fin_ext
  rw [cz_val, Fin.val_mul, Int.natCast_emod, Int.natCast_mul, cz_val, cz_val]
  exact Int.mul_emod x y P
theorem cz_mod (x : Int) : (cz (x % P) : Fin P) = cz x := by
  apply fin_ext
  rw [cz_val, cz_val, Int.emod_emod]
theorem cz_0 : (cz 0 : Fin P) = 0 := by
  apply fin_ext
  rw [cz_val]; simp
theorem cz_neg (x : Int) : (cz (-x) : Fin P) = -cz x := by
  have h := cz_add (P := P) x (-x)
  rw [show x + -x = 0 by omega, cz_0] at h
  grind
theorem cz_sub (x y : Int) : (cz (x - y) : Fin P) = cz x - cz y := by
  rw [show x - y = x + -y by omega, cz_add, cz_neg]; grind
theorem cz_eq_zero {x : Int} (h0 : 0 ≤ x) (h1 : x < P) : (cz x : Fin P) = 0 ↔ x = 0 := by
  constructor
  · intro h
    have h2 := cz_val (P := P) x
    rw [h, Int.emod_eq_of_lt h0 h1] at h2
    simpa using h2.symm
  · rintro rfl; exact cz_0
theorem cz_inj {x y : Int} (hx : 0 ≤ x ∧ x < P) (hy : 0 ≤ y ∧ y < P) (h : (cz x : Fin P) = cz y) : x = y := by
  have h1 := cz_val (P := P) x
  have h2 := cz_val (P := P) y
  rw [h, h2, Int.emod_eq_of_lt hx.1 hx.2, Int.emod_eq_of_lt hy.1 hy.2] at h1
  exact h1.symm

def vec (c : List Int) : V P := fun i => cz (rd c (i : Int))
theorem rd_nat (c : List Int) (i : Nat) : rd c (i : Int) = (c[i]?).getD 0 := by simp [rd, List.getD_eq_getElem?_getD]
theorem vec_out {c : List Int} {i : Nat} (h : c.length ≤ i) : (vec c : V P) i = 0 := by
  unfold vec
  rw [rd_nat, List.getElem?_eq_none h]; exact cz_0
theorem vec_redCol (k : Int) {c x : List Int} (h : x.length = c.length) : (vec (redCol P k c x) : V P) = LinA.add (vec c) (smul (-cz k) (vec x)) := by
  funext i
  simp only [LinA.add, smul, vec]
  have hz : rd (redCol (P : Int) k c x) (i : Int) = if i < c.length then subm P k (rd c (i : Int)) (rd x (i : Int)) else 0 := by
    rw [rd_nat, rd_nat, rd_nat]
    unfold redCol
    rw [List.getElem?_zipWith]
    by_cases hi : i < c.length
    · rw [if_pos hi, List.getElem?_eq_getElem hi, List.getElem?_eq_getElem (by omega)]; rfl
    · rw [if_neg hi, List.getElem?_eq_none (by omega)]; rfl
  rw [hz]
  by_cases hi : i < c.length
  · rw [if_pos hi]
    unfold subm
    rw [cz_mod, cz_sub, cz_mul]; grind
  · rw [if_neg hi, rd_nat, rd_nat, List.getElem?_eq_none (by omega), List.getElem?_eq_none (by omega)]
    simp only [Option.getD_none, cz_0]; grind
theorem vec_scale (k : Int) (c : List Int) : (vec (c.map (fun x => x * k % P)) : V P) = smul (cz k) (vec c) := by
  funext i
  simp only [smul, vec]
  rw [rd_nat, rd_nat, List.getElem?_map]
  cases h : c[i]? with
  | none => simp only [Option.map_none, Option.getD_none, cz_0]; grind
  | some y => simp only [Option.map_some, Option.getD_some]; rw [cz_mod, cz_mul]; grind
theorem vec_zero {c : List Int} (hb : Bd (P : Int) c) : (vec c : V P) = zv ↔ c.any nz = false := by
  constructor
  · intro h
    rw [List.any_eq_false]
    intro y hy
    obtain ⟨i, hi⟩ := List.getElem?_of_mem hy
    have h1 := congrFun h i
    simp only [vec, zv, rd_nat, hi, Option.getD_some] at h1
    have := (cz_eq_zero (hb y hy).1 (hb y hy).2).1 h1
    simp [nz, this]
  · intro h
    funext i
    simp only [vec, zv, rd_nat]
    cases hi : c[i]? with
    | none => exact cz_0
    | some y =>
      have hy := List.mem_of_getElem? hi
      have := List.any_eq_false.1 h y hy
      simp only [nz, bne_iff_ne, ne_eq, Decidable.not_not] at this
      subst this
      exact cz_0
theorem vec_inj {c d : List Int} (hc : Bd (P : Int) c) (hd : Bd (P : Int) d) (hl : c.length = d.length) (h : (vec c : V P) = vec d) : c = d := by
  apply List.ext_getElem hl
  intro i h1 h2
  have h3 := congrFun h i
  simp only [vec, rd_nat, List.getElem?_eq_getElem h1, List.getElem?_eq_getElem h2, Option.getD_some] at h3
  exact cz_inj (hc _ (List.getElem_mem h1)) (hd _ (List.getElem_mem h2)) h3
end
end Go.Proofs.Ytepakefmioeilaa.P
/- Layer 5: what the steps of a stair tell of spans: reduce, add, climb. -/
namespace Go.Proofs.Ytepakefmioeilaa.P
open Go.RowKit Go.Proofs.YtepakefmioeilaaW.PrintWords Go.Proofs.YtepakefmioeilaaW.PrintLast Go.Proofs.YtepakefmioeilaaW.PrintMore
open LinA (V Sp zv smul comb rk Fld)
set_option linter.unusedVariables false
set_option linter.unusedSimpArgs false

theorem red1_len {P : Nat} {s : List Int × (Int → Int)} {x : T3} (h : x.col.length = s.1.length) : (red1 (P : Int) s x).1.length = s.1.length := by
  unfold red1
  split
  · rfl
  · simp [redCol, h]
theorem fold_off {P : Nat} (y : Int) : ∀ (S : List T3) (s : List Int × (Int → Int)), (∀ x ∈ S, x.frm y = 0) → s.2 y = 0 → (S.foldl (red1 (P : Int)) s).2 y = 0 := by
  intro S
  induction S with
  | nil => intro s _ h; exact h
  | cons x S ih =>
    intro s h h0
    rw [List.foldl_cons]
    refine ih _ (fun z hz => h z (List.mem_cons_of_mem _ hz)) ?_
    unfold red1
    split
    · exact h0
    · show (s.2 y + rd s.1 x.row * x.frm y) % P = 0
      rw [h0, h x List.mem_cons_self]; simp
section
variable {P : Nat} [NeZero P]
def pv (x : T3) : Nat := x.row.toNat
def vc (x : T3) : V P := vec x.col
theorem vec_pv (c : List Int) {x : T3} (h : 0 ≤ x.row) : (vec c : V P) (pv x) = cz (rd c x.row) := by
  unfold vec pv
  rw [show ((x.row.toNat : Nat) : Int) = x.row by omega]
theorem red1_vec {s : List Int × (Int → Int)} {x : T3} (h : x.col.length = s.1.length) (h0 : 0 ≤ x.row) :
    (vec (red1 P s x).1 : V P) = LinA.add (vec s.1) (smul (-(vec s.1 : V P) (pv x)) (vc x)) ∧ ∀ y, (cz ((red1 P s x).2 y) : Fin P) = cz (s.2 y) + (vec s.1 : V P) (pv x) * cz (x.frm y) := by
  rw [vec_pv s.1 h0]
  unfold red1
  by_cases hz : rd s.1 x.row = 0
  · rw [if_pos hz, hz, cz_0]
    refine ⟨?_, fun y => by grind⟩
    funext i
    simp only [LinA.add, smul]; grind
  · rw [if_neg hz]
    refine ⟨vec_redCol _ h, fun y => ?_⟩
    show (cz ((s.2 y + rd s.1 x.row * x.frm y) % P) : Fin P) = _
    rw [cz_mod, cz_add, cz_mul]
/-- where all steps are 0 there nothing is turned -/
theorem fold_far {q : Nat} : ∀ (S : List T3) (s : List Int × (Int → Int)), (∀ x ∈ S, x.col.length = s.1.length ∧ 0 ≤ x.row) → (∀ x ∈ S, (vc x : V P) q = 0) → (vec (S.foldl (red1 P) s).1 : V P) q = (vec s.1 : V P) q := by
  intro S
  induction S with
  | nil => intro s _ _; rfl
  | cons x S ih =>
    intro s h hz
    have hx := h x List.mem_cons_self
    rw [List.foldl_cons, ih _ (fun y hy => by rw [red1_len hx.1]; exact h y (List.mem_cons_of_mem _ hy)) (fun y hy => hz y (List.mem_cons_of_mem _ hy)), (red1_vec hx.1 hx.2).1]
    simp only [LinA.add, smul, hz x List.mem_cons_self]; grind
def Ech : List T3 → Prop
  | [] => True
  | x :: S => (vc x : V P) (pv x) = 1 ∧ (∀ y ∈ S, (vc y : V P) (pv x) = 0) ∧ Ech S
theorem ech_snoc : ∀ {S : List T3} {x : T3}, Ech (P := P) S → (vc x : V P) (pv x) = 1 → (∀ y ∈ S, (vc x : V P) (pv y) = 0) → Ech (P := P) (S ++ [x]) := by
  intro S
  induction S with
  | nil => intro x _ h1 _; exact ⟨h1, fun y hy => absurd hy List.not_mem_nil, trivial⟩
  | cons y S ih =>
    intro x h h1 h2
    refine ⟨h.1, fun z hz => ?_, ih h.2.2 h1 (fun z hz => h2 z (List.mem_cons_of_mem _ hz))⟩
    rcases List.mem_append.1 hz with hz | hz
    · exact h.2.1 z hz
    · rw [List.mem_singleton.1 hz]; exact h2 y List.mem_cons_self
theorem fold_pivots : ∀ (S : List T3) (s : List Int × (Int → Int)), (∀ x ∈ S, x.col.length = s.1.length ∧ 0 ≤ x.row) → Ech (P := P) S → ∀ x ∈ S, (vec (S.foldl (red1 P) s).1 : V P) (pv x) = 0 := by
  intro S
  induction S with
  | nil => intro s _ _ x hx; exact absurd hx List.not_mem_nil
  | cons y S ih =>
    intro s h he x hx
    have hy := h y List.mem_cons_self
    have h2 : ∀ z ∈ S, z.col.length = (red1 (P : Int) s y).1.length ∧ 0 ≤ z.row := fun z hz => by rw [red1_len hy.1]; exact h z (List.mem_cons_of_mem _ hz)
    rw [List.foldl_cons]
    rcases List.mem_cons.1 hx with rfl | hx
    · rw [fold_far S _ h2 he.2.1, (red1_vec hy.1 hy.2).1]
      simp only [LinA.add, smul, he.1]; grind
    · exact ih _ h2 he.2.2 x hx
theorem fold_span : ∀ (S : List T3) (s : List Int × (Int → Int)), (∀ x ∈ S, x.col.length = s.1.length ∧ 0 ≤ x.row) → ∃ w : V P, Sp (S.map vc) w ∧ (vec s.1 : V P) = LinA.add (vec (S.foldl (red1 P) s).1) w := by
  intro S
  induction S with
  | nil => intro s _; exact ⟨zv, Sp.zero, by funext i; simp only [LinA.add, zv, List.foldl_nil]; grind⟩
  | cons x S ih =>
    intro s h
    have hx := h x List.mem_cons_self
    obtain ⟨w, hw, he⟩ := ih (red1 P s x) (fun z hz => by rw [red1_len hx.1]; exact h z (List.mem_cons_of_mem _ hz))
    refine ⟨LinA.add (smul ((vec s.1 : V P) (pv x)) (vc x)) w, Sp.step _ List.mem_cons_self (hw.mono (fun z hz => List.mem_cons_of_mem _ hz)), ?_⟩
    rw [(red1_vec hx.1 hx.2).1] at he
    funext i
    have := congrFun he i
    simp only [LinA.add, smul, List.foldl_cons] at this ⊢
    grind
theorem sp_at {L : List (V P)} {q : Nat} (h : ∀ v ∈ L, v q = 0) {v : V P} (hv : Sp L v) : v q = 0 := by
  induction hv with
  | zero => rfl
  | step c hm _ ih => simp only [LinA.add, smul, h _ hm, ih]; grind
theorem ech_zero : ∀ {S : List T3} {v : V P}, Ech (P := P) S → Sp (S.map vc) v → (∀ x ∈ S, v (pv x) = 0) → v = zv := by
  intro S
  induction S with
  | nil => intro v _ hv _; exact hv.nil
  | cons x S ih =>
    intro v he hv hz
    obtain ⟨c, w, rfl, hw⟩ := Sp.cons hv
    have hwx : w (pv x) = 0 := sp_at (fun u hu => by
      obtain ⟨y, hy, rfl⟩ := List.mem_map.1 hu
      exact he.2.1 y hy) hw
    have h1 := hz x List.mem_cons_self
    simp only [LinA.add, smul, hwx, he.1] at h1
    have hc : c = 0 := by grind
    subst hc
    have hww : LinA.add (smul 0 (vc x)) w = w := by funext i; simp only [LinA.add, smul]; grind
    rw [hww] at hz ⊢
    exact ih he.2.2 hw (fun y hy => hz y (List.mem_cons_of_mem _ hy))
/-- what is left is nothing just where the steps tell the column -/
theorem reduce_zero {S : List T3} {c : List Int} (h : ∀ x ∈ S, x.col.length = c.length ∧ 0 ≤ x.row) (he : Ech (P := P) S) : (vec (reduce P S c).1 : V P) = zv ↔ Sp (S.map vc) (vec c : V P) := by
  obtain ⟨w, hw, hv⟩ := fold_span (P := P) S (c, fun _ => 0) h
  have hv' : (vec c : V P) = LinA.add (vec (reduce P S c).1) w := hv
  constructor
  · intro hz
    rw [hz] at hv'
    rw [hv']
    exact hw.of_eq (by funext i; simp only [LinA.add, zv]; grind)
  · intro hs
    refine ech_zero he (v := vec (reduce P S c).1) ?_ (fold_pivots S (c, fun _ => 0) h he)
    have h2 := hs.add (hw.smul (-1))
    rw [hv'] at h2
    exact h2.of_eq (by funext i; simp only [LinA.add, smul]; grind)

/-- combinations by numbers, of the first n columns -/
def lc (C : Nat → V P) (t : Int → Int) : Nat → V P
  | 0 => zv
  | n + 1 => LinA.add (lc C t n) (smul (cz (t (n : Int))) (C n))
theorem lc_lin (C : Nat → V P) {t t' f : Int → Int} (k : Fin P) (n : Nat) (h : ∀ y, (cz (t' y) : Fin P) = cz (t y) + k * cz (f y)) : lc C t' n = LinA.add (lc C t n) (smul k (lc C f n)) := by
  induction n with
  | zero => funext i; simp only [lc, LinA.add, smul, zv]; grind
  | succ n ih =>
    simp only [lc]
    rw [ih, h]
    funext i; simp only [LinA.add, smul]; grind
theorem lc_zero (C : Nat → V P) (n : Nat) : lc C (fun _ => 0) n = zv := by
  induction n with
  | zero => rfl
  | succ n ih =>
    simp only [lc, ih, cz_0]
    funext i; simp only [LinA.add, smul, zv]; grind
theorem fold_lc (C : Nat → V P) (n : Nat) : ∀ (S : List T3) (s : List Int × (Int → Int)), (∀ x ∈ S, x.col.length = s.1.length ∧ 0 ≤ x.row) → (∀ x ∈ S, (vc x : V P) = lc C x.frm n) →
    LinA.add (vec (S.foldl (red1 P) s).1 : V P) (lc C (S.foldl (red1 P) s).2 n) = LinA.add (vec s.1) (lc C s.2 n) := by
  intro S
  induction S with
  | nil => intro s _ _; rfl
  | cons x S ih =>
    intro s h hf
    have hx := h x List.mem_cons_self
    rw [List.foldl_cons, ih _ (fun z hz => by rw [red1_len hx.1]; exact h z (List.mem_cons_of_mem _ hz)) (fun z hz => hf z (List.mem_cons_of_mem _ hz))]
    obtain ⟨h1, h2⟩ := red1_vec (P := P) hx.1 hx.2
    rw [h1, lc_lin C _ n h2, ← hf x List.mem_cons_self]
    funext i; simp only [LinA.add, smul]; grind
theorem reduce_lc (C : Nat → V P) (n : Nat) {S : List T3} {c : List Int} (h : ∀ x ∈ S, x.col.length = c.length ∧ 0 ≤ x.row) (hf : ∀ x ∈ S, (vc x : V P) = lc C x.frm n) : (vec c : V P) = LinA.add (vec (reduce P S c).1) (lc C (reduce P S c).2 n) := by
  have := fold_lc C n S (c, fun _ => 0) h hf
  rw [lc_zero] at this
  show _ = LinA.add (vec (S.foldl (red1 P) (c, fun _ => 0)).1) (lc C (S.foldl (red1 P) (c, fun _ => 0)).2 n)
  rw [this]
  funext i; simp only [LinA.add, zv]; grind
end
end Go.Proofs.Ytepakefmioeilaa.P
/- Layer 5: what climb tells of its columns: the places that no columns ahead tell; and by which numbers. -/
namespace Go.Proofs.Ytepakefmioeilaa.P
open Go.RowKit Go.Proofs.YtepakefmioeilaaW.PrintWords Go.Proofs.YtepakefmioeilaaW.PrintLast Go.Proofs.YtepakefmioeilaaW.PrintMore
open LinA (V Sp zv smul comb rk Fld)
set_option linter.unusedVariables false
set_option linter.unusedSimpArgs false

theorem fidx_none {q : Int → Bool} {l : List Int} : fidx q l 0 < 0 ↔ l.any q = false := by
  have h := fidx_neg q l 0
  constructor
  · intro h1
    rw [← h]; exact decide_eq_false (by omega)
  · intro h1
    rw [h1] at h
    have := of_decide_eq_false h
    omega
section
variable {P : Nat} [NeZero P]
theorem fin_mz (a : Fin P) : a * 0 = 0 := by grind
theorem va1 (k : Fin P) {u r w : V P} (h : u = LinA.add r w) : smul k (LinA.add u (smul (-1) w)) = smul k r := by
  subst h; funext i; simp only [LinA.add, smul]; grind
theorem va2 {k b : Fin P} (h : k * b = 1) (r w : V P) : LinA.add (smul b (smul k r)) w = LinA.add r w := by
  funext i
  simp only [LinA.add, smul]
  have h5 : b * (k * r i) = (k * b) * r i := by grind
  rw [h5, h]; grind
theorem va3 (l u : V P) : LinA.add l (smul 0 u) = l := by funext i; simp only [LinA.add, smul]; grind
theorem va4 (k : Fin P) (l r : V P) : smul k r = LinA.add (smul (-k) l) (smul k (LinA.add r l)) := by funext i; simp only [LinA.add, smul]; grind
/-- what is known of the steps that come of some columns -/
structure Cl (m : Nat) (C : Nat → V P) (L : List (V P)) (k : Nat) (S : List T3) (out : List Int) : Prop where
  good : ∀ x ∈ S, Good (P : Int) m x
  ech : Ech (P := P) S
  span : ∀ v : V P, Sp (S.map vc) v ↔ Sp L v
  frm : ∀ x ∈ S, (vc x : V P) = lc C x.frm k
  off : ∀ x ∈ S, ∀ y, y ∉ out → x.frm y = 0
  lt : ∀ y ∈ out, 0 ≤ y ∧ y < k
  len : S.length = out.length
theorem Cl.reads {m : Nat} {C : Nat → V P} {L : List (V P)} {k : Nat} {S : List T3} {out : List Int} (h : Cl m C L k S out) {c : List Int} (hc : c.length = m) : ∀ x ∈ S, x.col.length = c.length ∧ 0 ≤ x.row := fun x hx => ⟨by rw [hc]; exact (h.good x hx).len, (h.good x hx).row0⟩
theorem Cl.tells {m : Nat} {C : Nat → V P} {L : List (V P)} {k : Nat} {S : List T3} {out : List Int} (h : Cl m C L k S out) {c : List Int} (hc : c.length = m) : (vec (reduce P S c).1 : V P) = zv ↔ Sp L (vec c : V P) := (reduce_zero (h.reads hc) h.ech).trans (h.span _)
theorem Cl.comb {m : Nat} {C : Nat → V P} {L : List (V P)} {k : Nat} {S : List T3} {out : List Int} (h : Cl m C L k S out) {c : List Int} (hc : c.length = m) : (vec c : V P) = LinA.add (vec (reduce P S c).1) (lc C (reduce P S c).2 k) := reduce_lc C k (h.reads hc) h.frm
theorem Cl.zeros {m : Nat} {C : Nat → V P} {L : List (V P)} {k : Nat} {S : List T3} {out : List Int} (h : Cl m C L k S out) (c : List Int) {y : Int} (hy : y ∉ out) : (reduce P S c).2 y = 0 := fold_off y S (c, fun _ => 0) (fun x hx => h.off x hx y hy) rfl
theorem red_good {p : Int} (hp : okP p) {m : Nat} {S : List T3} {c : List Int} (hS : ∀ x ∈ S, Good p m x) (hc : c.length = m) (hb : Bd p c) : (reduce p S c).1.length = m ∧ Bd p (reduce p S c).1 ∧ BdF p (reduce p S c).2 :=
  foldl_ok hp S (c, fun _ => 0) hc hb (fun _ => ⟨Int.le_refl _, (by have := hp.1; show (0:Int) < p; omega)⟩) hS

theorem addT_none {m : Nat} {C : Nat → V P} {L : List (V P)} {k : Nat} {S : List T3} {out : List Int} (hP : isP (P : Int) = true) (h : Cl m C L k S out) {c : List Int} (hc : c.length = m) (hb : Bd (P : Int) c) (at_ : Int) : addT P at_ S c = none ↔ Sp L (vec c : V P) := by
  rw [← h.tells hc, vec_zero (red_good (isP_ok hP) h.good hc hb).2.1, ← fidx_none]
  unfold addT
  by_cases h1 : fidx nz (reduce (P : Int) S c).1 0 < 0
  · rw [if_pos h1]; simp [h1]
  · rw [if_neg h1]; simp [h1]
theorem addT_some {m : Nat} {C : Nat → V P} {L : List (V P)} {k : Nat} {S : List T3} {out : List Int} (hP : isP (P : Int) = true) (h : Cl m C L k S out) {c : List Int} (hc : c.length = m) (hb : Bd (P : Int) c) (hk : C k = vec c) {t : T3} (ht : addT P k S c = some t) : Cl m C (L ++ [vec c]) (k + 1) (S ++ [t]) (out ++ [(k : Int)]) := by
  have hp := isP_ok hP
  have hgt := addT_good hP h.good hc hb ht
  obtain ⟨hrl, hrb, hrf⟩ := red_good hp h.good hc hb
  have hcomb := h.comb hc
  have hzero := fun y => h.zeros c (y := y)
  have hpiv := fold_pivots (P := P) S (c, fun _ => 0) (h.reads hc) h.ech
  have hpiv2 : ∀ x ∈ S, (vec (reduce P S c).1 : V P) (pv x) = 0 := hpiv
  obtain ⟨w, hw, hvw⟩ := fold_span (P := P) S (c, fun _ => 0) (h.reads hc)
  have hvw2 : (vec c : V P) = LinA.add (vec (reduce P S c).1) w := hvw
  have hfg := fidx_ge nz (reduce (P : Int) S c).1 0
  have hfa := fidx_at nz (reduce (P : Int) S c).1 0
  unfold addT at ht
  by_cases hneg : fidx nz (reduce (P : Int) S c).1 0 < 0
  · rw [if_pos hneg] at ht; cases ht
  rw [if_neg hneg] at ht
  have ht := (Option.some.inj ht).symm
  generalize fidx nz (reduce (P : Int) S c).1 0 = row at *
  generalize reduce (P : Int) S c = r at *
  have hr0 : 0 ≤ row := by omega
  have hr1 : row < (r.1.length : Int) := by have := hfg.2.1; omega
  have hnz : nz (rd r.1 row) = true := by have := hfa hr0; simpa using this
  have hab := hrb.at_ hr0 hr1
  have ha0 : rd r.1 row % (P : Int) ≠ 0 := by
    rw [Int.emod_eq_of_lt hab.1 hab.2]
    simpa [nz] using hnz
  have hin := pwi_spec hP ha0
  have hrow : t.row = row := by rw [ht]; rfl
  have hcol : t.col = r.1.map (fun x => x * pwi (rd r.1 row) P % P) := by rw [ht]; rfl
  have hfrm : ∀ y, t.frm y = if y = (k : Int) then pwi (rd r.1 row) P else (-(r.2 y) * pwi (rd r.1 row) P) % P := by rw [ht]; intro y; rfl
  clear ht hfg hfa hneg
  generalize pwi (rd r.1 row) (P : Int) = iv at *
  have hvt : (vc t : V P) = smul (cz iv) (vec r.1) := by unfold vc; rw [hcol, vec_scale]
  have hkout : (k : Int) ∉ out := fun hm => by have := h.lt _ hm; omega
  have hlc : ∀ n : Nat, n ≤ k → lc C t.frm n = smul (-cz iv) (lc C r.2 n) := by
    intro n
    induction n with
    | zero => intro _; funext i; simp only [lc, smul, zv]; grind
    | succ n ih =>
      intro hn
      simp only [lc]
      rw [ih (by omega), hfrm, if_neg (by omega), cz_mod, cz_mul, cz_neg]
      funext i; simp only [LinA.add, smul]; grind
  refine ⟨fun x hx => ?_, ech_snoc h.ech ?_ (fun y hy => ?_), fun v => ?_, fun x hx => ?_, fun x hx y hy => ?_, fun y hy => ?_, by simp [h.len]⟩
  · rcases List.mem_append.1 hx with hx | hx
    · exact h.good x hx
    · rw [List.mem_singleton.1 hx]; exact hgt
  · rw [hvt]
    show (cz iv : Fin P) * (vec r.1 : V P) (pv t) = 1
    rw [vec_pv r.1 (by rw [hrow]; exact hr0), hrow, ← cz_mul]
    apply fin_ext
    rw [cz_val, hin.2.2]
    have hp2 : 2 ≤ P := by have := (isP_true.mp hP).2.1; simpa using this
    show (1 : Int) = (((1 : Fin P).val : Nat) : Int)
    obtain ⟨q, rfl⟩ : ∃ q, P = q + 2 := ⟨P - 2, by omega⟩
    rfl
  · rw [hvt]
    show (cz iv : Fin P) * (vec r.1 : V P) (pv y) = 0
    rw [hpiv2 y hy]
    exact fin_mz _
  · constructor
    · intro hs
      refine hs.trans (fun u hu => ?_)
      rw [List.map_append] at hu
      rcases List.mem_append.1 hu with hu | hu
      · exact ((h.span u).1 (Sp.mem hu)).mono (fun z hz => List.mem_append_left _ hz)
      · simp only [List.map_cons, List.map_nil, List.mem_singleton] at hu
        subst hu
        rw [hvt]
        have h1 : Sp (L ++ [vec c]) (vec c : V P) := Sp.mem (List.mem_append_right _ (by simp))
        have h2 : Sp (L ++ [vec c]) w := ((h.span w).1 hw).mono (fun z hz => List.mem_append_left _ hz)
        have h3 := (h1.add (h2.smul (-1))).smul (cz iv)
        exact h3.of_eq (va1 _ hvw2)
    · intro hs
      refine hs.trans (fun u hu => ?_)
      rcases List.mem_append.1 hu with hu | hu
      · exact ((h.span u).2 (Sp.mem hu)).mono (fun z hz => by rw [List.map_append]; exact List.mem_append_left _ hz)
      · rw [List.mem_singleton.1 hu]
        have h1 : Sp ((S ++ [t]).map vc) (vc t : V P) := Sp.mem (by simp)
        have h2 : Sp ((S ++ [t]).map vc) w := hw.mono (fun z hz => by rw [List.map_append]; exact List.mem_append_left _ hz)
        have h3 := (h1.smul (cz (rd r.1 row))).add h2
        rw [hvt] at h3
        have h4 : (cz iv : Fin P) * cz (rd r.1 row) = 1 := by
          rw [← cz_mul]
          apply fin_ext
          rw [cz_val, hin.2.2]
          have hp2 : 2 ≤ P := by have := (isP_true.mp hP).2.1; simpa using this
          obtain ⟨q, rfl⟩ : ∃ q, P = q + 2 := ⟨P - 2, by omega⟩
          rfl
        rw [hvw2]
        exact h3.of_eq (va2 h4 _ _)
  · rcases List.mem_append.1 hx with hx | hx
    · simp only [lc]
      rw [h.off x hx _ hkout, cz_0, ← h.frm x hx]
      exact (va3 _ _).symm
    · rw [List.mem_singleton.1 hx]
      simp only [lc]
      rw [hlc k (Nat.le_refl _), hfrm, if_pos rfl, hk, hvt, hcomb]
      exact va4 _ _ _
  · have hy1 : y ∉ out := fun hm => hy (List.mem_append_left _ hm)
    have hy2 : y ≠ (k : Int) := fun e => hy (by rw [e]; exact List.mem_append_right _ (by simp))
    rcases List.mem_append.1 hx with hx | hx
    · exact h.off x hx y hy1
    · rw [List.mem_singleton.1 hx, hfrm, if_neg hy2, hzero y hy1]; simp
  · rcases List.mem_append.1 hy with hy | hy
    · have := h.lt y hy; omega
    · rw [List.mem_singleton.1 hy]; omega

open Classical in
/-- the places of the columns that none ahead of them tell -/
noncomputable def bas (vs : List (V P)) : Nat → List Int
  | 0 => []
  | k + 1 => bas vs k ++ if Sp (vs.take k) (vs.getD k zv) then [] else [(k : Int)]
theorem bas_in {vs : List (V P)} {k : Nat} (h : Sp (vs.take k) (vs.getD k zv)) : bas vs (k + 1) = bas vs k := by
  simp only [bas]; rw [if_pos h, List.append_nil]
theorem bas_out {vs : List (V P)} {k : Nat} (h : ¬ Sp (vs.take k) (vs.getD k zv)) : bas vs (k + 1) = bas vs k ++ [(k : Int)] := by
  simp only [bas]; rw [if_neg h]
theorem take_snoc {α : Type} (d : α) (l : List α) (k : Nat) (h : k < l.length) : l.take (k + 1) = l.take k ++ [l.getD k d] := by
  rw [List.take_add_one, List.getD_eq_getElem?_getD, List.getElem?_eq_getElem h]; rfl
theorem bas_len (hF : Fld P) (vs : List (V P)) : ∀ k, k ≤ vs.length → (bas vs k).length = rk (vs.take k) := by
  intro k
  induction k with
  | zero => intro _; rw [List.take_zero]; rfl
  | succ k ih =>
    intro h
    rw [take_snoc zv vs k (by omega)]
    by_cases hs : Sp (vs.take k) (vs.getD k zv)
    · rw [bas_in hs, LinA.rk_snoc_in hF hs, ih (by omega)]
    · rw [bas_out hs, LinA.rk_snoc_out hF hs, List.length_append, ih (by omega)]; rfl
theorem climb_cl {m : Nat} (hP : isP (P : Int) = true) (cols : List (List Int)) (hb : ∀ c ∈ cols, c.length = m ∧ Bd (P : Int) c) : ∀ (n k : Nat) (s : List T3 × List Int), cols.length - k = n → k ≤ cols.length →
    Cl m (fun i => (vec (cols.getD i []) : V P)) ((cols.take k).map vec) k s.1 s.2 → s.2 = bas (P := P) (cols.map vec) k →
    Cl m (fun i => (vec (cols.getD i []) : V P)) (cols.map vec) cols.length (climbS P (cols.drop k) k s).1 (climbS P (cols.drop k) k s).2 ∧ (climbS P (cols.drop k) k s).2 = bas (P := P) (cols.map vec) cols.length := by
  intro n
  induction n with
  | zero =>
    intro k s hn hk hcl hbs
    have e : k = cols.length := by omega
    subst e
    rw [List.drop_length]
    rw [List.take_length] at hcl
    exact ⟨hcl, hbs⟩
  | succ n ih =>
    intro k s hn hk hcl hbs
    have hlt : k < cols.length := by omega
    have hcm : cols[k] ∈ cols := List.getElem_mem hlt
    obtain ⟨hc, hbd⟩ := hb _ hcm
    have hgd : cols.getD k [] = cols[k] := by rw [List.getD_eq_getElem?_getD, List.getElem?_eq_getElem hlt]; rfl
    have hvg : (cols.map vec).getD k (zv : V P) = vec cols[k] := by rw [List.getD_eq_getElem?_getD, List.getElem?_map, List.getElem?_eq_getElem hlt]; rfl
    have htk : ((cols.map vec).take k : List (V P)) = (cols.take k).map vec := by rw [List.map_take]
    have hts : (cols.take (k + 1)).map vec = (cols.take k).map vec ++ [(vec cols[k] : V P)] := by
      rw [take_snoc [] cols k hlt, List.map_append, hgd]; rfl
    have hnone := addT_none hP hcl hc hbd (k : Int)
    rw [List.drop_eq_getElem_cons hlt]
    rw [show climbS (P : Int) (cols[k] :: cols.drop (k + 1)) k s = climbS P (cols.drop (k + 1)) (k + 1) (stepC P s k cols[k]) from rfl]
    cases ht : addT (P : Int) k s.1 cols[k] with
    | none =>
      have hsp := hnone.1 ht
      have hst : stepC (P : Int) s k cols[k] = s := by unfold stepC; rw [ht]
      rw [hst]
      refine ih (k + 1) s (by omega) (by omega) ?_ ?_
      · rw [hts]
        refine ⟨hcl.good, hcl.ech, fun v => (hcl.span v).trans ⟨fun h => h.mono (fun z hz => List.mem_append_left _ hz), fun h => h.trans (fun u hu => ?_)⟩, fun x hx => ?_, hcl.off, fun y hy => by have := hcl.lt y hy; omega, hcl.len⟩
        · rcases List.mem_append.1 hu with hu | hu
          · exact Sp.mem hu
          · rw [List.mem_singleton.1 hu]; exact hsp
        · rw [hcl.frm x hx]
          simp only [lc]
          rw [hcl.off x hx (k : Int) (fun hm => by have := hcl.lt _ hm; omega), cz_0]
          exact (va3 _ _).symm
      · rw [hbs, bas_in (by rw [hvg, htk]; exact hsp)]
    | some t =>
      have hsp : ¬ Sp ((cols.take k).map vec) (vec cols[k] : V P) := fun h => by rw [hnone.2 h] at ht; cases ht
      have hst : stepC (P : Int) s k cols[k] = (s.1 ++ [t], s.2 ++ [(k : Int)]) := by unfold stepC; rw [ht]
      rw [hst]
      refine ih (k + 1) _ (by omega) (by omega) ?_ ?_
      · rw [hts]
        exact addT_some hP hcl hc hbd (by show vec (cols.getD k []) = _; rw [hgd]) ht
      · show s.2 ++ [(k : Int)] = _
        rw [hbs, bas_out (by rw [hvg, htk]; exact hsp)]
theorem climb_all {m : Nat} (hP : isP (P : Int) = true) (cols : List (List Int)) (hb : ∀ c ∈ cols, c.length = m ∧ Bd (P : Int) c) :
    Cl m (fun i => (vec (cols.getD i []) : V P)) (cols.map vec) cols.length (climbS P cols 0 ([], [])).1 (climbS P cols 0 ([], [])).2 ∧ (climbS P cols 0 ([], [])).2 = bas (P := P) (cols.map vec) cols.length := by
  have h := climb_cl (m := m) hP cols hb cols.length 0 ([], []) (by omega) (by omega) ⟨fun x hx => absurd hx List.not_mem_nil, trivial, fun v => Iff.rfl, fun x hx => absurd hx List.not_mem_nil, fun x hx => absurd hx List.not_mem_nil, fun y hy => absurd hy List.not_mem_nil, rfl⟩ rfl
  rw [List.drop_zero] at h
  exact h
end
end Go.Proofs.Ytepakefmioeilaa.P
/- Layer 5: what elim.Basis and elim.Combo compute, and their walks. -/
namespace Go.Proofs.Ytepakefmioeilaa.P
open Go.RowKit Go.Proofs.YtepakefmioeilaaW.PrintWords Go.Proofs.YtepakefmioeilaaW.PrintLast Go.Proofs.YtepakefmioeilaaW.PrintMore
set_option linter.unusedVariables false
set_option linter.unusedSimpArgs false

theorem Ev.uniq {α : Type} {g : Nat → Option α} {r t : α} (hg : ∀ k, LeO (g k) (g (k + 1))) (h : Ev g r) {k : Nat} (hk : g k = some t) : t = r := by
  obtain ⟨K, hK⟩ := h
  have h1 := at_rounds hg (Nat.le_max_left k K) hk
  rw [hK _ (Nat.le_max_right k K)] at h1
  exact (Option.some.inj h1).symm
theorem may_true {k : Nat} {p rows : Int} {cols : List (List Int)} (h : elim_May.f k p rows cols = some true) : isP p = true ∧ 0 ≤ rows ∧ rows ≤ 64 ∧ cols.length ≤ 64 ∧ ∀ c ∈ cols, c.length = rows.toNat ∧ Bd p c := by
  unfold elim_May.f at h
  obtain ⟨t, ht, h⟩ := Option.bind_eq_some_iff.mp h
  have htt := Ev.uniq (modp_Prime.mono p) (Prime_eq p) ht
  simp only [Option.some.injEq, Bool.and_eq_true, Bool.not_eq_true', decide_eq_false_iff_not] at h
  obtain ⟨⟨⟨⟨h1, h2⟩, h3⟩, h4⟩, h5⟩ := h
  rw [htt] at h1
  refine ⟨h1, by omega, by omega, by omega, fun c hc => ?_⟩
  have h6 := List.any_eq_false.1 h5 c hc
  unfold elim_May.bad at h6
  simp only [Bool.or_eq_true, not_or, bne_iff_ne, ne_eq, Decidable.not_not, Bool.not_eq_true] at h6
  refine ⟨by omega, fun y hy => ?_⟩
  have h7 := List.any_eq_false.1 h6.2 y hy
  unfold elim_May.out at h7
  simp only [Bool.or_eq_true, decide_eq_true_eq, not_or] at h7
  omega

def elim_Basis.f (k : Nat) (a0 a1 : Int) (l2 : List (List Int)) : Option (List Int) :=
  (elim_May.f k a0 a1 l2).bind fun t => some (if t = true then (climbS a0 l2 0 ([], [])).2 else [])
theorem elim_Basis.mono : ∀ a0 a1 l2 k, LeO (elim_Basis.f k a0 a1 l2) (elim_Basis.f (k + 1) a0 a1 l2) := by
  intro a0 a1 l2 k
  unfold elim_Basis.f
  exact LeO.bind (elim_May.mono _ _ _ _) (fun _ => LeO.refl _)
set_option maxHeartbeats 400000 in
set_option maxRecDepth 100000 in
theorem elim_Basis.calls (k : Nat) (a0 a1 : Int) (A2 : Option Addr) (c2 : Nat) (l2 : List (List Int)) (r : List Int) (w : World) (hr2 : Kd.C (Kd.slice 3 (Kd.int .i64)) w A2 l2.length l2) (hc2 : l2.length ≤ c2) (h : elim_Basis.f k a0 a1 l2 = some r) :
    Calls Try.prog 12 #[.int .i64 a0, .int .i64 a1, .slice A2 l2.length c2] w fun e w' => ∃ v0_ : Value, e = .returned v0_ ∧ Kd.R (Kd.int .i64) 3 w' w.heap.size (fun _ => True) v0_ r ∧ Below w.heap.size w w' := by
  unfold elim_Basis.f at h
  obtain ⟨t, ht, h⟩ := Option.bind_eq_some_iff.mp h
  have HMAY := Aside0.mk (elim_May.calls k a0 a1 A2 c2 l2 t w hr2 hc2 ht)
  have HR := Aside0.mk hr2
  have HC := Aside0.mk hc2
  have HT := Aside0.mk ht
  replace h := Option.some.inj h
  have HE := Aside0.mk h
  clear hr2 hc2 ht h
  cases t with
  | false =>
    go_enter Try.func12, Try.ntmps12
    go_wp2_with (go_at_call 9; refine HMAY.out.mono ?_; rintro e w1 ⟨rfl, hb⟩; have HB := Aside0.mk hb; clear hb)
    go_ret
    refine ⟨_, rfl, ?_, HB.out⟩
    rw [← HE.out]
    exact Kd.R_nil _ _ _ _ _
  | true =>
    obtain ⟨hP, h0, h64, hn, hcs⟩ := may_true HT.out
    have HCL := Aside0.mk (fun W (hb : Below w.heap.size w W) => climb_c a0 a1.toNat A2 c2 l2 W hP (by omega) hn (Kd.C_below HR.out hb) HC.out hcs)
    clear hP h0 h64 hn hcs
    go_enter Try.func12, Try.ntmps12
    go_wp2_with (first
      | (go_at_call 9; refine HMAY.out.mono ?_; rintro e w1 ⟨rfl, hb⟩; have HB := Aside0.mk hb; clear hb)
      | (go_at_call 24; refine (HCL.out _ HB.out).mono ?_; rintro e w2 ⟨s, sv, S, v, rfl, hs, _, _, _, _, hv, hb, _, _, _⟩; have HV := Aside0.mk hv; have HB2 := Aside0.mk hb; clear hs hv hb))
    go_ret
    refine ⟨_, rfl, ?_, below_then HB.out (Below.size HB.out) HB2.out⟩
    rw [← HE.out]
    exact Kd.R_lower HV.out (Below.size HB.out)

def comboR (p : Int) (S : List T3) (n : Nat) (g : List Int) : List Int × Bool :=
  if (reduce p S g).1.any nz = true then ([], false) else ((List.range n).map (fun i : Nat => (reduce p S g).2 (i : Int)), true)
def elim_Combo.f (k : Nat) (a0 a1 : Int) (l2 : List (List Int)) (l3 : List Int) : Option (List Int × Bool) :=
  (elim_May.f k a0 a1 l2).bind fun t => if t = true then (elim_May.f k a0 a1 [l3]).bind fun u => if u = true then some (comboR a0 (climbS a0 l2 0 ([], [])).1 l2.length l3) else some ([], false) else some ([], false)
theorem elim_Combo.mono : ∀ a0 a1 l2 l3 k, LeO (elim_Combo.f k a0 a1 l2 l3) (elim_Combo.f (k + 1) a0 a1 l2 l3) := by
  intro a0 a1 l2 l3 k
  unfold elim_Combo.f
  exact LeO.bind (elim_May.mono _ _ _ _) (fun t => LeO.ite (LeO.bind (elim_May.mono _ _ _ _) (fun _ => LeO.refl _)) (LeO.refl _))

theorem climbS_good {p : Int} (hP : isP p = true) {m : Nat} : ∀ (cols : List (List Int)) (k : Nat) (s : List T3 × List Int), (∀ x ∈ s.1, Good p m x) → s.1.length ≤ k → s.2.length ≤ k → (∀ c ∈ cols, c.length = m ∧ Bd p c) → ∀ x ∈ (climbS p cols k s).1, Good p m x := by
  intro cols
  induction cols with
  | nil => intro k s h _ _ _; exact h
  | cons c r ih =>
    intro k s h h1 h2 hc
    obtain ⟨a, b, d⟩ := stepC_good hP h h1 h2 (hc c List.mem_cons_self).1 (hc c List.mem_cons_self).2
    exact ih (k + 1) _ a b d (fun x hx => hc x (List.mem_cons_of_mem _ hx))
theorem range_set (n : Nat) (g : Int → Int) (x v : Int) (h0 : 0 ≤ x) : ((List.range n).map (fun i : Nat => g i)).set x.toNat v = (List.range n).map (fun i : Nat => if (i : Int) = x then v else g i) := by
  apply List.ext_getElem?
  intro i
  rw [List.getElem?_set]
  simp only [List.length_map, List.length_range, List.getElem?_map]
  by_cases hi : i < n
  · rw [List.getElem?_range hi]
    simp only [Option.map_some]
    by_cases hx : x.toNat = i
    · rw [if_pos hx, if_pos (show x.toNat < n by omega), if_pos (show (i : Int) = x by omega)]
    · rw [if_neg hx, if_neg (show ¬ (i : Int) = x by omega)]
  · have : (List.range n)[i]? = none := by simp; omega
    rw [this]
    simp only [Option.map_none]
    by_cases hx : x.toNat = i
    · rw [if_pos hx, if_neg (show ¬ x.toNat < n by omega)]
    · rw [if_neg hx]
theorem replicate_range (n : Nat) : List.replicate n (0 : Int) = (List.range n).map (fun i : Nat => (fun _ : Int => (0 : Int)) (i : Int)) := by
  apply List.ext_getElem?
  intro i
  simp only [List.getElem?_replicate, List.getElem?_map]
  by_cases hi : i < n
  · rw [if_pos hi, List.getElem?_range hi]; rfl
  · have : (List.range n)[i]? = none := by simp; omega
    rw [if_neg hi, this]; rfl

/-- a row of one row -/
theorem one_row {W : World} {B : Nat} {A : Option Addr} {c : Nat} {l : List Int} (hc : W.cell? ⟨B, 0, none⟩ = some (.slice A l.length c)) (hl : l.length ≤ c) (hr : Kd.C (Kd.int .i64) W A l.length l) : Kd.C (Kd.slice 3 (Kd.int .i64)) W (some ⟨B, 0, none⟩) [l].length [l] := by
  refine ⟨rfl, by simp, fun _ => ⟨_, rfl, fun j p hj => ?_⟩⟩
  match j, hj with
  | 0, hj =>
    have hj' : l = p := by simpa using hj
    subst hj'
    refine ⟨[.slice A l.length c], rfl, ⟨A, c, rfl, hl, hr⟩, fun i u hu => ?_⟩
    match i, hu with
    | 0, hu =>
      have hu' : Value.slice A l.length c = u := by simpa using hu
      subst hu'
      simpa [Addr.add] using hc

set_option maxHeartbeats 400000 in
set_option maxRecDepth 100000 in
theorem elim_Combo.calls_ (k : Nat) (a0 a1 : Int) (A2 : Option Addr) (c2 : Nat) (l2 : List (List Int)) (A3 : Option Addr) (c3 : Nat) (l3 : List Int) (r : List Int × Bool) (w : World) (hr2 : Kd.C (Kd.slice 3 (Kd.int .i64)) w A2 l2.length l2) (hc2 : l2.length ≤ c2) (hr3 : Kd.C (Kd.int .i64) w A3 l3.length l3) (hc3 : l3.length ≤ c3) (h : elim_Combo.f k a0 a1 l2 l3 = some r) :
    Calls Try.prog 16 #[.int .i64 a0, .int .i64 a1, .slice A2 l2.length c2, .slice A3 l3.length c3] w fun e w' => ∃ v0_ : Value, e = .returned (.tuple #[v0_, .bool r.2]) ∧ Kd.R (Kd.int .i64) 3 w' w.heap.size (fun _ => True) v0_ r.1 ∧ Below w.heap.size w w' := by
  unfold elim_Combo.f at h
  obtain ⟨t, ht, h⟩ := Option.bind_eq_some_iff.mp h
  have HMAY := Aside0.mk (elim_May.calls k a0 a1 A2 c2 l2 t w hr2 hc2 ht)
  have HR := Aside0.mk hr2
  have HC := Aside0.mk hc2
  have HR3 := Aside0.mk hr3
  have HC3 := Aside0.mk hc3
  have HT := Aside0.mk ht
  clear hr2 hc2 hr3 hc3 ht
  cases t with
  | false =>
    have HE := Aside0.mk (Option.some.inj h)
    clear h
    go_enter Try.func16, Try.ntmps16
    go_wp2_with (go_at_call 9; refine HMAY.out.mono ?_; rintro e w1 ⟨rfl, hb⟩; have HB := Aside0.mk hb; clear hb)
    go_ret2
    refine ⟨_, by rw [← HE.out]; rfl, ?_, HB.out⟩
    rw [← HE.out]
    exact Kd.R_nil _ _ _ _ _
  | true =>
    rw [if_pos rfl] at h
    obtain ⟨u, hu, h⟩ := Option.bind_eq_some_iff.mp h
    have HM2 := Aside0.mk (fun W (hb : Below w.heap.size w W) (B : Nat) (hc : W.cell? ⟨B, 0, none⟩ = some (.slice A3 l3.length c3)) => elim_May.calls k a0 a1 (some ⟨B, 0, none⟩) 1 [l3] u W (one_row hc HC3.out (Kd.C_below HR3.out hb)) (by simp) hu)
    have HU := Aside0.mk hu
    clear hu
    cases u with
    | false =>
      have HE := Aside0.mk (Option.some.inj h)
      clear h
      go_enter Try.func16, Try.ntmps16
      go_wp2_with (fail)
      refine HMAY.out.mono ?_
      rintro e w1 ⟨rfl, hb⟩
      have HB := Aside0.mk hb
      clear hb
      go_wp2_with (fail)
      have hbx := HB.out.alloc (Below.size HB.out) (Obj.cells #[Value.slice A3 l3.length c3] 26)
      refine (HM2.out _ hbx w1.heap.size (by go_simp)).mono ?_
      rintro e w2 ⟨rfl, hb⟩
      have HB2 := Aside0.mk (below_then hbx (Below.size hbx) hb)
      clear hb hbx
      go_wp2_with (fail)
      go_ret2
      refine ⟨_, by rw [← HE.out]; rfl, ?_, HB2.out⟩
      rw [← HE.out]
      exact Kd.R_nil _ _ _ _ _
    | true =>
      have HE := Aside0.mk (Option.some.inj h)
      clear h
      obtain ⟨hP, h0, h64, hn, hcs⟩ := may_true HT.out
      have hg3 := (may_true HU.out).2.2.2.2 l3 List.mem_cons_self
      have HCL := Aside0.mk (fun W (hb : Below w.heap.size w W) => climb_c a0 a1.toNat A2 c2 l2 W hP (by omega) hn (Kd.C_below HR.out hb) HC.out hcs)
      have HPP := Aside0.mk (And.intro hP (And.intro hg3 (And.intro hn h64)))
      clear hP h0 h64 hn hcs hg3
      go_enter Try.func16, Try.ntmps16
      go_wp2_with (fail)
      refine HMAY.out.mono ?_
      rintro e w1 ⟨rfl, hb⟩
      have HB := Aside0.mk hb
      clear hb
      go_wp2_with (fail)
      have hbx := HB.out.alloc (Below.size HB.out) (Obj.cells #[Value.slice A3 l3.length c3] 26)
      refine (HM2.out _ hbx w1.heap.size (by go_simp)).mono ?_
      rintro e w2 ⟨rfl, hb⟩
      have HB2 := Aside0.mk (below_then hbx (Below.size hbx) hb)
      clear hb hbx
      go_wp2_with (fail)
      refine (HCL.out _ HB2.out).mono ?_
      rintro e w3 ⟨s, sv, S, v, rfl, hs, hsc, ⟨ok, hsr⟩, hM, hmap, hv, hb, hg, hsl, _⟩
      have HB3 := Aside0.mk (below_then HB2.out (Below.size HB2.out) hb)
      obtain ⟨As, cs, rfl, hlc, hSC⟩ := Kd.R_reads hsr
      have HRED := Aside0.mk (reduce_c s a0 l2.length S As cs A3 c3 l3 w3 (blk_cell hsc 0) (blk_cell hsc 1) hSC hlc hM (by have := HPP.out.2.2.1; omega) (isP_ok HPP.out.1) (Kd.C_below HR3.out HB3.out) HC3.out (by have := HPP.out.2.1.1; have := HPP.out.2.2; omega) HPP.out.2.1.2 (fun x hx => by have := hg x hx; rw [HPP.out.2.1.1]; exact this) (by have := HPP.out.2.2.1; omega))
      rw [hmap] at HRED
      clear hs hsc hsr hM hmap hv hb hg hsl hlc hSC
      go_wp2_with (fail)
      refine HRED.out.mono ?_
      rintro e w4 ⟨v4, b, rfl, hv4, hm4, hlt4, hb4⟩
      have HV4 := Aside0.mk hv4
      have HM4 := Aside0.mk hm4
      have HB4 := Aside0.mk (below_then HB3.out (Below.size HB3.out) hb4)
      clear hv4 hm4 hlt4 hb4
      go_wp2_with (fail)
      have hok := foldl_ok (isP_ok HPP.out.1) (m := a1.toNat) (climbS a0 l2 0 ([], [])).1 (l3, fun _ => 0) HPP.out.2.1.1 HPP.out.2.1.2 (fun _ => ⟨Int.le_refl _, (by have := isP_ok HPP.out.1; have := this.1; show (0:Int) < a0; omega)⟩) (climbS_good HPP.out.1 l2 0 ([], []) (fun x hx => absurd hx List.not_mem_nil) (Nat.le_refl _) (Nat.le_refl _) (may_true HT.out).2.2.2.2)
      have hok2 : (reduce a0 (climbS a0 l2 0 ([], [])).1 l3).1.length = a1.toNat ∧ Bd a0 (reduce a0 (climbS a0 l2 0 ([], [])).1 l3).1 ∧ BdF a0 (reduce a0 (climbS a0 l2 0 ([], [])).1 l3).2 := hok
      have hcr : comboR a0 (climbS a0 l2 0 ([], [])).1 l2.length l3 = if (reduce a0 (climbS a0 l2 0 ([], [])).1 l3).1.any nz = true then ([], false) else ((List.range l2.length).map (fun i : Nat => (reduce a0 (climbS a0 l2 0 ([], [])).1 l3).2 (i : Int)), true) := rfl
      have HCR := Aside0.mk (HE.out.symm.trans hcr)
      clear hok hcr HRED HCL HE HM2 HMAY
      generalize reduce a0 (climbS a0 l2 0 ([], [])).1 l3 = red at *
      obtain ⟨rest, tk⟩ := red
      dsimp only at hok2 HV4 HM4 HCR
      have HOK := Aside0.mk hok2
      clear hok2
      obtain ⟨Av, cv, rfl⟩ := Kd.R_slice HV4.out
      refine (hasInt_c Av cv rest 27 #[] nz w4 (Kd.R_reads' HV4.out).2.2 (Kd.R_reads' HV4.out).2.1 (by have := HOK.out.1; have := HPP.out.2.2.2; omega) (enters_of Try.func27 (by kernel_rfl) rfl) (fun n x _ => nz27_c x _)).mono ?_
      rintro e w5 ⟨rfl, ⟨q, rfl⟩⟩
      have HBq := Aside0.mk (pw_below_drewN HB4.out q)
      have HMq := Aside0.mk (HM4.out.drewN q)
      cases hany : rest.any nz with
      | true =>
        rw [hany, if_pos rfl] at HCR
        clear hany
        go_wp2_with (fail)
        go_ret2
        refine ⟨_, by rw [HCR.out]; rfl, ?_, HBq.out⟩
        rw [HCR.out]
        exact Kd.R_nil _ _ _ _ _
      | false =>
        rw [hany, if_neg (by simp)] at HCR
        clear hany
        generalize w4.drewN q = wq at HBq HMq ⊢
        have hn0 : 0 ≤ (l2.length : Int) := by omega
        go_wp2_with (first
          | ((with_reducible refine gate_dst (N := 46) rfl ?_); refine Kd.R_make (Kd.int .i64) w.heap.size 3 rfl (N := 46) rfl 26 _ _ rfl (l2.length : Int) rfl rfl Try.underlying26 (.int .i64 0) 8 infoI rfl (by decide) (by omega) 0 (ok := fun _ => True) (okp := fun _ => True) rfl (fun _ hk => hk) trivial (by omega) (by have := HPP.out.2.2.1; omega) HBq.out (Below.size HBq.out) ?_; intro v6 w6 ho6 hb6 hg6 hn6; have HO6 := Aside0.mk ho6; have HB6 := Aside0.mk hb6; have HM6 := Aside0.mk (HMq.out.kept hg6 (by simp)); clear ho6 hb6 hg6 hn6)
          | ((with_reducible refine gate_dst (N := 48) rfl ?_); refine range_step rfl _ rfl b (l2.length : Int) tk rfl HM6.out ?_; intro w7 left cnt hgo hleft hg7 hsz7))
        try go_simp
        have hrep := HO6.out
        rw [Int.toNat_natCast, replicate_range] at hrep
        obtain ⟨A6, c6, rfl⟩ := Kd.R_slice hrep
        have HO7 := Aside0.mk (Kd.R_grown (row := none) hrep hg7 (fun k _ => by simp))
        have HB7 := Aside0.mk (HB6.out.grown hg7 (Below.size HB6.out) (fun k hk => by simp at hk))
        have HGO := Aside0.mk hgo
        have HT7 : Aside0 (∀ y, (fun _ : Int => (0 : Int)) y = if left y = true then 0 else tk y) := ⟨fun y => by
          cases hly : left y with
          | true => simp
          | false => rw [hleft y hly]; simp⟩
        have hl64 : (l2.length : Int) ≤ 64 := by have := HPP.out.2.2.1; omega
        have hll : ((List.range l2.length).map (fun i : Nat => (fun _ : Int => (0 : Int)) (i : Int))).length = l2.length := by simp
        have HB6s := Aside0.mk (Below.size HB6.out)
        have HLTV := Aside0.mk (Kd.R_lt hrep)
        clear hrep hg7 hsz7 hgo hleft HO6
        rw [hll] at HO7
        rw [hll] at HLTV
        simp only [hll]
        generalize w6.heap.size = rr at HGO HB6s HLTV ⊢
        go_loopg [49] (cnt) (fun g2 s49 wx => ∃ (lf : Int → Bool) (ct : Nat) (f : Int → Int), ct ≤ g2 ∧ Aside0 (Goes wx b rr (l2.length : Int) tk lf ct) ∧ Aside0 (Kd.R (Kd.int .i64) 3 wx w.heap.size (fun _ => True) (.slice A6 l2.length c6) ((List.range l2.length).map (fun i : Nat => f i))) ∧ Aside0 (∀ y, f y = if lf y = true then 0 else tk y) ∧ Aside0 (Below w.heap.size w wx))
        case atStart => exact ⟨left, cnt, _, Nat.le_refl _, HGO, HO7, HT7, HB7⟩
        case round =>
          obtain ⟨lf, ct, f, hct, HGx, HOx, HTx, HBx⟩ := hrel
          have HWx := Aside0.mk hct
          clear hct
          by_cases hz0 : ct = 0
          · subst hz0
            go_wp2_with (first | ((with_reducible refine gate_dst (N := 49) rfl ?_); refine next_step rfl _ rfl b _ (l2.length : Int) tk lf 0 rfl HGx.out (fun _ hl => ?_) (fun x w5 c5 _ _ _ _ hlt5 => absurd hlt5 (by omega)); have HLF := Aside0.mk hl; clear hl))
            go_ret2
            refine ⟨_, by rw [HCR.out]; rfl, ?_, HBx.out⟩
            rw [HCR.out]
            have he : (fun i : Nat => f (i : Int)) = (fun i : Nat => tk (i : Int)) := funext fun i => by rw [HTx.out, HLF.out]; rfl
            rw [← he]; exact HOx.out
          · go_wp2_with (first | ((with_reducible refine gate_dst (N := 49) rfl ?_); refine next_step rfl _ rfl b _ (l2.length : Int) tk lf ct rfl HGx.out (fun h0 _ => absurd h0 hz0) (fun x w8 c8 hlx hx0 hxN hgo8 hlt8 hgr8 hsz8 hen => ?_); have HO8 := Aside0.mk (R_int_step HOx.out (fun k hk hlt => hgr8.block k hlt (fun e => by injection e with e; have := HLTV.out k hk; omega))); have HG8 := Aside0.mk hgo8; have HB8 := Aside0.mk (pw_below_grown HBx.out _ (Below.size HBx.out) hgr8 (fun k hk => by injection hk with hk; have := HB6s.out; omega)); have HX8 := Aside0.mk (And.intro hlx (And.intro hlt8 hgr8)); obtain ⟨g6, cap6, ev6, hgb6, _, cells6, hgc6⟩ := Kd.R_form HO8.out (by simp; omega); injection ev6 with ea6 eb6 ec6; clear eb6; subst ec6; subst ea6; obtain ⟨hcv, hfv⟩ := Kd.R_celln 0 HO8.out x hx0 hxN; generalize rdOf 0 _ x = zz at hcv; have HPUT := Aside0.mk (Kd.R_putn HO8.out x (tk x)); rw [range_set _ _ _ _ hx0] at HPUT; have HGB := Aside0.mk hgb6; have HGC := Aside0.mk hgc6; have HTY : Aside0 (∀ y, (if y = x then tk x else f y) = if (lf y && !decide (y = x)) = true then 0 else tk y) := ⟨fun y => by by_cases e : y = x <;> simp [e, HTx.out y]⟩; clear hlx hlt8 hgr8 hsz8 hgo8 hgb6 hgc6))
            have hset := gb_set w8 g6 x.toNat (.int .i64 (tk x))
            have hgx := HG8.out.kept hset (fun e => (HG8.out.map.ne_blk HGC.out) (by injection e)) (fun e => by injection e with e; have := HLTV.out g6 (by simp [Value.ownBlock]); omega)
            go_roundg c8
            case measure => have := HX8.out.2.1; have := HWx.out; omega
            case rel => exact ⟨_, c8, fun y => if y = x then tk x else f y, Nat.le_refl _, ⟨hgx⟩, HPUT, HTY, ⟨pw_below_grown HB8.out _ (Below.size HB8.out) hset (fun k hk => by injection hk with hk; rw [← hk]; exact HGB.out)⟩⟩
theorem elim_Combo.calls (k : Nat) (a0 a1 : Int) (A2 : Option Addr) (c2 : Nat) (l2 : List (List Int)) (A3 : Option Addr) (c3 : Nat) (l3 : List Int) (r1 : List Int) (r2 : Bool) (w : World) (hr2 : Kd.C (Kd.slice 3 (Kd.int .i64)) w A2 l2.length l2) (hc2 : l2.length ≤ c2) (hr3 : Kd.C (Kd.int .i64) w A3 l3.length l3) (hc3 : l3.length ≤ c3) (h : elim_Combo.f k a0 a1 l2 l3 = some (r1, r2)) :
    Calls Try.prog 16 #[.int .i64 a0, .int .i64 a1, .slice A2 l2.length c2, .slice A3 l3.length c3] w fun e w' => ∃ v0_ : Value, e = .returned (.tuple #[v0_, .bool r2]) ∧ Kd.R (Kd.int .i64) 3 w' w.heap.size (fun _ => True) v0_ r1 ∧ Below w.heap.size w w' := elim_Combo.calls_ k a0 a1 A2 c2 l2 A3 c3 l3 (r1, r2) w hr2 hc2 hr3 hc3 h
end Go.Proofs.Ytepakefmioeilaa.P
-- written by wip/tool/ownprint.py of this claim's own repository, out of the translation's print
namespace Go.Proofs.Ytepakefmioeilaa.P
open Go.RowKit Go.Proofs.YtepakefmioeilaaW.PrintWords Go.Proofs.YtepakefmioeilaaW.PrintLast Go.Proofs.YtepakefmioeilaaW.PrintMore
attribute [local go_sem] max2_int min2_int max_two min_two max_three min_three max_four min_four   -- for this text's walks alone
set_option linter.unusedVariables false
set_option linter.unusedSimpArgs false

/-! ### elim_Rank: function 14 -/
def elim_Rank.f (k : Nat) (a0 : Int) (a1 : Int) (l2 : List (List Int)) : Option (Int) := (elim_May.f k a0 a1 l2).bind fun t112 => (if t112 = true then ((elim_Basis.f k a0 a1 l2).bind fun t113 => (some (t113.length : Int))) else (some (-1)))
theorem elim_Rank.mono : ∀ a0 a1 a2 k, LeO (elim_Rank.f k a0 a1 a2) (elim_Rank.f (k + 1) a0 a1 a2) := by
  intro a0 a1 a2 k
  unfold elim_Rank.f
  repeat' first
      | (with_reducible exact elim_Basis.mono _ _ _ _)
      | (with_reducible exact elim_May.mono _ _ _ _)
      | (with_reducible exact LeO.refl _)
      | (with_reducible exact LeO.none _)
      | (with_reducible refine LeO.ite ?_ ?_)
      | (with_reducible refine LeO.bind ?_ (fun _ => ?_))
      | exact elim_Basis.mono _ _ _ _
      | exact elim_May.mono _ _ _ _
      | exact LeO.none _
      | refine LeO.ite ?_ ?_
      | refine LeO.bind ?_ (fun _ => ?_)
set_option maxHeartbeats 8000000 in
set_option maxRecDepth 100000 in
theorem elim_Rank.calls (k : Nat) (a0 : Int) (a1 : Int) (A2 : Option Addr) (c2 : Nat) (l2 : List (List Int)) (r : Int) (w : World) (hr2 : Kd.C (Kd.slice 3 (Kd.int .i64)) w A2 l2.length l2) (hc2 : l2.length ≤ c2) (h : elim_Rank.f k a0 a1 l2 = some r) :
    Calls Try.prog 14 #[.int .i64 a0, .int .i64 a1, .slice A2 l2.length c2] w fun e w' => e = .returned (.int .i64 r) ∧ Below w.heap.size w w' := by
  have HR2 := Aside0.mk hr2
  have HC2 := Aside0.mk hc2
  clear hr2 hc2
  have HB := Aside0.mk (Below.refl w.heap.size w)
  have H : ((elim_May.f k a0 a1 l2).bind fun t112 => (if t112 = true then ((elim_Basis.f k a0 a1 l2).bind fun t113 => (some (t113.length : Int))) else (some (-1)))) = some r := h
  clear h
  replace H := Option.bind_eq_some_iff.mp H
  obtain ⟨t112, A40, H⟩ := H
  replace H : (if t112 = true then ((elim_Basis.f k a0 a1 l2).bind fun t113 => (some (t113.length : Int))) else (some (-1))) = some r := H
  have A4 := Aside0.mk A40
  clear A40
  by_cases c5 : t112 = true
  · subst c5
    have H1 : ((elim_Basis.f k a0 a1 l2).bind fun t113 => (some (t113.length : Int))) = some r := by rw [if_pos rfl] at H; exact H
    clear H
    have H := H1
    clear H1
    replace H := Option.bind_eq_some_iff.mp H
    obtain ⟨t113, A60, H⟩ := H
    replace H : (some (t113.length : Int)) = some r := H
    have A6 := Aside0.mk A60
    clear A60
    obtain rfl := Option.some.inj H
    go_enter Try.func14, Try.ntmps14
    go_wp2_with (first | ((with_reducible refine gate_callee (f := 9) rfl ?_); refine goesL_ (some 10) rfl rfl Try.func9 (by kernel_rfl) rfl #[.int .i64 a0, .int .i64 a1, .slice A2 l2.length c2] rfl (by (try simp only [List.map_toArray, List.map_cons, List.map_nil]); first | done | rfl | (simp only [List.length_drop, List.length_take]; rfl)) ?_; (with_reducible refine (elim_May.calls k a0 a1 _ _ l2 true _ ?side1 ?side2 A4.out).mono ?_); (case side1 => repeat (first | exact HR2.out | (with_reducible refine Kd.C_alloc ?_ _) | (with_reducible refine Kd.C_drewN ?_ _) | (with_reducible refine Kd.C_drew ?_))); (case side2 => exact HC2.out); rintro e w7 ⟨rfl, hb⟩; refine ⟨_, rfl, ?_⟩; have n0_ := Aside0.mk (below_step (by repeat (first | (with_reducible first | exact HB.out | apply below_alloc | apply pw_below_drewN | apply below_drew1) | exact HB.out)) hb); clear HB; have HB := n0_; clear n0_; (try clear hb); (try clear hb2); (try clear hk); (try clear hi)) | ((with_reducible refine gate_callee (f := 12) rfl ?_); refine goesL_ (some 15) rfl rfl Try.func12 (by kernel_rfl) rfl #[.int .i64 a0, .int .i64 a1, .slice A2 l2.length c2] rfl (by (try simp only [List.map_toArray, List.map_cons, List.map_nil]); first | done | rfl | (simp only [List.length_drop, List.length_take]; rfl)) ?_; (with_reducible refine (elim_Basis.calls k a0 a1 _ _ l2 t113 _ ?side1 ?side2 A6.out).mono ?_); (case side1 => repeat (first | exact (Kd.C_below HR2.out HB.out) | (with_reducible refine Kd.C_alloc ?_ _) | (with_reducible refine Kd.C_drewN ?_ _) | (with_reducible refine Kd.C_drew ?_))); (case side2 => exact HC2.out); rintro e w8 ⟨v114, rfl, ho0, hb⟩; refine ⟨_, rfl, ?_⟩; have n0_ := Aside0.mk (Kd.R_lower ho0 (below_size (by repeat (first | (with_reducible first | exact HB.out | apply below_alloc | apply pw_below_drewN | apply below_drew1) | exact HB.out)))); have n1_ := Aside0.mk (below_step (by repeat (first | (with_reducible first | exact HB.out | apply below_alloc | apply pw_below_drewN | apply below_drew1) | exact HB.out)) hb); clear HB; have HO115 := n0_; have HB := n1_; clear n0_ n1_; (try clear hb); (try clear hb2); (try clear hk); (try clear hi); (try clear ho0); obtain ⟨Ao9, co9, eo9⟩ := Kd.R_slice HO115.out; subst eo9))
    go_ret
    exact ⟨by first | rfl | (simp [errW_none, errW_some] <;> rfl) | (simp [*, errW_none, errW_some] <;> rfl), by repeat (first | (with_reducible first | exact HB.out | apply below_alloc | apply pw_below_drewN | apply below_drew1) | exact HB.out)⟩
  · replace c5 := Bool.eq_false_iff.mpr c5
    subst c5
    have H1 : (some (-1)) = some r := by rw [if_neg (show ¬ (false = true) by decide)] at H; exact H
    clear H
    have H := H1
    clear H1
    obtain rfl := Option.some.inj H
    go_enter Try.func14, Try.ntmps14
    go_wp2_with (first | ((with_reducible refine gate_callee (f := 9) rfl ?_); refine goesL_ (some 10) rfl rfl Try.func9 (by kernel_rfl) rfl #[.int .i64 a0, .int .i64 a1, .slice A2 l2.length c2] rfl (by (try simp only [List.map_toArray, List.map_cons, List.map_nil]); first | done | rfl | (simp only [List.length_drop, List.length_take]; rfl)) ?_; (with_reducible refine (elim_May.calls k a0 a1 _ _ l2 false _ ?side1 ?side2 A4.out).mono ?_); (case side1 => repeat (first | exact HR2.out | (with_reducible refine Kd.C_alloc ?_ _) | (with_reducible refine Kd.C_drewN ?_ _) | (with_reducible refine Kd.C_drew ?_))); (case side2 => exact HC2.out); rintro e w10 ⟨rfl, hb⟩; refine ⟨_, rfl, ?_⟩; have n0_ := Aside0.mk (below_step (by repeat (first | (with_reducible first | exact HB.out | apply below_alloc | apply pw_below_drewN | apply below_drew1) | exact HB.out)) hb); clear HB; have HB := n0_; clear n0_; (try clear hb); (try clear hb2); (try clear hk); (try clear hi)))
    go_ret
    exact ⟨by first | rfl | (simp [errW_none, errW_some] <;> rfl) | (simp [*, errW_none, errW_some] <;> rfl), by repeat (first | (with_reducible first | exact HB.out | apply below_alloc | apply pw_below_drewN | apply below_drew1) | exact HB.out)⟩

-- NOT PRINTED: function 21 (slices_ContainsFunc_int_int_21)

/-! ### elim_Combo: function 16 -/
end Go.Proofs.Ytepakefmioeilaa.P
-- written by wip/tool/ownprint.py of this claim's own repository, out of the translation's print
namespace Go.Proofs.Ytepakefmioeilaa.P
open Go.RowKit Go.Proofs.YtepakefmioeilaaW.PrintWords Go.Proofs.YtepakefmioeilaaW.PrintLast Go.Proofs.YtepakefmioeilaaW.PrintMore
attribute [local go_sem] max2_int min2_int max_two min_two max_three min_three max_four min_four   -- for this text's walks alone
set_option linter.unusedVariables false
set_option linter.unusedSimpArgs false

/-! ### greenwoodlaw05_fixed: function 8 -/
def greenwoodlaw05_fixed.f (k : Nat)  : Option (Bool) := (some (([(([1, 2] : List Int)), (([2, 4] : List Int)), (([0, 1] : List Int))] : List (List Int)) : List (List Int))).bind fun y125 => ((elim_Combo.f k 5 2 y125 (([3, 4] : List Int))).bind fun bt131 => (if 2 ≤ (y125.length : Int) then ((elim_Combo.f k 5 2 (y125.take 2) (([0, 1] : List Int))).bind fun bt143 => ((elim_Combo.f k 5 2 ([] : List (List Int)) (([0, 0] : List Int))).bind fun bt150 => ((elim_Basis.f k 5 2 y125).bind fun t154 => ((greenwoodref01_Same.f k t154 (([0, 2] : List Int))).bind fun t160 => (if t160 = true then ((elim_Rank.f k 5 2 y125).bind fun t161 => (if t161 = 2 then (if bt131.2 = true then ((greenwoodref01_Same.f k bt131.1 (([3, 0, 3] : List Int))).bind fun t165 => (if t165 = true then (if bt143.2 = true then (some false) else (if bt150.2 = true then (if (bt150.1.length : Int) = 0 then ((elim_May.f k 5 2 y125).bind fun t166 => (if t166 = true then ((elim_May.f k 4 2 y125).bind fun t167 => (if t167 = true then (some false) else ((elim_Rank.f k 5 3 y125).bind fun t168 => (some (t168 == (-1)))))) else (some false))) else (some false)) else (some false))) else (some false))) else (some false)) else (some false))) else (some false)))))) else (none)))
theorem greenwoodlaw05_fixed.mono : ∀ k, LeO (greenwoodlaw05_fixed.f k ) (greenwoodlaw05_fixed.f (k + 1) ) := by
  intro  k
  unfold greenwoodlaw05_fixed.f
  repeat' first
      | (with_reducible exact elim_Basis.mono _ _ _ _)
      | (with_reducible exact elim_Combo.mono _ _ _ _ _)
      | (with_reducible exact elim_May.mono _ _ _ _)
      | (with_reducible exact elim_Rank.mono _ _ _ _)
      | (with_reducible exact greenwoodref01_Same.mono _ _ _)
      | (with_reducible exact LeO.refl _)
      | (with_reducible exact LeO.none _)
      | (with_reducible refine LeO.ite ?_ ?_)
      | (with_reducible refine LeO.bind ?_ (fun _ => ?_))
      | exact elim_Basis.mono _ _ _ _
      | exact elim_Combo.mono _ _ _ _ _
      | exact elim_May.mono _ _ _ _
      | exact elim_Rank.mono _ _ _ _
      | exact greenwoodref01_Same.mono _ _ _
      | exact LeO.none _
      | refine LeO.ite ?_ ?_
      | refine LeO.bind ?_ (fun _ => ?_)
set_option maxHeartbeats 8000000 in
set_option maxRecDepth 100000 in
theorem greenwoodlaw05_fixed.callsT (k : Nat)  (r : Bool) (w : World) (hrT : r = true) (h : greenwoodlaw05_fixed.f k  = some r) :
    Calls Try.prog 8 #[] w fun e w' => e = .returned (.bool r) ∧ Below w.heap.size w w' := by
  have HB := Aside0.mk (Below.refl w.heap.size w)
  have H : ((some (([(([1, 2] : List Int)), (([2, 4] : List Int)), (([0, 1] : List Int))] : List (List Int)) : List (List Int))).bind fun y125 => ((elim_Combo.f k 5 2 y125 (([3, 4] : List Int))).bind fun bt131 => (if 2 ≤ (y125.length : Int) then ((elim_Combo.f k 5 2 (y125.take 2) (([0, 1] : List Int))).bind fun bt143 => ((elim_Combo.f k 5 2 ([] : List (List Int)) (([0, 0] : List Int))).bind fun bt150 => ((elim_Basis.f k 5 2 y125).bind fun t154 => ((greenwoodref01_Same.f k t154 (([0, 2] : List Int))).bind fun t160 => (if t160 = true then ((elim_Rank.f k 5 2 y125).bind fun t161 => (if t161 = 2 then (if bt131.2 = true then ((greenwoodref01_Same.f k bt131.1 (([3, 0, 3] : List Int))).bind fun t165 => (if t165 = true then (if bt143.2 = true then (some false) else (if bt150.2 = true then (if (bt150.1.length : Int) = 0 then ((elim_May.f k 5 2 y125).bind fun t166 => (if t166 = true then ((elim_May.f k 4 2 y125).bind fun t167 => (if t167 = true then (some false) else ((elim_Rank.f k 5 3 y125).bind fun t168 => (some (t168 == (-1)))))) else (some false))) else (some false)) else (some false))) else (some false))) else (some false)) else (some false))) else (some false)))))) else (none)))) = some r := h
  clear h
  obtain ⟨y116, hy116⟩ : ∃ y_ : List Int, y_ = (([1, 2] : List Int)) := ⟨_, rfl⟩
  replace H : ((some (([y116, (([2, 4] : List Int)), (([0, 1] : List Int))] : List (List Int)) : List (List Int))).bind fun y125 => ((elim_Combo.f k 5 2 y125 (([3, 4] : List Int))).bind fun bt131 => (if 2 ≤ (y125.length : Int) then ((elim_Combo.f k 5 2 (y125.take 2) (([0, 1] : List Int))).bind fun bt143 => ((elim_Combo.f k 5 2 ([] : List (List Int)) (([0, 0] : List Int))).bind fun bt150 => ((elim_Basis.f k 5 2 y125).bind fun t154 => ((greenwoodref01_Same.f k t154 (([0, 2] : List Int))).bind fun t160 => (if t160 = true then ((elim_Rank.f k 5 2 y125).bind fun t161 => (if t161 = 2 then (if bt131.2 = true then ((greenwoodref01_Same.f k bt131.1 (([3, 0, 3] : List Int))).bind fun t165 => (if t165 = true then (if bt143.2 = true then (some false) else (if bt150.2 = true then (if (bt150.1.length : Int) = 0 then ((elim_May.f k 5 2 y125).bind fun t166 => (if t166 = true then ((elim_May.f k 4 2 y125).bind fun t167 => (if t167 = true then (some false) else ((elim_Rank.f k 5 3 y125).bind fun t168 => (some (t168 == (-1)))))) else (some false))) else (some false)) else (some false))) else (some false))) else (some false)) else (some false))) else (some false)))))) else (none)))) = some r := by first | (rw [hy116]; with_reducible exact H) | (have H2_ := (Option.bind_some _ _).symm.trans H; rw [hy116]; with_reducible exact H2_) | (have H2_ := (Option.bind_some _ _).symm.trans H; with_reducible exact H2_) | with_reducible exact H | (rw [hy116]; exact H) | exact H
  have Ny116 := Aside0.mk hy116
  clear hy116
  obtain ⟨y119, hy119⟩ : ∃ y_ : List Int, y_ = (([2, 4] : List Int)) := ⟨_, rfl⟩
  replace H : ((some (([y116, y119, (([0, 1] : List Int))] : List (List Int)) : List (List Int))).bind fun y125 => ((elim_Combo.f k 5 2 y125 (([3, 4] : List Int))).bind fun bt131 => (if 2 ≤ (y125.length : Int) then ((elim_Combo.f k 5 2 (y125.take 2) (([0, 1] : List Int))).bind fun bt143 => ((elim_Combo.f k 5 2 ([] : List (List Int)) (([0, 0] : List Int))).bind fun bt150 => ((elim_Basis.f k 5 2 y125).bind fun t154 => ((greenwoodref01_Same.f k t154 (([0, 2] : List Int))).bind fun t160 => (if t160 = true then ((elim_Rank.f k 5 2 y125).bind fun t161 => (if t161 = 2 then (if bt131.2 = true then ((greenwoodref01_Same.f k bt131.1 (([3, 0, 3] : List Int))).bind fun t165 => (if t165 = true then (if bt143.2 = true then (some false) else (if bt150.2 = true then (if (bt150.1.length : Int) = 0 then ((elim_May.f k 5 2 y125).bind fun t166 => (if t166 = true then ((elim_May.f k 4 2 y125).bind fun t167 => (if t167 = true then (some false) else ((elim_Rank.f k 5 3 y125).bind fun t168 => (some (t168 == (-1)))))) else (some false))) else (some false)) else (some false))) else (some false))) else (some false)) else (some false))) else (some false)))))) else (none)))) = some r := by first | (rw [hy119]; with_reducible exact H) | (have H2_ := (Option.bind_some _ _).symm.trans H; rw [hy119]; with_reducible exact H2_) | (have H2_ := (Option.bind_some _ _).symm.trans H; with_reducible exact H2_) | with_reducible exact H | (rw [hy119]; exact H) | exact H
  have Ny119 := Aside0.mk hy119
  clear hy119
  obtain ⟨y122, hy122⟩ : ∃ y_ : List Int, y_ = (([0, 1] : List Int)) := ⟨_, rfl⟩
  replace H : ((some (([y116, y119, y122] : List (List Int)) : List (List Int))).bind fun y125 => ((elim_Combo.f k 5 2 y125 (([3, 4] : List Int))).bind fun bt131 => (if 2 ≤ (y125.length : Int) then ((elim_Combo.f k 5 2 (y125.take 2) (([0, 1] : List Int))).bind fun bt143 => ((elim_Combo.f k 5 2 ([] : List (List Int)) (([0, 0] : List Int))).bind fun bt150 => ((elim_Basis.f k 5 2 y125).bind fun t154 => ((greenwoodref01_Same.f k t154 (([0, 2] : List Int))).bind fun t160 => (if t160 = true then ((elim_Rank.f k 5 2 y125).bind fun t161 => (if t161 = 2 then (if bt131.2 = true then ((greenwoodref01_Same.f k bt131.1 (([3, 0, 3] : List Int))).bind fun t165 => (if t165 = true then (if bt143.2 = true then (some false) else (if bt150.2 = true then (if (bt150.1.length : Int) = 0 then ((elim_May.f k 5 2 y125).bind fun t166 => (if t166 = true then ((elim_May.f k 4 2 y125).bind fun t167 => (if t167 = true then (some false) else ((elim_Rank.f k 5 3 y125).bind fun t168 => (some (t168 == (-1)))))) else (some false))) else (some false)) else (some false))) else (some false))) else (some false)) else (some false))) else (some false)))))) else (none)))) = some r := by first | (rw [hy122]; with_reducible exact H) | (have H2_ := (Option.bind_some _ _).symm.trans H; rw [hy122]; with_reducible exact H2_) | (have H2_ := (Option.bind_some _ _).symm.trans H; with_reducible exact H2_) | with_reducible exact H | (rw [hy122]; exact H) | exact H
  have Ny122 := Aside0.mk hy122
  clear hy122
  obtain ⟨y125, hy125⟩ : ∃ y_ : List (List Int), y_ = (([y116, y119, y122] : List (List Int))) := ⟨_, rfl⟩
  replace H : ((elim_Combo.f k 5 2 y125 (([3, 4] : List Int))).bind fun bt131 => (if 2 ≤ (y125.length : Int) then ((elim_Combo.f k 5 2 (y125.take 2) (([0, 1] : List Int))).bind fun bt143 => ((elim_Combo.f k 5 2 ([] : List (List Int)) (([0, 0] : List Int))).bind fun bt150 => ((elim_Basis.f k 5 2 y125).bind fun t154 => ((greenwoodref01_Same.f k t154 (([0, 2] : List Int))).bind fun t160 => (if t160 = true then ((elim_Rank.f k 5 2 y125).bind fun t161 => (if t161 = 2 then (if bt131.2 = true then ((greenwoodref01_Same.f k bt131.1 (([3, 0, 3] : List Int))).bind fun t165 => (if t165 = true then (if bt143.2 = true then (some false) else (if bt150.2 = true then (if (bt150.1.length : Int) = 0 then ((elim_May.f k 5 2 y125).bind fun t166 => (if t166 = true then ((elim_May.f k 4 2 y125).bind fun t167 => (if t167 = true then (some false) else ((elim_Rank.f k 5 3 y125).bind fun t168 => (some (t168 == (-1)))))) else (some false))) else (some false)) else (some false))) else (some false))) else (some false)) else (some false))) else (some false)))))) else (none))) = some r := by first | (rw [hy125]; with_reducible exact H) | (have H2_ := (Option.bind_some _ _).symm.trans H; rw [hy125]; with_reducible exact H2_) | (have H2_ := (Option.bind_some _ _).symm.trans H; with_reducible exact H2_) | with_reducible exact H | (rw [hy125]; exact H) | exact H
  have Ny125 := Aside0.mk hy125
  clear hy125
  obtain ⟨y128, hy128⟩ : ∃ y_ : List Int, y_ = (([3, 4] : List Int)) := ⟨_, rfl⟩
  replace H : ((elim_Combo.f k 5 2 y125 y128).bind fun bt131 => (if 2 ≤ (y125.length : Int) then ((elim_Combo.f k 5 2 (y125.take 2) (([0, 1] : List Int))).bind fun bt143 => ((elim_Combo.f k 5 2 ([] : List (List Int)) (([0, 0] : List Int))).bind fun bt150 => ((elim_Basis.f k 5 2 y125).bind fun t154 => ((greenwoodref01_Same.f k t154 (([0, 2] : List Int))).bind fun t160 => (if t160 = true then ((elim_Rank.f k 5 2 y125).bind fun t161 => (if t161 = 2 then (if bt131.2 = true then ((greenwoodref01_Same.f k bt131.1 (([3, 0, 3] : List Int))).bind fun t165 => (if t165 = true then (if bt143.2 = true then (some false) else (if bt150.2 = true then (if (bt150.1.length : Int) = 0 then ((elim_May.f k 5 2 y125).bind fun t166 => (if t166 = true then ((elim_May.f k 4 2 y125).bind fun t167 => (if t167 = true then (some false) else ((elim_Rank.f k 5 3 y125).bind fun t168 => (some (t168 == (-1)))))) else (some false))) else (some false)) else (some false))) else (some false))) else (some false)) else (some false))) else (some false)))))) else (none))) = some r := by first | (rw [hy128]; with_reducible exact H) | (have H2_ := (Option.bind_some _ _).symm.trans H; rw [hy128]; with_reducible exact H2_) | (have H2_ := (Option.bind_some _ _).symm.trans H; with_reducible exact H2_) | with_reducible exact H | (rw [hy128]; exact H) | exact H
  have Ny128 := Aside0.mk hy128
  clear hy128
  replace H := Option.bind_eq_some_iff.mp H
  obtain ⟨⟨t131, t132⟩, A10, H⟩ := H
  replace H : (if 2 ≤ (y125.length : Int) then ((elim_Combo.f k 5 2 (y125.take 2) (([0, 1] : List Int))).bind fun bt143 => ((elim_Combo.f k 5 2 ([] : List (List Int)) (([0, 0] : List Int))).bind fun bt150 => ((elim_Basis.f k 5 2 y125).bind fun t154 => ((greenwoodref01_Same.f k t154 (([0, 2] : List Int))).bind fun t160 => (if t160 = true then ((elim_Rank.f k 5 2 y125).bind fun t161 => (if t161 = 2 then (if t132 = true then ((greenwoodref01_Same.f k t131 (([3, 0, 3] : List Int))).bind fun t165 => (if t165 = true then (if bt143.2 = true then (some false) else (if bt150.2 = true then (if (bt150.1.length : Int) = 0 then ((elim_May.f k 5 2 y125).bind fun t166 => (if t166 = true then ((elim_May.f k 4 2 y125).bind fun t167 => (if t167 = true then (some false) else ((elim_Rank.f k 5 3 y125).bind fun t168 => (some (t168 == (-1)))))) else (some false))) else (some false)) else (some false))) else (some false))) else (some false)) else (some false))) else (some false)))))) else (none)) = some r := H
  have A1 := Aside0.mk A10
  clear A10
  by_cases c2 : 2 ≤ (y125.length : Int)
  · rw [if_pos c2] at H
    have c2b0 := eq_true c2
    have c2b1 : decide (2 ≤ (y125.length : Int)) = true := decide_eq_true c2
    clear c2
    obtain ⟨y135, hy135⟩ : ∃ y_ : List (List Int), y_ = (y125.take 2) := ⟨_, rfl⟩
    replace H : ((elim_Combo.f k 5 2 y135 (([0, 1] : List Int))).bind fun bt143 => ((elim_Combo.f k 5 2 ([] : List (List Int)) (([0, 0] : List Int))).bind fun bt150 => ((elim_Basis.f k 5 2 y125).bind fun t154 => ((greenwoodref01_Same.f k t154 (([0, 2] : List Int))).bind fun t160 => (if t160 = true then ((elim_Rank.f k 5 2 y125).bind fun t161 => (if t161 = 2 then (if t132 = true then ((greenwoodref01_Same.f k t131 (([3, 0, 3] : List Int))).bind fun t165 => (if t165 = true then (if bt143.2 = true then (some false) else (if bt150.2 = true then (if (bt150.1.length : Int) = 0 then ((elim_May.f k 5 2 y125).bind fun t166 => (if t166 = true then ((elim_May.f k 4 2 y125).bind fun t167 => (if t167 = true then (some false) else ((elim_Rank.f k 5 3 y125).bind fun t168 => (some (t168 == (-1)))))) else (some false))) else (some false)) else (some false))) else (some false))) else (some false)) else (some false))) else (some false)))))) = some r := by first | (rw [hy135]; with_reducible exact H) | (have H2_ := (Option.bind_some _ _).symm.trans H; rw [hy135]; with_reducible exact H2_) | (have H2_ := (Option.bind_some _ _).symm.trans H; with_reducible exact H2_) | with_reducible exact H | (rw [hy135]; exact H) | exact H
    have Ny135 := Aside0.mk hy135
    clear hy135
    obtain ⟨y140, hy140⟩ : ∃ y_ : List Int, y_ = (([0, 1] : List Int)) := ⟨_, rfl⟩
    replace H : ((elim_Combo.f k 5 2 y135 y140).bind fun bt143 => ((elim_Combo.f k 5 2 ([] : List (List Int)) (([0, 0] : List Int))).bind fun bt150 => ((elim_Basis.f k 5 2 y125).bind fun t154 => ((greenwoodref01_Same.f k t154 (([0, 2] : List Int))).bind fun t160 => (if t160 = true then ((elim_Rank.f k 5 2 y125).bind fun t161 => (if t161 = 2 then (if t132 = true then ((greenwoodref01_Same.f k t131 (([3, 0, 3] : List Int))).bind fun t165 => (if t165 = true then (if bt143.2 = true then (some false) else (if bt150.2 = true then (if (bt150.1.length : Int) = 0 then ((elim_May.f k 5 2 y125).bind fun t166 => (if t166 = true then ((elim_May.f k 4 2 y125).bind fun t167 => (if t167 = true then (some false) else ((elim_Rank.f k 5 3 y125).bind fun t168 => (some (t168 == (-1)))))) else (some false))) else (some false)) else (some false))) else (some false))) else (some false)) else (some false))) else (some false)))))) = some r := by first | (rw [hy140]; with_reducible exact H) | (have H2_ := (Option.bind_some _ _).symm.trans H; rw [hy140]; with_reducible exact H2_) | (have H2_ := (Option.bind_some _ _).symm.trans H; with_reducible exact H2_) | with_reducible exact H | (rw [hy140]; exact H) | exact H
    have Ny140 := Aside0.mk hy140
    clear hy140
    replace H := Option.bind_eq_some_iff.mp H
    obtain ⟨⟨t143, t144⟩, A30, H⟩ := H
    replace H : ((elim_Combo.f k 5 2 ([] : List (List Int)) (([0, 0] : List Int))).bind fun bt150 => ((elim_Basis.f k 5 2 y125).bind fun t154 => ((greenwoodref01_Same.f k t154 (([0, 2] : List Int))).bind fun t160 => (if t160 = true then ((elim_Rank.f k 5 2 y125).bind fun t161 => (if t161 = 2 then (if t132 = true then ((greenwoodref01_Same.f k t131 (([3, 0, 3] : List Int))).bind fun t165 => (if t165 = true then (if t144 = true then (some false) else (if bt150.2 = true then (if (bt150.1.length : Int) = 0 then ((elim_May.f k 5 2 y125).bind fun t166 => (if t166 = true then ((elim_May.f k 4 2 y125).bind fun t167 => (if t167 = true then (some false) else ((elim_Rank.f k 5 3 y125).bind fun t168 => (some (t168 == (-1)))))) else (some false))) else (some false)) else (some false))) else (some false))) else (some false)) else (some false))) else (some false))))) = some r := H
    have A3 := Aside0.mk A30
    clear A30
    obtain ⟨y147, hy147⟩ : ∃ y_ : List Int, y_ = (([0, 0] : List Int)) := ⟨_, rfl⟩
    replace H : ((elim_Combo.f k 5 2 ([] : List (List Int)) y147).bind fun bt150 => ((elim_Basis.f k 5 2 y125).bind fun t154 => ((greenwoodref01_Same.f k t154 (([0, 2] : List Int))).bind fun t160 => (if t160 = true then ((elim_Rank.f k 5 2 y125).bind fun t161 => (if t161 = 2 then (if t132 = true then ((greenwoodref01_Same.f k t131 (([3, 0, 3] : List Int))).bind fun t165 => (if t165 = true then (if t144 = true then (some false) else (if bt150.2 = true then (if (bt150.1.length : Int) = 0 then ((elim_May.f k 5 2 y125).bind fun t166 => (if t166 = true then ((elim_May.f k 4 2 y125).bind fun t167 => (if t167 = true then (some false) else ((elim_Rank.f k 5 3 y125).bind fun t168 => (some (t168 == (-1)))))) else (some false))) else (some false)) else (some false))) else (some false))) else (some false)) else (some false))) else (some false))))) = some r := by first | (rw [hy147]; with_reducible exact H) | (have H2_ := (Option.bind_some _ _).symm.trans H; rw [hy147]; with_reducible exact H2_) | (have H2_ := (Option.bind_some _ _).symm.trans H; with_reducible exact H2_) | with_reducible exact H | (rw [hy147]; exact H) | exact H
    have Ny147 := Aside0.mk hy147
    clear hy147
    replace H := Option.bind_eq_some_iff.mp H
    obtain ⟨⟨t150, t151⟩, A40, H⟩ := H
    replace H : ((elim_Basis.f k 5 2 y125).bind fun t154 => ((greenwoodref01_Same.f k t154 (([0, 2] : List Int))).bind fun t160 => (if t160 = true then ((elim_Rank.f k 5 2 y125).bind fun t161 => (if t161 = 2 then (if t132 = true then ((greenwoodref01_Same.f k t131 (([3, 0, 3] : List Int))).bind fun t165 => (if t165 = true then (if t144 = true then (some false) else (if t151 = true then (if (t150.length : Int) = 0 then ((elim_May.f k 5 2 y125).bind fun t166 => (if t166 = true then ((elim_May.f k 4 2 y125).bind fun t167 => (if t167 = true then (some false) else ((elim_Rank.f k 5 3 y125).bind fun t168 => (some (t168 == (-1)))))) else (some false))) else (some false)) else (some false))) else (some false))) else (some false)) else (some false))) else (some false)))) = some r := H
    have A4 := Aside0.mk A40
    clear A40
    replace H := Option.bind_eq_some_iff.mp H
    obtain ⟨t154, A50, H⟩ := H
    replace H : ((greenwoodref01_Same.f k t154 (([0, 2] : List Int))).bind fun t160 => (if t160 = true then ((elim_Rank.f k 5 2 y125).bind fun t161 => (if t161 = 2 then (if t132 = true then ((greenwoodref01_Same.f k t131 (([3, 0, 3] : List Int))).bind fun t165 => (if t165 = true then (if t144 = true then (some false) else (if t151 = true then (if (t150.length : Int) = 0 then ((elim_May.f k 5 2 y125).bind fun t166 => (if t166 = true then ((elim_May.f k 4 2 y125).bind fun t167 => (if t167 = true then (some false) else ((elim_Rank.f k 5 3 y125).bind fun t168 => (some (t168 == (-1)))))) else (some false))) else (some false)) else (some false))) else (some false))) else (some false)) else (some false))) else (some false))) = some r := H
    have A5 := Aside0.mk A50
    clear A50
    obtain ⟨y157, hy157⟩ : ∃ y_ : List Int, y_ = (([0, 2] : List Int)) := ⟨_, rfl⟩
    replace H : ((greenwoodref01_Same.f k t154 y157).bind fun t160 => (if t160 = true then ((elim_Rank.f k 5 2 y125).bind fun t161 => (if t161 = 2 then (if t132 = true then ((greenwoodref01_Same.f k t131 (([3, 0, 3] : List Int))).bind fun t165 => (if t165 = true then (if t144 = true then (some false) else (if t151 = true then (if (t150.length : Int) = 0 then ((elim_May.f k 5 2 y125).bind fun t166 => (if t166 = true then ((elim_May.f k 4 2 y125).bind fun t167 => (if t167 = true then (some false) else ((elim_Rank.f k 5 3 y125).bind fun t168 => (some (t168 == (-1)))))) else (some false))) else (some false)) else (some false))) else (some false))) else (some false)) else (some false))) else (some false))) = some r := by first | (rw [hy157]; with_reducible exact H) | (have H2_ := (Option.bind_some _ _).symm.trans H; rw [hy157]; with_reducible exact H2_) | (have H2_ := (Option.bind_some _ _).symm.trans H; with_reducible exact H2_) | with_reducible exact H | (rw [hy157]; exact H) | exact H
    have Ny157 := Aside0.mk hy157
    clear hy157
    replace H := Option.bind_eq_some_iff.mp H
    obtain ⟨t160, A60, H⟩ := H
    replace H : (if t160 = true then ((elim_Rank.f k 5 2 y125).bind fun t161 => (if t161 = 2 then (if t132 = true then ((greenwoodref01_Same.f k t131 (([3, 0, 3] : List Int))).bind fun t165 => (if t165 = true then (if t144 = true then (some false) else (if t151 = true then (if (t150.length : Int) = 0 then ((elim_May.f k 5 2 y125).bind fun t166 => (if t166 = true then ((elim_May.f k 4 2 y125).bind fun t167 => (if t167 = true then (some false) else ((elim_Rank.f k 5 3 y125).bind fun t168 => (some (t168 == (-1)))))) else (some false))) else (some false)) else (some false))) else (some false))) else (some false)) else (some false))) else (some false)) = some r := H
    have A6 := Aside0.mk A60
    clear A60
    by_cases c7 : t160 = true
    · subst c7
      have H1 : ((elim_Rank.f k 5 2 y125).bind fun t161 => (if t161 = 2 then (if t132 = true then ((greenwoodref01_Same.f k t131 (([3, 0, 3] : List Int))).bind fun t165 => (if t165 = true then (if t144 = true then (some false) else (if t151 = true then (if (t150.length : Int) = 0 then ((elim_May.f k 5 2 y125).bind fun t166 => (if t166 = true then ((elim_May.f k 4 2 y125).bind fun t167 => (if t167 = true then (some false) else ((elim_Rank.f k 5 3 y125).bind fun t168 => (some (t168 == (-1)))))) else (some false))) else (some false)) else (some false))) else (some false))) else (some false)) else (some false))) = some r := by rw [if_pos rfl] at H; exact H
      clear H
      have H := H1
      clear H1
      replace H := Option.bind_eq_some_iff.mp H
      obtain ⟨t161, A80, H⟩ := H
      replace H : (if t161 = 2 then (if t132 = true then ((greenwoodref01_Same.f k t131 (([3, 0, 3] : List Int))).bind fun t165 => (if t165 = true then (if t144 = true then (some false) else (if t151 = true then (if (t150.length : Int) = 0 then ((elim_May.f k 5 2 y125).bind fun t166 => (if t166 = true then ((elim_May.f k 4 2 y125).bind fun t167 => (if t167 = true then (some false) else ((elim_Rank.f k 5 3 y125).bind fun t168 => (some (t168 == (-1)))))) else (some false))) else (some false)) else (some false))) else (some false))) else (some false)) else (some false)) = some r := H
      have A8 := Aside0.mk A80
      clear A80
      by_cases c9 : t161 = 2
      · rw [if_pos c9] at H
        have c9b0 : (t161 == 2) = true := beq_iff_eq.mpr c9
        have c9b1 : (t161 != 2) = false := bne_eq_false_iff_eq.mpr c9
        clear c9
        by_cases c10 : t132 = true
        · subst c10
          have H1 : ((greenwoodref01_Same.f k t131 (([3, 0, 3] : List Int))).bind fun t165 => (if t165 = true then (if t144 = true then (some false) else (if t151 = true then (if (t150.length : Int) = 0 then ((elim_May.f k 5 2 y125).bind fun t166 => (if t166 = true then ((elim_May.f k 4 2 y125).bind fun t167 => (if t167 = true then (some false) else ((elim_Rank.f k 5 3 y125).bind fun t168 => (some (t168 == (-1)))))) else (some false))) else (some false)) else (some false))) else (some false))) = some r := by rw [if_pos rfl] at H; exact H
          clear H
          have H := H1
          clear H1
          obtain ⟨y162, hy162⟩ : ∃ y_ : List Int, y_ = (([3, 0, 3] : List Int)) := ⟨_, rfl⟩
          replace H : ((greenwoodref01_Same.f k t131 y162).bind fun t165 => (if t165 = true then (if t144 = true then (some false) else (if t151 = true then (if (t150.length : Int) = 0 then ((elim_May.f k 5 2 y125).bind fun t166 => (if t166 = true then ((elim_May.f k 4 2 y125).bind fun t167 => (if t167 = true then (some false) else ((elim_Rank.f k 5 3 y125).bind fun t168 => (some (t168 == (-1)))))) else (some false))) else (some false)) else (some false))) else (some false))) = some r := by first | (rw [hy162]; with_reducible exact H) | (have H2_ := (Option.bind_some _ _).symm.trans H; rw [hy162]; with_reducible exact H2_) | (have H2_ := (Option.bind_some _ _).symm.trans H; with_reducible exact H2_) | with_reducible exact H | (rw [hy162]; exact H) | exact H
          have Ny162 := Aside0.mk hy162
          clear hy162
          replace H := Option.bind_eq_some_iff.mp H
          obtain ⟨t165, A110, H⟩ := H
          replace H : (if t165 = true then (if t144 = true then (some false) else (if t151 = true then (if (t150.length : Int) = 0 then ((elim_May.f k 5 2 y125).bind fun t166 => (if t166 = true then ((elim_May.f k 4 2 y125).bind fun t167 => (if t167 = true then (some false) else ((elim_Rank.f k 5 3 y125).bind fun t168 => (some (t168 == (-1)))))) else (some false))) else (some false)) else (some false))) else (some false)) = some r := H
          have A11 := Aside0.mk A110
          clear A110
          by_cases c12 : t165 = true
          · subst c12
            have H1 : (if t144 = true then (some false) else (if t151 = true then (if (t150.length : Int) = 0 then ((elim_May.f k 5 2 y125).bind fun t166 => (if t166 = true then ((elim_May.f k 4 2 y125).bind fun t167 => (if t167 = true then (some false) else ((elim_Rank.f k 5 3 y125).bind fun t168 => (some (t168 == (-1)))))) else (some false))) else (some false)) else (some false))) = some r := by rw [if_pos rfl] at H; exact H
            clear H
            have H := H1
            clear H1
            by_cases c13 : t144 = true
            · subst c13
              have H1 : (some false) = some r := by rw [if_pos rfl] at H; exact H
              clear H
              have H := H1
              clear H1
              exact absurd ((Option.some.inj H).trans hrT) (by decide)
            · replace c13 := Bool.eq_false_iff.mpr c13
              subst c13
              have H1 : (if t151 = true then (if (t150.length : Int) = 0 then ((elim_May.f k 5 2 y125).bind fun t166 => (if t166 = true then ((elim_May.f k 4 2 y125).bind fun t167 => (if t167 = true then (some false) else ((elim_Rank.f k 5 3 y125).bind fun t168 => (some (t168 == (-1)))))) else (some false))) else (some false)) else (some false)) = some r := by rw [if_neg (show ¬ (false = true) by decide)] at H; exact H
              clear H
              have H := H1
              clear H1
              by_cases c14 : t151 = true
              · subst c14
                have H1 : (if (t150.length : Int) = 0 then ((elim_May.f k 5 2 y125).bind fun t166 => (if t166 = true then ((elim_May.f k 4 2 y125).bind fun t167 => (if t167 = true then (some false) else ((elim_Rank.f k 5 3 y125).bind fun t168 => (some (t168 == (-1)))))) else (some false))) else (some false)) = some r := by rw [if_pos rfl] at H; exact H
                clear H
                have H := H1
                clear H1
                by_cases c15 : (t150.length : Int) = 0
                · rw [if_pos c15] at H
                  have c15b0 : ((t150.length : Int) == 0) = true := beq_iff_eq.mpr c15
                  have c15b1 : ((t150.length : Int) != 0) = false := bne_eq_false_iff_eq.mpr c15
                  clear c15
                  replace H := Option.bind_eq_some_iff.mp H
                  obtain ⟨t166, A160, H⟩ := H
                  replace H : (if t166 = true then ((elim_May.f k 4 2 y125).bind fun t167 => (if t167 = true then (some false) else ((elim_Rank.f k 5 3 y125).bind fun t168 => (some (t168 == (-1)))))) else (some false)) = some r := H
                  have A16 := Aside0.mk A160
                  clear A160
                  by_cases c17 : t166 = true
                  · subst c17
                    have H1 : ((elim_May.f k 4 2 y125).bind fun t167 => (if t167 = true then (some false) else ((elim_Rank.f k 5 3 y125).bind fun t168 => (some (t168 == (-1)))))) = some r := by rw [if_pos rfl] at H; exact H
                    clear H
                    have H := H1
                    clear H1
                    replace H := Option.bind_eq_some_iff.mp H
                    obtain ⟨t167, A180, H⟩ := H
                    replace H : (if t167 = true then (some false) else ((elim_Rank.f k 5 3 y125).bind fun t168 => (some (t168 == (-1))))) = some r := H
                    have A18 := Aside0.mk A180
                    clear A180
                    by_cases c19 : t167 = true
                    · subst c19
                      have H1 : (some false) = some r := by rw [if_pos rfl] at H; exact H
                      clear H
                      have H := H1
                      clear H1
                      exact absurd ((Option.some.inj H).trans hrT) (by decide)
                    · replace c19 := Bool.eq_false_iff.mpr c19
                      subst c19
                      have H1 : ((elim_Rank.f k 5 3 y125).bind fun t168 => (some (t168 == (-1)))) = some r := by rw [if_neg (show ¬ (false = true) by decide)] at H; exact H
                      clear H
                      have H := H1
                      clear H1
                      replace H := Option.bind_eq_some_iff.mp H
                      obtain ⟨t168, A200, H⟩ := H
                      replace H : (some (t168 == (-1))) = some r := H
                      have A20 := Aside0.mk A200
                      clear A200
                      obtain rfl := Option.some.inj H
                      go_enter Try.func8, Try.ntmps8
                      go_wp2_with (first | ((with_reducible refine gate_dst (N := 8) rfl ?_); (try (refine gate_guard (by rfl) ?_; dsimp only)); refine Kd.R_lit (Kd.int .i64) _ 3 ?hg (N := 8) ?hd (xs := ([1, 2] : List Int)) (inner := [.int .i64 1, .int .i64 2]) (ok := fun _ => True) (okp := fun _ => True) ?hr ?hp (fun _ hk => hk) trivial (Below.refl _ _) (Nat.le_refl _) (by simp) ?_; (case hd => rfl); (case hg => rfl); (case hr => first | (go_simp; done) | (go_simp; rfl)); (case hp => exact (Reps.one (show Kd.M (Kd.int .i64) _ _ _ 1 [.int .i64 1] from rfl) (Reps.one (show Kd.M (Kd.int .i64) _ _ _ 2 [.int .i64 2] from rfl) (Reps.none _ _)))); intro v117 w21 ho22 hb hg_ hnew_; clear hg_ hnew_; (first | rw [← Ny116.out] at ho22 | (simp only [Int.reduceToNat] at ho22; rw [← Ny116.out] at ho22)); have n0_ := Aside0.mk (Kd.R_lower ho22 (below_size (by repeat (first | (with_reducible first | exact HB.out | apply below_alloc | apply pw_below_drewN | apply below_drew1) | exact HB.out)))); have n1_ := Aside0.mk (below_step (by repeat (first | (with_reducible first | exact HB.out | apply below_alloc | apply pw_below_drewN | apply below_drew1) | exact HB.out)) hb); clear HB; have HO118 := n0_; have HB := n1_; clear n0_ n1_; clear hb ho22) | ((with_reducible refine gate_dst (N := 9) rfl ?_); (try (refine gate_guard (by rfl) ?_; dsimp only)); refine Kd.R_lit (Kd.int .i64) _ 3 ?hg (N := 9) ?hd (xs := ([2, 4] : List Int)) (inner := [.int .i64 2, .int .i64 4]) (ok := fun _ => True) (okp := fun _ => True) ?hr ?hp (fun _ hk => hk) trivial (Below.refl _ _) (Nat.le_refl _) (by simp) ?_; (case hd => rfl); (case hg => rfl); (case hr => first | (go_simp; done) | (go_simp; rfl)); (case hp => exact (Reps.one (show Kd.M (Kd.int .i64) _ _ _ 2 [.int .i64 2] from rfl) (Reps.one (show Kd.M (Kd.int .i64) _ _ _ 4 [.int .i64 4] from rfl) (Reps.none _ _)))); intro v120 w23 ho24 hb hg_ hnew_; clear hg_ hnew_; (first | rw [← Ny119.out] at ho24 | (simp only [Int.reduceToNat] at ho24; rw [← Ny119.out] at ho24)); have n0_ := Aside0.mk (Kd.R_elder' (by (with_reducible repeat (first | apply Kd.R_alloc | apply Kd.R_drewN | apply Kd.R_drew)); exact HO118.out) (Kd.R_base ho24) hb); have n1_ := Aside0.mk (Kd.R_lower (Kd.R_new' ho24 (Kd.R_lt (by (with_reducible repeat (first | apply Kd.R_alloc | apply Kd.R_drewN | apply Kd.R_drew)); exact HO118.out))) (below_size (by repeat (first | (with_reducible first | exact HB.out | apply below_alloc | apply pw_below_drewN | apply below_drew1) | exact HB.out)))); have n2_ := Aside0.mk (below_step (by repeat (first | (with_reducible first | exact HB.out | apply below_alloc | apply pw_below_drewN | apply below_drew1) | exact HB.out)) hb); clear HO118; clear HB; have HO118 := n0_; have HO121 := n1_; have HB := n2_; clear n0_ n1_ n2_; clear hb ho24) | ((with_reducible refine gate_dst (N := 10) rfl ?_); (try (refine gate_guard (by rfl) ?_; dsimp only)); refine Kd.R_lit (Kd.int .i64) _ 3 ?hg (N := 10) ?hd (xs := ([0, 1] : List Int)) (inner := [.int .i64 0, .int .i64 1]) (ok := fun _ => True) (okp := fun _ => True) ?hr ?hp (fun _ hk => hk) trivial (Below.refl _ _) (Nat.le_refl _) (by simp) ?_; (case hd => rfl); (case hg => rfl); (case hr => first | (go_simp; done) | (go_simp; rfl)); (case hp => exact (Reps.one (show Kd.M (Kd.int .i64) _ _ _ 0 [.int .i64 0] from rfl) (Reps.one (show Kd.M (Kd.int .i64) _ _ _ 1 [.int .i64 1] from rfl) (Reps.none _ _)))); intro v123 w25 ho26 hb hg_ hnew_; clear hg_ hnew_; (first | rw [← Ny122.out] at ho26 | (simp only [Int.reduceToNat] at ho26; rw [← Ny122.out] at ho26)); have n0_ := Aside0.mk (Kd.R_elder' (by (with_reducible repeat (first | apply Kd.R_alloc | apply Kd.R_drewN | apply Kd.R_drew)); exact HO118.out) (Kd.R_base ho26) hb); have n1_ := Aside0.mk (Kd.R_elder' (by (with_reducible repeat (first | apply Kd.R_alloc | apply Kd.R_drewN | apply Kd.R_drew)); exact HO121.out) (Kd.R_base ho26) hb); have n2_ := Aside0.mk (Kd.R_lower (Kd.R_new' (Kd.R_new' ho26 (Kd.R_lt (by (with_reducible repeat (first | apply Kd.R_alloc | apply Kd.R_drewN | apply Kd.R_drew)); exact HO118.out))) (Kd.R_lt (by (with_reducible repeat (first | apply Kd.R_alloc | apply Kd.R_drewN | apply Kd.R_drew)); exact HO121.out))) (below_size (by repeat (first | (with_reducible first | exact HB.out | apply below_alloc | apply pw_below_drewN | apply below_drew1) | exact HB.out)))); have n3_ := Aside0.mk (below_step (by repeat (first | (with_reducible first | exact HB.out | apply below_alloc | apply pw_below_drewN | apply below_drew1) | exact HB.out)) hb); clear HO118; clear HO121; clear HB; have HO118 := n0_; have HO121 := n1_; have HO124 := n2_; have HB := n3_; clear n0_ n1_ n2_ n3_; clear hb ho26; obtain ⟨Ao27, co27, eo27⟩ := Kd.R_slice HO118.out; subst eo27; obtain ⟨Ao28, co28, eo28⟩ := Kd.R_slice HO121.out; subst eo28; obtain ⟨Ao29, co29, eo29⟩ := Kd.R_slice HO124.out; subst eo29) | ((with_reducible refine gate_dst (N := 11) rfl ?_); (try (refine gate_guard (by rfl) ?_; dsimp only)); refine Kd.N_lit (Kd.slice 3 (Kd.int .i64)) _ 26 ?hg (N' := 11) ?hd (xs := ([y116, y119, y122] : List (List Int))) (inner := [.slice Ao27 y116.length co27, .slice Ao28 y119.length co28, .slice Ao29 y122.length co29]) (ok := (fun _ => True)) (okp := (fun _ => True)) ?hr ?hp (fun _ hk => hk) ((show ∀ k_, w25.heap.size ≤ k_ → (fun _ => True) k_ from fun k_ hk => trivial) _ (Nat.le_refl _)) (Below.refl _ _) (Nat.le_refl _) (by simp) ?_; (case hd => rfl); (case hg => rfl); (case hr => first | (go_simp; done) | (go_simp; rfl)); (case hp => exact (Reps.one (show Kd.FK (Kd.slice 3 (Kd.int .i64)) _ _ y116 [.slice Ao27 y116.length co27] from (FKR2 (Kd.R_mono (ok' := (fun _ => True)) (HO118.out) (fun k_ hk => trivial)))) (Reps.one (show Kd.FK (Kd.slice 3 (Kd.int .i64)) _ _ y119 [.slice Ao28 y119.length co28] from (FKR2 (Kd.R_mono (ok' := (fun _ => True)) (HO121.out) (fun k_ hk => trivial)))) (Reps.one (show Kd.FK (Kd.slice 3 (Kd.int .i64)) _ _ y122 [.slice Ao29 y122.length co29] from (FKR2 (Kd.R_mono (ok' := (fun _ => True)) (HO124.out) (fun k_ hk => trivial)))) (Reps.none _ _))))); intro v126 w30 ho31 hb hg_ hnew_; clear hg_ hnew_; (first | rw [← Ny125.out] at ho31 | (simp only [Int.reduceToNat] at ho31; rw [← Ny125.out] at ho31)); have n0_ := Aside0.mk (Kd.N_lower ho31 (below_size (by repeat (first | (with_reducible first | exact HB.out | apply below_alloc | apply pw_below_drewN | apply below_drew1) | exact HB.out)))); have n1_ := Aside0.mk (below_step (by repeat (first | (with_reducible first | exact HB.out | apply below_alloc | apply pw_below_drewN | apply below_drew1) | exact HB.out)) hb); clear HB; clear HO118; clear HO121; clear HO124; have HO127 := n0_; have HB := n1_; clear n0_ n1_; clear hb ho31) | ((with_reducible refine gate_dst (N := 14) rfl ?_); (try (refine gate_guard (by rfl) ?_; dsimp only)); refine Kd.R_lit (Kd.int .i64) _ 3 ?hg (N := 14) ?hd (xs := ([3, 4] : List Int)) (inner := [.int .i64 3, .int .i64 4]) (ok := fun _ => True) (okp := fun _ => True) ?hr ?hp (fun _ hk => hk) trivial (Below.refl _ _) (Nat.le_refl _) (by simp) ?_; (case hd => rfl); (case hg => rfl); (case hr => first | (go_simp; done) | (go_simp; rfl)); (case hp => exact (Reps.one (show Kd.M (Kd.int .i64) _ _ _ 3 [.int .i64 3] from rfl) (Reps.one (show Kd.M (Kd.int .i64) _ _ _ 4 [.int .i64 4] from rfl) (Reps.none _ _)))); intro v129 w32 ho33 hb hg_ hnew_; clear hg_ hnew_; (first | rw [← Ny128.out] at ho33 | (simp only [Int.reduceToNat] at ho33; rw [← Ny128.out] at ho33)); have n0_ := Aside0.mk (Kd.N_elder' (by (with_reducible repeat (first | apply Kd.N_alloc | apply Kd.N_drewN | apply Kd.N_drew)); exact HO127.out) (Kd.R_base ho33) hb); have n1_ := Aside0.mk (Kd.R_lower ho33 (below_size (by repeat (first | (with_reducible first | exact HB.out | apply below_alloc | apply pw_below_drewN | apply below_drew1) | exact HB.out)))); have n2_ := Aside0.mk (below_step (by repeat (first | (with_reducible first | exact HB.out | apply below_alloc | apply pw_below_drewN | apply below_drew1) | exact HB.out)) hb); clear HO127; clear HB; have HO127 := n0_; have HO130 := n1_; have HB := n2_; clear n0_ n1_ n2_; clear hb ho33; obtain ⟨Ao34, co34, eo34⟩ := Kd.N_slice HO127.out; subst eo34; obtain ⟨Ao35, co35, eo35⟩ := Kd.R_slice HO130.out; subst eo35) | ((with_reducible refine gate_callee (f := 16) rfl ?_); refine goesL_ (some 15) rfl rfl Try.func16 (by kernel_rfl) rfl #[.int .i64 5, .int .i64 2, .slice Ao34 y125.length co34, .slice Ao35 y128.length co35] rfl (by (try simp only [List.map_toArray, List.map_cons, List.map_nil]); first | done | rfl | (simp only [List.length_drop, List.length_take]; rfl)) ?_; (with_reducible refine (elim_Combo.calls k 5 2 _ _ y125 _ _ y128 t131 true _ ?side1 ?side2 ?side3 ?side4 A1.out).mono ?_); (case side1 => repeat (first | exact (Kd.N_reads' HO127.out).2.2 | (with_reducible refine Kd.C_alloc ?_ _) | (with_reducible refine Kd.C_drewN ?_ _) | (with_reducible refine Kd.C_drew ?_))); (case side2 => exact (Kd.N_reads' HO127.out).2.1); (case side3 => repeat (first | exact (Kd.R_reads' HO130.out).2.2 | (with_reducible refine Kd.C_alloc ?_ _) | (with_reducible refine Kd.C_drewN ?_ _) | (with_reducible refine Kd.C_drew ?_))); (case side4 => exact (Kd.R_reads' HO130.out).2.1); rintro e w36 ⟨v133, rfl, ho0, hb⟩; refine ⟨_, rfl, ?_⟩; have n0_ := Aside0.mk (Kd.N_elder' (by (with_reducible repeat (first | apply Kd.N_alloc | apply Kd.N_drewN | apply Kd.N_drew)); exact HO127.out) (Kd.R_base ho0) hb); have n1_ := Aside0.mk (Kd.R_elder' (by (with_reducible repeat (first | apply Kd.R_alloc | apply Kd.R_drewN | apply Kd.R_drew)); exact HO130.out) (Kd.R_base ho0) hb); have n2_ := Aside0.mk (Kd.R_lower (Kd.R_new' ho0 (Kd.R_lt (by (with_reducible repeat (first | apply Kd.R_alloc | apply Kd.R_drewN | apply Kd.R_drew)); exact HO130.out))) (below_size (by repeat (first | (with_reducible first | exact HB.out | apply below_alloc | apply pw_below_drewN | apply below_drew1) | exact HB.out)))); have n3_ := Aside0.mk (below_step (by repeat (first | (with_reducible first | exact HB.out | apply below_alloc | apply pw_below_drewN | apply below_drew1) | exact HB.out)) hb); clear HO127; clear HO130; clear HB; have HO127 := n0_; have HO130 := n1_; have HO134 := n2_; have HB := n3_; clear n0_ n1_ n2_ n3_; (try clear hb); (try clear hb2); (try clear hk); (try clear hi); (try clear ho0); have q37 : (2 : Int) ≤ ((y125.length : Int) : Int) := of_decide_eq_true (by first | (with_reducible assumption) | assumption); obtain ⟨i037, hi037, _, hsz37, _⟩ := info_parts info26; have hroom37 : y125.length ≤ co34 := (Kd.N_reads' HO127.out).2.1; have hC37 : Kd.F (Kd.slice 3 (Kd.int .i64)) _ _ Ao34 y125.length y125 := (Kd.V_at (base := w.heap.size) (Kd.N_V HO127.out)).2.2; have hcut37 := cut_to (P := Try.prog) 22 26 .i64 Try.underlying22 hi037 Ao34 y125.length co34 2 (by omega) q37 hroom37; have hr37 := Kd.F_take (m := 2) hC37 (by omega); have hy37 : y135.length = (2 : Int).toNat := (by rw [Ny135.out, List.length_take]; omega); rw [← Ny135.out] at hr37; rw [← hy37] at hcut37; have HO139 := Aside0.mk (show Kd.V (Kd.slice 3 (Kd.int .i64)) 26 _ w.heap.size _ (.slice Ao34 y135.length co34) y135 from Kd.V_mk (by omega) hr37); have HC139 := Aside0.mk (show y135.length ≤ co34 from by omega); clear hr37 hC37 hroom37 hi037 hsz37; have KY37 := Aside0.mk hy37; clear hy37; replace q37 := eq_true q37) | ((with_reducible refine gate_dst (N := 21) rfl ?_); (try (refine gate_guard (by rfl) ?_; dsimp only)); refine Kd.R_lit (Kd.int .i64) _ 3 ?hg (N := 21) ?hd (xs := ([0, 1] : List Int)) (inner := [.int .i64 0, .int .i64 1]) (ok := fun _ => True) (okp := fun _ => True) ?hr ?hp (fun _ hk => hk) trivial (Below.refl _ _) (Nat.le_refl _) (by simp) ?_; (case hd => rfl); (case hg => rfl); (case hr => first | (go_simp; done) | (go_simp; rfl)); (case hp => exact (Reps.one (show Kd.M (Kd.int .i64) _ _ _ 0 [.int .i64 0] from rfl) (Reps.one (show Kd.M (Kd.int .i64) _ _ _ 1 [.int .i64 1] from rfl) (Reps.none _ _)))); intro v141 w38 ho39 hb hg_ hnew_; clear hg_ hnew_; (first | rw [← Ny140.out] at ho39 | (simp only [Int.reduceToNat] at ho39; rw [← Ny140.out] at ho39)); have n0_ := Aside0.mk (Kd.N_elder' (by (with_reducible repeat (first | apply Kd.N_alloc | apply Kd.N_drewN | apply Kd.N_drew)); exact HO127.out) (Kd.R_base ho39) hb); have n1_ := Aside0.mk (Kd.R_elder' (by (with_reducible repeat (first | apply Kd.R_alloc | apply Kd.R_drewN | apply Kd.R_drew)); exact HO130.out) (Kd.R_base ho39) hb); have n2_ := Aside0.mk (Kd.R_elder' (by (with_reducible repeat (first | apply Kd.R_alloc | apply Kd.R_drewN | apply Kd.R_drew)); exact HO134.out) (Kd.R_base ho39) hb); have n3_ := Aside0.mk (Kd.V_elder' (by (with_reducible repeat (first | apply Kd.V_alloc | apply Kd.V_drewN | apply Kd.V_drew)); exact HO139.out) (Kd.R_base ho39) hb); have n4_ := Aside0.mk (Kd.R_lower (Kd.R_new' (Kd.R_new' ho39 (Kd.R_lt (by (with_reducible repeat (first | apply Kd.R_alloc | apply Kd.R_drewN | apply Kd.R_drew)); exact HO130.out))) (Kd.R_lt (by (with_reducible repeat (first | apply Kd.R_alloc | apply Kd.R_drewN | apply Kd.R_drew)); exact HO134.out))) (below_size (by repeat (first | (with_reducible first | exact HB.out | apply below_alloc | apply pw_below_drewN | apply below_drew1) | exact HB.out)))); have n5_ := Aside0.mk (below_step (by repeat (first | (with_reducible first | exact HB.out | apply below_alloc | apply pw_below_drewN | apply below_drew1) | exact HB.out)) hb); clear HO127; clear HO130; clear HO134; clear HO139; clear HB; have HO127 := n0_; have HO130 := n1_; have HO134 := n2_; have HO139 := n3_; have HO142 := n4_; have HB := n5_; clear n0_ n1_ n2_ n3_ n4_ n5_; clear hb ho39; obtain ⟨Ao40, co40, eo40⟩ := Kd.R_slice HO142.out; subst eo40) | ((with_reducible refine gate_callee (f := 16) rfl ?_); refine goesL_ (some 22) rfl rfl Try.func16 (by kernel_rfl) rfl #[.int .i64 5, .int .i64 2, .slice Ao34 y135.length co34, .slice Ao40 y140.length co40] rfl (by (try simp only [List.map_toArray, List.map_cons, List.map_nil]); first | done | rfl | (simp only [List.length_drop, List.length_take]; rfl)) ?_; (with_reducible refine (elim_Combo.calls k 5 2 _ _ y135 _ _ y140 t143 false _ ?side1 ?side2 ?side3 ?side4 A3.out).mono ?_); (case side1 => repeat (first | exact (Kd.V_reads' HO139.out).2.2 | (with_reducible refine Kd.C_alloc ?_ _) | (with_reducible refine Kd.C_drewN ?_ _) | (with_reducible refine Kd.C_drew ?_))); (case side2 => exact (Kd.V_reads' HO139.out).2.1); (case side3 => repeat (first | exact (Kd.R_reads' HO142.out).2.2 | (with_reducible refine Kd.C_alloc ?_ _) | (with_reducible refine Kd.C_drewN ?_ _) | (with_reducible refine Kd.C_drew ?_))); (case side4 => exact (Kd.R_reads' HO142.out).2.1); rintro e w41 ⟨v145, rfl, ho0, hb⟩; refine ⟨_, rfl, ?_⟩; have n0_ := Aside0.mk (Kd.N_elder' (by (with_reducible repeat (first | apply Kd.N_alloc | apply Kd.N_drewN | apply Kd.N_drew)); exact HO127.out) (Kd.R_base ho0) hb); have n1_ := Aside0.mk (Kd.R_elder' (by (with_reducible repeat (first | apply Kd.R_alloc | apply Kd.R_drewN | apply Kd.R_drew)); exact HO130.out) (Kd.R_base ho0) hb); have n2_ := Aside0.mk (Kd.R_elder' (by (with_reducible repeat (first | apply Kd.R_alloc | apply Kd.R_drewN | apply Kd.R_drew)); exact HO134.out) (Kd.R_base ho0) hb); have n3_ := Aside0.mk (Kd.V_elder' (by (with_reducible repeat (first | apply Kd.V_alloc | apply Kd.V_drewN | apply Kd.V_drew)); exact HO139.out) (Kd.R_base ho0) hb); have n4_ := Aside0.mk (Kd.R_elder' (by (with_reducible repeat (first | apply Kd.R_alloc | apply Kd.R_drewN | apply Kd.R_drew)); exact HO142.out) (Kd.R_base ho0) hb); have n5_ := Aside0.mk (Kd.R_lower (Kd.R_new' (Kd.R_new' (Kd.R_new' ho0 (Kd.R_lt (by (with_reducible repeat (first | apply Kd.R_alloc | apply Kd.R_drewN | apply Kd.R_drew)); exact HO130.out))) (Kd.R_lt (by (with_reducible repeat (first | apply Kd.R_alloc | apply Kd.R_drewN | apply Kd.R_drew)); exact HO134.out))) (Kd.R_lt (by (with_reducible repeat (first | apply Kd.R_alloc | apply Kd.R_drewN | apply Kd.R_drew)); exact HO142.out))) (below_size (by repeat (first | (with_reducible first | exact HB.out | apply below_alloc | apply pw_below_drewN | apply below_drew1) | exact HB.out)))); have n6_ := Aside0.mk (below_step (by repeat (first | (with_reducible first | exact HB.out | apply below_alloc | apply pw_below_drewN | apply below_drew1) | exact HB.out)) hb); clear HO127; clear HO130; clear HO134; clear HO139; clear HO142; clear HB; have HO127 := n0_; have HO130 := n1_; have HO134 := n2_; have HO139 := n3_; have HO142 := n4_; have HO146 := n5_; have HB := n6_; clear n0_ n1_ n2_ n3_ n4_ n5_ n6_; (try clear hb); (try clear hb2); (try clear hk); (try clear hi); (try clear ho0)) | ((with_reducible refine gate_dst (N := 26) rfl ?_); (try (refine gate_guard (by rfl) ?_; dsimp only)); refine Kd.R_lit (Kd.int .i64) _ 3 ?hg (N := 26) ?hd (xs := ([0, 0] : List Int)) (inner := [.int .i64 0, .int .i64 0]) (ok := fun _ => True) (okp := fun _ => True) ?hr ?hp (fun _ hk => hk) trivial (Below.refl _ _) (Nat.le_refl _) (by simp) ?_; (case hd => rfl); (case hg => rfl); (case hr => first | (go_simp; done) | (go_simp; rfl)); (case hp => exact (Reps.one (show Kd.M (Kd.int .i64) _ _ _ 0 [.int .i64 0] from rfl) (Reps.one (show Kd.M (Kd.int .i64) _ _ _ 0 [.int .i64 0] from rfl) (Reps.none _ _)))); intro v148 w42 ho43 hb hg_ hnew_; clear hg_ hnew_; (first | rw [← Ny147.out] at ho43 | (simp only [Int.reduceToNat] at ho43; rw [← Ny147.out] at ho43)); have n0_ := Aside0.mk (Kd.N_elder' (by (with_reducible repeat (first | apply Kd.N_alloc | apply Kd.N_drewN | apply Kd.N_drew)); exact HO127.out) (Kd.R_base ho43) hb); have n1_ := Aside0.mk (Kd.R_elder' (by (with_reducible repeat (first | apply Kd.R_alloc | apply Kd.R_drewN | apply Kd.R_drew)); exact HO130.out) (Kd.R_base ho43) hb); have n2_ := Aside0.mk (Kd.R_elder' (by (with_reducible repeat (first | apply Kd.R_alloc | apply Kd.R_drewN | apply Kd.R_drew)); exact HO134.out) (Kd.R_base ho43) hb); have n3_ := Aside0.mk (Kd.V_elder' (by (with_reducible repeat (first | apply Kd.V_alloc | apply Kd.V_drewN | apply Kd.V_drew)); exact HO139.out) (Kd.R_base ho43) hb); have n4_ := Aside0.mk (Kd.R_elder' (by (with_reducible repeat (first | apply Kd.R_alloc | apply Kd.R_drewN | apply Kd.R_drew)); exact HO142.out) (Kd.R_base ho43) hb); have n5_ := Aside0.mk (Kd.R_elder' (by (with_reducible repeat (first | apply Kd.R_alloc | apply Kd.R_drewN | apply Kd.R_drew)); exact HO146.out) (Kd.R_base ho43) hb); have n6_ := Aside0.mk (Kd.R_lower (Kd.R_new' (Kd.R_new' (Kd.R_new' (Kd.R_new' ho43 (Kd.R_lt (by (with_reducible repeat (first | apply Kd.R_alloc | apply Kd.R_drewN | apply Kd.R_drew)); exact HO130.out))) (Kd.R_lt (by (with_reducible repeat (first | apply Kd.R_alloc | apply Kd.R_drewN | apply Kd.R_drew)); exact HO134.out))) (Kd.R_lt (by (with_reducible repeat (first | apply Kd.R_alloc | apply Kd.R_drewN | apply Kd.R_drew)); exact HO142.out))) (Kd.R_lt (by (with_reducible repeat (first | apply Kd.R_alloc | apply Kd.R_drewN | apply Kd.R_drew)); exact HO146.out))) (below_size (by repeat (first | (with_reducible first | exact HB.out | apply below_alloc | apply pw_below_drewN | apply below_drew1) | exact HB.out)))); have n7_ := Aside0.mk (below_step (by repeat (first | (with_reducible first | exact HB.out | apply below_alloc | apply pw_below_drewN | apply below_drew1) | exact HB.out)) hb); clear HO127; clear HO130; clear HO134; clear HO139; clear HO142; clear HO146; clear HB; have HO127 := n0_; have HO130 := n1_; have HO134 := n2_; have HO139 := n3_; have HO142 := n4_; have HO146 := n5_; have HO149 := n6_; have HB := n7_; clear n0_ n1_ n2_ n3_ n4_ n5_ n6_ n7_; clear hb ho43; obtain ⟨Ao44, co44, eo44⟩ := Kd.R_slice HO149.out; subst eo44) | ((with_reducible refine gate_callee (f := 16) rfl ?_); refine goesL_ (some 27) rfl rfl Try.func16 (by kernel_rfl) rfl #[.int .i64 5, .int .i64 2, .slice none 0 0, .slice Ao44 y147.length co44] rfl (by (try simp only [List.map_toArray, List.map_cons, List.map_nil]); first | done | rfl | (simp only [List.length_drop, List.length_take]; rfl)) ?_; (refine (elim_Combo.calls k 5 2 _ _ ([] : List (List Int)) _ _ y147 t150 true _ ?side1 ?side2 ?side3 ?side4 A4.out).mono ?_); (case side1 => exact Kd.C_nil _ _); (case side2 => exact Nat.le_refl _); (case side3 => repeat (first | exact (Kd.R_reads' HO149.out).2.2 | (with_reducible refine Kd.C_alloc ?_ _) | (with_reducible refine Kd.C_drewN ?_ _) | (with_reducible refine Kd.C_drew ?_))); (case side4 => exact (Kd.R_reads' HO149.out).2.1); rintro e w45 ⟨v152, rfl, ho0, hb⟩; refine ⟨_, rfl, ?_⟩; have n0_ := Aside0.mk (Kd.N_elder' (by (with_reducible repeat (first | apply Kd.N_alloc | apply Kd.N_drewN | apply Kd.N_drew)); exact HO127.out) (Kd.R_base ho0) hb); have n1_ := Aside0.mk (Kd.R_elder' (by (with_reducible repeat (first | apply Kd.R_alloc | apply Kd.R_drewN | apply Kd.R_drew)); exact HO130.out) (Kd.R_base ho0) hb); have n2_ := Aside0.mk (Kd.R_elder' (by (with_reducible repeat (first | apply Kd.R_alloc | apply Kd.R_drewN | apply Kd.R_drew)); exact HO134.out) (Kd.R_base ho0) hb); have n3_ := Aside0.mk (Kd.V_elder' (by (with_reducible repeat (first | apply Kd.V_alloc | apply Kd.V_drewN | apply Kd.V_drew)); exact HO139.out) (Kd.R_base ho0) hb); have n4_ := Aside0.mk (Kd.R_elder' (by (with_reducible repeat (first | apply Kd.R_alloc | apply Kd.R_drewN | apply Kd.R_drew)); exact HO142.out) (Kd.R_base ho0) hb); have n5_ := Aside0.mk (Kd.R_elder' (by (with_reducible repeat (first | apply Kd.R_alloc | apply Kd.R_drewN | apply Kd.R_drew)); exact HO146.out) (Kd.R_base ho0) hb); have n6_ := Aside0.mk (Kd.R_elder' (by (with_reducible repeat (first | apply Kd.R_alloc | apply Kd.R_drewN | apply Kd.R_drew)); exact HO149.out) (Kd.R_base ho0) hb); have n7_ := Aside0.mk (Kd.R_lower (Kd.R_new' (Kd.R_new' (Kd.R_new' (Kd.R_new' (Kd.R_new' ho0 (Kd.R_lt (by (with_reducible repeat (first | apply Kd.R_alloc | apply Kd.R_drewN | apply Kd.R_drew)); exact HO130.out))) (Kd.R_lt (by (with_reducible repeat (first | apply Kd.R_alloc | apply Kd.R_drewN | apply Kd.R_drew)); exact HO134.out))) (Kd.R_lt (by (with_reducible repeat (first | apply Kd.R_alloc | apply Kd.R_drewN | apply Kd.R_drew)); exact HO142.out))) (Kd.R_lt (by (with_reducible repeat (first | apply Kd.R_alloc | apply Kd.R_drewN | apply Kd.R_drew)); exact HO146.out))) (Kd.R_lt (by (with_reducible repeat (first | apply Kd.R_alloc | apply Kd.R_drewN | apply Kd.R_drew)); exact HO149.out))) (below_size (by repeat (first | (with_reducible first | exact HB.out | apply below_alloc | apply pw_below_drewN | apply below_drew1) | exact HB.out)))); have n8_ := Aside0.mk (below_step (by repeat (first | (with_reducible first | exact HB.out | apply below_alloc | apply pw_below_drewN | apply below_drew1) | exact HB.out)) hb); clear HO127; clear HO130; clear HO134; clear HO139; clear HO142; clear HO146; clear HO149; clear HB; have HO127 := n0_; have HO130 := n1_; have HO134 := n2_; have HO139 := n3_; have HO142 := n4_; have HO146 := n5_; have HO149 := n6_; have HO153 := n7_; have HB := n8_; clear n0_ n1_ n2_ n3_ n4_ n5_ n6_ n7_ n8_; (try clear hb); (try clear hb2); (try clear hk); (try clear hi); (try clear ho0)) | ((with_reducible refine gate_callee (f := 12) rfl ?_); refine goesL_ (some 31) rfl rfl Try.func12 (by kernel_rfl) rfl #[.int .i64 5, .int .i64 2, .slice Ao34 y125.length co34] rfl (by (try simp only [List.map_toArray, List.map_cons, List.map_nil]); first | done | rfl | (simp only [List.length_drop, List.length_take]; rfl)) ?_; (with_reducible refine (elim_Basis.calls k 5 2 _ _ y125 t154 _ ?side1 ?side2 A5.out).mono ?_); (case side1 => repeat (first | exact (Kd.N_reads' HO127.out).2.2 | (with_reducible refine Kd.C_alloc ?_ _) | (with_reducible refine Kd.C_drewN ?_ _) | (with_reducible refine Kd.C_drew ?_))); (case side2 => exact (Kd.N_reads' HO127.out).2.1); rintro e w46 ⟨v155, rfl, ho0, hb⟩; refine ⟨_, rfl, ?_⟩; have n0_ := Aside0.mk (Kd.N_elder' (by (with_reducible repeat (first | apply Kd.N_alloc | apply Kd.N_drewN | apply Kd.N_drew)); exact HO127.out) (Kd.R_base ho0) hb); have n1_ := Aside0.mk (Kd.R_elder' (by (with_reducible repeat (first | apply Kd.R_alloc | apply Kd.R_drewN | apply Kd.R_drew)); exact HO130.out) (Kd.R_base ho0) hb); have n2_ := Aside0.mk (Kd.R_elder' (by (with_reducible repeat (first | apply Kd.R_alloc | apply Kd.R_drewN | apply Kd.R_drew)); exact HO134.out) (Kd.R_base ho0) hb); have n3_ := Aside0.mk (Kd.V_elder' (by (with_reducible repeat (first | apply Kd.V_alloc | apply Kd.V_drewN | apply Kd.V_drew)); exact HO139.out) (Kd.R_base ho0) hb); have n4_ := Aside0.mk (Kd.R_elder' (by (with_reducible repeat (first | apply Kd.R_alloc | apply Kd.R_drewN | apply Kd.R_drew)); exact HO142.out) (Kd.R_base ho0) hb); have n5_ := Aside0.mk (Kd.R_elder' (by (with_reducible repeat (first | apply Kd.R_alloc | apply Kd.R_drewN | apply Kd.R_drew)); exact HO146.out) (Kd.R_base ho0) hb); have n6_ := Aside0.mk (Kd.R_elder' (by (with_reducible repeat (first | apply Kd.R_alloc | apply Kd.R_drewN | apply Kd.R_drew)); exact HO149.out) (Kd.R_base ho0) hb); have n7_ := Aside0.mk (Kd.R_elder' (by (with_reducible repeat (first | apply Kd.R_alloc | apply Kd.R_drewN | apply Kd.R_drew)); exact HO153.out) (Kd.R_base ho0) hb); have n8_ := Aside0.mk (Kd.R_lower (Kd.R_new' (Kd.R_new' (Kd.R_new' (Kd.R_new' (Kd.R_new' (Kd.R_new' ho0 (Kd.R_lt (by (with_reducible repeat (first | apply Kd.R_alloc | apply Kd.R_drewN | apply Kd.R_drew)); exact HO130.out))) (Kd.R_lt (by (with_reducible repeat (first | apply Kd.R_alloc | apply Kd.R_drewN | apply Kd.R_drew)); exact HO134.out))) (Kd.R_lt (by (with_reducible repeat (first | apply Kd.R_alloc | apply Kd.R_drewN | apply Kd.R_drew)); exact HO142.out))) (Kd.R_lt (by (with_reducible repeat (first | apply Kd.R_alloc | apply Kd.R_drewN | apply Kd.R_drew)); exact HO146.out))) (Kd.R_lt (by (with_reducible repeat (first | apply Kd.R_alloc | apply Kd.R_drewN | apply Kd.R_drew)); exact HO149.out))) (Kd.R_lt (by (with_reducible repeat (first | apply Kd.R_alloc | apply Kd.R_drewN | apply Kd.R_drew)); exact HO153.out))) (below_size (by repeat (first | (with_reducible first | exact HB.out | apply below_alloc | apply pw_below_drewN | apply below_drew1) | exact HB.out)))); have n9_ := Aside0.mk (below_step (by repeat (first | (with_reducible first | exact HB.out | apply below_alloc | apply pw_below_drewN | apply below_drew1) | exact HB.out)) hb); clear HO127; clear HO130; clear HO134; clear HO139; clear HO142; clear HO146; clear HO149; clear HO153; clear HB; have HO127 := n0_; have HO130 := n1_; have HO134 := n2_; have HO139 := n3_; have HO142 := n4_; have HO146 := n5_; have HO149 := n6_; have HO153 := n7_; have HO156 := n8_; have HB := n9_; clear n0_ n1_ n2_ n3_ n4_ n5_ n6_ n7_ n8_ n9_; (try clear hb); (try clear hb2); (try clear hk); (try clear hi); (try clear ho0)) | ((with_reducible refine gate_dst (N := 32) rfl ?_); (try (refine gate_guard (by rfl) ?_; dsimp only)); refine Kd.R_lit (Kd.int .i64) _ 3 ?hg (N := 32) ?hd (xs := ([0, 2] : List Int)) (inner := [.int .i64 0, .int .i64 2]) (ok := fun _ => True) (okp := fun _ => True) ?hr ?hp (fun _ hk => hk) trivial (Below.refl _ _) (Nat.le_refl _) (by simp) ?_; (case hd => rfl); (case hg => rfl); (case hr => first | (go_simp; done) | (go_simp; rfl)); (case hp => exact (Reps.one (show Kd.M (Kd.int .i64) _ _ _ 0 [.int .i64 0] from rfl) (Reps.one (show Kd.M (Kd.int .i64) _ _ _ 2 [.int .i64 2] from rfl) (Reps.none _ _)))); intro v158 w47 ho48 hb hg_ hnew_; clear hg_ hnew_; (first | rw [← Ny157.out] at ho48 | (simp only [Int.reduceToNat] at ho48; rw [← Ny157.out] at ho48)); have n0_ := Aside0.mk (Kd.N_elder' (by (with_reducible repeat (first | apply Kd.N_alloc | apply Kd.N_drewN | apply Kd.N_drew)); exact HO127.out) (Kd.R_base ho48) hb); have n1_ := Aside0.mk (Kd.R_elder' (by (with_reducible repeat (first | apply Kd.R_alloc | apply Kd.R_drewN | apply Kd.R_drew)); exact HO130.out) (Kd.R_base ho48) hb); have n2_ := Aside0.mk (Kd.R_elder' (by (with_reducible repeat (first | apply Kd.R_alloc | apply Kd.R_drewN | apply Kd.R_drew)); exact HO134.out) (Kd.R_base ho48) hb); have n3_ := Aside0.mk (Kd.V_elder' (by (with_reducible repeat (first | apply Kd.V_alloc | apply Kd.V_drewN | apply Kd.V_drew)); exact HO139.out) (Kd.R_base ho48) hb); have n4_ := Aside0.mk (Kd.R_elder' (by (with_reducible repeat (first | apply Kd.R_alloc | apply Kd.R_drewN | apply Kd.R_drew)); exact HO142.out) (Kd.R_base ho48) hb); have n5_ := Aside0.mk (Kd.R_elder' (by (with_reducible repeat (first | apply Kd.R_alloc | apply Kd.R_drewN | apply Kd.R_drew)); exact HO146.out) (Kd.R_base ho48) hb); have n6_ := Aside0.mk (Kd.R_elder' (by (with_reducible repeat (first | apply Kd.R_alloc | apply Kd.R_drewN | apply Kd.R_drew)); exact HO149.out) (Kd.R_base ho48) hb); have n7_ := Aside0.mk (Kd.R_elder' (by (with_reducible repeat (first | apply Kd.R_alloc | apply Kd.R_drewN | apply Kd.R_drew)); exact HO153.out) (Kd.R_base ho48) hb); have n8_ := Aside0.mk (Kd.R_elder' (by (with_reducible repeat (first | apply Kd.R_alloc | apply Kd.R_drewN | apply Kd.R_drew)); exact HO156.out) (Kd.R_base ho48) hb); have n9_ := Aside0.mk (Kd.R_lower (Kd.R_new' (Kd.R_new' (Kd.R_new' (Kd.R_new' (Kd.R_new' (Kd.R_new' (Kd.R_new' ho48 (Kd.R_lt (by (with_reducible repeat (first | apply Kd.R_alloc | apply Kd.R_drewN | apply Kd.R_drew)); exact HO130.out))) (Kd.R_lt (by (with_reducible repeat (first | apply Kd.R_alloc | apply Kd.R_drewN | apply Kd.R_drew)); exact HO134.out))) (Kd.R_lt (by (with_reducible repeat (first | apply Kd.R_alloc | apply Kd.R_drewN | apply Kd.R_drew)); exact HO142.out))) (Kd.R_lt (by (with_reducible repeat (first | apply Kd.R_alloc | apply Kd.R_drewN | apply Kd.R_drew)); exact HO146.out))) (Kd.R_lt (by (with_reducible repeat (first | apply Kd.R_alloc | apply Kd.R_drewN | apply Kd.R_drew)); exact HO149.out))) (Kd.R_lt (by (with_reducible repeat (first | apply Kd.R_alloc | apply Kd.R_drewN | apply Kd.R_drew)); exact HO153.out))) (Kd.R_lt (by (with_reducible repeat (first | apply Kd.R_alloc | apply Kd.R_drewN | apply Kd.R_drew)); exact HO156.out))) (below_size (by repeat (first | (with_reducible first | exact HB.out | apply below_alloc | apply pw_below_drewN | apply below_drew1) | exact HB.out)))); have n10_ := Aside0.mk (below_step (by repeat (first | (with_reducible first | exact HB.out | apply below_alloc | apply pw_below_drewN | apply below_drew1) | exact HB.out)) hb); clear HO127; clear HO130; clear HO134; clear HO139; clear HO142; clear HO146; clear HO149; clear HO153; clear HO156; clear HB; have HO127 := n0_; have HO130 := n1_; have HO134 := n2_; have HO139 := n3_; have HO142 := n4_; have HO146 := n5_; have HO149 := n6_; have HO153 := n7_; have HO156 := n8_; have HO159 := n9_; have HB := n10_; clear n0_ n1_ n2_ n3_ n4_ n5_ n6_ n7_ n8_ n9_ n10_; clear hb ho48; obtain ⟨Ao49, co49, eo49⟩ := Kd.R_slice HO156.out; subst eo49; obtain ⟨Ao50, co50, eo50⟩ := Kd.R_slice HO159.out; subst eo50) | ((with_reducible refine gate_callee (f := 11) rfl ?_); refine goesL_ (some 33) rfl rfl Try.func11 (by kernel_rfl) rfl #[.slice Ao49 t154.length co49, .slice Ao50 y157.length co50] rfl (by (try simp only [List.map_toArray, List.map_cons, List.map_nil]); first | done | rfl | (simp only [List.length_drop, List.length_take]; rfl)) ?_; (with_reducible refine (greenwoodref01_Same.calls k _ _ t154 _ _ y157 true _ ?side1 ?side2 ?side3 ?side4 A6.out).mono ?_); (case side1 => repeat (first | exact (Kd.R_reads' HO156.out).2.2 | (with_reducible refine Kd.C_alloc ?_ _) | (with_reducible refine Kd.C_drewN ?_ _) | (with_reducible refine Kd.C_drew ?_))); (case side2 => exact (Kd.R_reads' HO156.out).2.1); (case side3 => repeat (first | exact (Kd.R_reads' HO159.out).2.2 | (with_reducible refine Kd.C_alloc ?_ _) | (with_reducible refine Kd.C_drewN ?_ _) | (with_reducible refine Kd.C_drew ?_))); (case side4 => exact (Kd.R_reads' HO159.out).2.1); rintro e w' ⟨rfl, ⟨nd, rfl⟩⟩; refine ⟨_, rfl, ?_⟩) | (go_at_call 14; (with_reducible refine (elim_Rank.calls k 5 2 _ _ y125 t161 _ ?side1 ?side2 A8.out).mono ?_); (case side1 => repeat (first | exact (Kd.N_reads' HO127.out).2.2 | (with_reducible refine Kd.C_alloc ?_ _) | (with_reducible refine Kd.C_drewN ?_ _) | (with_reducible refine Kd.C_drew ?_))); (case side2 => exact (Kd.N_reads' HO127.out).2.1); rintro e w51 ⟨rfl, hb⟩; have n0_ := Aside0.mk (Kd.N_below (by (with_reducible repeat (first | apply Kd.N_alloc | apply Kd.N_drewN | apply Kd.N_drew)); exact HO127.out) hb); have n1_ := Aside0.mk (Kd.R_below (by (with_reducible repeat (first | apply Kd.R_alloc | apply Kd.R_drewN | apply Kd.R_drew)); exact HO130.out) hb); have n2_ := Aside0.mk (Kd.R_below (by (with_reducible repeat (first | apply Kd.R_alloc | apply Kd.R_drewN | apply Kd.R_drew)); exact HO134.out) hb); have n3_ := Aside0.mk (Kd.V_below (by (with_reducible repeat (first | apply Kd.V_alloc | apply Kd.V_drewN | apply Kd.V_drew)); exact HO139.out) hb); have n4_ := Aside0.mk (Kd.R_below (by (with_reducible repeat (first | apply Kd.R_alloc | apply Kd.R_drewN | apply Kd.R_drew)); exact HO142.out) hb); have n5_ := Aside0.mk (Kd.R_below (by (with_reducible repeat (first | apply Kd.R_alloc | apply Kd.R_drewN | apply Kd.R_drew)); exact HO146.out) hb); have n6_ := Aside0.mk (Kd.R_below (by (with_reducible repeat (first | apply Kd.R_alloc | apply Kd.R_drewN | apply Kd.R_drew)); exact HO149.out) hb); have n7_ := Aside0.mk (Kd.R_below (by (with_reducible repeat (first | apply Kd.R_alloc | apply Kd.R_drewN | apply Kd.R_drew)); exact HO153.out) hb); have n8_ := Aside0.mk (Kd.R_below (by (with_reducible repeat (first | apply Kd.R_alloc | apply Kd.R_drewN | apply Kd.R_drew)); exact HO156.out) hb); have n9_ := Aside0.mk (Kd.R_below (by (with_reducible repeat (first | apply Kd.R_alloc | apply Kd.R_drewN | apply Kd.R_drew)); exact HO159.out) hb); have n10_ := Aside0.mk (below_step (by repeat (first | (with_reducible first | exact HB.out | apply below_alloc | apply pw_below_drewN | apply below_drew1) | exact HB.out)) hb); clear HO127; clear HO130; clear HO134; clear HO139; clear HO142; clear HO146; clear HO149; clear HO153; clear HO156; clear HO159; clear HB; have HO127 := n0_; have HO130 := n1_; have HO134 := n2_; have HO139 := n3_; have HO142 := n4_; have HO146 := n5_; have HO149 := n6_; have HO153 := n7_; have HO156 := n8_; have HO159 := n9_; have HB := n10_; clear n0_ n1_ n2_ n3_ n4_ n5_ n6_ n7_ n8_ n9_ n10_; (try clear hb); (try clear hb2); (try clear hk); (try clear hi)) | ((with_reducible refine gate_dst (N := 44) rfl ?_); (try (refine gate_guard (by rfl) ?_; dsimp only)); refine Kd.R_lit (Kd.int .i64) _ 3 ?hg (N := 44) ?hd (xs := ([3, 0, 3] : List Int)) (inner := [.int .i64 3, .int .i64 0, .int .i64 3]) (ok := fun _ => True) (okp := fun _ => True) ?hr ?hp (fun _ hk => hk) trivial (Below.refl _ _) (Nat.le_refl _) (by simp) ?_; (case hd => rfl); (case hg => rfl); (case hr => first | (go_simp; done) | (go_simp; rfl)); (case hp => exact (Reps.one (show Kd.M (Kd.int .i64) _ _ _ 3 [.int .i64 3] from rfl) (Reps.one (show Kd.M (Kd.int .i64) _ _ _ 0 [.int .i64 0] from rfl) (Reps.one (show Kd.M (Kd.int .i64) _ _ _ 3 [.int .i64 3] from rfl) (Reps.none _ _))))); intro v163 w52 ho53 hb hg_ hnew_; clear hg_ hnew_; (first | rw [← Ny162.out] at ho53 | (simp only [Int.reduceToNat] at ho53; rw [← Ny162.out] at ho53)); have n0_ := Aside0.mk (Kd.N_elder' (by (with_reducible repeat (first | apply Kd.N_alloc | apply Kd.N_drewN | apply Kd.N_drew)); exact HO127.out) (Kd.R_base ho53) hb); have n1_ := Aside0.mk (Kd.R_elder' (by (with_reducible repeat (first | apply Kd.R_alloc | apply Kd.R_drewN | apply Kd.R_drew)); exact HO130.out) (Kd.R_base ho53) hb); have n2_ := Aside0.mk (Kd.R_elder' (by (with_reducible repeat (first | apply Kd.R_alloc | apply Kd.R_drewN | apply Kd.R_drew)); exact HO134.out) (Kd.R_base ho53) hb); have n3_ := Aside0.mk (Kd.V_elder' (by (with_reducible repeat (first | apply Kd.V_alloc | apply Kd.V_drewN | apply Kd.V_drew)); exact HO139.out) (Kd.R_base ho53) hb); have n4_ := Aside0.mk (Kd.R_elder' (by (with_reducible repeat (first | apply Kd.R_alloc | apply Kd.R_drewN | apply Kd.R_drew)); exact HO142.out) (Kd.R_base ho53) hb); have n5_ := Aside0.mk (Kd.R_elder' (by (with_reducible repeat (first | apply Kd.R_alloc | apply Kd.R_drewN | apply Kd.R_drew)); exact HO146.out) (Kd.R_base ho53) hb); have n6_ := Aside0.mk (Kd.R_elder' (by (with_reducible repeat (first | apply Kd.R_alloc | apply Kd.R_drewN | apply Kd.R_drew)); exact HO149.out) (Kd.R_base ho53) hb); have n7_ := Aside0.mk (Kd.R_elder' (by (with_reducible repeat (first | apply Kd.R_alloc | apply Kd.R_drewN | apply Kd.R_drew)); exact HO153.out) (Kd.R_base ho53) hb); have n8_ := Aside0.mk (Kd.R_elder' (by (with_reducible repeat (first | apply Kd.R_alloc | apply Kd.R_drewN | apply Kd.R_drew)); exact HO156.out) (Kd.R_base ho53) hb); have n9_ := Aside0.mk (Kd.R_elder' (by (with_reducible repeat (first | apply Kd.R_alloc | apply Kd.R_drewN | apply Kd.R_drew)); exact HO159.out) (Kd.R_base ho53) hb); have n10_ := Aside0.mk (Kd.R_lower (Kd.R_new' (Kd.R_new' (Kd.R_new' (Kd.R_new' (Kd.R_new' (Kd.R_new' (Kd.R_new' (Kd.R_new' ho53 (Kd.R_lt (by (with_reducible repeat (first | apply Kd.R_alloc | apply Kd.R_drewN | apply Kd.R_drew)); exact HO130.out))) (Kd.R_lt (by (with_reducible repeat (first | apply Kd.R_alloc | apply Kd.R_drewN | apply Kd.R_drew)); exact HO134.out))) (Kd.R_lt (by (with_reducible repeat (first | apply Kd.R_alloc | apply Kd.R_drewN | apply Kd.R_drew)); exact HO142.out))) (Kd.R_lt (by (with_reducible repeat (first | apply Kd.R_alloc | apply Kd.R_drewN | apply Kd.R_drew)); exact HO146.out))) (Kd.R_lt (by (with_reducible repeat (first | apply Kd.R_alloc | apply Kd.R_drewN | apply Kd.R_drew)); exact HO149.out))) (Kd.R_lt (by (with_reducible repeat (first | apply Kd.R_alloc | apply Kd.R_drewN | apply Kd.R_drew)); exact HO153.out))) (Kd.R_lt (by (with_reducible repeat (first | apply Kd.R_alloc | apply Kd.R_drewN | apply Kd.R_drew)); exact HO156.out))) (Kd.R_lt (by (with_reducible repeat (first | apply Kd.R_alloc | apply Kd.R_drewN | apply Kd.R_drew)); exact HO159.out))) (below_size (by repeat (first | (with_reducible first | exact HB.out | apply below_alloc | apply pw_below_drewN | apply below_drew1) | exact HB.out)))); have n11_ := Aside0.mk (below_step (by repeat (first | (with_reducible first | exact HB.out | apply below_alloc | apply pw_below_drewN | apply below_drew1) | exact HB.out)) hb); clear HO127; clear HO130; clear HO134; clear HO139; clear HO142; clear HO146; clear HO149; clear HO153; clear HO156; clear HO159; clear HB; have HO127 := n0_; have HO130 := n1_; have HO134 := n2_; have HO139 := n3_; have HO142 := n4_; have HO146 := n5_; have HO149 := n6_; have HO153 := n7_; have HO156 := n8_; have HO159 := n9_; have HO164 := n10_; have HB := n11_; clear n0_ n1_ n2_ n3_ n4_ n5_ n6_ n7_ n8_ n9_ n10_ n11_; clear hb ho53; obtain ⟨Ao54, co54, eo54⟩ := Kd.R_slice HO134.out; subst eo54; obtain ⟨Ao55, co55, eo55⟩ := Kd.R_slice HO164.out; subst eo55) | (go_at_call 11; (with_reducible refine (greenwoodref01_Same.calls k _ _ t131 _ _ y162 true _ ?side1 ?side2 ?side3 ?side4 A11.out).mono ?_); (case side1 => repeat (first | exact (Kd.R_reads' HO134.out).2.2 | (with_reducible refine Kd.C_alloc ?_ _) | (with_reducible refine Kd.C_drewN ?_ _) | (with_reducible refine Kd.C_drew ?_))); (case side2 => exact (Kd.R_reads' HO134.out).2.1); (case side3 => repeat (first | exact (Kd.R_reads' HO164.out).2.2 | (with_reducible refine Kd.C_alloc ?_ _) | (with_reducible refine Kd.C_drewN ?_ _) | (with_reducible refine Kd.C_drew ?_))); (case side4 => exact (Kd.R_reads' HO164.out).2.1); rintro e w' ⟨rfl, ⟨nd, rfl⟩⟩; obtain ⟨Ao56, co56, eo56⟩ := Kd.R_slice HO153.out; subst eo56) | (go_at_call 9; (with_reducible refine (elim_May.calls k 5 2 _ _ y125 true _ ?side1 ?side2 A16.out).mono ?_); (case side1 => repeat (first | exact (Kd.N_reads' HO127.out).2.2 | (with_reducible refine Kd.C_alloc ?_ _) | (with_reducible refine Kd.C_drewN ?_ _) | (with_reducible refine Kd.C_drew ?_))); (case side2 => exact (Kd.N_reads' HO127.out).2.1); rintro e w57 ⟨rfl, hb⟩; have n0_ := Aside0.mk (Kd.N_below (by (with_reducible repeat (first | apply Kd.N_alloc | apply Kd.N_drewN | apply Kd.N_drew)); exact HO127.out) hb); have n1_ := Aside0.mk (Kd.R_below (by (with_reducible repeat (first | apply Kd.R_alloc | apply Kd.R_drewN | apply Kd.R_drew)); exact HO130.out) hb); have n2_ := Aside0.mk (Kd.R_below (by (with_reducible repeat (first | apply Kd.R_alloc | apply Kd.R_drewN | apply Kd.R_drew)); exact HO134.out) hb); have n3_ := Aside0.mk (Kd.V_below (by (with_reducible repeat (first | apply Kd.V_alloc | apply Kd.V_drewN | apply Kd.V_drew)); exact HO139.out) hb); have n4_ := Aside0.mk (Kd.R_below (by (with_reducible repeat (first | apply Kd.R_alloc | apply Kd.R_drewN | apply Kd.R_drew)); exact HO142.out) hb); have n5_ := Aside0.mk (Kd.R_below (by (with_reducible repeat (first | apply Kd.R_alloc | apply Kd.R_drewN | apply Kd.R_drew)); exact HO146.out) hb); have n6_ := Aside0.mk (Kd.R_below (by (with_reducible repeat (first | apply Kd.R_alloc | apply Kd.R_drewN | apply Kd.R_drew)); exact HO149.out) hb); have n7_ := Aside0.mk (Kd.R_below (by (with_reducible repeat (first | apply Kd.R_alloc | apply Kd.R_drewN | apply Kd.R_drew)); exact HO153.out) hb); have n8_ := Aside0.mk (Kd.R_below (by (with_reducible repeat (first | apply Kd.R_alloc | apply Kd.R_drewN | apply Kd.R_drew)); exact HO156.out) hb); have n9_ := Aside0.mk (Kd.R_below (by (with_reducible repeat (first | apply Kd.R_alloc | apply Kd.R_drewN | apply Kd.R_drew)); exact HO159.out) hb); have n10_ := Aside0.mk (Kd.R_below (by (with_reducible repeat (first | apply Kd.R_alloc | apply Kd.R_drewN | apply Kd.R_drew)); exact HO164.out) hb); have n11_ := Aside0.mk (below_step (by repeat (first | (with_reducible first | exact HB.out | apply below_alloc | apply pw_below_drewN | apply below_drew1) | exact HB.out)) hb); clear HO127; clear HO130; clear HO134; clear HO139; clear HO142; clear HO146; clear HO149; clear HO153; clear HO156; clear HO159; clear HO164; clear HB; have HO127 := n0_; have HO130 := n1_; have HO134 := n2_; have HO139 := n3_; have HO142 := n4_; have HO146 := n5_; have HO149 := n6_; have HO153 := n7_; have HO156 := n8_; have HO159 := n9_; have HO164 := n10_; have HB := n11_; clear n0_ n1_ n2_ n3_ n4_ n5_ n6_ n7_ n8_ n9_ n10_ n11_; (try clear hb); (try clear hb2); (try clear hk); (try clear hi)) | (go_at_call 9; (with_reducible refine (elim_May.calls k 4 2 _ _ y125 false _ ?side1 ?side2 A18.out).mono ?_); (case side1 => repeat (first | exact (Kd.N_reads' HO127.out).2.2 | (with_reducible refine Kd.C_alloc ?_ _) | (with_reducible refine Kd.C_drewN ?_ _) | (with_reducible refine Kd.C_drew ?_))); (case side2 => exact (Kd.N_reads' HO127.out).2.1); rintro e w58 ⟨rfl, hb⟩; have n0_ := Aside0.mk (Kd.N_below (by (with_reducible repeat (first | apply Kd.N_alloc | apply Kd.N_drewN | apply Kd.N_drew)); exact HO127.out) hb); have n1_ := Aside0.mk (Kd.R_below (by (with_reducible repeat (first | apply Kd.R_alloc | apply Kd.R_drewN | apply Kd.R_drew)); exact HO130.out) hb); have n2_ := Aside0.mk (Kd.R_below (by (with_reducible repeat (first | apply Kd.R_alloc | apply Kd.R_drewN | apply Kd.R_drew)); exact HO134.out) hb); have n3_ := Aside0.mk (Kd.V_below (by (with_reducible repeat (first | apply Kd.V_alloc | apply Kd.V_drewN | apply Kd.V_drew)); exact HO139.out) hb); have n4_ := Aside0.mk (Kd.R_below (by (with_reducible repeat (first | apply Kd.R_alloc | apply Kd.R_drewN | apply Kd.R_drew)); exact HO142.out) hb); have n5_ := Aside0.mk (Kd.R_below (by (with_reducible repeat (first | apply Kd.R_alloc | apply Kd.R_drewN | apply Kd.R_drew)); exact HO146.out) hb); have n6_ := Aside0.mk (Kd.R_below (by (with_reducible repeat (first | apply Kd.R_alloc | apply Kd.R_drewN | apply Kd.R_drew)); exact HO149.out) hb); have n7_ := Aside0.mk (Kd.R_below (by (with_reducible repeat (first | apply Kd.R_alloc | apply Kd.R_drewN | apply Kd.R_drew)); exact HO153.out) hb); have n8_ := Aside0.mk (Kd.R_below (by (with_reducible repeat (first | apply Kd.R_alloc | apply Kd.R_drewN | apply Kd.R_drew)); exact HO156.out) hb); have n9_ := Aside0.mk (Kd.R_below (by (with_reducible repeat (first | apply Kd.R_alloc | apply Kd.R_drewN | apply Kd.R_drew)); exact HO159.out) hb); have n10_ := Aside0.mk (Kd.R_below (by (with_reducible repeat (first | apply Kd.R_alloc | apply Kd.R_drewN | apply Kd.R_drew)); exact HO164.out) hb); have n11_ := Aside0.mk (below_step (by repeat (first | (with_reducible first | exact HB.out | apply below_alloc | apply pw_below_drewN | apply below_drew1) | exact HB.out)) hb); clear HO127; clear HO130; clear HO134; clear HO139; clear HO142; clear HO146; clear HO149; clear HO153; clear HO156; clear HO159; clear HO164; clear HB; have HO127 := n0_; have HO130 := n1_; have HO134 := n2_; have HO139 := n3_; have HO142 := n4_; have HO146 := n5_; have HO149 := n6_; have HO153 := n7_; have HO156 := n8_; have HO159 := n9_; have HO164 := n10_; have HB := n11_; clear n0_ n1_ n2_ n3_ n4_ n5_ n6_ n7_ n8_ n9_ n10_ n11_; (try clear hb); (try clear hb2); (try clear hk); (try clear hi)) | (go_at_call 14; (with_reducible refine (elim_Rank.calls k 5 3 _ _ y125 t168 _ ?side1 ?side2 A20.out).mono ?_); (case side1 => repeat (first | exact (Kd.N_reads' HO127.out).2.2 | (with_reducible refine Kd.C_alloc ?_ _) | (with_reducible refine Kd.C_drewN ?_ _) | (with_reducible refine Kd.C_drew ?_))); (case side2 => exact (Kd.N_reads' HO127.out).2.1); rintro e w59 ⟨rfl, hb⟩; have n0_ := Aside0.mk (Kd.N_below (by (with_reducible repeat (first | apply Kd.N_alloc | apply Kd.N_drewN | apply Kd.N_drew)); exact HO127.out) hb); have n1_ := Aside0.mk (Kd.R_below (by (with_reducible repeat (first | apply Kd.R_alloc | apply Kd.R_drewN | apply Kd.R_drew)); exact HO130.out) hb); have n2_ := Aside0.mk (Kd.R_below (by (with_reducible repeat (first | apply Kd.R_alloc | apply Kd.R_drewN | apply Kd.R_drew)); exact HO134.out) hb); have n3_ := Aside0.mk (Kd.V_below (by (with_reducible repeat (first | apply Kd.V_alloc | apply Kd.V_drewN | apply Kd.V_drew)); exact HO139.out) hb); have n4_ := Aside0.mk (Kd.R_below (by (with_reducible repeat (first | apply Kd.R_alloc | apply Kd.R_drewN | apply Kd.R_drew)); exact HO142.out) hb); have n5_ := Aside0.mk (Kd.R_below (by (with_reducible repeat (first | apply Kd.R_alloc | apply Kd.R_drewN | apply Kd.R_drew)); exact HO146.out) hb); have n6_ := Aside0.mk (Kd.R_below (by (with_reducible repeat (first | apply Kd.R_alloc | apply Kd.R_drewN | apply Kd.R_drew)); exact HO149.out) hb); have n7_ := Aside0.mk (Kd.R_below (by (with_reducible repeat (first | apply Kd.R_alloc | apply Kd.R_drewN | apply Kd.R_drew)); exact HO153.out) hb); have n8_ := Aside0.mk (Kd.R_below (by (with_reducible repeat (first | apply Kd.R_alloc | apply Kd.R_drewN | apply Kd.R_drew)); exact HO156.out) hb); have n9_ := Aside0.mk (Kd.R_below (by (with_reducible repeat (first | apply Kd.R_alloc | apply Kd.R_drewN | apply Kd.R_drew)); exact HO159.out) hb); have n10_ := Aside0.mk (Kd.R_below (by (with_reducible repeat (first | apply Kd.R_alloc | apply Kd.R_drewN | apply Kd.R_drew)); exact HO164.out) hb); have n11_ := Aside0.mk (below_step (by repeat (first | (with_reducible first | exact HB.out | apply below_alloc | apply pw_below_drewN | apply below_drew1) | exact HB.out)) hb); clear HO127; clear HO130; clear HO134; clear HO139; clear HO142; clear HO146; clear HO149; clear HO153; clear HO156; clear HO159; clear HO164; clear HB; have HO127 := n0_; have HO130 := n1_; have HO134 := n2_; have HO139 := n3_; have HO142 := n4_; have HO146 := n5_; have HO149 := n6_; have HO153 := n7_; have HO156 := n8_; have HO159 := n9_; have HO164 := n10_; have HB := n11_; clear n0_ n1_ n2_ n3_ n4_ n5_ n6_ n7_ n8_ n9_ n10_ n11_; (try clear hb); (try clear hb2); (try clear hk); (try clear hi)))
                      go_ret
                      exact ⟨by first | rfl | (simp [errW_none, errW_some] <;> rfl) | (simp [*, errW_none, errW_some] <;> rfl), by repeat (first | (with_reducible first | exact HB.out | apply below_alloc | apply pw_below_drewN | apply below_drew1) | exact HB.out)⟩
                  · replace c17 := Bool.eq_false_iff.mpr c17
                    subst c17
                    have H1 : (some false) = some r := by rw [if_neg (show ¬ (false = true) by decide)] at H; exact H
                    clear H
                    have H := H1
                    clear H1
                    exact absurd ((Option.some.inj H).trans hrT) (by decide)
                · rw [if_neg c15] at H
                  have c15b0 : ((t150.length : Int) == 0) = false := beq_eq_false_iff_ne.mpr c15
                  have c15b1 : ((t150.length : Int) != 0) = true := bne_iff_ne.mpr c15
                  have c15b2 : ¬ (t150 = []) := fun h_ => c15 (by rw [h_]; rfl)
                  exact absurd ((Option.some.inj H).trans hrT) (by decide)
              · replace c14 := Bool.eq_false_iff.mpr c14
                subst c14
                have H1 : (some false) = some r := by rw [if_neg (show ¬ (false = true) by decide)] at H; exact H
                clear H
                have H := H1
                clear H1
                exact absurd ((Option.some.inj H).trans hrT) (by decide)
          · replace c12 := Bool.eq_false_iff.mpr c12
            subst c12
            have H1 : (some false) = some r := by rw [if_neg (show ¬ (false = true) by decide)] at H; exact H
            clear H
            have H := H1
            clear H1
            exact absurd ((Option.some.inj H).trans hrT) (by decide)
        · replace c10 := Bool.eq_false_iff.mpr c10
          subst c10
          have H1 : (some false) = some r := by rw [if_neg (show ¬ (false = true) by decide)] at H; exact H
          clear H
          have H := H1
          clear H1
          exact absurd ((Option.some.inj H).trans hrT) (by decide)
      · rw [if_neg c9] at H
        have c9b0 : (t161 == 2) = false := beq_eq_false_iff_ne.mpr c9
        have c9b1 : (t161 != 2) = true := bne_iff_ne.mpr c9
        exact absurd ((Option.some.inj H).trans hrT) (by decide)
    · replace c7 := Bool.eq_false_iff.mpr c7
      subst c7
      have H1 : (some false) = some r := by rw [if_neg (show ¬ (false = true) by decide)] at H; exact H
      clear H
      have H := H1
      clear H1
      exact absurd ((Option.some.inj H).trans hrT) (by decide)
  · rw [if_neg c2] at H
    exact absurd H (by simp)
theorem greenwoodlaw05_fixed.val : ∃ K, greenwoodlaw05_fixed.f K = some true := ⟨400, by decide +kernel⟩
theorem greenwoodlaw05_fixed.calls (k : Nat) (r : Bool) (w : World) (h : greenwoodlaw05_fixed.f k  = some r) :
    Calls Try.prog 8 #[] w fun e w' => e = .returned (.bool r) ∧ Below w.heap.size w w' :=
  greenwoodlaw05_fixed.callsT k r w (by obtain ⟨K, hK⟩ := greenwoodlaw05_fixed.val; have h1 := at_rounds greenwoodlaw05_fixed.mono (Nat.le_max_left k K) h; have h2 := at_rounds greenwoodlaw05_fixed.mono (Nat.le_max_right k K) hK; rw [h1] at h2; exact Option.some.inj h2) h
/-! ### greenwoodref04_Prime: function 23 -/
mutual
def greenwoodref04_Prime.j0 : Nat → Int → Bool → Option (Bool)
  | 0, _, _ => none
  | k + 1, x0, x9 => if x9 = true then (some false) else (greenwoodref04_Prime.l0 k x0 2)
def greenwoodref04_Prime.l0 : Nat → Int → Int → Option (Bool)
  | 0, _, _ => none
  | k + 1, x0, x3 => if (wrap64 (x3 * x3)) ≤ x0 then (if x3 = 0 then (none) else (if (Int.tmod x0 x3) = 0 then (some false) else (greenwoodref04_Prime.l0 k x0 (wrap64 (x3 + 1))))) else (some true)
end
def greenwoodref04_Prime.f (k : Nat) (a0 : Int) : Option (Bool) := if a0 < 2 then (greenwoodref04_Prime.j0 k a0 true) else (greenwoodref04_Prime.j0 k a0 (decide (a0 > 2147483647)))
theorem greenwoodref04_Prime.mono_l : ∀ k, (∀ y0 y1, LeO (greenwoodref04_Prime.j0 k y0 y1) (greenwoodref04_Prime.j0 (k + 1) y0 y1)) ∧ (∀ y0 y1, LeO (greenwoodref04_Prime.l0 k y0 y1) (greenwoodref04_Prime.l0 (k + 1) y0 y1))
  | 0 => ⟨fun _ _ r h => by simp [greenwoodref04_Prime.j0] at h, fun _ _ r h => by simp [greenwoodref04_Prime.l0] at h⟩
  | k + 1 => by
    obtain ⟨ih0, ih1⟩ := greenwoodref04_Prime.mono_l k
    refine ⟨?_, ?_⟩
    · intro y0 y1
      unfold greenwoodref04_Prime.j0
      repeat' first
      | (with_reducible exact ih0 _ _)
      | (with_reducible exact ih1 _ _)
      | (with_reducible exact LeO.refl _)
      | (with_reducible exact LeO.none _)
      | (with_reducible refine LeO.ite ?_ ?_)
      | (with_reducible refine LeO.bind ?_ (fun _ => ?_))
      | exact ih0 _ _
      | exact ih1 _ _
      | exact LeO.none _
      | refine LeO.ite ?_ ?_
      | refine LeO.bind ?_ (fun _ => ?_)
    · intro y0 y1
      unfold greenwoodref04_Prime.l0
      repeat' first
      | (with_reducible exact ih0 _ _)
      | (with_reducible exact ih1 _ _)
      | (with_reducible exact LeO.refl _)
      | (with_reducible exact LeO.none _)
      | (with_reducible refine LeO.ite ?_ ?_)
      | (with_reducible refine LeO.bind ?_ (fun _ => ?_))
      | exact ih0 _ _
      | exact ih1 _ _
      | exact LeO.none _
      | refine LeO.ite ?_ ?_
      | refine LeO.bind ?_ (fun _ => ?_)
theorem greenwoodref04_Prime.mono : ∀ a0 k, LeO (greenwoodref04_Prime.f k a0) (greenwoodref04_Prime.f (k + 1) a0) := by
  intro a0 k
  obtain ⟨ih0, ih1⟩ := greenwoodref04_Prime.mono_l k
  unfold greenwoodref04_Prime.f
  repeat' first
      | (with_reducible exact ih0 _ _)
      | (with_reducible exact ih1 _ _)
      | (with_reducible exact LeO.refl _)
      | (with_reducible exact LeO.none _)
      | (with_reducible refine LeO.ite ?_ ?_)
      | (with_reducible refine LeO.bind ?_ (fun _ => ?_))
      | exact ih0 _ _
      | exact ih1 _ _
      | exact LeO.none _
      | refine LeO.ite ?_ ?_
      | refine LeO.bind ?_ (fun _ => ?_)
set_option maxHeartbeats 8000000 in
set_option maxRecDepth 100000 in
theorem greenwoodref04_Prime.calls (k : Nat) (a0 : Int) (r : Bool) (w : World) (h : greenwoodref04_Prime.f k a0 = some r) :
    Calls Try.prog 23 #[.int .i64 a0] w fun e w' => e = .returned (.bool r) ∧ Drawn0 w w' := by
  have H : (if a0 < 2 then (greenwoodref04_Prime.j0 k a0 true) else (greenwoodref04_Prime.j0 k a0 (decide (a0 > 2147483647)))) = some r := h
  clear h
  have HC2 := Aside0.mk H
  clear H
  go_enter Try.func23, Try.ntmps23
  go_upto_region 1 with (fail)
  go_cut [9] (fun v9 wc => ∃ (kq : Nat) (x9_1 : Bool), v9 = .bool x9_1 ∧ Aside0 (greenwoodref04_Prime.j0 kq a0 x9_1 = some r) ∧ Aside0 (kq ≤ k) ∧ Drawn0 w wc)
  case first =>
    have H := HC2.out
    clear HC2
    by_cases c3 : a0 < 2
    · rw [if_pos c3] at H
      have c3b0 : decide (a0 < 2) = true := decide_eq_true c3
      clear c3
      (first | rw [c3b0] | (simp only [i64_w, i32_w]; rw [c3b0]) | skip)
      have H' := Aside0.mk H
      clear H
      go_wp2
      go_meet
      case rel => exact ⟨_, (true), (by first | rfl | (simp; done) | (simp [*]; done)), H', ⟨by first | omega | exact Nat.le_refl _⟩, by repeat (first | exact Drawn0.refl _ | apply Drawn0.step)⟩
    · rw [if_neg c3] at H
      have c3b0 : decide (a0 < 2) = false := decide_eq_false c3
      clear c3
      (first | rw [c3b0] | (simp only [i64_w, i32_w]; rw [c3b0]) | skip)
      have H' := Aside0.mk H
      clear H
      go_wp2
      go_meet
      case rel => exact ⟨_, (decide (a0 > 2147483647)), (by first | rfl | (simp; done) | (simp [*]; done)), H', ⟨by first | omega | exact Nat.le_refl _⟩, by repeat (first | exact Drawn0.refl _ | apply Drawn0.step)⟩
  case rest =>
    clear HC2
    try clear c2
    try clear p2
    try clear c3
    try clear c3b0
    obtain ⟨kq, x9_1, rfl, HA, HJ1, ⟨mc1, rfl⟩⟩ := hcut
    cases kq with
    | zero => exact absurd HA.out (by simp [greenwoodref04_Prime.j0])
    | succ kj1 =>
      have H := HA.out
      clear HA
      simp only [greenwoodref04_Prime.j0] at H
      by_cases c4 : x9_1 = true
      · subst c4
        have H1 : (some false) = some r := by rw [if_pos rfl] at H; exact H
        clear H
        have H := H1
        clear H1
        obtain rfl := Option.some.inj H
        go_wp2
        go_ret
        exact ⟨by first | rfl | (simp; done) | (simp [*]; done), by repeat (first | exact Drawn0.refl _ | apply Drawn0.step)⟩
      · replace c4 := Bool.eq_false_iff.mpr c4
        subst c4
        have H1 : (greenwoodref04_Prime.l0 kj1 a0 2) = some r := by rw [if_neg (show ¬ (false = true) by decide)] at H; exact H
        clear H
        have H := H1
        clear H1
        have H' := Aside0.mk H
        clear H
        go_wp2
        go_loopg [3] kj1 (fun kq v3 w' => ∃ (x3_2 : Int), v3 = .int .i64 x3_2 ∧ Aside0 (greenwoodref04_Prime.l0 kq a0 x3_2 = some r) ∧ Aside0 (kq ≤ kj1) ∧ Drawn0 w w')
        case atStart => exact ⟨(2), (by first | rfl | (simp; done) | (simp [*]; done)), H', ⟨Nat.le_refl _⟩, by repeat (first | exact Drawn0.refl _ | apply Drawn0.step)⟩
        case round =>
          clear H'
          try clear c1
          try clear c2
          try clear p2
          try clear c3
          try clear c3b0
          try clear c4
          try clear p2
          obtain ⟨x3_2, rfl, HA, HK2, ⟨m2, rfl⟩⟩ := hrel
          cases gk with
          | zero => exact absurd HA.out (by simp [greenwoodref04_Prime.l0])
          | succ k2 =>
            have H := HA.out
            clear HA
            simp only [greenwoodref04_Prime.l0] at H
            by_cases c5 : (wrap64 (x3_2 * x3_2)) ≤ a0
            · rw [if_pos c5] at H
              have c5b0 : decide ((wrap64 (x3_2 * x3_2)) ≤ a0) = true := decide_eq_true c5
              clear c5
              by_cases c6 : x3_2 = 0
              · rw [if_pos c6] at H
                exact absurd H (by simp)
              · rw [if_neg c6] at H
                have c6b0 : (x3_2 == 0) = false := beq_eq_false_iff_ne.mpr c6
                have c6b1 : (x3_2 != 0) = true := bne_iff_ne.mpr c6
                by_cases c7 : (Int.tmod a0 x3_2) = 0
                · rw [if_pos c7] at H
                  have c7b0 : ((Int.tmod a0 x3_2) == 0) = true := beq_iff_eq.mpr c7
                  have c7b1 : ((Int.tmod a0 x3_2) != 0) = false := bne_eq_false_iff_eq.mpr c7
                  clear c7
                  obtain rfl := Option.some.inj H
                  go_wp2
                  go_ret
                  exact ⟨by first | rfl | (simp; done) | (simp [*]; done), by repeat (first | exact Drawn0.refl _ | apply Drawn0.step)⟩
                · rw [if_neg c7] at H
                  have c7b0 : ((Int.tmod a0 x3_2) == 0) = false := beq_eq_false_iff_ne.mpr c7
                  have c7b1 : ((Int.tmod a0 x3_2) != 0) = true := bne_iff_ne.mpr c7
                  have H' := Aside0.mk H
                  clear H
                  go_wp2
                  go_roundg k2
                  case measure => have := HJ1.out; have := HK2.out; omega
                  case rel => exact ⟨(wrap64 (x3_2 + 1)), (by first | rfl | (simp; done) | (simp [*]; done)), H', ⟨by have := HJ1.out; have := HK2.out; omega⟩, by repeat (first | exact Drawn0.refl _ | apply Drawn0.step)⟩
            · rw [if_neg c5] at H
              have c5b0 : decide ((wrap64 (x3_2 * x3_2)) ≤ a0) = false := decide_eq_false c5
              clear c5
              obtain rfl := Option.some.inj H
              go_wp2
              go_ret
              exact ⟨by first | rfl | (simp; done) | (simp [*]; done), by repeat (first | exact Drawn0.refl _ | apply Drawn0.step)⟩
end Go.Proofs.Ytepakefmioeilaa.P
-- written by wip/tool/ownprint.py of this claim's own repository, out of the translation's print
namespace Go.Proofs.Ytepakefmioeilaa.P
open Go.RowKit Go.Proofs.YtepakefmioeilaaW.PrintWords Go.Proofs.YtepakefmioeilaaW.PrintLast Go.Proofs.YtepakefmioeilaaW.PrintMore
attribute [local go_sem] max2_int min2_int max_two min_two max_three min_three max_four min_four   -- for this text's walks alone
set_option linter.unusedVariables false
set_option linter.unusedSimpArgs false

/-! ### greenwoodref05_May: function 10 -/
mutual
def greenwoodref05_May.j0 : Nat → Int → Int → List (List Int) → Bool → Option (Bool)
  | 0, _, _, _, _ => none
  | k + 1, x0, x1, x2, x24 => if x24 = true then (some false) else (greenwoodref05_May.l0 k x0 x1 x2 0)
def greenwoodref05_May.l0 : Nat → Int → Int → List (List Int) → Int → Option (Bool)
  | 0, _, _, _, _ => none
  | k + 1, x0, x1, x2, x7 => if x7 < (x2.length : Int) then (if 0 ≤ x7 then (if ((rd_L1 x2 x7).length : Int) = x1 then (greenwoodref05_May.l1 k x0 x1 x2 x7 0) else (some false)) else (none)) else (some true)
def greenwoodref05_May.l1 : Nat → Int → Int → List (List Int) → Int → Int → Option (Bool)
  | 0, _, _, _, _, _ => none
  | k + 1, x0, x1, x2, x7, x8 => if x8 < x1 then (if 0 ≤ x7 then (if x7 < (x2.length : Int) then (if 0 ≤ x8 then (if x8 < ((rd_L1 x2 x7).length : Int) then (if (rd (rd_L1 x2 x7) x8) < 0 then (some false) else (if (rd (rd_L1 x2 x7) x8) ≥ x0 then (some false) else (greenwoodref05_May.l1 k x0 x1 x2 x7 (wrap64 (x8 + 1))))) else (none)) else (none)) else (none)) else (none)) else (greenwoodref05_May.l0 k x0 x1 x2 (wrap64 (x7 + 1)))
end
def greenwoodref05_May.f (k : Nat) (a0 : Int) (a1 : Int) (l2 : List (List Int)) : Option (Bool) := (greenwoodref04_Prime.f k a0).bind fun t169 => (if t169 = true then (if a1 < 0 then (greenwoodref05_May.j0 k a0 a1 l2 true) else (if a1 > 64 then (greenwoodref05_May.j0 k a0 a1 l2 true) else (greenwoodref05_May.j0 k a0 a1 l2 (decide ((l2.length : Int) > 64))))) else (greenwoodref05_May.j0 k a0 a1 l2 true))
set_option maxHeartbeats 8000000 in
set_option maxRecDepth 100000 in
theorem greenwoodref05_May.calls (k : Nat) (a0 : Int) (a1 : Int) (A2 : Option Addr) (c2 : Nat) (l2 : List (List Int)) (r : Bool) (w : World) (hr2 : Kd.C (Kd.slice 3 (Kd.int .i64)) w A2 l2.length l2) (hc2 : l2.length ≤ c2) (h : greenwoodref05_May.f k a0 a1 l2 = some r) :
    Calls Try.prog 10 #[.int .i64 a0, .int .i64 a1, .slice A2 l2.length c2] w fun e w' => e = .returned (.bool r) ∧ Drawn0 w w' := by
  have HR2 := Aside0.mk hr2
  have HC2 := Aside0.mk hc2
  clear hr2 hc2
  have H : ((greenwoodref04_Prime.f k a0).bind fun t169 => (if t169 = true then (if a1 < 0 then (greenwoodref05_May.j0 k a0 a1 l2 true) else (if a1 > 64 then (greenwoodref05_May.j0 k a0 a1 l2 true) else (greenwoodref05_May.j0 k a0 a1 l2 (decide ((l2.length : Int) > 64))))) else (greenwoodref05_May.j0 k a0 a1 l2 true))) = some r := h
  clear h
  have HC4 := Aside0.mk H
  clear H
  go_enter Try.func10, Try.ntmps10
  go_upto_region 1 with (fail)
  go_cut [24] (fun v24 wc => ∃ (kq : Nat) (x24_3 : Bool), v24 = .bool x24_3 ∧ Aside0 (greenwoodref05_May.j0 kq a0 a1 l2 x24_3 = some r) ∧ Aside0 (kq ≤ k) ∧ Drawn0 w wc)
  case first =>
    have H := HC4.out
    clear HC4
    replace H := Option.bind_eq_some_iff.mp H
    obtain ⟨t169, A50, H⟩ := H
    replace H : (if t169 = true then (if a1 < 0 then (greenwoodref05_May.j0 k a0 a1 l2 true) else (if a1 > 64 then (greenwoodref05_May.j0 k a0 a1 l2 true) else (greenwoodref05_May.j0 k a0 a1 l2 (decide ((l2.length : Int) > 64))))) else (greenwoodref05_May.j0 k a0 a1 l2 true)) = some r := H
    have A5 := Aside0.mk A50
    clear A50
    by_cases c6 : t169 = true
    · subst c6
      have H1 : (if a1 < 0 then (greenwoodref05_May.j0 k a0 a1 l2 true) else (if a1 > 64 then (greenwoodref05_May.j0 k a0 a1 l2 true) else (greenwoodref05_May.j0 k a0 a1 l2 (decide ((l2.length : Int) > 64))))) = some r := by rw [if_pos rfl] at H; exact H
      clear H
      have H := H1
      clear H1
      by_cases c7 : a1 < 0
      · rw [if_pos c7] at H
        have c7b0 : decide (a1 < 0) = true := decide_eq_true c7
        clear c7
        (first | rw [c7b0] | (simp only [i64_w, i32_w]; rw [c7b0]) | skip)
        have H' := Aside0.mk H
        clear H
        go_wp2_with (first | ((with_reducible refine gate_callee (f := 23) rfl ?_); refine goesL_ (some 10) rfl rfl Try.func23 (by kernel_rfl) rfl #[.int .i64 a0] rfl (by (try simp only [List.map_toArray, List.map_cons, List.map_nil]); first | done | rfl | (simp only [List.length_drop, List.length_take]; rfl)) ?_; (with_reducible refine (greenwoodref04_Prime.calls k a0 true _ A5.out).mono ?_); rintro e w' ⟨rfl, ⟨nd, rfl⟩⟩; refine ⟨_, rfl, ?_⟩))
        go_meet
        case rel => exact ⟨_, (true), (by first | rfl | (simp; done) | (simp [*]; done)), H', ⟨by first | omega | exact Nat.le_refl _⟩, by repeat (first | exact Drawn0.refl _ | apply Drawn0.step)⟩
      · rw [if_neg c7] at H
        have c7b0 : decide (a1 < 0) = false := decide_eq_false c7
        clear c7
        (first | rw [c7b0] | (simp only [i64_w, i32_w]; rw [c7b0]) | skip)
        by_cases c8 : a1 > 64
        · rw [if_pos c8] at H
          have c8b0 : decide (64 < a1) = true := decide_eq_true c8
          clear c8
          have H' := Aside0.mk H
          clear H
          go_wp2_with (first | ((with_reducible refine gate_callee (f := 23) rfl ?_); refine goesL_ (some 10) rfl rfl Try.func23 (by kernel_rfl) rfl #[.int .i64 a0] rfl (by (try simp only [List.map_toArray, List.map_cons, List.map_nil]); first | done | rfl | (simp only [List.length_drop, List.length_take]; rfl)) ?_; (with_reducible refine (greenwoodref04_Prime.calls k a0 true _ A5.out).mono ?_); rintro e w' ⟨rfl, ⟨nd, rfl⟩⟩; refine ⟨_, rfl, ?_⟩))
          go_meet
          case rel => exact ⟨_, (true), (by first | rfl | (simp; done) | (simp [*]; done)), H', ⟨by first | omega | exact Nat.le_refl _⟩, by repeat (first | exact Drawn0.refl _ | apply Drawn0.step)⟩
        · rw [if_neg c8] at H
          have c8b0 : decide (64 < a1) = false := decide_eq_false c8
          clear c8
          have H' := Aside0.mk H
          clear H
          go_wp2_with (first | ((with_reducible refine gate_callee (f := 23) rfl ?_); refine goesL_ (some 10) rfl rfl Try.func23 (by kernel_rfl) rfl #[.int .i64 a0] rfl (by (try simp only [List.map_toArray, List.map_cons, List.map_nil]); first | done | rfl | (simp only [List.length_drop, List.length_take]; rfl)) ?_; (with_reducible refine (greenwoodref04_Prime.calls k a0 true _ A5.out).mono ?_); rintro e w' ⟨rfl, ⟨nd, rfl⟩⟩; refine ⟨_, rfl, ?_⟩))
          go_meet
          case rel => exact ⟨_, (decide ((l2.length : Int) > 64)), (by first | rfl | (simp; done) | (simp [*]; done)), H', ⟨by first | omega | exact Nat.le_refl _⟩, by repeat (first | exact Drawn0.refl _ | apply Drawn0.step)⟩
    · replace c6 := Bool.eq_false_iff.mpr c6
      subst c6
      have H1 : (greenwoodref05_May.j0 k a0 a1 l2 true) = some r := by rw [if_neg (show ¬ (false = true) by decide)] at H; exact H
      clear H
      have H := H1
      clear H1
      have H' := Aside0.mk H
      clear H
      go_wp2_with (first | ((with_reducible refine gate_callee (f := 23) rfl ?_); refine goesL_ (some 10) rfl rfl Try.func23 (by kernel_rfl) rfl #[.int .i64 a0] rfl (by (try simp only [List.map_toArray, List.map_cons, List.map_nil]); first | done | rfl | (simp only [List.length_drop, List.length_take]; rfl)) ?_; (with_reducible refine (greenwoodref04_Prime.calls k a0 false _ A5.out).mono ?_); rintro e w' ⟨rfl, ⟨nd, rfl⟩⟩; refine ⟨_, rfl, ?_⟩))
      go_meet
      case rel => exact ⟨_, (true), (by first | rfl | (simp; done) | (simp [*]; done)), H', ⟨by first | omega | exact Nat.le_refl _⟩, by repeat (first | exact Drawn0.refl _ | apply Drawn0.step)⟩
  case rest =>
    clear HC4
    try clear c1
    try clear c2
    try clear p2
    try clear c6
    try clear c7
    try clear c7b0
    try clear c8
    try clear c8b0
    obtain ⟨kq, x24_3, rfl, HA, HJ3, ⟨mc3, rfl⟩⟩ := hcut
    cases kq with
    | zero => exact absurd HA.out (by simp [greenwoodref05_May.j0])
    | succ kj3 =>
      have H := HA.out
      clear HA
      simp only [greenwoodref05_May.j0] at H
      by_cases c9 : x24_3 = true
      · subst c9
        have H1 : (some false) = some r := by rw [if_pos rfl] at H; exact H
        clear H
        have H := H1
        clear H1
        obtain rfl := Option.some.inj H
        go_wp2
        go_ret
        exact ⟨by first | rfl | (simp; done) | (simp [*]; done), by repeat (first | exact Drawn0.refl _ | apply Drawn0.step)⟩
      · replace c9 := Bool.eq_false_iff.mpr c9
        subst c9
        have H1 : (greenwoodref05_May.l0 kj3 a0 a1 l2 0) = some r := by rw [if_neg (show ¬ (false = true) by decide)] at H; exact H
        clear H
        have H := H1
        clear H1
        have H' := Aside0.mk H
        clear H
        go_wp2
        go_loopg [7] kj3 (fun kq v7 w' => ∃ (x7_2 : Int), v7 = .int .i64 x7_2 ∧ Aside0 (greenwoodref05_May.l0 kq a0 a1 l2 x7_2 = some r) ∧ Aside0 (kq ≤ kj3) ∧ Drawn0 w w')
        case atStart => exact ⟨(0), (by first | rfl | (simp; done) | (simp [*]; done)), H', ⟨Nat.le_refl _⟩, by repeat (first | exact Drawn0.refl _ | apply Drawn0.step)⟩
        case round =>
          clear H'
          try clear c1
          try clear c2
          try clear p2
          try clear c3
          try clear c6
          try clear c7
          try clear c7b0
          try clear c8
          try clear c8b0
          try clear c9
          try clear p2
          obtain ⟨x7_2, rfl, HA, HK2, ⟨m2, rfl⟩⟩ := hrel
          cases gk with
          | zero => exact absurd HA.out (by simp [greenwoodref05_May.l0])
          | succ k2 =>
            have H := HA.out
            clear HA
            simp only [greenwoodref05_May.l0] at H
            by_cases c10 : x7_2 < (l2.length : Int)
            · rw [if_pos c10] at H
              have c10b0 : decide (x7_2 < (l2.length : Int)) = true := decide_eq_true c10
              clear c10
              by_cases c11 : 0 ≤ x7_2
              · rw [if_pos c11] at H
                have c11b0 : decide (0 ≤ x7_2) = true := decide_eq_true c11
                clear c11
                by_cases c12 : ((rd_L1 l2 x7_2).length : Int) = a1
                · rw [if_pos c12] at H
                  have c12b0 : (((rd_L1 l2 x7_2).length : Int) == a1) = true := beq_iff_eq.mpr c12
                  have c12b1 : (((rd_L1 l2 x7_2).length : Int) != a1) = false := bne_eq_false_iff_eq.mpr c12
                  clear c12
                  have H' := Aside0.mk H
                  clear H
                  have p170 : 0 ≤ (x7_2 : Int) := of_decide_eq_true (by first | (with_reducible assumption) | assumption)
                  have q170 : x7_2 < (l2.length : Int) := of_decide_eq_true (by first | (with_reducible assumption) | assumption)
                  obtain ⟨ad170, A170_0, c170_0, e170, hx170_0, hl170_0, hi170_0⟩ := at_L1 HR2.out x7_2 p170 q170
                  cases e170
                  have HR170_0 := Aside0.mk hi170_0
                  have HC170_0 := Aside0.mk hl170_0
                  clear hi170_0 hl170_0
                  replace p170 := eq_true p170
                  replace q170 := eq_true q170
                  go_wp2
                  go_loopg [8] k2 (fun kq v8 w' => ∃ (x8_3 : Int), v8 = .int .i64 x8_3 ∧ Aside0 (greenwoodref05_May.l1 kq a0 a1 l2 x7_2 x8_3 = some r) ∧ Aside0 (kq ≤ k2) ∧ Drawn0 w w')
                  case atStart => exact ⟨(0), (by first | rfl | (simp; done) | (simp [*]; done)), H', ⟨Nat.le_refl _⟩, by repeat (first | exact Drawn0.refl _ | apply Drawn0.step)⟩
                  case round =>
                    clear H'
                    try clear c1
                    try clear p1
                    try clear q1
                    try clear hx1
                    try clear c2
                    try clear p2
                    try clear c3
                    try clear c6
                    try clear c7
                    try clear c7b0
                    try clear c8
                    try clear c8b0
                    try clear c9
                    try clear c10
                    try clear c10b0
                    try clear c11
                    try clear c11b0
                    try clear c12
                    try clear c12b0
                    try clear c12b1
                    try clear hx170_0
                    try clear p170
                    try clear p2
                    try clear q170
                    obtain ⟨x8_3, rfl, HA, HK3, ⟨m3, rfl⟩⟩ := hrel
                    cases gk with
                    | zero => exact absurd HA.out (by simp [greenwoodref05_May.l1])
                    | succ k3 =>
                      have H := HA.out
                      clear HA
                      simp only [greenwoodref05_May.l1] at H
                      by_cases c13 : x8_3 < a1
                      · rw [if_pos c13] at H
                        have c13b0 : decide (x8_3 < a1) = true := decide_eq_true c13
                        clear c13
                        by_cases c14 : 0 ≤ x7_2
                        · rw [if_pos c14] at H
                          have c14b0 : decide (0 ≤ x7_2) = true := decide_eq_true c14
                          clear c14
                          by_cases c15 : x7_2 < (l2.length : Int)
                          · rw [if_pos c15] at H
                            have c15b0 : decide (x7_2 < (l2.length : Int)) = true := decide_eq_true c15
                            clear c15
                            by_cases c16 : 0 ≤ x8_3
                            · rw [if_pos c16] at H
                              have c16b0 : decide (0 ≤ x8_3) = true := decide_eq_true c16
                              clear c16
                              by_cases c17 : x8_3 < ((rd_L1 l2 x7_2).length : Int)
                              · rw [if_pos c17] at H
                                have c17b0 : decide (x8_3 < ((rd_L1 l2 x7_2).length : Int)) = true := decide_eq_true c17
                                clear c17
                                by_cases c18 : (rd (rd_L1 l2 x7_2) x8_3) < 0
                                · rw [if_pos c18] at H
                                  have c18b0 : decide ((rd (rd_L1 l2 x7_2) x8_3) < 0) = true := decide_eq_true c18
                                  clear c18
                                  obtain rfl := Option.some.inj H
                                  have p171 : 0 ≤ (x7_2 : Int) := of_decide_eq_true (by first | (with_reducible assumption) | assumption)
                                  have q171 : x7_2 < (l2.length : Int) := of_decide_eq_true (by first | (with_reducible assumption) | assumption)
                                  obtain ⟨ad171, A171_0, c171_0, e171, hx171_0, hl171_0, hi171_0⟩ := at_L1 HR2.out x7_2 p171 q171
                                  obtain rfl : ad170 = ad171 := (by injection e171)
                                  have HR171_0 := Aside0.mk hi171_0
                                  have HC171_0 := Aside0.mk hl171_0
                                  clear hi171_0 hl171_0
                                  replace p171 := eq_true p171
                                  replace q171 := eq_true q171
                                  have p172 : 0 ≤ (x8_3 : Int) := of_decide_eq_true (by first | (with_reducible assumption) | assumption)
                                  have q172 : x8_3 < ((rd_L1 l2 x7_2).length : Int) := of_decide_eq_true (by first | (with_reducible assumption) | assumption)
                                  obtain ⟨ad172, e172, hx172_0⟩ := Kd.at_int HR171_0.out x8_3 p172 q172
                                  cases e172
                                  replace p172 := eq_true p172
                                  replace q172 := eq_true q172
                                  go_wp2
                                  go_ret
                                  exact ⟨by first | rfl | (simp; done) | (simp [*]; done), by repeat (first | exact Drawn0.refl _ | apply Drawn0.step)⟩
                                · rw [if_neg c18] at H
                                  have c18b0 : decide ((rd (rd_L1 l2 x7_2) x8_3) < 0) = false := decide_eq_false c18
                                  clear c18
                                  by_cases c19 : (rd (rd_L1 l2 x7_2) x8_3) ≥ a0
                                  · rw [if_pos c19] at H
                                    have c19b0 : decide (a0 ≤ (rd (rd_L1 l2 x7_2) x8_3)) = true := decide_eq_true c19
                                    clear c19
                                    obtain rfl := Option.some.inj H
                                    have p171 : 0 ≤ (x7_2 : Int) := of_decide_eq_true (by first | (with_reducible assumption) | assumption)
                                    have q171 : x7_2 < (l2.length : Int) := of_decide_eq_true (by first | (with_reducible assumption) | assumption)
                                    obtain ⟨ad171, A171_0, c171_0, e171, hx171_0, hl171_0, hi171_0⟩ := at_L1 HR2.out x7_2 p171 q171
                                    obtain rfl : ad170 = ad171 := (by injection e171)
                                    have HR171_0 := Aside0.mk hi171_0
                                    have HC171_0 := Aside0.mk hl171_0
                                    clear hi171_0 hl171_0
                                    replace p171 := eq_true p171
                                    replace q171 := eq_true q171
                                    have p172 : 0 ≤ (x8_3 : Int) := of_decide_eq_true (by first | (with_reducible assumption) | assumption)
                                    have q172 : x8_3 < ((rd_L1 l2 x7_2).length : Int) := of_decide_eq_true (by first | (with_reducible assumption) | assumption)
                                    obtain ⟨ad172, e172, hx172_0⟩ := Kd.at_int HR171_0.out x8_3 p172 q172
                                    cases e172
                                    replace p172 := eq_true p172
                                    replace q172 := eq_true q172
                                    have p173 : 0 ≤ (x7_2 : Int) := of_decide_eq_true (by first | (with_reducible assumption) | assumption)
                                    have q173 : x7_2 < (l2.length : Int) := of_decide_eq_true (by first | (with_reducible assumption) | assumption)
                                    obtain ⟨ad173, A173_0, c173_0, e173, hx173_0, hl173_0, hi173_0⟩ := at_L1 HR2.out x7_2 p173 q173
                                    obtain rfl : ad170 = ad173 := (by injection e173)
                                    have HR173_0 := Aside0.mk hi173_0
                                    have HC173_0 := Aside0.mk hl173_0
                                    clear hi173_0 hl173_0
                                    replace p173 := eq_true p173
                                    replace q173 := eq_true q173
                                    have ea_ := Option.some.inj (hx171_0.symm.trans hx173_0)
                                    injection ea_ with ea_ en_ ec_
                                    subst ea_
                                    subst ec_
                                    clear en_
                                    have p174 : 0 ≤ (x8_3 : Int) := of_decide_eq_true (by first | (with_reducible assumption) | assumption)
                                    have q174 : x8_3 < ((rd_L1 l2 x7_2).length : Int) := of_decide_eq_true (by first | (with_reducible assumption) | assumption)
                                    obtain ⟨ad174, e174, hx174_0⟩ := Kd.at_int HR173_0.out x8_3 p174 q174
                                    cases e174
                                    replace p174 := eq_true p174
                                    replace q174 := eq_true q174
                                    go_wp2
                                    go_ret
                                    exact ⟨by first | rfl | (simp; done) | (simp [*]; done), by repeat (first | exact Drawn0.refl _ | apply Drawn0.step)⟩
                                  · rw [if_neg c19] at H
                                    have c19b0 : decide (a0 ≤ (rd (rd_L1 l2 x7_2) x8_3)) = false := decide_eq_false c19
                                    clear c19
                                    have H' := Aside0.mk H
                                    clear H
                                    have p171 : 0 ≤ (x7_2 : Int) := of_decide_eq_true (by first | (with_reducible assumption) | assumption)
                                    have q171 : x7_2 < (l2.length : Int) := of_decide_eq_true (by first | (with_reducible assumption) | assumption)
                                    obtain ⟨ad171, A171_0, c171_0, e171, hx171_0, hl171_0, hi171_0⟩ := at_L1 HR2.out x7_2 p171 q171
                                    obtain rfl : ad170 = ad171 := (by injection e171)
                                    have HR171_0 := Aside0.mk hi171_0
                                    have HC171_0 := Aside0.mk hl171_0
                                    clear hi171_0 hl171_0
                                    replace p171 := eq_true p171
                                    replace q171 := eq_true q171
                                    have p172 : 0 ≤ (x8_3 : Int) := of_decide_eq_true (by first | (with_reducible assumption) | assumption)
                                    have q172 : x8_3 < ((rd_L1 l2 x7_2).length : Int) := of_decide_eq_true (by first | (with_reducible assumption) | assumption)
                                    obtain ⟨ad172, e172, hx172_0⟩ := Kd.at_int HR171_0.out x8_3 p172 q172
                                    cases e172
                                    replace p172 := eq_true p172
                                    replace q172 := eq_true q172
                                    have p173 : 0 ≤ (x7_2 : Int) := of_decide_eq_true (by first | (with_reducible assumption) | assumption)
                                    have q173 : x7_2 < (l2.length : Int) := of_decide_eq_true (by first | (with_reducible assumption) | assumption)
                                    obtain ⟨ad173, A173_0, c173_0, e173, hx173_0, hl173_0, hi173_0⟩ := at_L1 HR2.out x7_2 p173 q173
                                    obtain rfl : ad170 = ad173 := (by injection e173)
                                    have HR173_0 := Aside0.mk hi173_0
                                    have HC173_0 := Aside0.mk hl173_0
                                    clear hi173_0 hl173_0
                                    replace p173 := eq_true p173
                                    replace q173 := eq_true q173
                                    have ea_ := Option.some.inj (hx171_0.symm.trans hx173_0)
                                    injection ea_ with ea_ en_ ec_
                                    subst ea_
                                    subst ec_
                                    clear en_
                                    have p174 : 0 ≤ (x8_3 : Int) := of_decide_eq_true (by first | (with_reducible assumption) | assumption)
                                    have q174 : x8_3 < ((rd_L1 l2 x7_2).length : Int) := of_decide_eq_true (by first | (with_reducible assumption) | assumption)
                                    obtain ⟨ad174, e174, hx174_0⟩ := Kd.at_int HR173_0.out x8_3 p174 q174
                                    cases e174
                                    replace p174 := eq_true p174
                                    replace q174 := eq_true q174
                                    go_wp2
                                    go_roundg k3
                                    case measure => have := HJ3.out; have := HK2.out; have := HK3.out; omega
                                    case rel => exact ⟨(wrap64 (x8_3 + 1)), (by first | rfl | (simp; done) | (simp [*]; done)), H', ⟨by have := HJ3.out; have := HK2.out; have := HK3.out; omega⟩, by repeat (first | exact Drawn0.refl _ | apply Drawn0.step)⟩
                              · rw [if_neg c17] at H
                                exact absurd H (by simp)
                            · rw [if_neg c16] at H
                              exact absurd H (by simp)
                          · rw [if_neg c15] at H
                            exact absurd H (by simp)
                        · rw [if_neg c14] at H
                          exact absurd H (by simp)
                      · rw [if_neg c13] at H
                        have c13b0 : decide (x8_3 < a1) = false := decide_eq_false c13
                        clear c13
                        have H' := Aside0.mk H
                        clear H
                        go_wp2
                        go_roundg k3
                        case measure => have := HJ3.out; have := HK2.out; have := HK3.out; omega
                        case rel => exact ⟨(wrap64 (x7_2 + 1)), (by first | rfl | (simp; done) | (simp [*]; done)), H', ⟨by have := HJ3.out; have := HK2.out; have := HK3.out; omega⟩, by repeat (first | exact Drawn0.refl _ | apply Drawn0.step)⟩
                · rw [if_neg c12] at H
                  have c12b0 : (((rd_L1 l2 x7_2).length : Int) == a1) = false := beq_eq_false_iff_ne.mpr c12
                  have c12b1 : (((rd_L1 l2 x7_2).length : Int) != a1) = true := bne_iff_ne.mpr c12
                  obtain rfl := Option.some.inj H
                  have p170 : 0 ≤ (x7_2 : Int) := of_decide_eq_true (by first | (with_reducible assumption) | assumption)
                  have q170 : x7_2 < (l2.length : Int) := of_decide_eq_true (by first | (with_reducible assumption) | assumption)
                  obtain ⟨ad170, A170_0, c170_0, e170, hx170_0, hl170_0, hi170_0⟩ := at_L1 HR2.out x7_2 p170 q170
                  cases e170
                  have HR170_0 := Aside0.mk hi170_0
                  have HC170_0 := Aside0.mk hl170_0
                  clear hi170_0 hl170_0
                  replace p170 := eq_true p170
                  replace q170 := eq_true q170
                  go_wp2
                  go_ret
                  exact ⟨by first | rfl | (simp; done) | (simp [*]; done), by repeat (first | exact Drawn0.refl _ | apply Drawn0.step)⟩
              · rw [if_neg c11] at H
                exact absurd H (by simp)
            · rw [if_neg c10] at H
              have c10b0 : decide (x7_2 < (l2.length : Int)) = false := decide_eq_false c10
              clear c10
              obtain rfl := Option.some.inj H
              go_wp2
              go_ret
              exact ⟨by first | rfl | (simp; done) | (simp [*]; done), by repeat (first | exact Drawn0.refl _ | apply Drawn0.step)⟩

/-! ### greenwoodref04_Mod: function 33 -/
def greenwoodref04_Mod.f (a0 : Int) (a1 : Int) : Option (Int) := if a1 < 1 then (some 0) else (if a1 > 2147483647 then (some 0) else (if a1 = 0 then (none) else (some (Int.tmod (wrap64 ((Int.tmod a0 a1) + a1)) a1))))
set_option maxHeartbeats 8000000 in
set_option maxRecDepth 100000 in
theorem greenwoodref04_Mod.calls (a0 : Int) (a1 : Int) (r : Int) (w : World) (h : greenwoodref04_Mod.f a0 a1 = some r) :
    Calls Try.prog 33 #[.int .i64 a0, .int .i64 a1] w fun e w' => e = .returned (.int .i64 r) ∧ Drawn0 w w' := by
  have H : (if a1 < 1 then (some 0) else (if a1 > 2147483647 then (some 0) else (if a1 = 0 then (none) else (some (Int.tmod (wrap64 ((Int.tmod a0 a1) + a1)) a1))))) = some r := h
  clear h
  by_cases c3 : a1 < 1
  · rw [if_pos c3] at H
    have c3b0 : decide (a1 < 1) = true := decide_eq_true c3
    clear c3
    obtain rfl := Option.some.inj H
    go_enter Try.func33, Try.ntmps33
    go_wp2
    go_ret
    exact ⟨by first | rfl | (simp; done) | (simp [*]; done), by repeat (first | exact Drawn0.refl _ | apply Drawn0.step)⟩
  · rw [if_neg c3] at H
    have c3b0 : decide (a1 < 1) = false := decide_eq_false c3
    clear c3
    by_cases c4 : a1 > 2147483647
    · rw [if_pos c4] at H
      have c4b0 : decide (2147483647 < a1) = true := decide_eq_true c4
      clear c4
      obtain rfl := Option.some.inj H
      go_enter Try.func33, Try.ntmps33
      go_wp2
      go_ret
      exact ⟨by first | rfl | (simp; done) | (simp [*]; done), by repeat (first | exact Drawn0.refl _ | apply Drawn0.step)⟩
    · rw [if_neg c4] at H
      have c4b0 : decide (2147483647 < a1) = false := decide_eq_false c4
      clear c4
      by_cases c5 : a1 = 0
      · rw [if_pos c5] at H
        exact absurd H (by simp)
      · rw [if_neg c5] at H
        have c5b0 : (a1 == 0) = false := beq_eq_false_iff_ne.mpr c5
        have c5b1 : (a1 != 0) = true := bne_iff_ne.mpr c5
        obtain rfl := Option.some.inj H
        go_enter Try.func33, Try.ntmps33
        go_wp2
        go_ret
        exact ⟨by first | rfl | (simp; done) | (simp [*]; done), by repeat (first | exact Drawn0.refl _ | apply Drawn0.step)⟩

/-! ### greenwoodref04_Pow: function 39 -/
mutual
def greenwoodref04_Pow.j0 : Nat → Int → Int → Int → Bool → Option (Int)
  | 0, _, _, _, _ => none
  | k + 1, x0, x1, x2, x18 => if x18 = true then (some 0) else (if x2 = 0 then (none) else ((greenwoodref04_Mod.f x0 x2).bind fun t175 => (greenwoodref04_Pow.l0 k x1 x2 ((1 : Int) % x2) t175)))
def greenwoodref04_Pow.l0 : Nat → Int → Int → Int → Int → Option (Int)
  | 0, _, _, _, _ => none
  | k + 1, x1, x2, x7, x8 => if x1 > 0 then (if (Int.tmod x1 2) = 1 then (if x2 = 0 then (none) else (greenwoodref04_Pow.l0 k (wrap64 (Int.tdiv x1 2)) x2 (Int.tmod (wrap64 (x7 * x8)) x2) (Int.tmod (wrap64 (x8 * x8)) x2))) else (if x2 = 0 then (none) else (greenwoodref04_Pow.l0 k (wrap64 (Int.tdiv x1 2)) x2 x7 (Int.tmod (wrap64 (x8 * x8)) x2)))) else (some x7)
end
def greenwoodref04_Pow.f (k : Nat) (a0 : Int) (a1 : Int) (a2 : Int) : Option (Int) := if a2 < 1 then (greenwoodref04_Pow.j0 k a0 a1 a2 true) else (if a2 > 2147483647 then (greenwoodref04_Pow.j0 k a0 a1 a2 true) else (greenwoodref04_Pow.j0 k a0 a1 a2 (decide (a1 < 0))))
theorem greenwoodref04_Pow.mono_l : ∀ k, (∀ y0 y1 y2 y3, LeO (greenwoodref04_Pow.j0 k y0 y1 y2 y3) (greenwoodref04_Pow.j0 (k + 1) y0 y1 y2 y3)) ∧ (∀ y0 y1 y2 y3, LeO (greenwoodref04_Pow.l0 k y0 y1 y2 y3) (greenwoodref04_Pow.l0 (k + 1) y0 y1 y2 y3))
  | 0 => ⟨fun _ _ _ _ r h => by simp [greenwoodref04_Pow.j0] at h, fun _ _ _ _ r h => by simp [greenwoodref04_Pow.l0] at h⟩
  | k + 1 => by
    obtain ⟨ih0, ih1⟩ := greenwoodref04_Pow.mono_l k
    refine ⟨?_, ?_⟩
    · intro y0 y1 y2 y3
      unfold greenwoodref04_Pow.j0
      repeat' first
      | (with_reducible exact ih0 _ _ _ _)
      | (with_reducible exact ih1 _ _ _ _)
      | (with_reducible exact LeO.refl _)
      | (with_reducible exact LeO.none _)
      | (with_reducible refine LeO.ite ?_ ?_)
      | (with_reducible refine LeO.bind ?_ (fun _ => ?_))
      | exact ih0 _ _ _ _
      | exact ih1 _ _ _ _
      | exact LeO.none _
      | refine LeO.ite ?_ ?_
      | refine LeO.bind ?_ (fun _ => ?_)
    · intro y0 y1 y2 y3
      unfold greenwoodref04_Pow.l0
      repeat' first
      | (with_reducible exact ih0 _ _ _ _)
      | (with_reducible exact ih1 _ _ _ _)
      | (with_reducible exact LeO.refl _)
      | (with_reducible exact LeO.none _)
      | (with_reducible refine LeO.ite ?_ ?_)
      | (with_reducible refine LeO.bind ?_ (fun _ => ?_))
      | exact ih0 _ _ _ _
      | exact ih1 _ _ _ _
      | exact LeO.none _
      | refine LeO.ite ?_ ?_
      | refine LeO.bind ?_ (fun _ => ?_)
theorem greenwoodref04_Pow.mono : ∀ a0 a1 a2 k, LeO (greenwoodref04_Pow.f k a0 a1 a2) (greenwoodref04_Pow.f (k + 1) a0 a1 a2) := by
  intro a0 a1 a2 k
  obtain ⟨ih0, ih1⟩ := greenwoodref04_Pow.mono_l k
  unfold greenwoodref04_Pow.f
  repeat' first
      | (with_reducible exact ih0 _ _ _ _)
      | (with_reducible exact ih1 _ _ _ _)
      | (with_reducible exact LeO.refl _)
      | (with_reducible exact LeO.none _)
      | (with_reducible refine LeO.ite ?_ ?_)
      | (with_reducible refine LeO.bind ?_ (fun _ => ?_))
      | exact ih0 _ _ _ _
      | exact ih1 _ _ _ _
      | exact LeO.none _
      | refine LeO.ite ?_ ?_
      | refine LeO.bind ?_ (fun _ => ?_)
set_option maxHeartbeats 8000000 in
set_option maxRecDepth 100000 in
theorem greenwoodref04_Pow.calls (k : Nat) (a0 : Int) (a1 : Int) (a2 : Int) (r : Int) (w : World) (h : greenwoodref04_Pow.f k a0 a1 a2 = some r) :
    Calls Try.prog 39 #[.int .i64 a0, .int .i64 a1, .int .i64 a2] w fun e w' => e = .returned (.int .i64 r) ∧ Drawn0 w w' := by
  have H : (if a2 < 1 then (greenwoodref04_Pow.j0 k a0 a1 a2 true) else (if a2 > 2147483647 then (greenwoodref04_Pow.j0 k a0 a1 a2 true) else (greenwoodref04_Pow.j0 k a0 a1 a2 (decide (a1 < 0))))) = some r := h
  clear h
  have HC4 := Aside0.mk H
  clear H
  go_enter Try.func39, Try.ntmps39
  go_upto_region 1 with (fail)
  repeat (go_quiet (fail); go_upto_region 1 with (fail))
  go_cut [18] (fun v18 wc => ∃ (kq : Nat) (x18_3 : Bool), v18 = .bool x18_3 ∧ Aside0 (greenwoodref04_Pow.j0 kq a0 a1 a2 x18_3 = some r) ∧ Aside0 (kq ≤ k) ∧ Drawn0 w wc)
  case first =>
    have H := HC4.out
    clear HC4
    by_cases c5 : a2 < 1
    · rw [if_pos c5] at H
      have c5b0 : decide (a2 < 1) = true := decide_eq_true c5
      clear c5
      (first | rw [c5b0] | (simp only [i64_w, i32_w]; rw [c5b0]) | skip)
      have H' := Aside0.mk H
      clear H
      go_wp2
      repeat (go_quiet (fail); try go_wp2)
      go_meet
      case rel => exact ⟨_, (true), (by first | rfl | (simp; done) | (simp [*]; done)), H', ⟨by first | omega | exact Nat.le_refl _⟩, by repeat (first | exact Drawn0.refl _ | apply Drawn0.step)⟩
    · rw [if_neg c5] at H
      have c5b0 : decide (a2 < 1) = false := decide_eq_false c5
      clear c5
      (first | rw [c5b0] | (simp only [i64_w, i32_w]; rw [c5b0]) | skip)
      by_cases c6 : a2 > 2147483647
      · rw [if_pos c6] at H
        have c6b0 : decide (2147483647 < a2) = true := decide_eq_true c6
        clear c6
        have H' := Aside0.mk H
        clear H
        go_wp2
        repeat (go_quiet (fail); try go_wp2)
        go_meet
        case rel => exact ⟨_, (true), (by first | rfl | (simp; done) | (simp [*]; done)), H', ⟨by first | omega | exact Nat.le_refl _⟩, by repeat (first | exact Drawn0.refl _ | apply Drawn0.step)⟩
      · rw [if_neg c6] at H
        have c6b0 : decide (2147483647 < a2) = false := decide_eq_false c6
        clear c6
        have H' := Aside0.mk H
        clear H
        go_wp2
        repeat (go_quiet (fail); try go_wp2)
        go_meet
        case rel => exact ⟨_, (decide (a1 < 0)), (by first | rfl | (simp; done) | (simp [*]; done)), H', ⟨by first | omega | exact Nat.le_refl _⟩, by repeat (first | exact Drawn0.refl _ | apply Drawn0.step)⟩
  case rest =>
    clear HC4
    try clear p2
    try clear c3
    try clear c5
    try clear c5b0
    try clear c6
    try clear c6b0
    obtain ⟨kq, x18_3, rfl, HA, HJ3, ⟨mc3, rfl⟩⟩ := hcut
    cases kq with
    | zero => exact absurd HA.out (by simp [greenwoodref04_Pow.j0])
    | succ kj3 =>
      have H := HA.out
      clear HA
      simp only [greenwoodref04_Pow.j0] at H
      by_cases c7 : x18_3 = true
      · subst c7
        have H1 : (some 0) = some r := by rw [if_pos rfl] at H; exact H
        clear H
        have H := H1
        clear H1
        obtain rfl := Option.some.inj H
        go_wp2
        repeat (go_quiet (fail); try go_wp2)
        go_ret
        exact ⟨by first | rfl | (simp; done) | (simp [*]; done), by repeat (first | exact Drawn0.refl _ | apply Drawn0.step)⟩
      · replace c7 := Bool.eq_false_iff.mpr c7
        subst c7
        have H1 : (if a2 = 0 then (none) else ((greenwoodref04_Mod.f a0 a2).bind fun t175 => (greenwoodref04_Pow.l0 kj3 a1 a2 ((1 : Int) % a2) t175))) = some r := by rw [if_neg (show ¬ (false = true) by decide)] at H; exact H
        clear H
        have H := H1
        clear H1
        by_cases c8 : a2 = 0
        · rw [if_pos c8] at H
          exact absurd H (by simp)
        · rw [if_neg c8] at H
          have c8b0 : (a2 == 0) = false := beq_eq_false_iff_ne.mpr c8
          have c8b1 : (a2 != 0) = true := bne_iff_ne.mpr c8
          replace H := Option.bind_eq_some_iff.mp H
          obtain ⟨t175, A90, H⟩ := H
          replace H : (greenwoodref04_Pow.l0 kj3 a1 a2 ((1 : Int) % a2) t175) = some r := H
          have A9 := Aside0.mk A90
          clear A90
          have H' := Aside0.mk H
          clear H
          go_wp2_with (first | (go_at_call 33; (with_reducible refine (greenwoodref04_Mod.calls a0 a2 t175 _ A9.out).mono ?_); rintro e w' ⟨rfl, ⟨nd, rfl⟩⟩; (try first | exact ⟨rfl, _, World.drewN_drewN _ _ _⟩ | exact ⟨rfl, _, Eq.trans (World.drewN_drewN _ _ _) (congrArg (World.drewN _) (Nat.add_assoc _ _ _))⟩)))
          repeat (go_quiet (first | (go_at_call 33; (with_reducible refine (greenwoodref04_Mod.calls a0 a2 t175 _ A9.out).mono ?_); rintro e w' ⟨rfl, ⟨nd, rfl⟩⟩; (try first | exact ⟨rfl, _, World.drewN_drewN _ _ _⟩ | exact ⟨rfl, _, Eq.trans (World.drewN_drewN _ _ _) (congrArg (World.drewN _) (Nat.add_assoc _ _ _))⟩))); try go_wp2_with (first | (go_at_call 33; (with_reducible refine (greenwoodref04_Mod.calls a0 a2 t175 _ A9.out).mono ?_); rintro e w' ⟨rfl, ⟨nd, rfl⟩⟩; (try first | exact ⟨rfl, _, World.drewN_drewN _ _ _⟩ | exact ⟨rfl, _, Eq.trans (World.drewN_drewN _ _ _) (congrArg (World.drewN _) (Nat.add_assoc _ _ _))⟩))))
          go_loopg [1, 7, 8] kj3 (fun kq v1 v7 v8 w' => ∃ (x1_2 : Int) (x7_2 : Int) (x8_2 : Int), v1 = .int .i64 x1_2 ∧ v7 = .int .i64 x7_2 ∧ v8 = .int .i64 x8_2 ∧ Aside0 (greenwoodref04_Pow.l0 kq x1_2 a2 x7_2 x8_2 = some r) ∧ Aside0 (kq ≤ kj3) ∧ Drawn0 w w')
          case atStart => exact ⟨(a1), ((1 : Int) % a2), (t175), (by first | rfl | (simp; done) | (simp [*]; done)), (by first | rfl | (simp; done) | (simp [*]; done)), (by first | rfl | (simp; done) | (simp [*]; done)), H', ⟨Nat.le_refl _⟩, by repeat (first | exact Drawn0.refl _ | apply Drawn0.step)⟩
          case round =>
            clear H'
            try clear p2
            try clear c3
            try clear c5
            try clear c5b0
            try clear c6
            try clear c6b0
            try clear c7
            try clear c8
            try clear c8b0
            try clear c8b1
            try clear p2
            obtain ⟨x1_2, x7_2, x8_2, rfl, rfl, rfl, HA, HK2, ⟨m2, rfl⟩⟩ := hrel
            cases gk with
            | zero => exact absurd HA.out (by simp [greenwoodref04_Pow.l0])
            | succ k2 =>
              have H := HA.out
              clear HA
              simp only [greenwoodref04_Pow.l0] at H
              by_cases c10 : x1_2 > 0
              · rw [if_pos c10] at H
                have c10b0 : decide (0 < x1_2) = true := decide_eq_true c10
                clear c10
                by_cases c11 : (Int.tmod x1_2 2) = 1
                · rw [if_pos c11] at H
                  have c11b0 : ((Int.tmod x1_2 2) == 1) = true := beq_iff_eq.mpr c11
                  have c11b1 : ((Int.tmod x1_2 2) != 1) = false := bne_eq_false_iff_eq.mpr c11
                  clear c11
                  by_cases c12 : a2 = 0
                  · rw [if_pos c12] at H
                    exact absurd H (by simp)
                  · rw [if_neg c12] at H
                    have c12b0 : (a2 == 0) = false := beq_eq_false_iff_ne.mpr c12
                    have c12b1 : (a2 != 0) = true := bne_iff_ne.mpr c12
                    have H' := Aside0.mk H
                    clear H
                    go_wp2
                    repeat (go_quiet (fail); try go_wp2)
                    go_roundg k2
                    case measure => have := HJ3.out; have := HK2.out; omega
                    case rel => exact ⟨(wrap64 (Int.tdiv x1_2 2)), (Int.tmod (wrap64 (x7_2 * x8_2)) a2), (Int.tmod (wrap64 (x8_2 * x8_2)) a2), (by first | rfl | (simp; done) | (simp [*]; done)), (by first | rfl | (simp; done) | (simp [*]; done)), (by first | rfl | (simp; done) | (simp [*]; done)), H', ⟨by have := HJ3.out; have := HK2.out; omega⟩, by repeat (first | exact Drawn0.refl _ | apply Drawn0.step)⟩
                · rw [if_neg c11] at H
                  have c11b0 : ((Int.tmod x1_2 2) == 1) = false := beq_eq_false_iff_ne.mpr c11
                  have c11b1 : ((Int.tmod x1_2 2) != 1) = true := bne_iff_ne.mpr c11
                  by_cases c13 : a2 = 0
                  · rw [if_pos c13] at H
                    exact absurd H (by simp)
                  · rw [if_neg c13] at H
                    have c13b0 : (a2 == 0) = false := beq_eq_false_iff_ne.mpr c13
                    have c13b1 : (a2 != 0) = true := bne_iff_ne.mpr c13
                    have H' := Aside0.mk H
                    clear H
                    go_wp2
                    repeat (go_quiet (fail); try go_wp2)
                    go_roundg k2
                    case measure => have := HJ3.out; have := HK2.out; omega
                    case rel => exact ⟨(wrap64 (Int.tdiv x1_2 2)), (x7_2), (Int.tmod (wrap64 (x8_2 * x8_2)) a2), (by first | rfl | (simp; done) | (simp [*]; done)), (by first | rfl | (simp; done) | (simp [*]; done)), (by first | rfl | (simp; done) | (simp [*]; done)), H', ⟨by have := HJ3.out; have := HK2.out; omega⟩, by repeat (first | exact Drawn0.refl _ | apply Drawn0.step)⟩
              · rw [if_neg c10] at H
                have c10b0 : decide (0 < x1_2) = false := decide_eq_false c10
                clear c10
                obtain rfl := Option.some.inj H
                go_wp2
                repeat (go_quiet (fail); try go_wp2)
                go_ret
                exact ⟨by first | rfl | (simp; done) | (simp [*]; done), by repeat (first | exact Drawn0.refl _ | apply Drawn0.step)⟩

/-! ### greenwoodref04_Inv: function 32 -/
def greenwoodref04_Inv.f (k : Nat) (a0 : Int) (a1 : Int) : Option (Int × Bool) := (greenwoodref04_Prime.f k a1).bind fun t176 => (if t176 = true then ((greenwoodref04_Mod.f a0 a1).bind fun t177 => (if t177 = 0 then (some (0, false)) else ((greenwoodref04_Pow.f k a0 (wrap64 (a1 - 2)) a1).bind fun t178 => (some (t178, true))))) else (some (0, false)))
theorem greenwoodref04_Inv.mono : ∀ a0 a1 k, LeO (greenwoodref04_Inv.f k a0 a1) (greenwoodref04_Inv.f (k + 1) a0 a1) := by
  intro a0 a1 k
  unfold greenwoodref04_Inv.f
  repeat' first
      | (with_reducible exact greenwoodref04_Pow.mono _ _ _ _)
      | (with_reducible exact greenwoodref04_Prime.mono _ _)
      | (with_reducible exact LeO.refl _)
      | (with_reducible exact LeO.none _)
      | (with_reducible refine LeO.ite ?_ ?_)
      | (with_reducible refine LeO.bind ?_ (fun _ => ?_))
      | exact greenwoodref04_Pow.mono _ _ _ _
      | exact greenwoodref04_Prime.mono _ _
      | exact LeO.none _
      | refine LeO.ite ?_ ?_
      | refine LeO.bind ?_ (fun _ => ?_)
set_option maxHeartbeats 8000000 in
set_option maxRecDepth 100000 in
theorem greenwoodref04_Inv.calls (k : Nat) (a0 : Int) (a1 : Int) (r1 : Int) (r2 : Bool) (w : World) (h : greenwoodref04_Inv.f k a0 a1 = some (r1, r2)) :
    Calls Try.prog 32 #[.int .i64 a0, .int .i64 a1] w fun e w' => e = .returned (.tuple #[.int .i64 r1, .bool r2]) ∧ Drawn0 w w' := by
  have H : ((greenwoodref04_Prime.f k a1).bind fun t176 => (if t176 = true then ((greenwoodref04_Mod.f a0 a1).bind fun t177 => (if t177 = 0 then (some (0, false)) else ((greenwoodref04_Pow.f k a0 (wrap64 (a1 - 2)) a1).bind fun t178 => (some (t178, true))))) else (some (0, false)))) = some (r1, r2) := h
  clear h
  replace H := Option.bind_eq_some_iff.mp H
  obtain ⟨t176, A30, H⟩ := H
  replace H : (if t176 = true then ((greenwoodref04_Mod.f a0 a1).bind fun t177 => (if t177 = 0 then (some (0, false)) else ((greenwoodref04_Pow.f k a0 (wrap64 (a1 - 2)) a1).bind fun t178 => (some (t178, true))))) else (some (0, false))) = some (r1, r2) := H
  have A3 := Aside0.mk A30
  clear A30
  by_cases c4 : t176 = true
  · subst c4
    have H1 : ((greenwoodref04_Mod.f a0 a1).bind fun t177 => (if t177 = 0 then (some (0, false)) else ((greenwoodref04_Pow.f k a0 (wrap64 (a1 - 2)) a1).bind fun t178 => (some (t178, true))))) = some (r1, r2) := by rw [if_pos rfl] at H; exact H
    clear H
    have H := H1
    clear H1
    replace H := Option.bind_eq_some_iff.mp H
    obtain ⟨t177, A50, H⟩ := H
    replace H : (if t177 = 0 then (some (0, false)) else ((greenwoodref04_Pow.f k a0 (wrap64 (a1 - 2)) a1).bind fun t178 => (some (t178, true)))) = some (r1, r2) := H
    have A5 := Aside0.mk A50
    clear A50
    by_cases c6 : t177 = 0
    · rw [if_pos c6] at H
      have c6b0 : (t177 == 0) = true := beq_iff_eq.mpr c6
      have c6b1 : (t177 != 0) = false := bne_eq_false_iff_eq.mpr c6
      clear c6
      simp only [Option.some.injEq, Prod.mk.injEq] at H
      obtain ⟨rfl, rfl⟩ := H
      go_enter Try.func32, Try.ntmps32
      go_wp2_with (first | ((with_reducible refine gate_callee (f := 23) rfl ?_); refine goesL_ (some 7) rfl rfl Try.func23 (by kernel_rfl) rfl #[.int .i64 a1] rfl (by (try simp only [List.map_toArray, List.map_cons, List.map_nil]); first | done | rfl | (simp only [List.length_drop, List.length_take]; rfl)) ?_; (with_reducible refine (greenwoodref04_Prime.calls k a1 true _ A3.out).mono ?_); rintro e w' ⟨rfl, ⟨nd, rfl⟩⟩; refine ⟨_, rfl, ?_⟩) | (go_at_call 33; (with_reducible refine (greenwoodref04_Mod.calls a0 a1 t177 _ A5.out).mono ?_); rintro e w' ⟨rfl, ⟨nd, rfl⟩⟩))
      go_ret2
      exact ⟨by first | rfl | (simp; done) | (simp [*]; done), by repeat (first | exact Drawn0.refl _ | apply Drawn0.step)⟩
    · rw [if_neg c6] at H
      have c6b0 : (t177 == 0) = false := beq_eq_false_iff_ne.mpr c6
      have c6b1 : (t177 != 0) = true := bne_iff_ne.mpr c6
      replace H := Option.bind_eq_some_iff.mp H
      obtain ⟨t178, A70, H⟩ := H
      replace H : (some (t178, true)) = some (r1, r2) := H
      have A7 := Aside0.mk A70
      clear A70
      simp only [Option.some.injEq, Prod.mk.injEq] at H
      obtain ⟨rfl, rfl⟩ := H
      go_enter Try.func32, Try.ntmps32
      go_wp2_with (first | ((with_reducible refine gate_callee (f := 23) rfl ?_); refine goesL_ (some 7) rfl rfl Try.func23 (by kernel_rfl) rfl #[.int .i64 a1] rfl (by (try simp only [List.map_toArray, List.map_cons, List.map_nil]); first | done | rfl | (simp only [List.length_drop, List.length_take]; rfl)) ?_; (with_reducible refine (greenwoodref04_Prime.calls k a1 true _ A3.out).mono ?_); rintro e w' ⟨rfl, ⟨nd, rfl⟩⟩; refine ⟨_, rfl, ?_⟩) | (go_at_call 33; (with_reducible refine (greenwoodref04_Mod.calls a0 a1 t177 _ A5.out).mono ?_); rintro e w' ⟨rfl, ⟨nd, rfl⟩⟩) | ((with_reducible refine gate_callee (f := 39) rfl ?_); refine goesL_ (some 19) rfl rfl Try.func39 (by kernel_rfl) rfl #[.int .i64 a0, .int .i64 (wrap64 (a1 - 2)), .int .i64 a1] rfl (by (try simp only [List.map_toArray, List.map_cons, List.map_nil]); first | done | rfl | (simp only [List.length_drop, List.length_take]; rfl)) ?_; (with_reducible refine (greenwoodref04_Pow.calls k a0 (wrap64 (a1 - 2)) a1 t178 _ A7.out).mono ?_); rintro e w' ⟨rfl, ⟨nd, rfl⟩⟩; refine ⟨_, rfl, ?_⟩))
      go_ret2
      exact ⟨by first | rfl | (simp; done) | (simp [*]; done), by repeat (first | exact Drawn0.refl _ | apply Drawn0.step)⟩
  · replace c4 := Bool.eq_false_iff.mpr c4
    subst c4
    have H1 : (some (0, false)) = some (r1, r2) := by rw [if_neg (show ¬ (false = true) by decide)] at H; exact H
    clear H
    have H := H1
    clear H1
    simp only [Option.some.injEq, Prod.mk.injEq] at H
    obtain ⟨rfl, rfl⟩ := H
    go_enter Try.func32, Try.ntmps32
    go_wp2_with (first | ((with_reducible refine gate_callee (f := 23) rfl ?_); refine goesL_ (some 7) rfl rfl Try.func23 (by kernel_rfl) rfl #[.int .i64 a1] rfl (by (try simp only [List.map_toArray, List.map_cons, List.map_nil]); first | done | rfl | (simp only [List.length_drop, List.length_take]; rfl)) ?_; (with_reducible refine (greenwoodref04_Prime.calls k a1 false _ A3.out).mono ?_); rintro e w' ⟨rfl, ⟨nd, rfl⟩⟩; refine ⟨_, rfl, ?_⟩))
    go_ret2
    exact ⟨by first | rfl | (simp; done) | (simp [*]; done), by repeat (first | exact Drawn0.refl _ | apply Drawn0.step)⟩

/-! ### greenwoodref05_rank: function 25 -/
end Go.Proofs.Ytepakefmioeilaa.P
/- What the document's answer for package modp tells: primes, powers, inverses. No condition. -/
namespace Go.Proofs.Ytepakefmioeilaa.P
open Go.RowKit Go.Proofs.YtepakefmioeilaaW.PrintWords NumTh
set_option linter.unusedVariables false
set_option linter.unusedSimpArgs false
theorem rMod_yes (a : Int) {p : Int} (hp : okP p) : greenwoodref04_Mod.f a p = some (a % p) := by
  have h1 := hp.1
  have h2 := hp.2
  unfold greenwoodref04_Mod.f
  rw [if_neg (by omega), if_neg (by omega), if_neg (by omega)]
  have hb := tmod_bd (a := a) (p := p) (by omega)
  rw [wrap_id (by omega) (by omega), Int.tmod_eq_emod_of_nonneg (by omega)]
  by_cases h : Int.tmod a p < 0
  · rw [tmod_neg_step (by omega) h]
    rw [Int.emod_emod_of_dvd a (Int.dvd_refl p)]
  · rw [tmod_pos_step (by omega) h, Int.add_emod_right, Int.emod_emod_of_dvd a (Int.dvd_refl p)]
theorem rPow_l0 (P : Nat) (h1 : 1 ≤ P) (hP : P ≤ 2147483647) : ∀ (m A O : Nat), A < P → O < P → m ≤ 9223372036854775807 →
    ∃ k, greenwoodref04_Pow.l0 k (m : Int) (P : Int) (O : Int) (A : Int) = some ((O * A ^ m % P : Nat) : Int) := by
  intro m
  induction m using Nat.strongRecOn with
  | ind m ih =>
    intro A O hA hO hm
    by_cases h0 : m = 0
    · subst h0
      refine ⟨1, ?_⟩
      unfold greenwoodref04_Pow.l0
      rw [if_neg (by omega), Nat.pow_zero, Nat.mul_one, Nat.mod_eq_of_lt hO]
    · have hs := pow_step O A P m (by omega)
      have hAA : A * A % P < P := Nat.mod_lt _ (by omega)
      have hdiv : wrap64 (Int.tdiv (m : Int) 2) = ((m / 2 : Nat) : Int) := by
        rw [Int.tdiv_eq_ediv_of_nonneg (by omega), wrap_id (by omega) (by omega)]; omega
      have hmod : Int.tmod (m : Int) 2 = (m : Int) % 2 := Int.tmod_eq_emod_of_nonneg (by omega)
      by_cases h2 : m % 2 = 1
      · rw [if_pos h2] at hs
        obtain ⟨k, hk⟩ := ih (m / 2) (by omega) (A * A % P) (O * A % P) hAA (Nat.mod_lt _ (by omega)) (by omega)
        refine ⟨k + 1, ?_⟩
        unfold greenwoodref04_Pow.l0
        rw [if_pos (by omega), hmod, if_pos (by omega), if_neg (by omega), mulmod hA hA hP, mulmod hO hA hP, hdiv, hk, hs]
      · rw [if_neg h2, Nat.mul_one, Nat.mod_eq_of_lt hO] at hs
        obtain ⟨k, hk⟩ := ih (m / 2) (by omega) (A * A % P) O hAA hO (by omega)
        refine ⟨k + 1, ?_⟩
        unfold greenwoodref04_Pow.l0
        rw [if_pos (by omega), hmod, if_neg (by omega), if_neg (by omega), mulmod hA hA hP, hdiv, hk, hs]

theorem rPow_yes (a : Int) {n p : Int} (hp : okP p) (hn : 0 ≤ n) (hn2 : n ≤ 9223372036854775807) : Ev (fun k => greenwoodref04_Pow.f k a n p) (pw a n p) := by
  have h1 := hp.1
  have h2 := hp.2
  have hb0 := Int.emod_nonneg a (show p ≠ 0 by omega)
  have hb1 := Int.emod_lt_of_pos a (show 0 < p by omega)
  have hl : ∃ k, greenwoodref04_Pow.l0 k n p (1 % p) (a % p) = some (pw a n p) := by
    obtain ⟨k, hk⟩ := rPow_l0 p.toNat (by omega) (by omega) n.toNat (a % p).toNat (1 % p.toNat) (by omega) (Nat.mod_lt _ (by omega)) (by omega)
    refine ⟨k, ?_⟩
    have e1 : (((a % p).toNat : Nat) : Int) = a % p := by omega
    have e2 : ((n.toNat : Nat) : Int) = n := by omega
    have e3 : ((p.toNat : Nat) : Int) = p := by omega
    have e4 : ((1 % p.toNat : Nat) : Int) = 1 % p := by rw [Int.natCast_emod, e3]; rfl
    rw [e1, e2, e3, e4] at hk
    rw [hk]
    unfold pw
    rw [Nat.mul_mod, Nat.mod_mod, ← Nat.mul_mod, Nat.one_mul]
  obtain ⟨k, hk⟩ := hl
  refine Ev.of (greenwoodref04_Pow.mono a n p) (k := k + 1) ?_
  unfold greenwoodref04_Pow.f
  rw [if_neg (by omega), if_neg (by omega)]
  rw [decide_eq_false (by omega), greenwoodref04_Pow.j0, if_neg (by decide), if_neg (by omega), rMod_yes a hp]
  simp only [Option.bind_some]
  exact hk
/-! ## primes -/
theorem rPrime_l0 (P : Nat) (h1 : 2 ≤ P) (hP : P ≤ 2147483647) : ∀ (m d : Nat), m = 46341 - d → 2 ≤ d → d ≤ 46341 → (∀ e, 2 ≤ e → e < d → ¬ e ∣ P) →
    ∃ k, greenwoodref04_Prime.l0 k (P : Int) (d : Int) = some (isP (P : Int)) := by
  intro m
  induction m with
  | zero =>
    intro d hm hd hd2 hno
    have hd4 : d = 46341 := by omega
    subst hd4
    refine ⟨1, ?_⟩
    unfold greenwoodref04_Prime.l0
    rw [wrap_id (by omega) (by omega), if_neg (by omega)]
    congr 1
    symm
    rw [isP_true]
    refine ⟨by omega, ?_⟩
    apply Classical.byContradiction
    intro hn
    obtain ⟨q, hq, hqP, hqq⟩ := exists_small_pr P h1 hn
    refine hno q hq.1 ?_ hqP
    apply Classical.byContradiction
    intro hx
    have := Nat.mul_le_mul (show 46341 ≤ q by omega) (show 46341 ≤ q by omega)
    omega
  | succ m ih =>
    intro d hm hd hd2 hno
    have hdd : d * d ≤ 46341 * 46341 := Nat.mul_le_mul hd2 hd2
    have edd : (d : Int) * (d : Int) = ((d * d : Nat) : Int) := (Int.natCast_mul d d).symm
    have hmod : Int.tmod (P : Int) (d : Int) = ((P % d : Nat) : Int) := by
      rw [Int.tmod_eq_emod_of_nonneg (by omega)]; rfl
    by_cases hle : d * d ≤ P
    · by_cases h0 : P % d = 0
      · refine ⟨1, ?_⟩
        unfold greenwoodref04_Prime.l0
        rw [edd, wrap_id (by omega) (by omega), if_pos (by omega), if_neg (by omega), hmod, if_pos (by omega)]
        congr 1
        symm
        rw [isP_false]
        rintro ⟨_, _, h⟩
        have hdlt : d < P := by
          have := Nat.mul_le_mul hd (Nat.le_refl d); omega
        rcases h d (Nat.dvd_of_mod_eq_zero h0) with h4 | h4
        · omega
        · have h5 : d = P := h4
          omega
      · obtain ⟨k, hk⟩ := ih (d + 1) (by omega) (by omega) (by omega) (by
          intro e he1 he2 hdv
          by_cases hed : e = d
          · subst hed; exact h0 (Nat.mod_eq_zero_of_dvd hdv)
          · exact hno e he1 (by omega) hdv)
        refine ⟨k + 1, ?_⟩
        unfold greenwoodref04_Prime.l0
        rw [edd, wrap_id (by omega) (by omega), if_pos (by omega), if_neg (by omega), hmod, if_neg (by omega), wrap_id (by omega) (by omega)]
        exact hk
    · refine ⟨1, ?_⟩
      unfold greenwoodref04_Prime.l0
      rw [edd, wrap_id (by omega) (by omega), if_neg (by omega)]
      congr 1
      symm
      rw [isP_true]
      refine ⟨by omega, ?_⟩
      apply Classical.byContradiction
      intro hn
      obtain ⟨q, hq, hqP, hqq⟩ := exists_small_pr P h1 hn
      refine hno q hq.1 ?_ hqP
      apply Classical.byContradiction
      intro hx
      have := Nat.mul_le_mul (show d ≤ q by omega) (show d ≤ q by omega)
      omega

/-- WHAT THE DOCUMENT'S Prime TELLS -/
theorem rPrime_eq (p : Int) : Ev (fun k => greenwoodref04_Prime.f k p) (isP p) := by
  by_cases c1 : p < 2
  · rw [isP_false.mpr (by rintro ⟨_, h, _⟩; omega)]
    refine Ev.of (greenwoodref04_Prime.mono p) (k := 1) ?_
    unfold greenwoodref04_Prime.f
    rw [if_pos c1]; rfl
  by_cases c2 : p > 2147483647
  · rw [isP_false.mpr (by rintro ⟨h, _⟩; omega)]
    refine Ev.of (greenwoodref04_Prime.mono p) (k := 1) ?_
    unfold greenwoodref04_Prime.f
    rw [if_neg c1, decide_eq_true c2]; rfl
  obtain ⟨k, hk⟩ := rPrime_l0 p.toNat (by omega) (by omega) 46339 2 (by omega) (by omega) (by omega) (by intro e h1 h2; omega)
  have e1 : ((p.toNat : Nat) : Int) = p := by omega
  rw [e1] at hk
  refine Ev.of (greenwoodref04_Prime.mono p) (k := k + 1) ?_
  unfold greenwoodref04_Prime.f
  rw [if_neg c1, decide_eq_false c2, greenwoodref04_Prime.j0, if_neg (by decide)]
  exact hk

/-! ## inverses -/
/-- WHAT THE DOCUMENT'S Inv TELLS -/
theorem rInv_eq (a p : Int) : Ev (fun k => greenwoodref04_Inv.f k a p) (inv a p, decide (isP p = true ∧ a % p ≠ 0)) := by
  obtain ⟨k1, hk1⟩ := (rPrime_eq p).rounds
  by_cases hp : isP p = true
  · have hok := isP_ok hp
    obtain ⟨hle, hpr⟩ := isP_true.mp hp
    have hp2 := hpr.1
    rw [hp] at hk1
    by_cases ha : a % p = 0
    · have e : inv a p = 0 := by unfold inv; rw [if_neg (by intro h; exact h.2 ha)]
      rw [e, decide_eq_false (by intro h; exact h.2 ha)]
      refine Ev.of (greenwoodref04_Inv.mono a p) (k := k1) ?_
      unfold greenwoodref04_Inv.f
      rw [hk1]
      simp only [Option.bind_some, if_true]
      rw [rMod_yes a hok, ha]
      rfl
    · obtain ⟨k2, hk2⟩ := (rPow_yes a (n := p - 2) hok (by omega) (by omega)).rounds
      have e : inv a p = pw a (p - 2) p := by unfold inv; rw [if_pos ⟨hp, ha⟩]
      rw [e, decide_eq_true ⟨hp, ha⟩]
      refine Ev.of (greenwoodref04_Inv.mono a p) (k := k1 + k2) ?_
      unfold greenwoodref04_Inv.f
      rw [at_rounds (greenwoodref04_Prime.mono p) (show k1 ≤ k1 + k2 by omega) hk1]
      simp only [Option.bind_some, if_true]
      rw [rMod_yes a hok]
      simp only [Option.bind_some]
      rw [if_neg ha, wrap_id (by omega) (by omega), at_rounds (greenwoodref04_Pow.mono a (p - 2) p) (show k2 ≤ k1 + k2 by omega) hk2]
      rfl
  · have hpf := Bool.eq_false_iff.mpr hp
    rw [hpf] at hk1
    have e : inv a p = 0 := by unfold inv; rw [if_neg (by intro h; exact hp h.1)]
    rw [e, decide_eq_false (by intro h; exact hp h.1)]
    refine Ev.of (greenwoodref04_Inv.mono a p) (k := k1) ?_
    unfold greenwoodref04_Inv.f
    rw [hk1]
    rfl

end Go.Proofs.Ytepakefmioeilaa.P
/- Layer 5, the document's rank, by elimination row by row: what it computes, and its walk. -/
namespace Go.Proofs.Ytepakefmioeilaa.P
open Go.RowKit Go.Proofs.YtepakefmioeilaaW.PrintWords Go.Proofs.YtepakefmioeilaaW.PrintLast Go.Proofs.YtepakefmioeilaaW.PrintMore
set_option linter.unusedVariables false
set_option linter.unusedSimpArgs false

abbrev SV := {v : Value // v.oneCell' = true}
def svKd : Kd SV := Kd.scalar Subtype.val (fun x => x.2)
def sv0 : SV := ⟨.slice none 0 0, rfl⟩
/-- rows of one's own, in a row of one's own: no two in one block -/
structure Mat (w : World) (base : Nat) (V : Value) (vs : List SV) (xs : List (List Int)) : Prop where
  outer : svKd.R 26 w base (fun _ => True) V vs
  len : vs.length = xs.length
  inner : ∀ (j : Nat) (v : SV) (x : List Int), vs[j]? = some v → xs[j]? = some x → (Kd.int .i64).R 3 w base (fun _ => True) v.1 x
  dist : ∀ (i j : Nat) (vi vj : SV), vs[i]? = some vi → vs[j]? = some vj → i ≠ j → ∀ k, vi.1.ownBlock = some k → vj.1.ownBlock ≠ some k

def swp {α : Type} (d : α) (m : List α) (a n : Nat) : List α := (m.set a (m.getD n d)).set n (m.getD a d)
theorem swp_len {α : Type} (d : α) (m : List α) (a n : Nat) : (swp d m a n).length = m.length := by simp [swp]
theorem swp_get {α : Type} (d : α) (m : List α) (a n : Nat) (ha : a < m.length) (hn : n < m.length) (j : Nat) : (swp d m a n)[j]? = m[if j = n then a else if j = a then n else j]? := by
  unfold swp
  rw [List.getElem?_set, List.getElem?_set]
  simp only [List.length_set]
  by_cases h1 : n = j
  · subst h1
    rw [if_pos rfl, if_pos hn, if_pos rfl, List.getD_eq_getElem?_getD, List.getElem?_eq_getElem ha]; rfl
  · rw [if_neg h1, if_neg (show ¬ j = n by omega)]
    by_cases h2 : a = j
    · subst h2
      rw [if_pos rfl, if_pos ha, if_pos rfl, List.getD_eq_getElem?_getD, List.getElem?_eq_getElem hn]; rfl
    · rw [if_neg h2, if_neg (show ¬ j = a by omega)]
theorem Mat.swap {w : World} {base : Nat} {V V1 : Value} {w1 : World} {vs : List SV} {xs : List (List Int)} (h : Mat w base V vs xs) (a n : Nat) (ha : a < vs.length) (hn : n < vs.length)
    (ho : svKd.R 26 w1 base (fun _ => True) V1 (swp sv0 vs a n)) (hk : ∀ (j : Nat) (v : SV), vs[j]? = some v → ∀ k, v.1.ownBlock = some k → w1.heap[k]? = w.heap[k]?) : Mat w1 base V1 (swp sv0 vs a n) (swp [] xs a n) := by
  have hl := h.len
  refine ⟨ho, by rw [swp_len, swp_len, hl], fun j v x hv hx => ?_, fun i j vi vj hi hj hij => ?_⟩
  · rw [swp_get sv0 vs a n ha hn] at hv
    rw [swp_get [] xs a n (by omega) (by omega)] at hx
    exact R_int_step (h.inner _ v x hv hx) (fun k hk1 _ => hk _ v hv k hk1)
  · rw [swp_get sv0 vs a n ha hn] at hi hj
    exact h.dist _ _ vi vj hi hj (by split <;> split <;> (try split) <;> (try split) <;> omega)
theorem Mat.typed {w : World} {base : Nat} {V : Value} {vs : List SV} {xs : List (List Int)} (h : Mat w base V vs xs) {j : Nat} {v : SV} (hv : vs[j]? = some v) {k : Nat} (hk : v.1.ownBlock = some k) : (∃ cells, w.heap[k]? = some (.cells cells 3 (0, 0))) ∧ base ≤ k ∧ k < w.heap.size := by
  have hj := (List.getElem?_eq_some_iff.1 hv).1
  have hx : xs[j]? = some (xs[j]'(by have := h.len; omega)) := List.getElem?_eq_getElem _
  have hR := h.inner j v _ hv hx
  obtain ⟨inner, ho⟩ := Kd.R_own hR
  exact ⟨own_typed ho k hk, own_base ho k hk, own_lt ho k hk⟩
/-- one row is written -/
theorem Mat.put {w w1 : World} {base : Nat} {V : Value} {vs : List SV} {xs : List (List Int)} (h : Mat w base V vs xs) (i : Nat) (v : SV) (hv : vs[i]? = some v) (x' : List Int) (hR : (Kd.int .i64).R 3 w1 base (fun _ => True) v.1 x') (hg : w.grownBy w1 v.1.ownBlock) : Mat w1 base V vs (xs.set i x') := by
  refine ⟨?_, by rw [List.length_set]; exact h.len, fun j vj x hvj hx => ?_, h.dist⟩
  · refine Kd.R_mono (Kd.R_grown (Kd.R_bound h.outer) hg (fun k hk he => ?_)) (fun _ _ => trivial)
    obtain ⟨_, _, _, q, hq, cells, hc⟩ := hk
    obtain ⟨⟨cells', hc'⟩, _⟩ := h.typed hv he.symm
    rw [hc] at hc'
    injection hc' with hc'
    injection hc' with _ hc'
    subst hc'
    revert hq; decide
  · rw [List.getElem?_set] at hx
    by_cases hij : i = j
    · subst hij
      rw [if_pos rfl] at hx
      split at hx
      · injection hx with hx; subst hx
        rw [hv] at hvj; injection hvj with hvj; subst hvj
        exact hR
      · cases hx
    · rw [if_neg hij] at hx
      exact R_int_step (h.inner j vj x hvj hx) (fun k hk hlt => hg.block k hlt (fun e => h.dist i j v vj hv hvj hij k e.symm hk))
theorem Mat.below {w w1 : World} {base : Nat} {V : Value} {vs : List SV} {xs : List (List Int)} (h : Mat w base V vs xs) (hb : Below w.heap.size w w1) : Mat w1 base V vs xs :=
  ⟨Kd.R_below h.outer hb, h.len, fun j v x hv hx => Kd.R_below (h.inner j v x hv hx) hb, h.dist⟩
/-- a row more -/
theorem Mat.snoc {w w0 w1 : World} {base : Nat} {V V1 : Value} {vs : List SV} {xs : List (List Int)} (h : Mat w0 base V vs xs) (hb : Below w0.heap.size w0 w) (v : SV) (x : List Int) (hR : (Kd.int .i64).R 3 w w0.heap.size (fun _ => True) v.1 x) (hbase : base ≤ w0.heap.size)
    (ho : svKd.R 26 w1 base (fun _ => True) V1 (vs ++ [v])) (hg : w.grownBy w1 V.ownBlock) : Mat w1 base V1 (vs ++ [v]) (xs ++ [x]) := by
  have h2 := h.below hb
  have hne : ∀ (k : Nat), (∃ cells, w.heap[k]? = some (.cells cells 3 (0, 0))) → some k ≠ V.ownBlock := by
    rintro k ⟨cells, hc⟩ e
    obtain ⟨inner, ho⟩ := Kd.R_own h2.outer
    obtain ⟨cells', hc'⟩ := own_typed ho k e.symm
    rw [hc] at hc'
    injection hc' with hc'
    injection hc' with _ hc'
    revert hc'; decide
  have hRlt : ∀ k, v.1.ownBlock = some k → w0.heap.size ≤ k := Kd.R_base hR
  refine ⟨ho, by simp [h.len], fun j vj xj hvj hxj => ?_, fun i j vi vj hi hj hij k hki hkj => ?_⟩
  · rcases Nat.lt_or_ge j vs.length with hlt | hge
    · rw [List.getElem?_append_left hlt] at hvj
      rw [List.getElem?_append_left (by rw [← h.len]; exact hlt)] at hxj
      exact R_int_step (h2.inner j vj xj hvj hxj) (fun k hk hlt => hg.block k hlt (hne k (h2.typed hvj hk).1))
    · rw [List.getElem?_append_right hge] at hvj
      rw [List.getElem?_append_right (by rw [← h.len]; exact hge)] at hxj
      rw [← h.len] at hxj
      generalize j - vs.length = q at hvj hxj
      match q, hvj, hxj with
      | 0, hvj, hxj =>
        have e1 : v = vj := by simpa using hvj
        have e2 : x = xj := by simpa using hxj
        subst e1 e2
        refine R_int_step (Kd.R_lower hR hbase) (fun k hk hlt => hg.block k hlt (hne k ?_))
        obtain ⟨inner, ho⟩ := Kd.R_own hR
        exact own_typed ho k hk
  · rcases Nat.lt_or_ge i vs.length with hilt | hige <;> rcases Nat.lt_or_ge j vs.length with hjlt | hjge
    · rw [List.getElem?_append_left hilt] at hi
      rw [List.getElem?_append_left hjlt] at hj
      exact h.dist i j vi vj hi hj hij k hki hkj
    · rw [List.getElem?_append_left hilt] at hi
      have hvj : vj = v := by
        have := (List.getElem?_eq_some_iff.1 hj).1
        rw [List.getElem?_append_right hjge] at hj
        simp at this
        have e : j - vs.length = 0 := by omega
        rw [e] at hj
        simpa using hj.symm
      subst hvj
      have := (h.typed hi hki).2.2
      have := hRlt k hkj
      omega
    · rw [List.getElem?_append_left hjlt] at hj
      have hvi : vi = v := by
        have := (List.getElem?_eq_some_iff.1 hi).1
        rw [List.getElem?_append_right hige] at hi
        simp at this
        have e : i - vs.length = 0 := by omega
        rw [e] at hi
        simpa using hi.symm
      subst hvi
      have := (h.typed hj hkj).2.2
      have := hRlt k hki
      omega
    · have h1 := (List.getElem?_eq_some_iff.1 hi).1
      have h2 := (List.getElem?_eq_some_iff.1 hj).1
      simp at h1 h2
      omega

def nzAt (row : Int) (c : List Int) : Bool := rd c row != 0
/-- the rows behind the n-th, up to the i-th, turned -/
def mst (h : List Int → List Int) (m : List (List Int)) (n i : Nat) : List (List Int) := m.mapIdx (fun j c => if n < j ∧ j < i then h c else c)
def rkRow (p row : Int) (s : Nat × List (List Int)) : Nat × List (List Int) :=
  if fidx (nzAt row) (s.2.drop s.1) s.1 < 0 then s
  else
    let m1 := swp [] s.2 (fidx (nzAt row) (s.2.drop s.1) s.1).toNat s.1
    let x := m1.getD s.1 []
    (s.1 + 1, mst (fun c => redCol p (rd c row * pwi (rd x row) p % p) c x) m1 s.1 m1.length)
def rkS (p : Int) (rows : Nat) (m : List (List Int)) : Nat := ((List.range rows).foldl (fun s (row : Nat) => rkRow p row s) (0, m)).1
def greenwoodref05_rank.f (k : Nat) (a0 a1 : Int) (l2 : List (List Int)) : Option Int :=
  (elim_May.f k a0 a1 l2).bind fun t => if t = true then some (rkS a0 a1.toNat l2 : Int) else none
theorem mst_len (h : List Int → List Int) (m : List (List Int)) (n i : Nat) : (mst h m n i).length = m.length := by simp [mst]
theorem mst_get (h : List Int → List Int) (m : List (List Int)) (n i j : Nat) : (mst h m n i)[j]? = (m[j]?).map (fun c => if n < j ∧ j < i then h c else c) := by unfold mst; rw [List.getElem?_mapIdx]
theorem mst_start (h : List Int → List Int) (m : List (List Int)) (n : Nat) : mst h m n (n + 1) = m := by
  apply List.ext_getElem?
  intro j
  rw [mst_get]
  cases m[j]? with
  | none => rfl
  | some c => simp only [Option.map_some]; rw [if_neg (by omega)]
theorem mst_set (h : List Int → List Int) (m : List (List Int)) (n i : Nat) (hn : n < i) (c : List Int) (hc : m[i]? = some c) : (mst h m n i).set i (h c) = mst h m n (i + 1) := by
  have hi := (List.getElem?_eq_some_iff.1 hc).1
  apply List.ext_getElem?
  intro j
  rw [List.getElem?_set, mst_len, mst_get, mst_get]
  by_cases e : i = j
  · subst e
    rw [if_pos rfl, if_pos hi, hc]
    simp only [Option.map_some]
    rw [if_pos (by omega)]
  · rw [if_neg e]
    cases m[j]? with
    | none => rfl
    | some c' =>
      simp only [Option.map_some]
      by_cases h1 : n < j ∧ j < i
      · rw [if_pos h1, if_pos (by omega)]
      · rw [if_neg h1, if_neg (by omega)]
def GoodM (p : Int) (rows : Nat) (m : List (List Int)) : Prop := ∀ c ∈ m, c.length = rows ∧ Bd p c
theorem swp_mem {α : Type} (d : α) (m : List α) (a n : Nat) (ha : a < m.length) (hn : n < m.length) : ∀ c ∈ swp d m a n, c ∈ m := by
  intro c hc
  obtain ⟨j, hj⟩ := List.getElem?_of_mem hc
  rw [swp_get d m a n ha hn] at hj
  exact List.mem_of_getElem? hj
theorem mst_good {p : Int} {rows : Nat} {m : List (List Int)} (hm : GoodM p rows m) (h : List Int → List Int) (n i : Nat) (hh : ∀ c, c.length = rows → Bd p c → (h c).length = rows ∧ Bd p (h c)) : GoodM p rows (mst h m n i) := by
  intro c hc
  obtain ⟨j, hj⟩ := List.getElem?_of_mem hc
  rw [mst_get] at hj
  cases he : m[j]? with
  | none => rw [he] at hj; cases hj
  | some c' =>
    rw [he] at hj
    simp only [Option.map_some, Option.some.injEq] at hj
    have hg := hm c' (List.mem_of_getElem? he)
    split at hj
    · subst hj; exact hh c' hg.1 hg.2
    · subst hj; exact hg
theorem getD_mem {α : Type} (m : List α) (d : α) (i : Nat) (h : i < m.length) : m[i]? = some (m.getD i d) := by
  rw [List.getD_eq_getElem?_getD, List.getElem?_eq_getElem h]; rfl
theorem rkRow_good {p : Int} (hp : okP p) {rows : Nat} {row : Int} {s : Nat × List (List Int)} (hm : GoodM p rows s.2) (hn : s.1 ≤ s.2.length) : GoodM p rows (rkRow p row s).2 ∧ (rkRow p row s).2.length = s.2.length ∧ (rkRow p row s).1 ≤ s.2.length := by
  unfold rkRow
  have hf := fidx_ge (nzAt row) (s.2.drop s.1) s.1
  by_cases h : fidx (nzAt row) (s.2.drop s.1) s.1 < 0
  · rw [if_pos h]; exact ⟨hm, rfl, hn⟩
  · rw [if_neg h]
    have h2 := hf.2.2 (by omega)
    have h3 := hf.2.1
    rw [List.length_drop] at h3
    have ha : (fidx (nzAt row) (s.2.drop s.1) s.1).toNat < s.2.length := by omega
    have hn2 : s.1 < s.2.length := by omega
    have hg1 : GoodM p rows (swp [] s.2 (fidx (nzAt row) (s.2.drop s.1) s.1).toNat s.1) := fun c hc => hm c (swp_mem [] s.2 _ _ ha hn2 c hc)
    refine ⟨mst_good hg1 _ _ _ (fun c h1 h2 => ⟨?_, bd_redCol hp _ _ _⟩), by rw [mst_len, swp_len], by show s.1 + 1 ≤ s.2.length; omega⟩
    have hx := hg1 _ (List.mem_of_getElem? (getD_mem (swp [] s.2 (fidx (nzAt row) (s.2.drop s.1) s.1).toNat s.1) [] s.1 (by rw [swp_len]; exact hn2)))
    simp only [redCol, List.length_zipWith, h1, hx.1, Nat.min_self]

theorem Mat.row {w : World} {base : Nat} {V : Value} {vs : List SV} {xs : List (List Int)} (h : Mat w base V vs xs) (i : Nat) (x : List Int) (hx : xs[i]? = some x) (hp : 0 < x.length) : ∃ v g c, vs[i]? = some v ∧ v.1 = .slice (some ⟨g, 0, none⟩) x.length c ∧ base ≤ g ∧ g < w.heap.size ∧ ∃ cells, w.heap[g]? = some (.cells cells 3 (0, 0)) := by
  have hi : i < vs.length := by have := (List.getElem?_eq_some_iff.1 hx).1; have := h.len; omega
  have hv := List.getElem?_eq_getElem hi
  obtain ⟨g, c, hv1, hb, hl, hc⟩ := Kd.R_form (h.inner i _ x hv hx) hp
  exact ⟨_, g, c, hv, hv1, hb, hl, hc⟩
theorem Mat.ocell {w : World} {base gV n cap : Nat} {vs : List SV} {xs : List (List Int)} (h : Mat w base (.slice (some ⟨gV, 0, none⟩) n cap) vs xs) (i : Nat) (v : SV) (hv : vs[i]? = some v) : w.cell? ⟨gV, i, none⟩ = some v.1 ∧ w.frozen? ⟨gV, i, none⟩ = false := by
  have hi := (List.getElem?_eq_some_iff.1 hv).1
  have hn := (Kd.R_reads' h.outer).1
  obtain ⟨h1, h2⟩ := Kd.R_celln sv0 h.outer (i : Int) (by omega) (by omega)
  rw [Int.toNat_natCast] at h1 h2
  refine ⟨?_, h2⟩
  rw [h1]
  have : rdOf sv0 vs (i : Int) = v := by simp [rdOf, List.getD_eq_getElem?_getD, hv]
  rw [this]
theorem Mat.icell {w : World} {base : Nat} {V : Value} {vs : List SV} {xs : List (List Int)} (h : Mat w base V vs xs) (i : Nat) (v : SV) (x : List Int) (hv : vs[i]? = some v) (hx : xs[i]? = some x) {g n c : Nat} (hs : v.1 = .slice (some ⟨g, 0, none⟩) n c) (j : Int) (h0 : 0 ≤ j) (h1 : j < n) : w.cell? ⟨g, j.toNat, none⟩ = some (.int .i64 (rd x j)) ∧ w.frozen? ⟨g, j.toNat, none⟩ = false := by
  have hR := h.inner i v x hv hx
  rw [hs] at hR
  exact Kd.R_celln 0 hR j h0 h1

theorem rMod_s (a p : Int) (hp : okP p) (w : World) : Calls Try.prog 33 #[.int .i64 a, .int .i64 p] w fun e w' => e = .returned (.int .i64 (a % p)) ∧ w' = w := by
  have hp0 : p ≠ 0 := by have := hp.1; omega
  have h1b : decide (p < 1) = false := decide_eq_false (by have := hp.1; omega)
  have h2b : decide (2147483647 < p) = false := decide_eq_false (by have := hp.2; omega)
  have hd := tmod_bd (a := a) (show 0 < p by have := hp.1; omega)
  have he : Int.tmod (wrap64 (Int.tmod a p + p)) p = a % p := by
    have h2 := hp.2
    have h1 := hp.1
    rw [wrap_id (by omega) (by omega), Int.tmod_eq_emod_of_nonneg (by omega)]
    by_cases h : Int.tmod a p < 0
    · rw [tmod_neg_step (by omega) h, Int.emod_emod]
    · rw [tmod_pos_step (by omega) h, Int.add_emod_right, Int.emod_emod]
  have HE := Aside0.mk he
  clear hp hd he
  go_enter Try.func33, Try.ntmps33
  go_wp2
  go_ret
  exact ⟨by rw [← HE.out]; rfl, rfl⟩
theorem rInv_c (a p : Int) (hp : isP p = true) (ha : a % p ≠ 0) (w : World) : Calls Try.prog 32 #[.int .i64 a, .int .i64 p] w fun e w' => e = .returned (.tuple #[.int .i64 (pwi a p), .bool true]) ∧ Drawn0 w w' := by
  obtain ⟨k, hk⟩ := (rInv_eq a p).rounds
  rw [decide_eq_true ⟨hp, ha⟩, inv_pwi hp ha] at hk
  exact greenwoodref04_Inv.calls k a p _ _ w hk
end Go.Proofs.Ytepakefmioeilaa.P
/- Layer 5, the walk of the document's rank. -/
namespace Go.Proofs.Ytepakefmioeilaa.P
open Go.RowKit Go.Proofs.YtepakefmioeilaaW.PrintWords Go.Proofs.YtepakefmioeilaaW.PrintLast Go.Proofs.YtepakefmioeilaaW.PrintMore
set_option linter.unusedVariables false
set_option linter.unusedSimpArgs false

theorem infoL : (Try.prog.info? 26).map (fun i => (i.zero, i.size, i.bytes)) = some (some (.slice none 0 0), 1, 24) := by kernel_rfl

theorem fidx_get {α : Type} (q : α → Bool) : ∀ (l : List α) (i : Nat), 0 ≤ fidx q l i → ∃ x, l[(fidx q l i - i).toNat]? = some x ∧ q x = true := by
  intro l
  induction l with
  | nil => intro i h; unfold fidx at h; omega
  | cons x r ih =>
    intro i h
    unfold fidx at h ⊢
    by_cases hx : q x = true
    · rw [if_pos hx]; exact ⟨x, by simp, hx⟩
    · rw [if_neg hx] at h ⊢
      obtain ⟨y, hy, hq⟩ := ih (i + 1) h
      have h2 := (fidx_ge q r (i + 1)).2.2 h
      refine ⟨y, ?_, hq⟩
      rw [show (fidx q r (i + 1) - (i : Int)).toNat = (fidx q r (i + 1) - ((i + 1 : Nat) : Int)).toNat + 1 by omega]
      exact hy
theorem Mat.drew {w : World} {base : Nat} {V : Value} {vs : List SV} {xs : List (List Int)} (h : Mat w base V vs xs) : Mat w.drew base V vs xs := h.below (Below.refl _ _).drew

set_option maxHeartbeats 1000000 in
set_option maxRecDepth 100000 in
theorem rank_c (p : Int) (rows : Nat) (A : Option Addr) (c : Nat) (l : List (List Int)) (w : World) (hP : isP p = true) (hrows : rows ≤ 64) (hn : l.length ≤ 64) (hr : Kd.C (Kd.slice 3 (Kd.int .i64)) w A l.length l) (hc : l.length ≤ c) (hg : GoodM p rows l) :
    Calls Try.prog 25 #[.int .i64 p, .int .i64 (rows : Int), .slice A l.length c] w fun e w' => e = .returned (.int .i64 (rkS p rows l : Int)) ∧ Below w.heap.size w w' := by
  have HP := Aside0.mk (And.intro hP (isP_ok hP))
  have HR := Aside0.mk hr
  have HG := Aside0.mk hg
  have HL : Aside0 (l.length ≤ 64 ∧ l.length ≤ c ∧ rows ≤ 64) := ⟨⟨hn, hc, hrows⟩⟩
  have hn64 : (l.length : Int) ≤ 64 := by omega
  have hr64 : (rows : Int) ≤ 64 := by omega
  clear hP hr hg hn hc hrows
  go_enter Try.func25, Try.ntmps25
  go_wp2_with (first
      | ((with_reducible refine gate_dst (N := 19) rfl ?_); refine Kd.R_lit svKd w.heap.size 26 rfl (N := 19) rfl (xs := []) (inner := []) (ok := fun _ => True) (okp := fun _ => True) (by first | (go_simp; done) | (go_simp; rfl)) (Reps.none _ _) (fun _ h => h) trivial (Below.refl _ _) (Nat.le_refl _) (by decide) ?_; intro v1 w1 ho hb hg hn; have HO := Aside0.mk ho; have HB := Aside0.mk hb; clear ho hb hg hn))
  have HMT : Aside0 (Mat w1 w.heap.size v1 [] []) := ⟨⟨HO.out, rfl, fun j v x hv _ => by simp at hv, fun i j vi vj hi _ _ => by simp at hi⟩⟩
  go_loopg [7, 8] (l.length) (fun gg v7 s8 wr => ∃ (kk : Nat) (vs : List SV), kk ≤ l.length ∧ l.length - kk ≤ gg ∧ s8 = .int .i64 (kk : Int) ∧ Aside0 (Mat wr w.heap.size v7 vs (l.take kk)) ∧ Aside0 (Below w.heap.size w wr))
  case atStart => exact ⟨0, [], Nat.zero_le _, by omega, rfl, HMT, HB⟩
  case round =>
    obtain ⟨kk, vs, hkk, hgg, rfl, HM, HB⟩ := hrel
    have HW := Aside0.mk hgg
    clear hgg HMT HO
    by_cases hlt : kk < l.length
    · have hltz : (kk : Int) < (l.length : Int) := by omega
      have hk0 : 0 ≤ (kk : Int) := by omega
      obtain ⟨ad, A0, c0, ead, hcell, hl0, hR0⟩ := at_L1 HR.out (kk : Int) hk0 hltz
      cases ead
      rw [Int.toNat_natCast] at hcell
      replace hcell := (HB.out.cell (World.block_lt_of_cell? w _ hcell)).trans hcell
      have hgx : l[kk]? = some (rd_L1 l (kk : Int)) := by simp [rd_L1, List.getElem?_eq_getElem hlt]
      have hmem := List.mem_of_getElem? hgx
      have htk : l.take (kk + 1) = l.take kk ++ [rd_L1 l (kk : Int)] := by rw [List.take_add_one, hgx]; rfl
      have hgc := HG.out _ hmem
      generalize rd_L1 l (kk : Int) = col at *
      have HX := Aside0.mk (And.intro htk (And.intro hgc (And.intro hl0 hR0)))
      clear hgx hmem htk hgc hl0 hR0
      go_wp2_with (first
        | ((with_reducible refine gate_dst (N := 27) rfl ?_); refine Kd.R_lit (Kd.int .i64) (w0 := wr) wr.heap.size 3 rfl (N := 27) rfl (xs := []) (inner := []) (ok := fun _ => True) (okp := fun _ => True) (by first | (go_simp; done) | (go_simp; rfl)) (Reps.none _ _) (fun _ h => h) trivial (Below.refl _ _) (Nat.le_refl _) (by decide) ?_; intro v2 w2 ho hb hg hn; have hcell2 := (hb.cell (World.block_lt_of_cell? wr _ hcell)).trans hcell; have HO2 := Aside0.mk ho; have HB2 := Aside0.mk hb; clear ho hb hg hn)
        | ((with_reducible refine gate_dst (N := 32) rfl ?_); refine Kd.R_append_rows (Kd.int .i64) (w0 := wr) wr.heap.size rfl (.tmp 27) (.tmp 31) 26 3 (.int .i64 0) 8 rfl Try.underlying26 infoI rfl (by decide) (by decide) v2 [] col A0 col.length c0 (fun _ => True) (fun _ => False) rfl rfl HO2.out (Kd.C_below (Kd.C_below HX.out.2.2.2 HB.out) HB2.out) (fun x cs h => h) (fun k h => h.elim) (fun _ _ => trivial) HB2.out (Below.size HB2.out) (by have := HX.out.2.1.1; have := HL.out; simp; omega) ?_; intro v3 w3 ho2 hb2 hg2 hn2; rw [List.nil_append] at ho2; have HO3 := Aside0.mk ho2; have HB3 := Aside0.mk hb2; clear ho2 hb2 hg2 hn2; obtain ⟨Ao, co, rfl⟩ := Kd.R_slice HO3.out)
        | ((with_reducible refine gate_builtin (b := .append) (xs := #[.tmp 26, .tmp 33]) rfl ?_); at_builtin; refine Kd.R_append svKd (w0 := w) w.heap.size rfl (.tmp 26) (.tmp 33) 22 26 (.slice none 0 0) 24 rfl Try.underlying22 infoL rfl (by decide) (by omega) u7 vs ⟨.slice Ao col.length co, rfl⟩ [.slice Ao col.length co] (fun _ => True) (fun _ => False) rfl rfl rfl (fun _ h => h.elim) (fun _ _ => trivial) (HM.out.below HB3.out).outer (below_then HB.out (Below.size HB.out) HB3.out) (Nat.le_trans (Below.size HB.out) (Below.size HB3.out)) (by have := HM.out.len; have := HL.out; simp at *; omega) ?_; intro v4 w4 ho hb hg hat; have HM4 := Aside0.mk (HM.out.snoc HB3.out ⟨.slice Ao col.length co, rfl⟩ col HO3.out (Below.size HB.out) ho hg); have HB4 := Aside0.mk hb; rw [← HX.out.1] at HM4; clear ho hb hg hat))
      go_roundg (l.length - (kk + 1))
      case measure => have := HW.out; omega
      case rel => exact ⟨kk + 1, _, by omega, by omega, by go_num, HM4, HB4⟩
    · have hltz : ¬ (kk : Int) < (l.length : Int) := by omega
      have hke : kk = l.length := by omega
      subst hke
      rw [List.take_length] at HM
      have hvl : vs.length = l.length := HM.out.len
      obtain ⟨AV, cV, rfl⟩ := Kd.R_slice HM.out.outer
      rw [hvl] at HM
      simp only [hvl]
      have HB0 := HB
      clear HB hkk HW
      go_wp2
      go_loopg [9, 10] (rows) (fun gg s9 s10 wx => ∃ (row n : Nat) (vs : List SV) (m : List (List Int)), row ≤ rows ∧ rows - row ≤ gg ∧ s10 = .int .i64 (row : Int) ∧ s9 = .int .i64 (n : Int) ∧ Aside0 ((List.range row).foldl (fun s (row : Nat) => rkRow p row s) (0, l) = (n, m)) ∧
        Aside0 (Mat wx w.heap.size (.slice AV l.length cV) vs m) ∧ Aside0 (m.length = l.length ∧ n ≤ m.length ∧ GoodM p rows m) ∧ Aside0 (Below w.heap.size w wx))
      case atStart => exact ⟨0, 0, vs, l, Nat.zero_le _, by omega, rfl, rfl, ⟨rfl⟩, HM, ⟨rfl, Nat.zero_le _, HG.out⟩, HB0⟩
      case round =>
        clear HM HB0 hlt hltz
        obtain ⟨row, n, vs, m, hrow, hgg, rfl, rfl, HF, HM, HGM, HB⟩ := hrel
        have HW := Aside0.mk hgg
        clear hgg
        by_cases hlt : row < rows
        · have hltz : (row : Int) < (rows : Int) := by omega
          have hrow0 : 0 ≤ (row : Int) := by omega
          have hnl : (n : Int) ≤ (l.length : Int) := by have := HGM.out.2.1; have := HGM.out.1; omega
          have hgd := rkRow_good HP.out.2 (row := (row : Int)) (s := (n, m)) HGM.out.2.2 HGM.out.2.1
          have hnx : (List.range (row + 1)).foldl (fun s (row : Nat) => rkRow p row s) (0, l) = rkRow p (row : Int) (n, m) := by
            rw [List.range_succ, List.foldl_append, HF.out]; rfl
          have HNX := Aside0.mk (And.intro hnx hgd)
          clear hnx hgd HF
          go_wp2
          go_loopg [11, 12] (l.length) (fun g2 s11 s12 wy => ∃ (i : Nat) (at_ : Int), n ≤ i ∧ i ≤ l.length ∧ l.length - i ≤ g2 ∧ s12 = .int .i64 (i : Int) ∧ s11 = .int .i64 at_ ∧ Aside0 ((at_ = -1 ∧ fidx (nzAt (row : Int)) (m.drop n) n = fidx (nzAt (row : Int)) (m.drop i) i) ∨ (0 ≤ at_ ∧ fidx (nzAt (row : Int)) (m.drop n) n = at_)) ∧
            Aside0 (Mat wy w.heap.size (.slice AV l.length cV) vs m) ∧ Aside0 (Below w.heap.size w wy))
          case atStart => exact ⟨n, -1, Nat.le_refl _, by omega, by omega, rfl, rfl, ⟨.inl ⟨rfl, rfl⟩⟩, HM, HB⟩
          case round =>
            clear HM HB
            obtain ⟨i, at_, hni, hil, hg2, rfl, rfl, HAT, HM, HB⟩ := hrel
            have HW2 := Aside0.mk hg2
            clear hg2
            by_cases hi : i < l.length
            · have hiz : (i : Int) < (l.length : Int) := by omega
              have hi0 : 0 ≤ (i : Int) := by omega
              rcases HAT.out with ⟨rfl, hfe⟩ | ⟨ha0, hfe⟩
              · obtain ⟨x, hx⟩ : ∃ x, m[i]? = some x := ⟨_, List.getElem?_eq_getElem (by have := HGM.out.1; omega)⟩
                have hxg := HGM.out.2.2 x (List.mem_of_getElem? hx)
                have hfx : fidx (nzAt (row : Int)) (m.drop i) i = if nzAt (row : Int) x = true then (i : Int) else fidx (nzAt (row : Int)) (m.drop (i + 1)) (i + 1) := by
                  have hil2 : i < m.length := by have := HGM.out.1; omega
                  rw [List.drop_eq_getElem_cons hil2]
                  have e : m[i] = x := by rw [List.getElem?_eq_getElem hil2] at hx; injection hx
                  rw [e]; rfl
                obtain ⟨gV, capV, eV, _, _, cellsV, _⟩ := Kd.R_form HM.out.outer (by have := HM.out.len; have := HGM.out.1; omega)
                injection eV with eV1 eV2 eV3
                subst eV1
                clear eV2 eV3
                obtain ⟨v, g, cx, hv, hvs, _, _, _⟩ := HM.out.row i x hx (by rw [hxg.1]; omega)
                obtain ⟨hoc, _⟩ := HM.out.ocell i v hv
                rw [hvs] at hoc
                obtain ⟨hic, _⟩ := HM.out.icell i v x hv hx hvs (row : Int) hrow0 (by rw [hxg.1]; exact hltz)
                rw [Int.toNat_natCast] at hic
                have hxl : x.length = rows := hxg.1
                rw [hxl] at hoc
                cases hnz : nzAt (row : Int) x with
                | true =>
                  have hnb : (rd x (row : Int) != 0) = true := hnz
                  have HA2 : Aside0 (fidx (nzAt (row : Int)) (m.drop n) n = (i : Int)) := ⟨by rw [hfe, hfx, hnz, if_pos rfl]⟩
                  clear hx hxg hfx hv hvs hxl hnz hfe HAT
                  go_wp2
                  go_roundg (l.length - (i + 1))
                  case measure => have := HW2.out; omega
                  case rel => exact ⟨i + 1, (i : Int), by omega, by omega, by omega, by go_num, rfl, ⟨.inr ⟨hi0, HA2.out⟩⟩, HM, HB⟩
                | false =>
                  have hnb : (rd x (row : Int) != 0) = false := hnz
                  have HA2 : Aside0 (fidx (nzAt (row : Int)) (m.drop n) n = fidx (nzAt (row : Int)) (m.drop (i + 1)) (i + 1)) := ⟨by rw [hfe, hfx, hnz, if_neg (by decide)]⟩
                  clear hx hxg hfx hv hvs hxl hnz hfe HAT
                  go_wp2
                  go_roundg (l.length - (i + 1))
                  case measure => have := HW2.out; omega
                  case rel => exact ⟨i + 1, -1, by omega, by omega, by omega, by go_num, rfl, ⟨.inl ⟨rfl, HA2.out⟩⟩, HM, HB⟩
              · have hab : decide (at_ < 0) = false := decide_eq_false (by omega)
                have HA2 := Aside0.mk (And.intro ha0 hfe)
                clear ha0 hfe HAT
                go_wp2
                go_roundg (l.length - (i + 1))
                case measure => have := HW2.out; omega
                case rel => exact ⟨i + 1, at_, by omega, by omega, by omega, by go_num, rfl, ⟨.inr HA2.out⟩, HM, HB⟩
            · have hiz : ¬ (i : Int) < (l.length : Int) := by omega
              have HFX : Aside0 (fidx (nzAt (row : Int)) (m.drop n) n = at_) := ⟨by
                rcases HAT.out with ⟨rfl, hfe⟩ | ⟨_, hfe⟩
                · rw [hfe, List.drop_of_length_le (by have := HGM.out.1; omega)]; rfl
                · exact hfe⟩
              clear HAT
              by_cases hneg : at_ < 0
              · have hnb : decide (at_ < 0) = true := decide_eq_true hneg
                have HRK : Aside0 ((List.range (row + 1)).foldl (fun s (row : Nat) => rkRow p row s) (0, l) = (n, m)) := ⟨by rw [HNX.out.1]; unfold rkRow; rw [if_pos (by rw [HFX.out]; exact hneg)]⟩
                clear hneg
                go_wp2
                go_roundg (rows - (row + 1))
                case measure => have := HW.out; omega
                case rel => exact ⟨row + 1, n, vs, m, by omega, by omega, by go_num, rfl, HRK, HM, HGM, HB⟩
              · have hnb : decide (at_ < 0) = false := decide_eq_false hneg
                have hfg := fidx_ge (nzAt (row : Int)) (m.drop n) n
                rw [HFX.out, List.length_drop] at hfg
                obtain ⟨a, rfl⟩ : ∃ a : Nat, at_ = (a : Int) := ⟨at_.toNat, by omega⟩
                have hna : n ≤ a := by have := hfg.2.2 (by omega); omega
                have hal : a < l.length := by have := hfg.2.1; have := HGM.out.1; have := HGM.out.2.1; omega
                have hfg2 := fidx_get (nzAt (row : Int)) (m.drop n) n (by rw [HFX.out]; omega)
                rw [HFX.out, show ((a : Int) - (n : Int)).toNat = a - n by omega, List.getElem?_drop, show n + (a - n) = a by omega] at hfg2
                obtain ⟨xa, hxa, hnz⟩ := hfg2
                have hml : m.length = l.length := HGM.out.1
                obtain ⟨xn, hxn⟩ : ∃ x, m[n]? = some x := ⟨_, List.getElem?_eq_getElem (by omega)⟩
                have hga := HGM.out.2.2 xa (List.mem_of_getElem? hxa)
                have hgn := HGM.out.2.2 xn (List.mem_of_getElem? hxn)
                obtain ⟨gV, capV, eV, hgvb, hgvl, cellsV, hgvc⟩ := Kd.R_form HM.out.outer (by have := HM.out.len; omega)
                injection eV with eV1 eV2 eV3
                subst eV1
                clear eV2 eV3
                obtain ⟨va, ga, ca, hva, hvsa, hgab, _, _⟩ := HM.out.row a xa hxa (by rw [hga.1]; omega)
                obtain ⟨vn, gn, cn, hvn, hvsn, _, _, _⟩ := HM.out.row n xn hxn (by rw [hgn.1]; omega)
                obtain ⟨hca, hfa⟩ := HM.out.ocell a va hva
                obtain ⟨hcn, hfn⟩ := HM.out.ocell n vn hvn
                have hva1 : va.1 = .slice (some ⟨ga, 0, none⟩) rows ca := by rw [hvsa, hga.1]
                have hvn1 : vn.1 = .slice (some ⟨gn, 0, none⟩) rows cn := by rw [hvsn, hgn.1]
                rw [hva1] at hca
                rw [hvn1] at hcn
                have hr1 := Kd.R_putn HM.out.outer (a : Int) vn
                rw [Int.toNat_natCast, hvn1] at hr1
                have hr2 := Kd.R_putn hr1 (n : Int) va
                rw [Int.toNat_natCast, hva1] at hr2
                have hf1 := (Kd.R_celln sv0 hr1 (n : Int) (by omega) (by omega))
                rw [Int.toNat_natCast] at hf1
                have hsw : (vs.set a vn).set n va = swp sv0 vs a n := by
                  unfold swp
                  rw [List.getD_eq_getElem?_getD, hvn, List.getD_eq_getElem?_getD, hva]; rfl
                rw [hsw] at hr2
                have hlv := HM.out.len
                have HM2 := Aside0.mk (HM.out.swap a n (by omega) (by omega) hr2 (fun j v hv k hk => by
                  obtain ⟨⟨cells, hc⟩, _⟩ := HM.out.typed hv hk
                  have hne : k ≠ gV := by
                    rintro rfl
                    rw [hc] at hgvc
                    injection hgvc with hgvc
                    injection hgvc with _ hgvc
                    revert hgvc; decide
                  exact (Below.heap_setCell _ _ _ k hne).trans (Below.heap_setCell _ _ _ k hne)))
                have HB2 := Aside0.mk (pw_below_grown (pw_below_grown HB.out (some gV) (Below.size HB.out) (gb_set wr gV a (.slice (some ⟨gn, 0, none⟩) rows cn)) (fun k hk => by injection hk with hk; omega)) (some gV) (Nat.le_trans (Below.size HB.out) (gb_set wr gV a (.slice (some ⟨gn, 0, none⟩) rows cn)).size) (gb_set _ gV n (.slice (some ⟨ga, 0, none⟩) rows ca)) (fun k hk => by injection hk with hk; omega))
                have hvs2 : (swp sv0 vs a n)[n]? = some va := by rw [swp_get sv0 vs a n (by omega) (by omega), if_pos rfl]; exact hva
                have hms2 : (swp [] m a n)[n]? = some xa := by rw [swp_get [] m a n (by omega) (by omega), if_pos rfl]; exact hxa
                have hgs2 : GoodM p rows (swp [] m a n) := fun c hc => HGM.out.2.2 c (swp_mem [] m a n (by omega) (by omega) c hc)
                have hgetd : (swp [] m a n).getD n [] = xa := by rw [List.getD_eq_getElem?_getD, hms2]; rfl
                have hsl : (swp [] m a n).length = l.length := by rw [swp_len, hml]
                have hrk : rkRow p (row : Int) (n, m) = (n + 1, mst (fun c => redCol p (rd c (row : Int) * pwi (rd xa (row : Int)) p % p) c xa) (swp [] m a n) n l.length) := by
                  unfold rkRow
                  rw [if_neg (by rw [HFX.out]; omega)]
                  dsimp only
                  rw [HFX.out, Int.toNat_natCast, hgetd, hsl]
                have hab := hga.2.at_ hrow0 (by rw [hga.1]; exact hltz)
                have ha0 : rd xa (row : Int) % p ≠ 0 := by
                  rw [Int.emod_eq_of_lt hab.1 hab.2]
                  simpa [nzAt] using hnz
                have hin := pwi_spec HP.out.1 ha0
                have HINV := Aside0.mk (fun W => rInv_c (rd xa (row : Int)) p HP.out.1 ha0 W)
                have HIB : Aside0 (0 ≤ pwi (rd xa (row : Int)) p ∧ pwi (rd xa (row : Int)) p < p) := ⟨⟨hin.1, hin.2.1⟩⟩
                have HRK := Aside0.mk hrk
                have HS2 := Aside0.mk (And.intro hvs2 (And.intro hms2 (And.intro hgs2 (And.intro hsl (And.intro hva1 hga)))))
                have HGA := Aside0.mk hgab
                clear hfg hxa hnz hxn hga hgn hgvb hgvl hgvc hva hvsa hgab hvn hvsn hva1 hvn1 hr1 hr2 hsw hlv hvs2 hms2 hgs2 hgetd hrk hab ha0 hin hml
                obtain ⟨hf1a, hf1b⟩ := hf1
                go_upto_region 19 with (fail)
                clear hca hfa hcn hfn
                generalize (rdOf sv0 (vs.set a vn) (n : Int)).val = zz at hf1a
                generalize (wr.setCell ⟨gV, a, none⟩ (.slice (some ⟨gn, 0, none⟩) rows cn)) = wa at hf1a hf1b HM2 HB2 ⊢
                go_upto_region 20 with (fail)
                clear hf1a hf1b
                generalize (wa.setCell ⟨gV, n, none⟩ (.slice (some ⟨ga, 0, none⟩) rows ca)) = wb at HM2 HB2 ⊢
                obtain ⟨hic, _⟩ := HM2.out.icell n va xa HS2.out.1 HS2.out.2.1 HS2.out.2.2.2.2.1 (row : Int) hrow0 hltz
                rw [Int.toNat_natCast] at hic
                generalize hxr : rd xa (row : Int) = xr at hic HINV HIB HRK
                generalize pwi xr p = iv at HINV HIB HRK
                clear hxr
                go_wp2_with (first | (go_at_call 32; refine (HINV.out _).mono ?_; rintro e w2 ⟨rfl, ⟨q, rfl⟩⟩))
                have HM3 := Aside0.mk (HM2.out.below (pw_below_drewN (Below.refl _ _) q))
                have HB3 := Aside0.mk (pw_below_drewN HB2.out q)
                generalize swp [] m a n = X at *
                generalize swp sv0 vs a n = VS at *
                clear hic HM2 HB2 HM HB HGM HINV HFX
                generalize wb.drewN q = wc at HM3 HB3 ⊢
                have hn1 : (n : Int) + 1 ≤ (l.length : Int) := by omega
                obtain ⟨h, hh⟩ : ∃ h : List Int → List Int, h = fun c => redCol p (rd c (row : Int) * iv % p) c xa := ⟨_, rfl⟩
                rw [← hh] at HRK
                have HH := Aside0.mk hh
                clear hh
                go_loopg [16] (l.length) (fun g3 s16 wy => ∃ i : Nat, n + 1 ≤ i ∧ i ≤ l.length ∧ l.length - i ≤ g3 ∧ s16 = .int .i64 (i : Int) ∧ Aside0 (Mat wy w.heap.size (.slice (some ⟨gV, 0, none⟩) l.length cV) VS (mst h X n i)) ∧ Aside0 (Below w.heap.size w wy))
                case atStart => exact ⟨n + 1, Nat.le_refl _, by omega, by omega, by go_num, by rw [mst_start]; exact HM3, HB3⟩
                case round =>
                  clear HM3 HB3
                  obtain ⟨i, hni, hil, hg3, rfl, HM, HB⟩ := hrel
                  have HW3 := Aside0.mk hg3
                  clear hg3
                  by_cases hi : i < l.length
                  · have hiz : (i : Int) < (l.length : Int) := by omega
                    have hi0 : 0 ≤ (i : Int) := by omega
                    obtain ⟨ci, hci⟩ : ∃ x, X[i]? = some x := ⟨_, List.getElem?_eq_getElem (by omega)⟩
                    have hgc := HS2.out.2.2.1 ci (List.mem_of_getElem? hci)
                    have hmi : (mst h X n i)[i]? = some ci := by rw [mst_get, hci]; simp only [Option.map_some]; rw [if_neg (by omega)]
                    obtain ⟨vi, gi, ki, hvi, hvsi, hgib, hgil, _⟩ := HM.out.row i ci hmi (by rw [hgc.1]; omega)
                    have hcl : ci.length = rows := hgc.1
                    rw [hcl] at hvsi
                    obtain ⟨hoc, _⟩ := HM.out.ocell i vi hvi
                    rw [hvsi] at hoc
                    obtain ⟨hic, _⟩ := HM.out.icell i vi ci hvi hmi hvsi (row : Int) hrow0 hltz
                    rw [Int.toNat_natCast] at hic
                    have hp0 : p ≠ 0 := by have := HP.out.2.1; omega
                    have hya := hgc.2.at_ hrow0 (by rw [hcl]; exact hltz)
                    have hml := mul_small HP.out.2 hya HIB.out
                    have hew : Int.tmod (wrap64 (rd ci (row : Int) * iv)) p = rd ci (row : Int) * iv % p := by
                      rw [wrap_id (by omega) (by omega), Int.tmod_eq_emod_of_nonneg hml.1]
                    have hkb : 0 ≤ rd ci (row : Int) * iv % p ∧ rd ci (row : Int) * iv % p < p := ⟨Int.emod_nonneg _ hp0, Int.emod_lt_of_pos _ (by have := HP.out.2.1; omega)⟩
                    have hhc : h ci = redCol p (rd ci (row : Int) * iv % p) ci xa := by rw [HH.out]
                    have HEW := Aside0.mk (And.intro hew (And.intro hkb hhc))
                    have HCI := Aside0.mk (And.intro hci (And.intro hgc (And.intro hmi (And.intro hvi (And.intro hvsi hgib)))))
                    have HNE : Aside0 (X[n]? = some xa ∧ n ≠ i) := ⟨⟨HS2.out.2.1, by omega⟩⟩
                    clear hya hml hew hkb hhc hci hgc hmi hvi hvsi hgib hgil hcl
                    go_wp2
                    rw [HEW.out.1]
                    have HHC : Aside0 ((0 ≤ rd ci (row : Int) * iv % p ∧ rd ci (row : Int) * iv % p < p) ∧ h ci = redCol p (rd ci (row : Int) * iv % p) ci xa) := ⟨HEW.out.2⟩
                    clear HEW hoc hic
                    generalize rd ci (row : Int) * iv % p = k at HHC ⊢
                    go_loopg [18] (rows) (fun g4 s18 wz => ∃ jj : Nat, jj ≤ rows ∧ rows - jj ≤ g4 ∧ s18 = .int .i64 (jj : Int) ∧ Aside0 (Mat wz w.heap.size (.slice (some ⟨gV, 0, none⟩) l.length cV) VS ((mst h X n i).set i (stg (subm p k) ci xa jj))) ∧ Aside0 (Below w.heap.size w wz))
                    case atStart => exact ⟨0, Nat.zero_le _, by omega, rfl, by
                      rw [stg_zero]
                      have e : (mst h X n i).set i ci = mst h X n i := by
                        apply List.ext_getElem?
                        intro j
                        rw [List.getElem?_set]
                        by_cases e : i = j
                        · subst e; rw [if_pos rfl, HCI.out.2.2.1]; have := (List.getElem?_eq_some_iff.1 HCI.out.2.2.1).1; rw [if_pos this]
                        · rw [if_neg e]
                      rw [e]; exact HM, HB⟩
                    case round =>
                      clear HM HB
                      obtain ⟨jj, hjj, hg4, rfl, HM, HB⟩ := hrel
                      have HW4 := Aside0.mk hg4
                      clear hg4
                      by_cases hjl : jj < rows
                      · have hjlz : (jj : Int) < (rows : Int) := by omega
                        have hj0 : 0 ≤ (jj : Int) := by omega
                        have hil2 : i < (mst h X n i).length := by rw [mst_len]; omega
                        have hse : ((mst h X n i).set i (stg (subm p k) ci xa jj))[i]? = some (stg (subm p k) ci xa jj) := by rw [List.getElem?_set, if_pos rfl, if_pos hil2]
                        have hsn : ((mst h X n i).set i (stg (subm p k) ci xa jj))[n]? = some xa := by
                          rw [List.getElem?_set, if_neg (by have := HNE.out.2; omega), mst_get, HNE.out.1]
                          simp only [Option.map_some]
                          rw [if_neg (by omega)]
                        have hMd := HM.out.drew
                        obtain ⟨hoc, _⟩ := HM.out.ocell i vi HCI.out.2.2.2.1
                        rw [HCI.out.2.2.2.2.1] at hoc
                        obtain ⟨hic, hif⟩ := HM.out.icell i vi _ HCI.out.2.2.2.1 hse HCI.out.2.2.2.2.1 (jj : Int) hj0 hjlz
                        obtain ⟨hxc, _⟩ := HM.out.icell n va xa HS2.out.1 hsn HS2.out.2.2.2.2.1 (jj : Int) hj0 hjlz
                        have hcl : ci.length = rows := HCI.out.2.1.1
                        have hxl : xa.length = rows := HS2.out.2.2.2.2.2.1
                        have e1 : rd (stg (subm p k) ci xa jj) (jj : Int) = rd ci (jj : Int) := stg_rd (by rw [hxl, hcl]) jj (by rw [hcl]; exact hjl)
                        rw [e1] at hic
                        rw [Int.toNat_natCast] at hic hif hxc
                        have hRd := hMd.inner i vi _ HCI.out.2.2.2.1 hse
                        rw [HCI.out.2.2.2.2.1] at hRd
                        have hput := Kd.R_putn hRd (jj : Int) (subm p k (rd ci (jj : Int)) (rd xa (jj : Int)))
                        rw [Int.toNat_natCast] at hput
                        rw [stg_set (f := subm p k) (c := ci) (x := xa) (by rw [hxl, hcl]) jj (by rw [hcl]; exact hjl)] at hput
                        have hnew := hMd.put i vi HCI.out.2.2.2.1 _ (by rw [HCI.out.2.2.2.2.1]; exact hput) (by rw [HCI.out.2.2.2.2.1]; exact gb_set _ gi jj _)
                        rw [List.set_set] at hnew
                        have HNEW := Aside0.mk hnew
                        have hya := HCI.out.2.1.2.at_ hj0 (by rw [hcl]; exact hjlz)
                        have hyb := HS2.out.2.2.2.2.2.2.at_ hj0 (by rw [hxl]; exact hjlz)
                        have hml := mul_small HP.out.2 HHC.out.1 hyb
                        have hew : wrap64 (rd ci (jj : Int) - wrap64 (k * rd xa (jj : Int))) = rd ci (jj : Int) - k * rd xa (jj : Int) := by
                          have := HP.out.2.2
                          rw [wrap_id (a := k * rd xa (jj : Int)) (by omega) (by omega), wrap_id (by omega) (by omega)]
                        have hmod : ∀ W, Calls Try.prog 33 #[.int .i64 (IntKind.i64.wrap (rd ci (jj : Int) - IntKind.i64.wrap (k * rd xa (jj : Int)))), .int .i64 p] W fun e w' => e = .returned (.int .i64 (subm p k (rd ci (jj : Int)) (rd xa (jj : Int)))) ∧ w' = W := fun W => by
                          have h := rMod_s (wrap64 (rd ci (jj : Int) - wrap64 (k * rd xa (jj : Int)))) p HP.out.2 W
                          rw [show (wrap64 (rd ci (jj : Int) - wrap64 (k * rd xa (jj : Int)))) % p = subm p k (rd ci (jj : Int)) (rd xa (jj : Int)) from by rw [hew]; rfl] at h
                          rw [i64_w, i64_w]
                          exact h
                        clear hnew hput hRd hMd hse hsn e1 hcl hxl hya hyb hml hew
                        generalize subm p k (rd ci (jj : Int)) (rd xa (jj : Int)) = y at hmod HNEW
                        have HMOD := Aside0.mk hmod
                        clear hmod
                        go_wp2
                        refine wp_region_still_tail 22 (by kernel_rfl) (by kernel_rfl) ?_
                        simp only [List.take_succ_cons, List.take_zero, List.drop_succ_cons, List.drop_zero]
                        repeat still_step
                        still_call (HMOD.out _)
                        repeat still_step
                        refine wpStill_nil ?_
                        change wpList _ _ _ _ _ wr.drew
                        have hicd : wr.drew.cell? ⟨gi, jj, none⟩ = some (.int .i64 (rd ci (jj : Int))) := hic
                        have hifd : wr.drew.frozen? ⟨gi, jj, none⟩ = false := hif
                        have HBd := Aside0.mk (pw_below_grown HB.out.drew (some gi) (Below.size HB.out.drew) (gb_set wr.drew gi jj (.int .i64 y)) (fun k hk => by injection hk with hk; rw [← hk]; exact HCI.out.2.2.2.2.2))
                        clear hic hif hxc hoc
                        generalize wr.drew = wd at HNEW HBd hicd hifd ⊢
                        go_wp2
                        go_roundg (rows - (jj + 1))
                        case measure => have := HW4.out; omega
                        case rel => exact ⟨jj + 1, by omega, by omega, by go_num, HNEW, HBd⟩
                      · have hjlz : ¬ (jj : Int) < (rows : Int) := by omega
                        have hje : jj = rows := by omega
                        subst hje
                        have hcl : ci.length = jj := HCI.out.2.1.1
                        have hxl : xa.length = jj := HS2.out.2.2.2.2.2.1
                        have HMN : Aside0 (Mat wr w.heap.size (.slice (some ⟨gV, 0, none⟩) l.length cV) VS (mst h X n (i + 1))) := ⟨by
                          have h1 := HM.out
                          rw [show stg (subm p k) ci xa jj = redCol p k ci xa from by rw [← hcl]; exact stg_all (by rw [hxl, hcl]), ← HHC.out.2, mst_set h X n i (by omega) ci HCI.out.1] at h1
                          exact h1⟩
                        clear hcl hxl HM
                        go_wp2
                        go_roundg (l.length - (i + 1))
                        case measure => have := HW3.out; omega
                        case rel => exact ⟨i + 1, by omega, by omega, by omega, by go_num, HMN, HB⟩
                  · have hiz : ¬ (i : Int) < (l.length : Int) := by omega
                    have hie : i = l.length := by omega
                    subst hie
                    have HR2 : Aside0 ((List.range (row + 1)).foldl (fun s (row : Nat) => rkRow p row s) (0, l) = (n + 1, mst h X n l.length)) := ⟨by rw [HNX.out.1, HRK.out]⟩
                    have HG2 : Aside0 ((mst h X n l.length).length = l.length ∧ n + 1 ≤ (mst h X n l.length).length ∧ GoodM p rows (mst h X n l.length)) := ⟨by
                      have := HNX.out.2
                      rw [HRK.out] at this
                      dsimp only at this
                      refine ⟨by rw [mst_len]; exact HS2.out.2.2.2.1, by rw [mst_len, HS2.out.2.2.2.1]; omega, this.1⟩⟩
                    go_wp2
                    go_roundg (rows - (row + 1))
                    case measure => have := HW.out; omega
                    case rel => exact ⟨row + 1, n + 1, VS, mst h X n l.length, by omega, by omega, by go_num, by go_num, HR2, HM, HG2, HB⟩
        · have hltz : ¬ (row : Int) < (rows : Int) := by omega
          have hre : row = rows := by omega
          subst hre
          have HE : Aside0 (rkS p row l = n) := ⟨by unfold rkS; rw [HF.out]⟩
          go_wp2
          go_ret
          exact ⟨by rw [HE.out]; rfl, HB.out⟩

theorem greenwoodref05_rank.calls (k : Nat) (a0 a1 : Int) (A2 : Option Addr) (c2 : Nat) (l2 : List (List Int)) (r : Int) (w : World) (hr2 : Kd.C (Kd.slice 3 (Kd.int .i64)) w A2 l2.length l2) (hc2 : l2.length ≤ c2) (h : greenwoodref05_rank.f k a0 a1 l2 = some r) :
    Calls Try.prog 25 #[.int .i64 a0, .int .i64 a1, .slice A2 l2.length c2] w fun e w' => e = .returned (.int .i64 r) ∧ Below w.heap.size w w' := by
  unfold greenwoodref05_rank.f at h
  obtain ⟨t, ht, h⟩ := Option.bind_eq_some_iff.mp h
  cases t with
  | false => rw [if_neg (by decide)] at h; cases h
  | true =>
    rw [if_pos rfl] at h
    have h := Option.some.inj h
    obtain ⟨hP, h0, h64, hn, hcs⟩ := may_true ht
    have := rank_c a0 a1.toNat A2 c2 l2 w hP (by omega) hn hr2 hc2 hcs
    rw [show ((a1.toNat : Nat) : Int) = a1 by omega, h] at this
    exact this
end Go.Proofs.Ytepakefmioeilaa.P
/- Layer 5: the document's rank, by elimination, is the rank. -/
namespace Go.Proofs.Ytepakefmioeilaa.P
open Go.RowKit Go.Proofs.YtepakefmioeilaaW.PrintWords Go.Proofs.YtepakefmioeilaaW.PrintLast Go.Proofs.YtepakefmioeilaaW.PrintMore
open LinA (V Sp zv smul comb rk Fld)
set_option linter.unusedVariables false
set_option linter.unusedSimpArgs false

theorem fidx_none_of {α : Type} (q : α → Bool) : ∀ (l : List α) (i : Nat), fidx q l i < 0 → ∀ x ∈ l, q x = false := by
  intro l
  induction l with
  | nil => intro i _ x hx; cases hx
  | cons y r ih =>
    intro i h x hx
    unfold fidx at h
    by_cases hy : q y = true
    · rw [if_pos hy] at h; omega
    · rw [if_neg hy] at h
      rcases List.mem_cons.mp hx with rfl | hx
      · simpa using hy
      · exact ih (i + 1) h x hx
section
variable {P : Nat} [NeZero P]
structure RI (rows row n : Nat) (m : List (List Int)) (L : List (V P)) : Prop where
  good : GoodM (P : Int) rows m
  nle : n ≤ m.length
  rkA : rk ((m.take n).map vec : List (V P)) = n
  into : ∀ v ∈ (m.map vec : List (V P)), Sp L v
  fro : ∀ v ∈ L, Sp (m.map vec : List (V P)) v
  low : ∀ (j : Nat) (c : List Int), m[j]? = some c → n ≤ j → ∀ i : Nat, i < row → (vec c : V P) i = 0
  ker : ∀ v : V P, Sp ((m.take n).map vec) v → (∀ i : Nat, i < row → v i = 0) → v = zv
theorem vr1 (a b k : Fin P) (h : k * b = 1) : a + -(a * k) * b = 0 := by
  have : a + -(a * k) * b = a + -(a * (k * b)) := by grind
  rw [this, h]; grind
theorem vr2 {c b : Fin P} {d : Fin P} (h : c * b = 0) (hd : b * d = 1) : c = 0 := by
  have : c = c * b * d := by
    have e : c * b * d = c * (b * d) := by grind
    rw [e, hd]; grind
  rw [this, h]; grind
theorem vr3 (u x : V P) (k : Fin P) : u = LinA.add (LinA.add u (smul (-k) x)) (smul k x) := by funext i; simp only [LinA.add, smul]; grind
theorem rkRow_ri (hP : isP (P : Int) = true) (hF : Fld P) {rows row n : Nat} {m : List (List Int)} {L : List (V P)} (hrow : row < rows) (h : RI rows row n m L) : RI rows (row + 1) (rkRow (P : Int) (row : Int) (n, m)).1 (rkRow (P : Int) (row : Int) (n, m)).2 L := by
  have hgd := rkRow_good (isP_ok hP) (row := (row : Int)) (s := (n, m)) h.good h.nle
  have hne := fidx_none_of (nzAt (row : Int)) (m.drop n) n
  have hge := fidx_ge (nzAt (row : Int)) (m.drop n) n
  have hget := fidx_get (nzAt (row : Int)) (m.drop n) n
  have hrr : ∀ c : List Int, (vec c : V P) row = cz (rd c (row : Int)) := fun c => rfl
  unfold rkRow at hgd ⊢
  dsimp only at hgd ⊢
  generalize fidx (nzAt (row : Int)) (m.drop n) n = at_ at *
  by_cases hneg : at_ < 0
  · rw [if_pos hneg]
    refine ⟨h.good, h.nle, h.rkA, h.into, h.fro, fun j c hc hj i hi => ?_, fun v hv hz => h.ker v hv (fun i hi => hz i (by omega))⟩
    by_cases hi2 : i < row
    · exact h.low j c hc hj i hi2
    · have e : i = row := by omega
      subst e
      have hm : c ∈ m.drop n := List.mem_of_getElem? (i := j - n) (by rw [List.getElem?_drop, show n + (j - n) = j by omega]; exact hc)
      have := hne hneg c hm
      simp only [nzAt, bne_eq_false_iff_eq] at this
      rw [hrr, this]; exact cz_0
  · rw [if_neg hneg] at hgd ⊢
    rw [List.length_drop] at hge
    obtain ⟨a, rfl⟩ : ∃ a : Nat, at_ = (a : Int) := ⟨at_.toNat, by omega⟩
    have hna : n ≤ a := by have := hge.2.2 (by omega); omega
    have ham : a < m.length := by have := hge.2.1; have := h.nle; omega
    have hnm : n < m.length := by omega
    obtain ⟨xa, hxa, hnz⟩ := hget (by omega)
    rw [show ((a : Int) - (n : Int)).toNat = a - n by omega, List.getElem?_drop, show n + (a - n) = a by omega] at hxa
    rw [Int.toNat_natCast] at hgd ⊢
    have hs := swp_get [] m a n ham hnm
    have hl := swp_len [] m a n
    have hsm := swp_mem [] m a n ham hnm
    generalize swp [] m a n = X at hs hl hsm hgd ⊢
    have hXn : X[n]? = some xa := by rw [hs, if_pos rfl, hxa]
    have hXd : X.getD n [] = xa := by rw [List.getD_eq_getElem?_getD, hXn]; rfl
    rw [hXd] at hgd ⊢
    have hga := h.good xa (List.mem_of_getElem? hxa)
    have hab := hga.2.at_ (i := (row : Int)) (by omega) (by rw [hga.1]; omega)
    have ha0 : rd xa (row : Int) % (P : Int) ≠ 0 := by
      rw [Int.emod_eq_of_lt hab.1 hab.2]
      simpa [nzAt] using hnz
    have hin := pwi_spec hP ha0
    have hxz : ∀ i : Nat, i < row → (vec xa : V P) i = 0 := h.low a xa hxa hna
    have hp2 : 2 ≤ P := by have := (isP_true.mp hP).2.1; simpa using this
    have h1 : (((1 : Fin P).val : Nat) : Int) = 1 := by
      obtain ⟨q, rfl⟩ : ∃ q, P = q + 2 := ⟨P - 2, by omega⟩
      rfl
    have hinv : (cz (pwi (rd xa (row : Int)) P) : Fin P) * (vec xa : V P) row = 1 := by
      rw [hrr, ← cz_mul]
      apply fin_ext
      rw [cz_val, hin.2.2, h1]
    generalize pwi (rd xa (row : Int)) (P : Int) = iv at hin hinv hgd ⊢
    obtain ⟨g, hg⟩ : ∃ g : List Int → List Int, g = fun c => redCol (P : Int) (rd c (row : Int) * iv % P) c xa := ⟨_, rfl⟩
    rw [← hg] at hgd ⊢
    have hvg : ∀ c : List Int, c.length = rows → (vec (g c) : V P) = LinA.add (vec c) (smul (-((vec c : V P) row * cz iv)) (vec xa)) := by
      intro c hc
      rw [hg]
      show vec (redCol (P : Int) _ c xa) = _
      rw [vec_redCol _ (by rw [hga.1, hc]), cz_mod, cz_mul, hrr]
    have hmg := mst_get g X n X.length
    have htk : (mst g X n X.length).take (n + 1) = m.take n ++ [xa] := by
      apply List.ext_getElem?
      intro j
      rw [List.getElem?_take, List.getElem?_append, List.length_take, Nat.min_eq_left h.nle, List.getElem?_take]
      by_cases hj : j < n
      · rw [if_pos (by omega), if_pos hj, if_pos hj, hmg, hs, if_neg (by omega), if_neg (by omega)]
        cases m[j]? with
        | none => rfl
        | some c => simp only [Option.map_some]; rw [if_neg (by omega)]
      · rw [if_neg hj]
        by_cases hj2 : j = n
        · subst hj2
          rw [if_pos (by omega), hmg, hXn]
          simp
        · rw [if_neg (by omega), List.getElem?_eq_none (by simp; omega)]
    have hout : ¬ Sp ((m.take n).map vec) (vec xa : V P) := by
      intro hs
      have := h.ker _ hs hxz
      rw [this] at hinv
      simp only [zv] at hinv
      rw [fin_mz] at hinv
      exact hF.one_ne hinv.symm
    have hto : ∀ (j : Nat) (c : List Int), X[j]? = some c → Sp (m.map vec) (vec c : V P) := by
      intro j c hc
      exact Sp.mem (List.mem_map.2 ⟨c, hsm c (List.mem_of_getElem? hc), rfl⟩)
    have hxm : Sp ((mst g X n X.length).map vec) (vec xa : V P) := Sp.mem (List.mem_map.2 ⟨xa, List.mem_of_getElem? (i := n) (by rw [hmg, hXn]; simp), rfl⟩)
    refine ⟨hgd.1, by rw [hgd.2.1]; exact hgd.2.2, ?_, ?_, ?_, ?_, ?_⟩
    · show rk (((mst g X n X.length).take (n + 1)).map vec : List (V P)) = n + 1
      rw [htk, List.map_append, List.map_cons, List.map_nil, LinA.rk_snoc_out hF hout, h.rkA]
    · intro v hv
      obtain ⟨c, hc, rfl⟩ := List.mem_map.1 hv
      obtain ⟨j, hj⟩ := List.getElem?_of_mem hc
      dsimp only at hj
      rw [hmg] at hj
      cases he : X[j]? with
      | none => rw [he] at hj; cases hj
      | some c' =>
        rw [he] at hj
        simp only [Option.map_some, Option.some.injEq] at hj
        have h2 : Sp L (vec c' : V P) := (hto j c' he).trans h.into
        split at hj
        · subst hj
          rw [hvg c' (h.good c' (hsm c' (List.mem_of_getElem? he))).1]
          exact h2.add (((hto n xa hXn).trans h.into).smul _)
        · subst hj; exact h2
    · intro v hv
      refine (h.fro v hv).trans (fun u hu => ?_)
      obtain ⟨c, hc, rfl⟩ := List.mem_map.1 hu
      obtain ⟨j0, hj0⟩ := List.getElem?_of_mem hc
      have hj0l : j0 < m.length := (List.getElem?_eq_some_iff.1 hj0).1
      obtain ⟨j, hjl, hj⟩ : ∃ j, j < X.length ∧ X[j]? = some c := by
        refine ⟨if j0 = n then a else if j0 = a then n else j0, ?_, ?_⟩
        · rw [hl]; split
          · exact ham
          · split <;> omega
        · rw [hs]
          by_cases e1 : j0 = n
          · subst e1
            rw [if_pos rfl]
            by_cases e2 : a = j0
            · rw [if_pos e2, e2]; exact hj0
            · rw [if_neg e2, if_pos rfl]; exact hj0
          · rw [if_neg e1]
            by_cases e2 : j0 = a
            · subst e2
              rw [if_pos rfl, if_pos rfl]; exact hj0
            · rw [if_neg e2, if_neg e1, if_neg e2]; exact hj0
      have hcl := (h.good c hc).1
      have hm2 : (mst g X n X.length)[j]? = some (if n < j ∧ j < X.length then g c else c) := by rw [hmg, hj]; rfl
      by_cases hnj : n < j ∧ j < X.length
      · rw [if_pos hnj] at hm2
        have h3 : Sp ((mst g X n X.length).map vec) (vec (g c) : V P) := Sp.mem (List.mem_map.2 ⟨_, List.mem_of_getElem? hm2, rfl⟩)
        rw [hvg c hcl] at h3
        exact (h3.add (hxm.smul ((vec c : V P) row * cz iv))).of_eq (vr3 _ _ _).symm
      · rw [if_neg hnj] at hm2
        exact Sp.mem (List.mem_map.2 ⟨_, List.mem_of_getElem? hm2, rfl⟩)
    · intro j c hc hnj i hi
      dsimp only at hc hnj
      rw [hmg] at hc
      cases he : X[j]? with
      | none => rw [he] at hc; cases hc
      | some c' =>
        rw [he] at hc
        simp only [Option.map_some, Option.some.injEq] at hc
        have hjX := (List.getElem?_eq_some_iff.1 he).1
        rw [if_pos ⟨by omega, hjX⟩] at hc
        subst hc
        rw [hvg c' (h.good c' (hsm c' (List.mem_of_getElem? he))).1]
        simp only [LinA.add, smul]
        by_cases hi2 : i < row
        · rw [hs] at he
          have hcz : (vec c' : V P) i = 0 := h.low _ c' he (by split <;> (try split) <;> omega) i hi2
          rw [hcz, hxz i hi2]; grind
        · have e : i = row := by omega
          subst e
          exact vr1 _ _ _ hinv
    · intro v hv hz
      dsimp only at hv
      rw [htk, List.map_append, List.map_cons, List.map_nil] at hv
      have hv2 : Sp (vec xa :: (m.take n).map vec) v := hv.mono (fun u hu => by
        rcases List.mem_append.1 hu with hu | hu
        · exact List.mem_cons_of_mem _ hu
        · rw [List.mem_singleton.1 hu]; exact List.mem_cons_self)
      obtain ⟨c, w, rfl, hw⟩ := Sp.cons hv2
      have hwz : w = zv := h.ker w hw (fun i hi => by
        have := hz i (by omega)
        simp only [LinA.add, smul, hxz i hi] at this
        rw [fin_mz] at this
        grind)
      subst hwz
      have h5 := hz row (by omega)
      simp only [LinA.add, smul, zv] at h5
      have h6 : c * (vec xa : V P) row = 0 := by grind
      have hc0 : c = 0 := vr2 (d := cz iv) h6 (by rw [← hinv]; grind)
      subst hc0
      funext i; simp only [LinA.add, smul, zv]; grind
theorem rk_foldl (hP : isP (P : Int) = true) (hF : Fld P) {rows : Nat} {m : List (List Int)} (hg : GoodM (P : Int) rows m) : ∀ k : Nat, k ≤ rows → RI rows k ((List.range k).foldl (fun s (row : Nat) => rkRow P row s) (0, m)).1 ((List.range k).foldl (fun s (row : Nat) => rkRow P row s) (0, m)).2 (m.map vec : List (V P)) := by
  intro k
  induction k with
  | zero =>
    intro _
    exact ⟨hg, Nat.zero_le _, by simp [LinA.rk, LinA.gb], fun v hv => Sp.mem hv, fun v hv => Sp.mem hv, fun _ _ _ _ i hi => absurd hi (by omega), fun v hv _ => by
      simp only [List.range_zero, List.foldl_nil, List.take_zero, List.map_nil] at hv
      exact hv.nil⟩
  | succ k ih =>
    intro hk
    rw [List.range_succ, List.foldl_append]
    exact rkRow_ri hP hF (by omega) (ih (by omega))
theorem rkS_rk (hP : isP (P : Int) = true) (hF : Fld P) {rows : Nat} {m : List (List Int)} (hg : GoodM (P : Int) rows m) : rkS (P : Int) rows m = rk (m.map vec : List (V P)) := by
  have h := rk_foldl hP hF hg rows (Nat.le_refl _)
  unfold rkS
  generalize (List.range rows).foldl (fun s (row : Nat) => rkRow (P : Int) row s) (0, m) = s at h
  obtain ⟨n, X⟩ := s
  have h1 : rk (m.map vec : List (V P)) = rk (X.map vec : List (V P)) := LinA.rk_congr hF h.fro h.into
  have h2 : rk (X.map vec : List (V P)) = rk ((X.take n).map vec : List (V P)) := LinA.rk_congr hF (fun v hv => by
    obtain ⟨c, hc, rfl⟩ := List.mem_map.1 hv
    obtain ⟨j, hj⟩ := List.getElem?_of_mem hc
    by_cases hjn : j < n
    · exact Sp.mem (List.mem_map.2 ⟨c, List.mem_of_getElem? (i := j) (by rw [List.getElem?_take, if_pos hjn]; exact hj), rfl⟩)
    · have hz : (vec c : V P) = zv := by
        funext i
        by_cases hi : i < rows
        · exact h.low j c hj (by omega) i hi
        · exact vec_out (by rw [(h.good c hc).1]; omega)
      rw [hz]; exact Sp.zero) (fun v hv => by
    obtain ⟨c, hc, rfl⟩ := List.mem_map.1 hv
    exact Sp.mem (List.mem_map.2 ⟨c, List.mem_of_mem_take hc, rfl⟩))
  rw [h1, h2]
  exact h.rkA.symm
end
end Go.Proofs.Ytepakefmioeilaa.P
-- written by wip/tool/ownprint.py of this claim's own repository, out of the translation's print
namespace Go.Proofs.Ytepakefmioeilaa.P
open Go.RowKit Go.Proofs.YtepakefmioeilaaW.PrintWords Go.Proofs.YtepakefmioeilaaW.PrintLast Go.Proofs.YtepakefmioeilaaW.PrintMore
attribute [local go_sem] max2_int min2_int max_two min_two max_three min_three max_four min_four   -- for this text's walks alone
set_option linter.unusedVariables false
set_option linter.unusedSimpArgs false

/-! ### greenwoodref05_Rank: function 15 -/
def greenwoodref05_Rank.f (k : Nat) (a0 : Int) (a1 : Int) (l2 : List (List Int)) : Option (Int) := (greenwoodref05_May.f k a0 a1 l2).bind fun t196 => (if t196 = true then ((greenwoodref05_rank.f k a0 a1 l2).bind fun t197 => (some t197)) else (some (-1)))
set_option maxHeartbeats 8000000 in
set_option maxRecDepth 100000 in
theorem greenwoodref05_Rank.calls (k : Nat) (a0 : Int) (a1 : Int) (A2 : Option Addr) (c2 : Nat) (l2 : List (List Int)) (r : Int) (w : World) (hr2 : Kd.C (Kd.slice 3 (Kd.int .i64)) w A2 l2.length l2) (hc2 : l2.length ≤ c2) (h : greenwoodref05_Rank.f k a0 a1 l2 = some r) :
    Calls Try.prog 15 #[.int .i64 a0, .int .i64 a1, .slice A2 l2.length c2] w fun e w' => e = .returned (.int .i64 r) ∧ Below w.heap.size w w' := by
  have HR2 := Aside0.mk hr2
  have HC2 := Aside0.mk hc2
  clear hr2 hc2
  have HB := Aside0.mk (Below.refl w.heap.size w)
  have H : ((greenwoodref05_May.f k a0 a1 l2).bind fun t196 => (if t196 = true then ((greenwoodref05_rank.f k a0 a1 l2).bind fun t197 => (some t197)) else (some (-1)))) = some r := h
  clear h
  replace H := Option.bind_eq_some_iff.mp H
  obtain ⟨t196, A40, H⟩ := H
  replace H : (if t196 = true then ((greenwoodref05_rank.f k a0 a1 l2).bind fun t197 => (some t197)) else (some (-1))) = some r := H
  have A4 := Aside0.mk A40
  clear A40
  by_cases c5 : t196 = true
  · subst c5
    have H1 : ((greenwoodref05_rank.f k a0 a1 l2).bind fun t197 => (some t197)) = some r := by rw [if_pos rfl] at H; exact H
    clear H
    have H := H1
    clear H1
    replace H := Option.bind_eq_some_iff.mp H
    obtain ⟨t197, A60, H⟩ := H
    replace H : (some t197) = some r := H
    have A6 := Aside0.mk A60
    clear A60
    obtain rfl := Option.some.inj H
    go_enter Try.func15, Try.ntmps15
    go_wp2_with (first | ((with_reducible refine gate_callee (f := 10) rfl ?_); refine goesL_ (some 10) rfl rfl Try.func10 (by kernel_rfl) rfl #[.int .i64 a0, .int .i64 a1, .slice A2 l2.length c2] rfl (by (try simp only [List.map_toArray, List.map_cons, List.map_nil]); first | done | rfl | (simp only [List.length_drop, List.length_take]; rfl)) ?_; (with_reducible refine (greenwoodref05_May.calls k a0 a1 _ _ l2 true _ ?side1 ?side2 A4.out).mono ?_); (case side1 => repeat (first | exact HR2.out | (with_reducible refine Kd.C_alloc ?_ _) | (with_reducible refine Kd.C_drewN ?_ _) | (with_reducible refine Kd.C_drew ?_))); (case side2 => exact HC2.out); rintro e w' ⟨rfl, ⟨nd, rfl⟩⟩; refine ⟨_, rfl, ?_⟩) | ((with_reducible refine gate_callee (f := 25) rfl ?_); refine goesL_ (some 15) rfl rfl Try.func25 (by kernel_rfl) rfl #[.int .i64 a0, .int .i64 a1, .slice A2 l2.length c2] rfl (by (try simp only [List.map_toArray, List.map_cons, List.map_nil]); first | done | rfl | (simp only [List.length_drop, List.length_take]; rfl)) ?_; (with_reducible refine (greenwoodref05_rank.calls k a0 a1 _ _ l2 t197 _ ?side1 ?side2 A6.out).mono ?_); (case side1 => repeat (first | exact HR2.out | (with_reducible refine Kd.C_alloc ?_ _) | (with_reducible refine Kd.C_drewN ?_ _) | (with_reducible refine Kd.C_drew ?_))); (case side2 => exact HC2.out); rintro e w7 ⟨rfl, hb⟩; refine ⟨_, rfl, ?_⟩; have n0_ := Aside0.mk (below_step (by repeat (first | (with_reducible first | exact HB.out | apply below_alloc | apply pw_below_drewN | apply below_drew1) | exact HB.out)) hb); clear HB; have HB := n0_; clear n0_; (try clear hb); (try clear hb2); (try clear hk); (try clear hi)))
    go_ret
    exact ⟨by first | rfl | (simp [errW_none, errW_some] <;> rfl) | (simp [*, errW_none, errW_some] <;> rfl), by repeat (first | (with_reducible first | exact HB.out | apply below_alloc | apply pw_below_drewN | apply below_drew1) | exact HB.out)⟩
  · replace c5 := Bool.eq_false_iff.mpr c5
    subst c5
    have H1 : (some (-1)) = some r := by rw [if_neg (show ¬ (false = true) by decide)] at H; exact H
    clear H
    have H := H1
    clear H1
    obtain rfl := Option.some.inj H
    go_enter Try.func15, Try.ntmps15
    go_wp2_with (first | ((with_reducible refine gate_callee (f := 10) rfl ?_); refine goesL_ (some 10) rfl rfl Try.func10 (by kernel_rfl) rfl #[.int .i64 a0, .int .i64 a1, .slice A2 l2.length c2] rfl (by (try simp only [List.map_toArray, List.map_cons, List.map_nil]); first | done | rfl | (simp only [List.length_drop, List.length_take]; rfl)) ?_; (with_reducible refine (greenwoodref05_May.calls k a0 a1 _ _ l2 false _ ?side1 ?side2 A4.out).mono ?_); (case side1 => repeat (first | exact HR2.out | (with_reducible refine Kd.C_alloc ?_ _) | (with_reducible refine Kd.C_drewN ?_ _) | (with_reducible refine Kd.C_drew ?_))); (case side2 => exact HC2.out); rintro e w' ⟨rfl, ⟨nd, rfl⟩⟩; refine ⟨_, rfl, ?_⟩))
    go_ret
    exact ⟨by first | rfl | (simp [errW_none, errW_some] <;> rfl) | (simp [*, errW_none, errW_some] <;> rfl), by repeat (first | (with_reducible first | exact HB.out | apply below_alloc | apply pw_below_drewN | apply below_drew1) | exact HB.out)⟩

end Go.Proofs.Ytepakefmioeilaa.P
