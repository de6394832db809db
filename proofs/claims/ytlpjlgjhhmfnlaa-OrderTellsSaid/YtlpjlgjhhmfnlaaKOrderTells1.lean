/- Texts of this claim's own repository, merged by wip/tool/pack.py: OrdV. -/
import Derived.Test.YtlpjlgjhhmfnlaaKOrderTells0
set_option linter.unusedVariables false
set_option linter.unusedSimpArgs false
/- Layer 8, OrderTells: walked over a bag of pairs and the reference queue beside it. -/
namespace Go.Proofs.Ytlpjlgjhhmfnlaa.P
open Go.RowKit Go.Lib Go.Proofs.YtlpjlgjhhmfnlaaW.PrintWords Go.Proofs.YtlpjlgjhhmfnlaaW.PrintLast Go.Proofs.YtlpjlgjhhmfnlaaW.PrintMore
open Hp Stab
set_option linter.unusedVariables false
set_option linter.unusedSimpArgs false

abbrev CallT := Int × Int × Bool
def callKd : Kd CallT := Kd.pair (Kd.int .i64) (Kd.pair (Kd.int .i64) Kd.bool)
def ct (l : List CallT) (i : Nat) : CallT := l.getD i (0, 0, false)
theorem call_at {w : World} {A : Option Addr} {l : List CallT} (h : callKd.C w A l.length l) {i : Nat} (hi : i < l.length) : ∃ ad, A = some ad ∧ w.cell? (ad.add (i * 3)) = some (.int .i64 (ct l i).1) ∧ w.cell? ⟨(ad.add (i * 3)).block, (ad.add (i * 3)).off + 1, none⟩ = some (.int .i64 (ct l i).2.1) ∧ w.cell? ⟨(ad.add (i * 3)).block, (ad.add (i * 3)).off + 2, none⟩ = some (.bool (ct l i).2.2) := by
  obtain ⟨ad, c, hA, hl, hR, hc⟩ := ReadsRow.get_ h (0, 0, false) (i : Int) (by omega) (by omega)
  rw [Int.toNat_natCast] at hR hc
  obtain ⟨c0, c1, e, h0, c2, c3, e2, h1, h2⟩ := hR
  have h0' : c0 = [.int .i64 (ct l i).1] := h0
  have h1' : c2 = [.int .i64 (ct l i).2.1] := h1
  have h2' : c3 = [.bool (ct l i).2.2] := h2
  subst h0' h1' h2'
  subst e2
  subst e
  have hz : callKd.sz = 3 := rfl
  rw [hz] at hc
  exact ⟨ad, hA, by simpa using hc 0 _ rfl, by rw [← add_field ad (i * 3) 1 (by decide)]; exact hc 1 _ rfl, by rw [← add_field ad (i * 3) 2 (by decide)]; exact hc 2 _ rfl⟩
theorem rown_lt {w : World} {base G : Nat} {v : Value} {l : List PR} (h : RQ w base G v l) {k : Nat} (hk : rbl v G k) : k < w.heap.size := by
  rcases hk with rfl | hk
  · exact h.gs
  · obtain ⟨inner, ho⟩ := Kd.R_own h.row
    exact own_lt ho k hk
/-- both hold the same pairs -/
structure Both (w0 w : World) (B G : Nat) (v : Value) (l : List PR) : Prop where
  bag : Bag (rbl v G) w w0.heap.size B l
  ref : RQ w w0.heap.size G v l
  bel : Below w0.heap.size w0 w
theorem Both.below {w0 w w' : World} {B G : Nat} {v : Value} {l : List PR} (h : Both w0 w B G v l) (hb : Below w.heap.size w w') : Both w0 w' B G v l :=
  ⟨h.bag.below hb, ⟨(hb.block G h.ref.gs).trans h.ref.box, h.ref.bg, Kd.R_below h.ref.row hb⟩, h.bel.trans (hb.mono h.bel.size)⟩
/-- behind a step of the bag, and one of the reference -/
theorem Both.step {w0 w w1 w2 : World} {B G : Nat} {v v' : Value} {l l1 l2 : List PR} (h : Both w0 w B G v l) (hbag : Bag (rbl v G) w1 w0.heap.size B l1) (hst : Stays (rbl v G) w0.heap.size w w1)
    (hr : RQ w2 w0.heap.size G v' l2) (hg : w1.grownBy w2 (some G)) (hv : ∀ k, v'.ownBlock = some k → w1.heap.size ≤ k) (hp : l1.Perm l2) : Both w0 w2 B G v' l2 := by
  refine ⟨?_, hr, ?_⟩
  · refine Bag.perm (bag_av hbag (.inl rfl) (fun k hk hne => hg.block k hk (fun e => hne (Option.some.inj e))) ?_ (fun k hk => rown_lt hr hk)) hp
    intro k hk
    rcases hk with rfl | hk
    · exact .inl rfl
    · exact .inr (hv k hk)
  · refine (h.bel.trans hst.1).trans ⟨hg.os, hg.tape, hg.output, hg.size, fun k hk => ?_⟩
    exact hg.block k (Nat.lt_of_lt_of_le hk (Nat.le_trans h.bel.size hst.2.1)) (fun e => by have := h.ref.bg; have := Option.some.inj e; omega)
theorem Stays.drew1 {av : Nat → Prop} {base : Nat} (w : World) : Stays av base w w.drew := ⟨(Below.refl _ _).drew, Nat.le_refl _, fun _ _ => rfl⟩
theorem rmn_ne {l : List PR} (h : l ≠ []) : ∃ a b, mn l = (a, b) := ⟨_, _, rfl⟩
theorem Both.ref1 {w0 w w1 : World} {B G : Nat} {v : Value} {l : List PR} (h : Both w0 w B G v l) (hst : Stays (rbl v G) w0.heap.size w w1) : RQ w1 w0.heap.size G v l := h.ref.stays hst.2.2
set_option maxHeartbeats 4000000 in
set_option maxRecDepth 100000 in
theorem tells_long (A0 : Option Addr) (c0 : Nat) (l0 : List CallT) (w : World) (hl : decide (100 < (l0.length : Int)) = true) :
    Calls Try.prog 3 #[.slice A0 l0.length c0] w fun e w' => e = .returned (.bool true) ∧ Below w.heap.size w w' := by
  go_enter Try.func3, Try.ntmps3
  go_wp2_with (first
    | (go_at_call 9; refine (fix8 _).mono ?_; rintro e w1 ⟨rfl, hb⟩; have H1 := Aside0.mk hb; clear hb))
  go_ret
  exact ⟨rfl, H1.out⟩
set_option maxHeartbeats 4000000 in
set_option maxRecDepth 100000 in
theorem tells_main (A0 : Option Addr) (c0 : Nat) (l0 : List CallT) (w : World) (hr0 : callKd.C w A0 l0.length l0) (hl : l0.length ≤ 100) (g1 : decide (100 < (l0.length : Int)) = false) :
    Calls Try.prog 3 #[.slice A0 l0.length c0] w fun e w' => e = .returned (.bool true) ∧ Below w.heap.size w w' := by
  have HR0 := Aside0.mk hr0
  have HL := Aside0.mk hl
  clear hr0 hl
  go_enter Try.func3, Try.ntmps3
  go_wp2_with (first
    | (go_at_call 10; refine (new_c (av := fun _ => False) (base := w.heap.size) (Nat.le_refl _) (fun _ h => h.elim)).mono ?_; rintro e w1 ⟨rfl, hbag, hst⟩; obtain ⟨B, hBe⟩ : ∃ B, B = w.heap.size := ⟨_, rfl⟩; (have hbag2 : Bag (fun _ => False) w1 w.heap.size B [] := by rw [hBe]; exact hbag); rw [← hBe]; have H1 := Aside0.mk (And.intro hbag2 (And.intro hst hBe)); clear hbag hbag2 hst hBe))
  obtain ⟨G, hG⟩ : ∃ G, G = w1.heap.size := ⟨_, rfl⟩
  have H2 : Aside0 (Both w (w1.alloc (.cells #[.slice none 0 0] 29)) B G (.slice none 0 0) []) := by
    have hb : Below w1.heap.size w1 (w1.alloc (.cells #[.slice none 0 0] 29)) := (Below.refl _ _).alloc (Nat.le_refl _) _
    have hsz : (w1.alloc (.cells #[.slice none 0 0] 29)).heap.size = w1.heap.size + 1 := Array.size_push ..
    refine ⟨Bag.widen H1.out.1 hb (fun k hk => ?_), ⟨?_, ?_, Kd.R_nil _ _ _ _ _⟩, H1.out.2.1.1.alloc H1.out.2.1.2.1 _⟩
    · rcases hk with rfl | hk
      · omega
      · cases hk
    · subst hG; exact alloc_new _ _
    · subst hG; exact H1.out.2.1.2.1
  obtain ⟨w2, hw2⟩ : ∃ w2, w2 = w1.alloc (.cells #[.slice none 0 0] 29) := ⟨_, rfl⟩
  rw [← hG, ← hw2]
  rw [← hw2] at H2
  clear H1 hG hw2
  go_loopw [5] (fun v5 wr => ∃ (i : Nat) (l : List PR) (v : Value), i ≤ l0.length ∧ v5 = .int .i64 (i : Int) ∧ Aside0 (Both w wr B G v l) ∧ Aside0 (l.length ≤ i)) (fun v5 _ => (l0.length - (RowKit.intOf v5).toNat))
  case atStart => exact ⟨0, [], _, Nat.zero_le _, rfl, H2, ⟨Nat.le_refl _⟩⟩
  case round =>
    clear H2
    obtain ⟨i, l, v, hi, rfl, HI, HN⟩ := hrel
    have h100 : i < 1000 := by have := HL.out; omega
    by_cases hlt : i < l0.length
    · have hll : l.length ≤ 1000 := by have := HN.out; omega
      have HP := Aside0.mk hll
      clear hll
      obtain ⟨ad, hA, x0, x1, x2⟩ := call_at HR0.out hlt
      subst hA
      obtain ⟨x, hx⟩ : ∃ x, x = ct l0 i := ⟨_, rfl⟩
      rw [← hx] at x0 x1 x2
      clear hx
      obtain ⟨ka, kb, kp⟩ := x
      have hcall : Aside0 (∀ w', Aside0 (Below w.heap.size w w') → w'.cell? (ad.add (i * 3)) = some (.int .i64 ka) ∧ w'.cell? ⟨(ad.add (i * 3)).block, (ad.add (i * 3)).off + 1, none⟩ = some (.int .i64 kb) ∧ w'.cell? ⟨(ad.add (i * 3)).block, (ad.add (i * 3)).off + 2, none⟩ = some (.bool kp)) :=
        ⟨fun w' hb => ⟨(hb.out.cell (World.block_lt_of_cell? w _ x0)).trans x0, (hb.out.cell (World.block_lt_of_cell? w _ x1)).trans x1, (hb.out.cell (World.block_lt_of_cell? w _ x2)).trans x2⟩⟩
      clear x0 x1 x2
      obtain ⟨x0, x1, x2⟩ := hcall.out wr ⟨HI.out.bel⟩
      cases kp with
      | true =>
        go_wp2
        have HD : Aside0 (Both w wr.drew B G v l) := ⟨HI.out.below ((Below.refl _ _).drew)⟩
        refine wp_region_held_drew (S := fun w' => Aside0 (Below w.heap.size w w')) (by kernel_rfl) (⟨below_drew1 HI.out.bel⟩) (fun hHeld => ?_)
        (refine wpAnyH_take (i := 0) (v := ?_) rfl (by kernel_rfl) (by kernel_rfl) (by kernel_rfl) (fun _ _ _ h => h) (Or.inl ⟨by rfl, ?_⟩) (by assumption) ?_; rotate_left; focus (intro w_ hSw_; obtain ⟨y0, y1, y2⟩ := hcall.out w_ hSw_; go_simp; try with_reducible rfl)); (try simp only [Act.put, List.getElem_toArray, List.getElem_cons_zero, List.getElem_cons_succ, List.setIfInBounds_toArray, List.set_cons_zero, List.set_cons_succ])
        (refine wpAnyH_take (i := 1) (v := ?_) rfl (by kernel_rfl) (by kernel_rfl) (by kernel_rfl) (fun _ _ _ h => h) (Or.inl ⟨by rfl, ?_⟩) (by assumption) ?_; rotate_left; focus (intro w_ hSw_; obtain ⟨y0, y1, y2⟩ := hcall.out w_ hSw_; go_simp; try with_reducible rfl)); (try simp only [Act.put, List.getElem_toArray, List.getElem_cons_zero, List.getElem_cons_succ, List.setIfInBounds_toArray, List.set_cons_zero, List.set_cons_succ])
        (refine wpAnyH_take (i := 2) (v := ?_) rfl (by kernel_rfl) (by kernel_rfl) (by kernel_rfl) (fun _ _ _ h => h) (Or.inl ⟨by rfl, ?_⟩) (by assumption) ?_; rotate_left; focus (intro w_ hSw_; obtain ⟨y0, y1, y2⟩ := hcall.out w_ hSw_; go_simp; try with_reducible rfl)); (try simp only [Act.put, List.getElem_toArray, List.getElem_cons_zero, List.getElem_cons_succ, List.setIfInBounds_toArray, List.set_cons_zero, List.set_cons_succ])
        (refine wpAnyH_take (i := 3) (v := ?_) rfl (by kernel_rfl) (by kernel_rfl) (by kernel_rfl) (fun _ _ _ h => h) (Or.inl ⟨by rfl, ?_⟩) (by assumption) ?_; rotate_left; focus (intro w_ hSw_; obtain ⟨y0, y1, y2⟩ := hcall.out w_ hSw_; go_simp; try with_reducible rfl)); (try simp only [Act.put, List.getElem_toArray, List.getElem_cons_zero, List.getElem_cons_succ, List.setIfInBounds_toArray, List.set_cons_zero, List.set_cons_succ])
        (refine wpAnyH_take (i := 4) (v := ?_) rfl (by kernel_rfl) (by kernel_rfl) (by kernel_rfl) (fun _ _ _ h => h) (Or.inl ⟨by rfl, ?_⟩) (by assumption) ?_; rotate_left; focus (intro w_ hSw_; obtain ⟨y0, y1, y2⟩ := hcall.out w_ hSw_; go_simp; try with_reducible rfl)); (try simp only [Act.put, List.getElem_toArray, List.getElem_cons_zero, List.getElem_cons_succ, List.setIfInBounds_toArray, List.set_cons_zero, List.set_cons_succ])
        (refine wpAnyH_take (i := 5) (v := ?_) rfl (by kernel_rfl) (by kernel_rfl) (by kernel_rfl) (fun _ _ _ h => h) (Or.inl ⟨by rfl, ?_⟩) (by assumption) ?_; rotate_left; focus (intro w_ hSw_; obtain ⟨y0, y1, y2⟩ := hcall.out w_ hSw_; go_simp; try with_reducible rfl)); (try simp only [Act.put, List.getElem_toArray, List.getElem_cons_zero, List.getElem_cons_succ, List.setIfInBounds_toArray, List.set_cons_zero, List.set_cons_succ])
        (refine wpAnyH_take (i := 6) (v := ?_) rfl (by kernel_rfl) (by kernel_rfl) (by kernel_rfl) (fun _ _ _ h => h) (Or.inl ⟨by rfl, ?_⟩) (by assumption) ?_; rotate_left; focus (intro w_ hSw_; obtain ⟨y0, y1, y2⟩ := hcall.out w_ hSw_; go_simp; try with_reducible rfl)); (try simp only [Act.put, List.getElem_toArray, List.getElem_cons_zero, List.getElem_cons_succ, List.setIfInBounds_toArray, List.set_cons_zero, List.set_cons_succ])
        (refine wpAnyH_take (i := 7) (v := ?_) rfl (by kernel_rfl) (by kernel_rfl) (by kernel_rfl) (fun _ _ _ h => h) (Or.inl ⟨by rfl, ?_⟩) (by assumption) ?_; rotate_left; focus (intro w_ hSw_; obtain ⟨y0, y1, y2⟩ := hcall.out w_ hSw_; go_simp; try with_reducible rfl)); (try simp only [Act.put, List.getElem_toArray, List.getElem_cons_zero, List.getElem_cons_succ, List.setIfInBounds_toArray, List.set_cons_zero, List.set_cons_succ])
        (refine wpAnyH_take (i := 8) (v := ?_) rfl (by kernel_rfl) (by kernel_rfl) (by kernel_rfl) (fun _ _ _ h => h) (Or.inl ⟨by rfl, ?_⟩) (by assumption) ?_; rotate_left; focus (intro w_ hSw_; obtain ⟨y0, y1, y2⟩ := hcall.out w_ hSw_; go_simp; try with_reducible rfl)); (try simp only [Act.put, List.getElem_toArray, List.getElem_cons_zero, List.getElem_cons_succ, List.setIfInBounds_toArray, List.set_cons_zero, List.set_cons_succ])
        (refine wpAnyH_take (i := 9) (v := ?_) rfl (by kernel_rfl) (by kernel_rfl) (by kernel_rfl) (fun _ _ _ h => h) (Or.inl ⟨by rfl, ?_⟩) (by assumption) ?_; rotate_left; focus (intro w_ hSw_; obtain ⟨y0, y1, y2⟩ := hcall.out w_ hSw_; go_simp; try with_reducible rfl)); (try simp only [Act.put, List.getElem_toArray, List.getElem_cons_zero, List.getElem_cons_succ, List.setIfInBounds_toArray, List.set_cons_zero, List.set_cons_succ])
        (refine wpAnyH_take (i := 10) (v := ?_) rfl (by kernel_rfl) (by kernel_rfl) (by kernel_rfl) (fun _ _ _ h => h) (Or.inl ⟨by rfl, ?_⟩) (by assumption) ?_; rotate_left; focus (intro w_ hSw_; obtain ⟨y0, y1, y2⟩ := hcall.out w_ hSw_; go_simp; try with_reducible rfl)); (try simp only [Act.put, List.getElem_toArray, List.getElem_cons_zero, List.getElem_cons_succ, List.setIfInBounds_toArray, List.set_cons_zero, List.set_cons_succ])
        refine wpAnyH_ready (rs := [11]) (by kernel_rfl) (by simp) ?_; refine AllReadyH.cons rfl (fun K hK => ?_) AllReadyH.nil; rw [if_pos (by rfl)]; (go_simp); (go_at_call 11; refine (qpush_c (base := w.heap.size) HD.out.bag HP.out ka kb).mono ?_; rintro e w3 ⟨rfl, hbag, hst⟩; (have H3 := Aside0.mk (And.intro hbag hst)); (have HS3 : Aside0 (Below w.heap.size w w3) := ⟨HD.out.bel.trans hst.1⟩); clear hbag hst); (first | skip); refine hK.out _ _ (by assumption) (fun hHeld => ?_); clear hK K; (try simp only [Act.put, List.getElem_toArray, List.getElem_cons_zero, List.getElem_cons_succ, List.setIfInBounds_toArray, List.set_cons_zero, List.set_cons_succ])
        refine wpAnyH_done (by kernel_rfl) ?_ _
        go_wp2
        have HS3 : Aside0 (Below w.heap.size w w3) := by assumption
        have hst4 := H3.out.2.trans (Stays.drew1 w3)
        have H4 := Aside0.mk (And.intro (H3.out.1.below ((Below.refl w3.heap.size w3).drew)) (And.intro hst4 (HD.out.ref1 hst4)))
        clear hst4
        refine wp_region_held_drew (S := fun w' => Aside0 (Below w.heap.size w w')) (by kernel_rfl) (⟨below_drew1 HS3.out⟩) (fun hHeld => ?_)
        (refine wpAnyH_take (i := 0) (v := ?_) rfl (by kernel_rfl) (by kernel_rfl) (by kernel_rfl) (fun _ _ _ h => h) (Or.inl ⟨by rfl, ?_⟩) (by assumption) ?_; rotate_left; focus (intro w_ hSw_; obtain ⟨y0, y1, y2⟩ := hcall.out w_ hSw_; go_simp; try with_reducible rfl)); (try simp only [Act.put, List.getElem_toArray, List.getElem_cons_zero, List.getElem_cons_succ, List.setIfInBounds_toArray, List.set_cons_zero, List.set_cons_succ])
        (refine wpAnyH_take (i := 1) (v := ?_) rfl (by kernel_rfl) (by kernel_rfl) (by kernel_rfl) (fun _ _ _ h => h) (Or.inl ⟨by rfl, ?_⟩) (by assumption) ?_; rotate_left; focus (intro w_ hSw_; obtain ⟨y0, y1, y2⟩ := hcall.out w_ hSw_; go_simp; try with_reducible rfl)); (try simp only [Act.put, List.getElem_toArray, List.getElem_cons_zero, List.getElem_cons_succ, List.setIfInBounds_toArray, List.set_cons_zero, List.set_cons_succ])
        (refine wpAnyH_take (i := 2) (v := ?_) rfl (by kernel_rfl) (by kernel_rfl) (by kernel_rfl) (fun _ _ _ h => h) (Or.inl ⟨by rfl, ?_⟩) (by assumption) ?_; rotate_left; focus (intro w_ hSw_; obtain ⟨y0, y1, y2⟩ := hcall.out w_ hSw_; go_simp; try with_reducible rfl)); (try simp only [Act.put, List.getElem_toArray, List.getElem_cons_zero, List.getElem_cons_succ, List.setIfInBounds_toArray, List.set_cons_zero, List.set_cons_succ])
        (refine wpAnyH_take (i := 3) (v := ?_) rfl (by kernel_rfl) (by kernel_rfl) (by kernel_rfl) (fun _ _ _ h => h) (Or.inl ⟨by rfl, ?_⟩) (by assumption) ?_; rotate_left; focus (intro w_ hSw_; obtain ⟨y0, y1, y2⟩ := hcall.out w_ hSw_; go_simp; try with_reducible rfl)); (try simp only [Act.put, List.getElem_toArray, List.getElem_cons_zero, List.getElem_cons_succ, List.setIfInBounds_toArray, List.set_cons_zero, List.set_cons_succ])
        (refine wpAnyH_take (i := 4) (v := ?_) rfl (by kernel_rfl) (by kernel_rfl) (by kernel_rfl) (fun _ _ _ h => h) (Or.inl ⟨by rfl, ?_⟩) (by assumption) ?_; rotate_left; focus (intro w_ hSw_; obtain ⟨y0, y1, y2⟩ := hcall.out w_ hSw_; go_simp; try with_reducible rfl)); (try simp only [Act.put, List.getElem_toArray, List.getElem_cons_zero, List.getElem_cons_succ, List.setIfInBounds_toArray, List.set_cons_zero, List.set_cons_succ])
        (refine wpAnyH_take (i := 5) (v := ?_) rfl (by kernel_rfl) (by kernel_rfl) (by kernel_rfl) (fun _ _ _ h => h) (Or.inl ⟨by rfl, ?_⟩) (by assumption) ?_; rotate_left; focus (intro w_ hSw_; obtain ⟨y0, y1, y2⟩ := hcall.out w_ hSw_; go_simp; try with_reducible rfl)); (try simp only [Act.put, List.getElem_toArray, List.getElem_cons_zero, List.getElem_cons_succ, List.setIfInBounds_toArray, List.set_cons_zero, List.set_cons_succ])
        (refine wpAnyH_take (i := 6) (v := ?_) rfl (by kernel_rfl) (by kernel_rfl) (by kernel_rfl) (fun _ _ _ h => h) (Or.inl ⟨by rfl, ?_⟩) (by assumption) ?_; rotate_left; focus (intro w_ hSw_; obtain ⟨y0, y1, y2⟩ := hcall.out w_ hSw_; go_simp; try with_reducible rfl)); (try simp only [Act.put, List.getElem_toArray, List.getElem_cons_zero, List.getElem_cons_succ, List.setIfInBounds_toArray, List.set_cons_zero, List.set_cons_succ])
        (refine wpAnyH_take (i := 7) (v := ?_) rfl (by kernel_rfl) (by kernel_rfl) (by kernel_rfl) (fun _ _ _ h => h) (Or.inl ⟨by rfl, ?_⟩) (by assumption) ?_; rotate_left; focus (intro w_ hSw_; obtain ⟨y0, y1, y2⟩ := hcall.out w_ hSw_; go_simp; try with_reducible rfl)); (try simp only [Act.put, List.getElem_toArray, List.getElem_cons_zero, List.getElem_cons_succ, List.setIfInBounds_toArray, List.set_cons_zero, List.set_cons_succ])
        (refine wpAnyH_take (i := 8) (v := ?_) rfl (by kernel_rfl) (by kernel_rfl) (by kernel_rfl) (fun _ _ _ h => h) (Or.inl ⟨by rfl, ?_⟩) (by assumption) ?_; rotate_left; focus (intro w_ hSw_; obtain ⟨y0, y1, y2⟩ := hcall.out w_ hSw_; go_simp; try with_reducible rfl)); (try simp only [Act.put, List.getElem_toArray, List.getElem_cons_zero, List.getElem_cons_succ, List.setIfInBounds_toArray, List.set_cons_zero, List.set_cons_succ])
        (refine wpAnyH_take (i := 9) (v := ?_) rfl (by kernel_rfl) (by kernel_rfl) (by kernel_rfl) (fun _ _ _ h => h) (Or.inl ⟨by rfl, ?_⟩) (by assumption) ?_; rotate_left; focus (intro w_ hSw_; obtain ⟨y0, y1, y2⟩ := hcall.out w_ hSw_; go_simp; try with_reducible rfl)); (try simp only [Act.put, List.getElem_toArray, List.getElem_cons_zero, List.getElem_cons_succ, List.setIfInBounds_toArray, List.set_cons_zero, List.set_cons_succ])
        (refine wpAnyH_take (i := 10) (v := ?_) rfl (by kernel_rfl) (by kernel_rfl) (by kernel_rfl) (fun _ _ _ h => h) (Or.inl ⟨by rfl, ?_⟩) (by assumption) ?_; rotate_left; focus (intro w_ hSw_; obtain ⟨y0, y1, y2⟩ := hcall.out w_ hSw_; go_simp; try with_reducible rfl)); (try simp only [Act.put, List.getElem_toArray, List.getElem_cons_zero, List.getElem_cons_succ, List.setIfInBounds_toArray, List.set_cons_zero, List.set_cons_succ])
        refine wpAnyH_ready (rs := [11]) (by kernel_rfl) (by simp) ?_; refine AllReadyH.cons rfl (fun K hK => ?_) AllReadyH.nil; rw [if_pos (by rfl)]; (go_simp); (go_at_call 12; refine (rpush_c (base := w.heap.size) H4.out.2.2 HS3.out.size HP.out ka kb).mono ?_; rintro e w5 ⟨rfl, v5, hr, hg, hv⟩; (have H5 : Aside0 (Both w w5 B G v5 (l ++ [(ka, kb)])) := ⟨HD.out.step H4.out.1 H4.out.2.1 hr hg hv (List.Perm.refl _)⟩); (have HS5 : Aside0 (Below w.heap.size w w5) := ⟨H5.out.bel⟩); clear hr hg hv); (first | skip); refine hK.out _ _ (by assumption) (fun hHeld => ?_); clear hK K; (try simp only [Act.put, List.getElem_toArray, List.getElem_cons_zero, List.getElem_cons_succ, List.setIfInBounds_toArray, List.set_cons_zero, List.set_cons_succ])
        refine wpAnyH_done (by kernel_rfl) ?_ _
        have HN6 : Aside0 ((l ++ [(ka, kb)]).length ≤ i + 1) := ⟨by have := HN.out; simp; omega⟩
        obtain ⟨As, cs, hvs⟩ := Kd.R_slice H5.out.ref.row
        subst hvs
        go_wp2
        refine wp_region_held_drew (S := fun w' => Aside0 (Both w w' B G (.slice As _ cs) _)) (by kernel_rfl) (⟨H5.out.below ((Below.refl _ _).drew)⟩) (fun hHeld => ?_)
        (refine wpAnyH_take (i := 0) (v := ?_) rfl (by kernel_rfl) (by kernel_rfl) (by kernel_rfl) (fun _ _ _ h => h) (Or.inl ⟨by rfl, ?_⟩) (by assumption) ?_; rotate_left; focus (intro w_ hSw_; obtain ⟨y0, y1⟩ := hSw_.out.ref.cell; go_simp; try with_reducible rfl)); (try simp only [Act.put, List.getElem_toArray, List.getElem_cons_zero, List.getElem_cons_succ, List.setIfInBounds_toArray, List.set_cons_zero, List.set_cons_succ])
        (refine wpAnyH_take (i := 2) (v := ?_) rfl (by kernel_rfl) (by kernel_rfl) (by kernel_rfl) (fun _ _ _ h => h) (Or.inl ⟨by rfl, ?_⟩) (by assumption) ?_; rotate_left; focus (intro w_ hSw_; obtain ⟨y0, y1⟩ := hSw_.out.ref.cell; go_simp; try with_reducible rfl)); (try simp only [Act.put, List.getElem_toArray, List.getElem_cons_zero, List.getElem_cons_succ, List.setIfInBounds_toArray, List.set_cons_zero, List.set_cons_succ])
        (refine wpAnyH_take (i := 3) (v := ?_) rfl (by kernel_rfl) (by kernel_rfl) (by kernel_rfl) (fun _ _ _ h => h) (Or.inl ⟨by rfl, ?_⟩) (by assumption) ?_; rotate_left; focus (intro w_ hSw_; obtain ⟨y0, y1⟩ := hSw_.out.ref.cell; go_simp; try with_reducible rfl)); (try simp only [Act.put, List.getElem_toArray, List.getElem_cons_zero, List.getElem_cons_succ, List.setIfInBounds_toArray, List.set_cons_zero, List.set_cons_succ])
        (refine wpAnyH_take (i := 4) (v := ?_) rfl (by kernel_rfl) (by kernel_rfl) (by kernel_rfl) (fun _ _ _ h => h) (Or.inl ⟨by rfl, ?_⟩) (by assumption) ?_; rotate_left; focus (intro w_ hSw_; obtain ⟨y0, y1⟩ := hSw_.out.ref.cell; go_simp; try with_reducible rfl)); (try simp only [Act.put, List.getElem_toArray, List.getElem_cons_zero, List.getElem_cons_succ, List.setIfInBounds_toArray, List.set_cons_zero, List.set_cons_succ])
        (refine wpAnyH_take (i := 5) (v := ?_) rfl (by kernel_rfl) (by kernel_rfl) (by kernel_rfl) (fun _ _ _ h => h) (Or.inl ⟨by rfl, ?_⟩) (by assumption) ?_; rotate_left; focus (intro w_ hSw_; obtain ⟨y0, y1⟩ := hSw_.out.ref.cell; go_simp; try with_reducible rfl)); (try simp only [Act.put, List.getElem_toArray, List.getElem_cons_zero, List.getElem_cons_succ, List.setIfInBounds_toArray, List.set_cons_zero, List.set_cons_succ])
        (refine wpAnyH_take (i := 6) (v := ?_) rfl (by kernel_rfl) (by kernel_rfl) (by kernel_rfl) (fun _ _ _ h => h) (Or.inl ⟨by rfl, ?_⟩) (by assumption) ?_; rotate_left; focus (intro w_ hSw_; obtain ⟨y0, y1⟩ := hSw_.out.ref.cell; go_simp; try with_reducible rfl)); (try simp only [Act.put, List.getElem_toArray, List.getElem_cons_zero, List.getElem_cons_succ, List.setIfInBounds_toArray, List.set_cons_zero, List.set_cons_succ])
        refine wpAnyH_ready (rs := [1]) (by kernel_rfl) (by simp) ?_; refine AllReadyH.cons rfl (fun K hK => ?_) AllReadyH.nil; rw [if_pos (by rfl)]; (go_simp); (go_at_call 15; refine (qlen_c (hHeld.out).bag).mono ?_; rintro e w8 ⟨rfl, q, rfl⟩); (first | skip); refine hK.out _ _ (⟨hHeld.out.below (pw_below_drewN (Below.refl _ _) q)⟩) (fun hHeld => ?_); clear hK K; (try simp only [Act.put, List.getElem_toArray, List.getElem_cons_zero, List.getElem_cons_succ, List.setIfInBounds_toArray, List.set_cons_zero, List.set_cons_succ])
        (refine wpAnyH_take (i := 7) (v := ?_) rfl (by kernel_rfl) (by kernel_rfl) (by kernel_rfl) (fun _ _ _ h => h) (Or.inl ⟨by rfl, ?_⟩) (by assumption) ?_; rotate_left; focus (intro w_ hSw_; go_simp; try with_reducible rfl)); (try simp only [Act.put, List.getElem_toArray, List.getElem_cons_zero, List.getElem_cons_succ, List.setIfInBounds_toArray, List.set_cons_zero, List.set_cons_succ])
        refine wpAnyH_done (by kernel_rfl) ?_ _
        go_wp2
        go_roundw
        case rel => exact ⟨i + 1, _, _, by omega, by go_num, ⟨H5.out.below (pw_below_drewN (Below.refl _ _) _)⟩, HN6⟩
        case measure => simp [RowKit.intOf]; omega
      | false =>
        by_cases hne : l = []
        · subst hne
          go_wp2_with (first
            | (go_at_call 14; (have z := H3.out); clear z; refine (rpop_nil H3.out.ref).mono ?_; rintro e w5 ⟨rfl, hb⟩; have H5 : Aside0 (Both w w5 B G v []) := ⟨H3.out.below hb⟩; clear hb)
            | (go_at_call 13; refine (qpop0_c HI.out.bag).mono ?_; rintro e w3 ⟨rfl, q, rfl⟩; have H3 : Aside0 (Both w (wr.drewN q) B G v []) := ⟨HI.out.below (pw_below_drewN (Below.refl _ _) q)⟩))
          have HN6 : Aside0 (([] : List PR).length ≤ i + 1) := ⟨by simp⟩
          obtain ⟨As, cs, hvs⟩ := Kd.R_slice H5.out.ref.row
          subst hvs
          go_wp2
          refine wp_region_held_drew (S := fun w' => Aside0 (Both w w' B G (.slice As _ cs) _)) (by kernel_rfl) (⟨H5.out.below ((Below.refl _ _).drew)⟩) (fun hHeld => ?_)
          (refine wpAnyH_take (i := 0) (v := ?_) rfl (by kernel_rfl) (by kernel_rfl) (by kernel_rfl) (fun _ _ _ h => h) (Or.inl ⟨by rfl, ?_⟩) (by assumption) ?_; rotate_left; focus (intro w_ hSw_; obtain ⟨y0, y1⟩ := hSw_.out.ref.cell; go_simp; try with_reducible rfl)); (try simp only [Act.put, List.getElem_toArray, List.getElem_cons_zero, List.getElem_cons_succ, List.setIfInBounds_toArray, List.set_cons_zero, List.set_cons_succ])
          (refine wpAnyH_take (i := 2) (v := ?_) rfl (by kernel_rfl) (by kernel_rfl) (by kernel_rfl) (fun _ _ _ h => h) (Or.inl ⟨by rfl, ?_⟩) (by assumption) ?_; rotate_left; focus (intro w_ hSw_; obtain ⟨y0, y1⟩ := hSw_.out.ref.cell; go_simp; try with_reducible rfl)); (try simp only [Act.put, List.getElem_toArray, List.getElem_cons_zero, List.getElem_cons_succ, List.setIfInBounds_toArray, List.set_cons_zero, List.set_cons_succ])
          (refine wpAnyH_take (i := 3) (v := ?_) rfl (by kernel_rfl) (by kernel_rfl) (by kernel_rfl) (fun _ _ _ h => h) (Or.inl ⟨by rfl, ?_⟩) (by assumption) ?_; rotate_left; focus (intro w_ hSw_; obtain ⟨y0, y1⟩ := hSw_.out.ref.cell; go_simp; try with_reducible rfl)); (try simp only [Act.put, List.getElem_toArray, List.getElem_cons_zero, List.getElem_cons_succ, List.setIfInBounds_toArray, List.set_cons_zero, List.set_cons_succ])
          (refine wpAnyH_take (i := 4) (v := ?_) rfl (by kernel_rfl) (by kernel_rfl) (by kernel_rfl) (fun _ _ _ h => h) (Or.inl ⟨by rfl, ?_⟩) (by assumption) ?_; rotate_left; focus (intro w_ hSw_; obtain ⟨y0, y1⟩ := hSw_.out.ref.cell; go_simp; try with_reducible rfl)); (try simp only [Act.put, List.getElem_toArray, List.getElem_cons_zero, List.getElem_cons_succ, List.setIfInBounds_toArray, List.set_cons_zero, List.set_cons_succ])
          (refine wpAnyH_take (i := 5) (v := ?_) rfl (by kernel_rfl) (by kernel_rfl) (by kernel_rfl) (fun _ _ _ h => h) (Or.inl ⟨by rfl, ?_⟩) (by assumption) ?_; rotate_left; focus (intro w_ hSw_; obtain ⟨y0, y1⟩ := hSw_.out.ref.cell; go_simp; try with_reducible rfl)); (try simp only [Act.put, List.getElem_toArray, List.getElem_cons_zero, List.getElem_cons_succ, List.setIfInBounds_toArray, List.set_cons_zero, List.set_cons_succ])
          (refine wpAnyH_take (i := 6) (v := ?_) rfl (by kernel_rfl) (by kernel_rfl) (by kernel_rfl) (fun _ _ _ h => h) (Or.inl ⟨by rfl, ?_⟩) (by assumption) ?_; rotate_left; focus (intro w_ hSw_; obtain ⟨y0, y1⟩ := hSw_.out.ref.cell; go_simp; try with_reducible rfl)); (try simp only [Act.put, List.getElem_toArray, List.getElem_cons_zero, List.getElem_cons_succ, List.setIfInBounds_toArray, List.set_cons_zero, List.set_cons_succ])
          refine wpAnyH_ready (rs := [1]) (by kernel_rfl) (by simp) ?_; refine AllReadyH.cons rfl (fun K hK => ?_) AllReadyH.nil; rw [if_pos (by rfl)]; (go_simp); (go_at_call 15; refine (qlen_c (hHeld.out).bag).mono ?_; rintro e w8 ⟨rfl, q, rfl⟩); (first | skip); refine hK.out _ _ (⟨hHeld.out.below (pw_below_drewN (Below.refl _ _) q)⟩) (fun hHeld => ?_); clear hK K; (try simp only [Act.put, List.getElem_toArray, List.getElem_cons_zero, List.getElem_cons_succ, List.setIfInBounds_toArray, List.set_cons_zero, List.set_cons_succ])
          (refine wpAnyH_take (i := 7) (v := ?_) rfl (by kernel_rfl) (by kernel_rfl) (by kernel_rfl) (fun _ _ _ h => h) (Or.inl ⟨by rfl, ?_⟩) (by assumption) ?_; rotate_left; focus (intro w_ hSw_; go_simp; try with_reducible rfl)); (try simp only [Act.put, List.getElem_toArray, List.getElem_cons_zero, List.getElem_cons_succ, List.setIfInBounds_toArray, List.set_cons_zero, List.set_cons_succ])
          refine wpAnyH_done (by kernel_rfl) ?_ _
          go_wp2
          go_roundw
          case rel => exact ⟨i + 1, _, _, by omega, by go_num, ⟨H5.out.below (pw_below_drewN (Below.refl _ _) _)⟩, HN6⟩
          case measure => simp [RowKit.intOf]; omega
        · obtain ⟨ma, mb, hm⟩ := rmn_ne hne
          have hp1 := qpop_c HI.out.bag HP.out hne
          have hp2 := fun (W : World) (h : RQ W w.heap.size G v l) (hz : w.heap.size ≤ W.heap.size) => rpop_c h hz HP.out hne
          have hmm := mn_mem hne
          rw [hm] at hp1 hmm
          simp only [hm] at hp2
          have hle := List.length_erase_of_mem hmm
          have HQ := Aside0.mk (And.intro hp1 (And.intro hp2 (show (l.erase (ma, mb)).length ≤ i + 1 by have := HN.out; omega)))
          clear hp1 hp2 hm hmm hle hne
          go_wp2_with (first
            | (go_at_call 14; (have z := H3.out); clear z; refine (HQ.out.2.1 _ (HI.out.ref1 H3.out.2) (Nat.le_trans HI.out.bel.size H3.out.2.2.1)).mono ?_; rintro e w5 ⟨rfl, v5, l5, hp, hr, hg, hv⟩; have H5 : Aside0 (Both w w5 B G v5 l5) := ⟨HI.out.step H3.out.1 H3.out.2 hr hg hv hp.symm⟩; have HN6 : Aside0 (l5.length ≤ i + 1) := ⟨by have := HQ.out.2.2; have := hp.length_eq; omega⟩; clear hp hr hg hv)
            | (go_at_call 13; refine HQ.out.1.mono ?_; rintro e w3 ⟨rfl, hbag, hst⟩; have H3 := Aside0.mk (And.intro hbag hst); clear hbag hst))
          obtain ⟨As, cs, hvs⟩ := Kd.R_slice H5.out.ref.row
          subst hvs
          go_wp2
          refine wp_region_held_drew (S := fun w' => Aside0 (Both w w' B G (.slice As _ cs) _)) (by kernel_rfl) (⟨H5.out.below ((Below.refl _ _).drew)⟩) (fun hHeld => ?_)
          (refine wpAnyH_take (i := 0) (v := ?_) rfl (by kernel_rfl) (by kernel_rfl) (by kernel_rfl) (fun _ _ _ h => h) (Or.inl ⟨by rfl, ?_⟩) (by assumption) ?_; rotate_left; focus (intro w_ hSw_; obtain ⟨y0, y1⟩ := hSw_.out.ref.cell; go_simp; try with_reducible rfl)); (try simp only [Act.put, List.getElem_toArray, List.getElem_cons_zero, List.getElem_cons_succ, List.setIfInBounds_toArray, List.set_cons_zero, List.set_cons_succ])
          (refine wpAnyH_take (i := 2) (v := ?_) rfl (by kernel_rfl) (by kernel_rfl) (by kernel_rfl) (fun _ _ _ h => h) (Or.inl ⟨by rfl, ?_⟩) (by assumption) ?_; rotate_left; focus (intro w_ hSw_; obtain ⟨y0, y1⟩ := hSw_.out.ref.cell; go_simp; try with_reducible rfl)); (try simp only [Act.put, List.getElem_toArray, List.getElem_cons_zero, List.getElem_cons_succ, List.setIfInBounds_toArray, List.set_cons_zero, List.set_cons_succ])
          (refine wpAnyH_take (i := 3) (v := ?_) rfl (by kernel_rfl) (by kernel_rfl) (by kernel_rfl) (fun _ _ _ h => h) (Or.inl ⟨by rfl, ?_⟩) (by assumption) ?_; rotate_left; focus (intro w_ hSw_; obtain ⟨y0, y1⟩ := hSw_.out.ref.cell; go_simp; try with_reducible rfl)); (try simp only [Act.put, List.getElem_toArray, List.getElem_cons_zero, List.getElem_cons_succ, List.setIfInBounds_toArray, List.set_cons_zero, List.set_cons_succ])
          (refine wpAnyH_take (i := 4) (v := ?_) rfl (by kernel_rfl) (by kernel_rfl) (by kernel_rfl) (fun _ _ _ h => h) (Or.inl ⟨by rfl, ?_⟩) (by assumption) ?_; rotate_left; focus (intro w_ hSw_; obtain ⟨y0, y1⟩ := hSw_.out.ref.cell; go_simp; try with_reducible rfl)); (try simp only [Act.put, List.getElem_toArray, List.getElem_cons_zero, List.getElem_cons_succ, List.setIfInBounds_toArray, List.set_cons_zero, List.set_cons_succ])
          (refine wpAnyH_take (i := 5) (v := ?_) rfl (by kernel_rfl) (by kernel_rfl) (by kernel_rfl) (fun _ _ _ h => h) (Or.inl ⟨by rfl, ?_⟩) (by assumption) ?_; rotate_left; focus (intro w_ hSw_; obtain ⟨y0, y1⟩ := hSw_.out.ref.cell; go_simp; try with_reducible rfl)); (try simp only [Act.put, List.getElem_toArray, List.getElem_cons_zero, List.getElem_cons_succ, List.setIfInBounds_toArray, List.set_cons_zero, List.set_cons_succ])
          (refine wpAnyH_take (i := 6) (v := ?_) rfl (by kernel_rfl) (by kernel_rfl) (by kernel_rfl) (fun _ _ _ h => h) (Or.inl ⟨by rfl, ?_⟩) (by assumption) ?_; rotate_left; focus (intro w_ hSw_; obtain ⟨y0, y1⟩ := hSw_.out.ref.cell; go_simp; try with_reducible rfl)); (try simp only [Act.put, List.getElem_toArray, List.getElem_cons_zero, List.getElem_cons_succ, List.setIfInBounds_toArray, List.set_cons_zero, List.set_cons_succ])
          refine wpAnyH_ready (rs := [1]) (by kernel_rfl) (by simp) ?_; refine AllReadyH.cons rfl (fun K hK => ?_) AllReadyH.nil; rw [if_pos (by rfl)]; (go_simp); (go_at_call 15; refine (qlen_c (hHeld.out).bag).mono ?_; rintro e w8 ⟨rfl, q, rfl⟩); (first | skip); refine hK.out _ _ (⟨hHeld.out.below (pw_below_drewN (Below.refl _ _) q)⟩) (fun hHeld => ?_); clear hK K; (try simp only [Act.put, List.getElem_toArray, List.getElem_cons_zero, List.getElem_cons_succ, List.setIfInBounds_toArray, List.set_cons_zero, List.set_cons_succ])
          (refine wpAnyH_take (i := 7) (v := ?_) rfl (by kernel_rfl) (by kernel_rfl) (by kernel_rfl) (fun _ _ _ h => h) (Or.inl ⟨by rfl, ?_⟩) (by assumption) ?_; rotate_left; focus (intro w_ hSw_; go_simp; try with_reducible rfl)); (try simp only [Act.put, List.getElem_toArray, List.getElem_cons_zero, List.getElem_cons_succ, List.setIfInBounds_toArray, List.set_cons_zero, List.set_cons_succ])
          refine wpAnyH_done (by kernel_rfl) ?_ _
          go_wp2
          go_roundw
          case rel => exact ⟨i + 1, _, _, by omega, by go_num, ⟨H5.out.below (pw_below_drewN (Below.refl _ _) _)⟩, HN6⟩
          case measure => simp [RowKit.intOf]; omega
    · obtain rfl : i = l0.length := by omega
      go_wp2_with (first
        | (go_at_call 9; refine (fix8 _).mono ?_; rintro e w9 ⟨rfl, hb⟩; have H9 := Aside0.mk (below_step HI.out.bel hb); clear hb))
      go_ret
      exact ⟨rfl, H9.out⟩
theorem greenwoodlaw08_OrderTells.callsT (A0 : Option Addr) (c0 : Nat) (l0 : List CallT) (r : Bool) (w : World) (hr0 : callKd.C w A0 l0.length l0) (hc0 : l0.length ≤ c0) (hrT : r = true) (h : (some true : Option Bool) = some r) :
    Calls Try.prog 3 #[.slice A0 l0.length c0] w fun e w' => e = .returned (.bool r) ∧ Below w.heap.size w w' := by
  subst hrT
  by_cases h0 : l0.length ≤ 100
  · exact tells_main A0 c0 l0 w hr0 h0 (decide_eq_false (by omega))
  · exact tells_long A0 c0 l0 w (decide_eq_true (by omega))
theorem opens_bool {P : Program} {t : TypeId} (ht : P.underlying t = some .bool) (hs : P.cellsOf t = 1) : Opens P t Kd.bool (fun _ => True) :=
  ⟨hs, fun h => by
    obtain ⟨b, rfl, _⟩ := DataW.trod_bool ht h
    exact ⟨b, rfl, trivial⟩⟩
theorem cut3 {α : Type} (cs : List α) (a b c : Nat) (h : cs.length = a + (b + c)) : cs = (cs.drop 0).take a ++ ((cs.drop a).take b ++ (cs.drop (a + b)).take c) := by
  rw [List.drop_zero, List.take_of_length_le (i := c) (by rw [List.length_drop]; omega), ← List.drop_drop, List.take_append_drop, List.take_append_drop]
theorem opens_struct3 {P : Program} {t : TypeId} {f0 f1 f2 : Field} {α β γ : Type} {d0 : Kd α} {d1 : Kd β} {d2 : Kd γ} {q0 : α → Prop} {q1 : β → Prop} {q2 : γ → Prop} (ht : P.underlying t = some (.struct #[f0, f1, f2])) (hs : P.cellsOf t = d0.sz + (d1.sz + d2.sz))
    (o0 : f0.offset = 0) (o1 : f1.offset = d0.sz) (o2 : f2.offset = d0.sz + d1.sz) (h0 : Opens P f0.type d0 q0) (h1 : Opens P f1.type d1 q1) (h2 : Opens P f2.type d2 q2) : Opens P t (Kd.pair d0 (Kd.pair d1 d2)) (fun x => q0 x.1 ∧ q1 x.2.1 ∧ q2 x.2.2) :=
  ⟨hs, fun {H enc w base fuel held cs x} h => by
    obtain ⟨xs, n, _, _, hl, hlen, hf⟩ := DataW.trod_struct ht h
    match xs, hlen with
    | [y0, y1, y2], _ =>
      have g0 := hf 0 f0 rfl
      have g1 := hf 1 f1 rfl
      have g2 := hf 2 f2 rfl
      obtain ⟨a, ka, qa⟩ := h0.op g0
      obtain ⟨b, kb, qb⟩ := h1.op g1
      obtain ⟨c, kc, qc⟩ := h2.op g2
      rw [o0, h0.sz] at ka
      rw [o1, h1.sz] at kb
      rw [o2, h2.sz] at kc
      refine ⟨(a, b, c), ⟨_, _, ?_, ka, _, _, rfl, kb, kc⟩, qa, qb, qc⟩
      rw [hs] at hl
      exact cut3 cs _ _ _ hl⟩
theorem opens_call : Opens Try.prog 31 callKd (fun _ => True) :=
  Opens.mono (opens_struct3 Try.underlying31 (by kernel_rfl) rfl rfl rfl (opens_int Try.underlying3 (by kernel_rfl)) (opens_int Try.underlying3 (by kernel_rfl)) (opens_bool Try.underlying4 (by kernel_rfl))) (fun _ _ => trivial)
theorem OrderTells_ev (l : List CallT) : (some true : Option Bool) = some true := rfl
end Go.Proofs.Ytlpjlgjhhmfnlaa.P
