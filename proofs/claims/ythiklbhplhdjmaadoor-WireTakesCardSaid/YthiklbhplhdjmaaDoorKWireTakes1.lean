/- Texts of this claim's own repository, merged by wip/tool/pack.py: WireK, WireLs, WireLu, WireLv, WireLb, WireLbk, WireLy, Opn, Tied. -/
import Derived.Deep.Slices
import Derived.ChangeArms
import Derived.ProofKit
import Derived.Test.YthiklbhplhdjmaaDoorRows
import Derived.ChangeSame
import Derived.ChangeVars
import Derived.JoinedOf
import Derived.RowKit
import Derived.RowKitTokens
import Derived.LaidLaws
import Derived.LaidHandle
import Derived.Stop.Joined
import Derived.Test.YthiklbhplhdjmaaDoorKWireTakes0
set_option linter.unusedVariables false
set_option linter.unusedSimpArgs false
/- Layer 1's fixed calls, walked. -/
namespace Go.Proofs.YthiklbhplhdjmaaDoor.P
open Go.RowKit Go.Proofs.YthiklbhplhdjmaaDoorW.PrintWords Go.Proofs.YthiklbhplhdjmaaDoorW.PrintLast Go.Proofs.YthiklbhplhdjmaaDoorW.PrintMore
open Wr
set_option linter.unusedVariables false
set_option linter.unusedSimpArgs false

theorem lit_R (W : World) (base : Nat) (xs : List Int) (hb : base ≤ W.heap.size) (hm : xs.length ≤ 9223372036854775807) : (Kd.int .i64).R 3 (W.alloc (.cells (nums .i64 xs).toArray 3)) base (fun _ => True) (.slice (some ⟨W.heap.size, 0, none⟩) xs.length xs.length) xs :=
  Kd.R_of_own (own_lit W base 3 .i64 xs hb hm) (fun _ _ => trivial)
theorem lit_C (W : World) (xs : List Int) (hm : xs.length ≤ 9223372036854775807) : (Kd.int .i64).C (W.alloc (.cells (nums .i64 xs).toArray 3)) (some ⟨W.heap.size, 0, none⟩) xs.length xs :=
  (Kd.R_reads' (lit_R W 0 xs (Nat.zero_le _) hm)).2.2
theorem vb300 : vb 300 = [172, 2] := by rw [vb_hi (by decide), vb_lo (by decide)]; rfl
theorem fxs1 : strOfNums (encN 300) = ⟨#[172, 2]⟩ := by rw [show encN 300 = vb 300 from encN_nat (n := 300) (by decide), vb300]; rfl
theorem vlo (n : Nat) (h : n < 128) : encN (n : Int) = [(n : Int)] := by rw [encN_nat (by simp only [MX]; omega), vb_lo h]
theorem fxs2 : strOfNums (encI (-1)) = ⟨#[1]⟩ := by rw [show encI (-1) = encN ((1 : Nat) : Int) from rfl, vlo 1 (by decide)]; rfl
theorem fxs3 : strOfNums (encL encI [5, -5]) = ⟨#[2, 10, 9]⟩ := by
  have h1 : encI 5 = [10] := by rw [show encI 5 = encN ((10 : Nat) : Int) from rfl, vlo 10 (by decide)]; rfl
  have h2 : encI (-5) = [9] := by rw [show encI (-5) = encN ((9 : Nat) : Int) from rfl, vlo 9 (by decide)]; rfl
  have h3 : encN (([5, -5] : List Int).length : Int) = [2] := by rw [show ((([5, -5] : List Int).length : Nat) : Int) = ((2 : Nat) : Int) from rfl, vlo 2 (by decide)]; rfl
  simp only [encL, encA, h1, h2, h3]
  rfl
theorem fxs4 : strOfNums (encL encN [1, 2, 3]) = ⟨#[3, 1, 2, 3]⟩ := by
  have h1 : encN 1 = [1] := vlo 1 (by decide)
  have h2 : encN 2 = [2] := vlo 2 (by decide)
  have h4 : encN 3 = [3] := vlo 3 (by decide)
  have h3 : encN (([1, 2, 3] : List Int).length : Int) = [3] := vlo 3 (by decide)
  simp only [encL, encA, h1, h2, h3, h4]
  rfl
def fxb : ByteArray := ⟨#[172, 2, 1, 2, 10, 9, 128, 0]⟩
def fxc : ByteArray := ⟨#[3, 1, 2, 3]⟩
theorem fxn1 : numF (bytesOf fxb) (0, none) = (300, (2, none)) := by decide +kernel
theorem fxn2 : intF (bytesOf fxb) (2, none) = (-1, (3, none)) := by decide +kernel
theorem fxn3 : listF (bytesOf fxb) (intF (bytesOf fxb)) 2 (3, none) = ([5, -5], (6, none)) := by decide +kernel
theorem fxn4 : numF (bytesOf fxb) (6, none) = (0, (6, some (6, 11))) := by decide +kernel
theorem fxn5 : listF (bytesOf fxc) (numF (bytesOf fxc)) 2 (0, none) = ([], (1, some (0, 12))) := by decide +kernel
theorem fxb_eq : (({ data := #[172, 2] } ++ { data := #[1] } ++ { data := #[2, 10, 9] } ++ { data := #[128, 0] }) : ByteArray) = fxb := by decide +kernel
theorem fxs0 : strOfNums (encN (-1)) = ⟨#[]⟩ := by rw [encN_nil.2 (.inl (by decide))]; rfl
set_option maxHeartbeats 8000000 in
set_option maxRecDepth 100000 in
theorem fix1 (w : World) (hE : EV w) : Calls Tryd.prog 10 #[] w fun e w' => e = .returned (.bool true) ∧ Below w.heap.size w w' := by
  have HE := Aside0.mk hE
  clear hE
  go_enter Tryd.func10, Tryd.ntmps10
  go_wp2_with (first
    | (go_at_call 23; (have z := H17.out); clear z; refine (num_nil).mono ?_; rintro e w18 ⟨rfl, q18, hw⟩; have H18 := Aside0.mk (show Below w.heap.size w w18 by rw [hw]; exact pw_below_drewN H17.out _); clear hw)
    | (go_at_call 11; (have z := H16.out); clear z; refine (greenwoodref01_Same.calls 10 A6 c6 [5, -5] (some ⟨w16.heap.size, 0, none⟩) 2 [5, -5] true _ (Kd.C_alloc (Kd.R_reads' H16.out.2).2.2 _) (Kd.R_reads' H16.out.2).2.1 (lit_C w16 [5, -5] (by decide)) (by decide) (by decide +kernel)).mono ?_; rintro e w17 ⟨rfl, hd⟩; have H17 := Aside0.mk (show Below w.heap.size w w17 from (below_alloc H16.out.1 _).trans (hd.below.mono (by have := H16.out.1.size; simp; omega))); clear hd)
    | (go_at_call 14; (have z := H15.out); clear z; refine (wnum_c _ _).mono ?_; rintro e w16 ⟨rfl, hb⟩; rw [fxs0]; (have hl := Kd.R_below H15.out.2 hb); have H16 := Aside0.mk (And.intro (below_step H15.out.1 hb) hl); clear hb hl)
    | (go_at_call 16; (have z := H14.out); clear z; refine (wint_c _ _).mono ?_; rintro e w15 ⟨rfl, hb⟩; rw [fxs2]; (have hl := Kd.R_below H14.out.2 hb); have H15 := Aside0.mk (And.intro (below_step H14.out.1 hb) hl); clear hb hl)
    | (go_at_call 14; (have z := H13.out); clear z; refine (wnum_c _ _).mono ?_; rintro e w14 ⟨rfl, hb⟩; rw [fxs1]; (have hl := Kd.R_below H13.out.2 hb); have H14 := Aside0.mk (And.intro (below_step H13.out.1 hb) hl); clear hb hl)
    | (go_at_call 27; (have z := H12.out); clear z; refine (end_nil).mono ?_; rintro e w13 ⟨rfl, q13, hw⟩; have H13 := Aside0.mk (show Below w.heap.size w w13 ∧ (Kd.int .i64).R 3 w13 w.heap.size (fun k => k ≠ B2) (.slice A6 2 c6) [5, -5] by rw [hw]; exact ⟨pw_below_drewN H12.out.1 _, Kd.R_drewN H12.out.2 _⟩); clear hw)
    | (go_at_call 27; (have z := H11.out); clear z; refine (end_c (HE.out.below H11.out.1 HE.out.pos) H11.out.2.1 (fun pc h => by obtain rfl := Option.some.inj h; exact .inr (.inr rfl))).mono ?_; rintro e w12 ⟨rfl, hb⟩; simp only [endF]; (have hl := Kd.R_below H11.out.2.2 hb); have H12 := Aside0.mk (And.intro (below_step H11.out.1 hb) hl); clear hb hl)
    | (go_at_call 25; (have z := H10.out); clear z; (have hc := nums_c 2 H10.out.2.1 (by decide) (by decide) H10.out.1.size); rw [fxn5] at hc; refine hc.mono ?_; rintro e w11 ⟨v11, rfl, hl, hr, hg⟩; (obtain ⟨A11, c11, hv11⟩ := Kd.R_slice hl); (have hv11' : v11 = .slice A11 0 c11 := hv11); subst hv11'; (have hl2 := Kd.R_grown H10.out.2.2 hg (fun k hk e => hk (Option.some.inj e))); have H11 := Aside0.mk (And.intro (H10.out.1.trans (grown_below H10.out.2.1 H10.out.1.size hg)) (And.intro hr hl2)); clear hc hr hg hl hl2 hv11)
    | (go_at_call 22; (have z := H9.out); clear z; refine (read_c (base := w.heap.size) H9.out.1.size fxc).mono ?_; rintro e w10 ⟨rfl, hr, hb⟩; (obtain ⟨B2, hB2⟩ : ∃ B2, B2 = w9.heap.size := ⟨_, rfl⟩); (have hl : (Kd.int .i64).R 3 w10 w.heap.size (fun k => k ≠ B2) (.slice A6 2 c6) [5, -5] := Kd.R_mono (Kd.R_below (Kd.R_bound H9.out.2) hb) (fun k hk => by have := hk.2.2.1; omega)); rw [← hB2] at hr ⊢; have H10 := Aside0.mk (And.intro (below_step H9.out.1 hb) (And.intro hr hl)); clear hb hr hl hB2)
    | (go_at_call 18; (have z := H8.out); clear z; (have hC := lit_C w8 [1, 2, 3] (by decide)); refine (wnums_c (c0 := 3) (l0 := [1, 2, 3]) hC (by decide)).mono ?_; rintro e w9 ⟨rfl, hb⟩; rw [fxs4]; (have hl := Kd.R_below (Kd.R_alloc H8.out.2 _) hb); have H9 := Aside0.mk (And.intro (below_step (below_alloc H8.out.1 _) hb) hl); clear hb hC hl)
    | (go_at_call 27; (have z := H7.out); clear z; refine (end_c (HE.out.below H7.out.1 HE.out.pos) H7.out.2.1 (fun pc h => by obtain rfl := Option.some.inj h; exact .inr (.inl rfl))).mono ?_; rintro e w8 ⟨rfl, hb⟩; simp only [endF]; (have hl := Kd.R_below H7.out.2.2 hb); have H8 := Aside0.mk (And.intro (below_step H7.out.1 hb) hl); clear hb hl)
    | (go_at_call 23; (have z := H6.out); clear z; (have hc := num_c H6.out.2.1 (by decide) (by decide)); rw [fxn4] at hc; refine hc.mono ?_; rintro e w7 ⟨rfl, hr, hg⟩; (have hl := Kd.R_grown H6.out.2.2 hg (fun k hk e => hk (Option.some.inj e))); have H7 := Aside0.mk (And.intro (H6.out.1.trans (grown_below H6.out.2.1 H6.out.1.size hg)) (And.intro hr hl)); clear hc hr hg hl)
    | (go_at_call 26; (have z := H5.out); clear z; (have hc := ints_c 2 H5.out.2 (by decide) (by decide) H5.out.1.size); rw [fxn3] at hc; refine hc.mono ?_; rintro e w6 ⟨v6, rfl, hl, hr, hg⟩; (obtain ⟨A6, c6, hv6⟩ := Kd.R_slice hl); (have hv6' : v6 = .slice A6 2 c6 := hv6); subst hv6'; (have hl2 := Kd.R_lower hl H5.out.1.size); have H6 := Aside0.mk (And.intro (H5.out.1.trans (grown_below H5.out.2 H5.out.1.size hg)) (And.intro hr hl2)); clear hc hr hg hl hl2 hv6)
    | (go_at_call 24; (have z := H4.out); clear z; (have hc := int_c H4.out.2 (by decide) (by decide)); rw [fxn2] at hc; refine hc.mono ?_; rintro e w5 ⟨rfl, hr, hg⟩; have H5 := Aside0.mk (And.intro (H4.out.1.trans (grown_below H4.out.2 H4.out.1.size hg)) hr); clear hc hr hg)
    | (go_at_call 23; (have z := H3.out); clear z; (have hc := num_c H3.out.2 (by decide) (by decide)); rw [fxn1] at hc; refine hc.mono ?_; rintro e w4 ⟨rfl, hr, hg⟩; have H4 := Aside0.mk (And.intro (H3.out.1.trans (grown_below H3.out.2 H3.out.1.size hg)) hr); clear hc hr hg)
    | (go_at_call 22; (have z := H2.out); clear z; rw [fxb_eq]; refine (read_c (base := w.heap.size) H2.out.size fxb).mono ?_; rintro e w3 ⟨rfl, hr, hb⟩; (obtain ⟨B, hB⟩ : ∃ B, B = w2.heap.size := ⟨_, rfl⟩); rw [← hB] at hr ⊢; have H3 := Aside0.mk (And.intro (below_step H2.out hb) hr); clear hb hr hB)
    | (go_at_call 20; (have z := H1.out); clear z; (have hC := lit_C w1 [5, -5] (by decide)); refine (wints_c (c0 := 2) (l0 := [5, -5]) hC (by decide)).mono ?_; rintro e w2 ⟨rfl, hb⟩; rw [fxs3]; have H2 := Aside0.mk (below_step (below_alloc H1.out _) hb); clear hb hC)
    | (go_at_call 16; (have z := H0.out); clear z; refine (wint_c _ _).mono ?_; rintro e w1 ⟨rfl, hb⟩; rw [fxs2]; have H1 := Aside0.mk (below_step H0.out hb); clear hb)
    | (go_at_call 14; refine (wnum_c _ _).mono ?_; rintro e w0 ⟨rfl, hb⟩; rw [fxs1]; have H0 := Aside0.mk hb; clear hb)
    )
  go_ret
  exact ⟨rfl, H18.out⟩
end Go.Proofs.YthiklbhplhdjmaaDoor.P
/- Layer 1: WireSigns, walked. -/
namespace Go.Proofs.YthiklbhplhdjmaaDoor.P
open Go.RowKit Go.Proofs.YthiklbhplhdjmaaDoorW.PrintWords Go.Proofs.YthiklbhplhdjmaaDoorW.PrintLast Go.Proofs.YthiklbhplhdjmaaDoorW.PrintMore
open Wr
set_option linter.unusedVariables false
set_option linter.unusedSimpArgs false

theorem HB_step {w w1 w2 : World} (h : Aside0 (Below w.heap.size w w1)) (hb : Below w1.heap.size w1 w2) : Aside0 (Below w.heap.size w w2) := ⟨below_step h.out hb⟩
theorem EV_at {w w1 : World} (hE : Aside0 (EV w)) (h : Aside0 (Below w.heap.size w w1)) : EV w1 := hE.out.below h.out hE.out.pos
end Go.Proofs.YthiklbhplhdjmaaDoor.P
/- Layer 1: script, walked. -/
namespace Go.Proofs.YthiklbhplhdjmaaDoor.P
open Go.RowKit Go.Proofs.YthiklbhplhdjmaaDoorW.PrintWords Go.Proofs.YthiklbhplhdjmaaDoorW.PrintLast Go.Proofs.YthiklbhplhdjmaaDoorW.PrintMore
open Wr
set_option linter.unusedVariables false
set_option linter.unusedSimpArgs false

theorem step_ok {s : ByteArray} {most op : Int} {out o2 : List Int} {st st2 : St} (ho : Ok s st) (hs : s.size ≤ 500) (h : stepT (bytesOf s) most op out st = (o2, st2)) : Ok s st2 ∧ o2.length ≤ out.length + 501 := by
  have := stepT_ok (most := most) (op := op) (out := out) ho
  rw [h] at this
  exact ⟨this.1, by have := this.2; simp only at this; omega⟩
theorem play_step {S : List Int} {most : Int} {l : List Int} {i : Nat} {out o2 : List Int} {st st0 st2 : St} (hlt : i < l.length) (h : play S most l [] st0 = play S most (l.drop i) out st) (he : stepT S most (rd l (i : Int)) out st = (o2, st2)) : play S most l [] st0 = play S most (l.drop (i + 1)) o2 st2 := by
  rw [h, List.drop_eq_getElem_cons hlt, play, ← rd_at hlt, he]
def playR (s : ByteArray) (most : Int) (l : List Int) : List Int := (play (bytesOf s) most l [] (0, none)).1 ++ [(endF (bytesOf s) (play (bytesOf s) most l [] (0, none)).2).1, (endF (bytesOf s) (play (bytesOf s) most l [] (0, none)).2).2]
set_option maxHeartbeats 16000000 in
set_option maxRecDepth 100000 in
theorem script_c (s : ByteArray) (A1 : Option Addr) (c1 : Nat) (l : List Int) (most : Int) (w : World) (hE : EV w) (hr : Kd.C (Kd.int .i64) w A1 l.length l) (hlen : l.length ≤ 20) (hs : s.size ≤ 500) :
    Calls Tryd.prog 12 #[.string s, .slice A1 l.length c1, .int .i64 most] w fun e w' => ∃ v, e = .returned v ∧ (Kd.int .i64).R 3 w' w.heap.size (fun _ => True) v (playR s most l) ∧ Below w.heap.size w w' := by
  have HE := Aside0.mk hE
  have HR0 := Aside0.mk hr
  have HB := Aside0.mk (Below.refl w.heap.size w)
  have HS5 := Aside0.mk hs
  have HS := Aside0.mk (show s.size ≤ 1000000000 by omega)
  have HL20 := Aside0.mk hlen
  clear hE hr hs
  go_enter Tryd.func12, Tryd.ntmps12
  go_wp2_with (go_at_call 22; refine (read_c (base := w.heap.size) HB.out.size s).mono ?_; rintro e w1 ⟨rfl, hr, hb⟩; (obtain ⟨B, hB⟩ : ∃ B, B = w.heap.size := ⟨_, rfl⟩); (replace hr : Rd w1 w.heap.size B s (0, none) := by rw [hB]; exact hr); rw [← hB]; (have hne : B < w1.heap.size := hr.lt); have H1 := Aside0.mk (And.intro hb (And.intro hr hne)); clear hB hr hb hne HB)
  go_loopw [8, 9] (fun v8 v9 wr => ∃ (i : Nat) (out : List Int) (st : St), i ≤ l.length ∧ v9 = .int .i64 (i : Int) ∧ Aside0 (Below w.heap.size w wr ∧ (Kd.int .i64).R 3 wr w.heap.size (fun k => k ≠ B) v8 out ∧ Rd wr w.heap.size B s st) ∧ Aside0 (Ok s st ∧ out.length ≤ i * 501 ∧ play (bytesOf s) most l [] (0, none) = play (bytesOf s) most (l.drop i) out st)) (fun _ v9 _ => (l.length - (RowKit.intOf v9).toNat))
  case atStart => exact ⟨0, [], (0, none), Nat.zero_le _, rfl, ⟨below_alloc H1.out.1 _, Kd.R_of_own (own_lit w1 w.heap.size 3 .i64 [] H1.out.1.size (by decide)) (fun k hk => by obtain rfl := Option.some.inj hk; exact fun e => by have := H1.out.2.2; have e' : w1.heap.size = B := e; omega), H1.out.2.1.below (below_alloc (Below.refl _ _) _)⟩, ⟨⟨Nat.zero_le _, fun pc h => by simp at h⟩, Nat.zero_le _, rfl⟩⟩
  case round =>
    obtain ⟨i, out, st, hi, rfl, HR, HT⟩ := hrel
    by_cases hlt : i < l.length
    · obtain ⟨ad, rfl, hx⟩ := C_at HR0.out hlt
      replace hx := (HR.out.1.cell (World.block_lt_of_cell? w _ hx)).trans hx
      obtain ⟨x, hxx⟩ : ∃ x, x = rd l (i : Int) := ⟨_, rfl⟩
      rw [← hxx] at hx
      have HX := Aside0.mk hxx
      have hi100 : i < 1000000 := by omega
      have HI := Aside0.mk (show out.length ≤ 10020 by have := HT.out.2.1; have := HL20.out; omega)
      have HLL : Aside0 ((listF (bytesOf s) (numF (bytesOf s)) most st).1.length ≤ s.size ∧ (listF (bytesOf s) (intF (bytesOf s)) most st).1.length ≤ s.size) := ⟨by
        have h := (listF_rng (bytesOf_in s) most st (by rw [bytesOf_length]; exact HT.out.1.1)).1
        rw [bytesOf_length] at h
        exact ⟨h, by rw [listF_int, List.length_map]; exact h⟩⟩
      clear hxx
      have hways : x = 0 ∨ x = 1 ∨ x = 2 ∨ x = 3 ∨ ((x == 0) = false ∧ (x == 1) = false ∧ (x == 2) = false ∧ (x == 3) = false) := by
        by_cases h0 : x = 0
        · exact .inl h0
        by_cases h1 : x = 1
        · exact .inr (.inl h1)
        by_cases h2 : x = 2
        · exact .inr (.inr (.inl h2))
        by_cases h3 : x = 3
        · exact .inr (.inr (.inr (.inl h3)))
        exact .inr (.inr (.inr (.inr ⟨beq_eq_false_iff_ne.mpr h0, beq_eq_false_iff_ne.mpr h1, beq_eq_false_iff_ne.mpr h2, beq_eq_false_iff_ne.mpr h3⟩)))
      rcases hways with rfl | rfl | rfl | rfl | ⟨h0, h1, h2, h3⟩
      · have HE2 := Aside0.mk (show stepT (bytesOf s) most 0 out st = (out ++ [(numF (bytesOf s) st).1], (numF (bytesOf s) st).2) from rfl)
        have HX2 := Aside0.mk (show stepT (bytesOf s) most (rd l (i : Int)) out st = (out ++ [(numF (bytesOf s) st).1], (numF (bytesOf s) st).2) by rw [← HX.out]; exact HE2.out)
        clear HE2
        go_wp2_with (first
          | (go_at_call 23; (have hc := num_c HR.out.2.2 HS.out HT.out.1.1); refine hc.mono ?_; rintro e w3 ⟨rfl, hr, hg⟩; (have hr3 := Kd.R_grown HR.out.2.1 hg (fun k hk e => hk (Option.some.inj e))); (have H3 := Aside0.mk (And.intro (HR.out.1.trans (grown_below HR.out.2.2 HR.out.1.size hg)) (And.intro hr3 hr))); clear hr hg hr3 hc)
            | ((with_reducible refine gate_dst (N := 33) rfl ?_); refine Kd.R_append (Kd.int .i64) w.heap.size rfl (.tmp 29) (.tmp 32) 22 3 (.int .i64 0) 8 rfl Tryd.underlying22 info3 rfl (by decide) (by omega) _ out (numF (bytesOf s) st).1 [.int .i64 (numF (bytesOf s) st).1] (fun k => k ≠ B) (fun _ => False) rfl rfl ?aP (fun _ hk => hk.elim) ?aF ?aO H3.out.1 ?aS ?aL ?_; (case aP => exact rfl); (case aF => exact (fun k hk => by have := H3.out.2.2.lt; omega)); (case aO => exact H3.out.2.1); (case aS => exact H3.out.1.size); (case aL => have := HI.out; omega); intro v4 w4 ho hb hg hat; (have H4 := Aside0.mk (And.intro hb (And.intro ho (H3.out.2.2.row H3.out.2.1 hg)))); clear ho hb hg hat))
        go_roundw
        case rel => exact ⟨i + 1, _, _, by omega, by go_num, H4, ⟨(step_ok HT.out.1 HS5.out HX2.out).1, by have := HT.out.2.1; have := (step_ok HT.out.1 HS5.out HX2.out).2; omega, play_step hlt HT.out.2.2 HX2.out⟩⟩
        case measure => simp [RowKit.intOf]; omega
      · have HE2 := Aside0.mk (show stepT (bytesOf s) most 1 out st = (out ++ [(intF (bytesOf s) st).1], (intF (bytesOf s) st).2) from rfl)
        have HX2 := Aside0.mk (show stepT (bytesOf s) most (rd l (i : Int)) out st = (out ++ [(intF (bytesOf s) st).1], (intF (bytesOf s) st).2) by rw [← HX.out]; exact HE2.out)
        clear HE2
        go_wp2_with (first
          | (go_at_call 24; (have hc := int_c HR.out.2.2 HS.out HT.out.1.1); refine hc.mono ?_; rintro e w3 ⟨rfl, hr, hg⟩; (have hr3 := Kd.R_grown HR.out.2.1 hg (fun k hk e => hk (Option.some.inj e))); (have H3 := Aside0.mk (And.intro (HR.out.1.trans (grown_below HR.out.2.2 HR.out.1.size hg)) (And.intro hr3 hr))); clear hr hg hr3 hc)
            | ((with_reducible refine gate_dst (N := 40) rfl ?_); refine Kd.R_append (Kd.int .i64) w.heap.size rfl (.tmp 36) (.tmp 39) 22 3 (.int .i64 0) 8 rfl Tryd.underlying22 info3 rfl (by decide) (by omega) _ out (intF (bytesOf s) st).1 [.int .i64 (intF (bytesOf s) st).1] (fun k => k ≠ B) (fun _ => False) rfl rfl ?aP (fun _ hk => hk.elim) ?aF ?aO H3.out.1 ?aS ?aL ?_; (case aP => exact rfl); (case aF => exact (fun k hk => by have := H3.out.2.2.lt; omega)); (case aO => exact H3.out.2.1); (case aS => exact H3.out.1.size); (case aL => have := HI.out; omega); intro v4 w4 ho hb hg hat; (have H4 := Aside0.mk (And.intro hb (And.intro ho (H3.out.2.2.row H3.out.2.1 hg)))); clear ho hb hg hat))
        go_roundw
        case rel => exact ⟨i + 1, _, _, by omega, by go_num, H4, ⟨(step_ok HT.out.1 HS5.out HX2.out).1, by have := HT.out.2.1; have := (step_ok HT.out.1 HS5.out HX2.out).2; omega, play_step hlt HT.out.2.2 HX2.out⟩⟩
        case measure => simp [RowKit.intOf]; omega
      · have HE2 := Aside0.mk (show stepT (bytesOf s) most 2 out st = (out ++ (listF (bytesOf s) (numF (bytesOf s)) most st).1, (listF (bytesOf s) (numF (bytesOf s)) most st).2) from rfl)
        have HX2 := Aside0.mk (show stepT (bytesOf s) most (rd l (i : Int)) out st = (out ++ (listF (bytesOf s) (numF (bytesOf s)) most st).1, (listF (bytesOf s) (numF (bytesOf s)) most st).2) by rw [← HX.out]; exact HE2.out)
        clear HE2
        go_wp2_with (first
          | (go_at_call 25; (have hc := nums_c most HR.out.2.2 HS.out HT.out.1.1 HR.out.1.size); refine hc.mono ?_; rintro e w3 ⟨v, rfl, hl, hr, hg⟩; (obtain ⟨A3, c3, hv⟩ := Kd.R_slice hl); subst hv; (have hr3 := Kd.R_grown HR.out.2.1 hg (fun k hk e => hk (Option.some.inj e))); (have H3 := Aside0.mk (And.intro (HR.out.1.trans (grown_below HR.out.2.2 HR.out.1.size hg)) (And.intro hr3 hr))); (have L3 := Aside0.mk (Kd.R_reads' hl).2.2); clear hr hg hr3 hc hl)
            | ((with_reducible refine gate_dst (N := 47) rfl ?_); refine Kd.R_append_row (Value.int .i64) 0 w.heap.size rfl (.tmp 43) (.tmp 46) 22 3 (.int .i64 0) 8 rfl Tryd.underlying22 info3 rfl (by omega) _ out (listF (bytesOf s) (numF (bytesOf s)) most st).1 A3 _ c3 (fun k => k ≠ B) rfl rfl ?aF ?aO L3.out H3.out.1 ?aS ?aL ?_; (case aF => exact (fun k hk => by have := H3.out.2.2.lt; omega)); (case aO => exact H3.out.2.1); (case aS => exact H3.out.1.size); (case aL => have := HI.out; have := HLL.out.1; have := HLL.out.2; have := HS.out; omega); intro v4 w4 ho hb hg hat; (have H4 := Aside0.mk (And.intro hb (And.intro ho (H3.out.2.2.row H3.out.2.1 hg)))); clear ho hb hg hat))
        go_roundw
        case rel => exact ⟨i + 1, _, _, by omega, by go_num, H4, ⟨(step_ok HT.out.1 HS5.out HX2.out).1, by have := HT.out.2.1; have := (step_ok HT.out.1 HS5.out HX2.out).2; omega, play_step hlt HT.out.2.2 HX2.out⟩⟩
        case measure => simp [RowKit.intOf]; omega
      · have HE2 := Aside0.mk (show stepT (bytesOf s) most 3 out st = (out ++ (listF (bytesOf s) (intF (bytesOf s)) most st).1, (listF (bytesOf s) (intF (bytesOf s)) most st).2) from rfl)
        have HX2 := Aside0.mk (show stepT (bytesOf s) most (rd l (i : Int)) out st = (out ++ (listF (bytesOf s) (intF (bytesOf s)) most st).1, (listF (bytesOf s) (intF (bytesOf s)) most st).2) by rw [← HX.out]; exact HE2.out)
        clear HE2
        go_wp2_with (first
          | (go_at_call 26; (have hc := ints_c most HR.out.2.2 HS.out HT.out.1.1 HR.out.1.size); refine hc.mono ?_; rintro e w3 ⟨v, rfl, hl, hr, hg⟩; (obtain ⟨A3, c3, hv⟩ := Kd.R_slice hl); subst hv; (have hr3 := Kd.R_grown HR.out.2.1 hg (fun k hk e => hk (Option.some.inj e))); (have H3 := Aside0.mk (And.intro (HR.out.1.trans (grown_below HR.out.2.2 HR.out.1.size hg)) (And.intro hr3 hr))); (have L3 := Aside0.mk (Kd.R_reads' hl).2.2); clear hr hg hr3 hc hl)
            | ((with_reducible refine gate_dst (N := 54) rfl ?_); refine Kd.R_append_row (Value.int .i64) 0 w.heap.size rfl (.tmp 50) (.tmp 53) 22 3 (.int .i64 0) 8 rfl Tryd.underlying22 info3 rfl (by omega) _ out (listF (bytesOf s) (intF (bytesOf s)) most st).1 A3 _ c3 (fun k => k ≠ B) rfl rfl ?aF ?aO L3.out H3.out.1 ?aS ?aL ?_; (case aF => exact (fun k hk => by have := H3.out.2.2.lt; omega)); (case aO => exact H3.out.2.1); (case aS => exact H3.out.1.size); (case aL => have := HI.out; have := HLL.out.1; have := HLL.out.2; have := HS.out; omega); intro v4 w4 ho hb hg hat; (have H4 := Aside0.mk (And.intro hb (And.intro ho (H3.out.2.2.row H3.out.2.1 hg)))); clear ho hb hg hat))
        go_roundw
        case rel => exact ⟨i + 1, _, _, by omega, by go_num, H4, ⟨(step_ok HT.out.1 HS5.out HX2.out).1, by have := HT.out.2.1; have := (step_ok HT.out.1 HS5.out HX2.out).2; omega, play_step hlt HT.out.2.2 HX2.out⟩⟩
        case measure => simp [RowKit.intOf]; omega
      · have HX2 := Aside0.mk (show stepT (bytesOf s) most (rd l (i : Int)) out st = (out, st) by rw [← HX.out]; unfold stepT; rw [if_neg (beq_eq_false_iff_ne.mp h0), if_neg (beq_eq_false_iff_ne.mp h1), if_neg (beq_eq_false_iff_ne.mp h2), if_neg (beq_eq_false_iff_ne.mp h3)])
        go_wp2
        go_roundw
        case rel => exact ⟨i + 1, out, st, by omega, by go_num, HR, ⟨HT.out.1, by have := HT.out.2.1; omega, play_step hlt HT.out.2.2 HX2.out⟩⟩
        case measure => simp [RowKit.intOf]; omega
    · obtain rfl : i = l.length := by omega
      have HI := Aside0.mk (show out.length ≤ 10020 by have := HT.out.2.1; omega)
      have HF := Aside0.mk (show playR s most l = out ++ [(endF (bytesOf s) st).1, (endF (bytesOf s) st).2] by
        have h := HT.out.2.2
        rw [List.drop_length] at h
        unfold playR
        rw [h]
        rfl)
      go_wp2_with (first
        | (go_at_call 27; (have hc := end_c (HE.out.below HR.out.1 HE.out.pos) HR.out.2.2 HT.out.1.2); refine hc.mono ?_; rintro e w5 ⟨rfl, hb⟩; have H5 := Aside0.mk (And.intro (below_step HR.out.1 hb) (And.intro (Kd.R_below HR.out.2.1 hb) (HR.out.2.2.below hb).lt)); clear hb hc)
        | ((with_reducible refine gate_dst (N := 64) rfl ?_); refine Kd.R_append_row (Value.int .i64) 0 w.heap.size rfl (.tmp 60) (.tmp 63) 22 3 (.int .i64 0) 8 rfl Tryd.underlying22 info3 rfl (by omega) _ out [(endF (bytesOf s) st).1, (endF (bytesOf s) st).2] (some ⟨w5.heap.size, 0, none⟩) 2 2 (fun k => k ≠ B) rfl rfl ?aF ?aO (lit_C w5 [(endF (bytesOf s) st).1, (endF (bytesOf s) st).2] (by simp)) (below_alloc H5.out.1 _) ?aS ?aL ?_; (case aF => exact (fun k hk => by have := H5.out.2.2; simp at hk; omega)); (case aO => exact Kd.R_alloc H5.out.2.1 _); (case aS => exact (below_alloc H5.out.1 _).size); (case aL => have := HI.out; omega); intro v4 w6 ho hb hg hat; (have H6 := Aside0.mk (And.intro hb ho)); clear ho hb hg hat))
      go_ret
      rw [HF.out]
      exact ⟨_, rfl, Kd.R_mono H6.out.2 (fun _ _ => trivial), H6.out.1⟩
end Go.Proofs.YthiklbhplhdjmaaDoor.P
/- Layer 1: model, walked. -/
namespace Go.Proofs.YthiklbhplhdjmaaDoor.P
open Go.RowKit Go.Proofs.YthiklbhplhdjmaaDoorW.PrintWords Go.Proofs.YthiklbhplhdjmaaDoorW.PrintLast Go.Proofs.YthiklbhplhdjmaaDoorW.PrintMore
open Wr
set_option linter.unusedVariables false
set_option linter.unusedSimpArgs false

set_option maxHeartbeats 16000000 in
set_option maxRecDepth 100000 in
theorem model_c (s : ByteArray) (A1 : Option Addr) (c1 : Nat) (l : List Int) (most : Int) (w : World) (hE : EV w) (hr : Kd.C (Kd.int .i64) w A1 l.length l) (hlen : l.length ≤ 20) (hs : s.size ≤ 500) :
    Calls Tryd.prog 13 #[.string s, .slice A1 l.length c1, .int .i64 most] w fun e w' => ∃ v, e = .returned v ∧ (Kd.int .i64).R 3 w' w.heap.size (fun _ => True) v (playR s most l) ∧ Below w.heap.size w w' := by
  have HE := Aside0.mk hE
  have HR0 := Aside0.mk hr
  have HB := Aside0.mk (Below.refl w.heap.size w)
  have HS5 := Aside0.mk hs
  have HS := Aside0.mk (show s.size ≤ 1000000000 by omega)
  have HL20 := Aside0.mk hlen
  clear hE hr hs
  go_enter Tryd.func13, Tryd.ntmps13
  go_wp2
  obtain ⟨B, hB⟩ : ∃ B, B = w.heap.size := ⟨_, rfl⟩
  rw [← hB]
  have H1 := Aside0.mk hB
  clear hB
  go_loopw [8, 9] (fun v8 v9 wr => ∃ (i : Nat) (out : List Int) (st : St), i ≤ l.length ∧ v9 = .int .i64 (i : Int) ∧ Aside0 (Below w.heap.size w wr ∧ (Kd.int .i64).R 3 wr w.heap.size (fun k => k ≠ B) v8 out ∧ IsS43 w wr B s (sa st) (se st)) ∧ Aside0 (Ok s st ∧ out.length ≤ i * 501 ∧ play (bytesOf s) most l [] (0, none) = play (bytesOf s) most (l.drop i) out st)) (fun _ v9 _ => (l.length - (RowKit.intOf v9).toNat))
  case atStart =>
    have hsz : (w.alloc (.cells #[.string s, .int .i64 0, .int .i64 0] 43)).heap.size = B + 1 := by have := H1.out; simp; omega
    have ho := own_lit (w.alloc (.cells #[.string s, .int .i64 0, .int .i64 0] 43)) w.heap.size 3 .i64 [] (below_alloc HB.out _).size (by decide)
    rw [hsz] at ho
    exact ⟨0, [], (0, none), Nat.zero_le _, rfl, ⟨below_alloc (below_alloc HB.out _) _, Kd.R_of_own ho (fun k hk => by obtain rfl := Option.some.inj hk; exact fun e => by have e' : B + 1 = B := e; omega), IsS43.alloc ⟨by rw [H1.out]; exact Array.getElem?_push_size, by have := H1.out; omega⟩ _⟩, ⟨⟨Nat.zero_le _, fun pc h => by simp at h⟩, Nat.zero_le _, rfl⟩⟩
  case round =>
    obtain ⟨i, out, st, hi, rfl, HR, HT⟩ := hrel
    by_cases hlt : i < l.length
    · obtain ⟨ad, rfl, hx⟩ := C_at HR0.out hlt
      replace hx := (HR.out.1.cell (World.block_lt_of_cell? w _ hx)).trans hx
      obtain ⟨x, hxx⟩ : ∃ x, x = rd l (i : Int) := ⟨_, rfl⟩
      rw [← hxx] at hx
      have HX := Aside0.mk hxx
      have hi100 : i < 1000000 := by omega
      have HI := Aside0.mk (show out.length ≤ 10020 by have := HT.out.2.1; have := HL20.out; omega)
      have HLL : Aside0 ((listF (bytesOf s) (numF (bytesOf s)) most st).1.length ≤ s.size ∧ (listF (bytesOf s) (intF (bytesOf s)) most st).1.length ≤ s.size) := ⟨by
        have h := (listF_rng (bytesOf_in s) most st (by rw [bytesOf_length]; exact HT.out.1.1)).1
        rw [bytesOf_length] at h
        exact ⟨h, by rw [listF_int, List.length_map]; exact h⟩⟩
      clear hxx
      have hways : x = 0 ∨ x = 1 ∨ x = 2 ∨ x = 3 ∨ ((x == 0) = false ∧ (x == 1) = false ∧ (x == 2) = false ∧ (x == 3) = false) := by
        by_cases h0 : x = 0
        · exact .inl h0
        by_cases h1 : x = 1
        · exact .inr (.inl h1)
        by_cases h2 : x = 2
        · exact .inr (.inr (.inl h2))
        by_cases h3 : x = 3
        · exact .inr (.inr (.inr (.inl h3)))
        exact .inr (.inr (.inr (.inr ⟨beq_eq_false_iff_ne.mpr h0, beq_eq_false_iff_ne.mpr h1, beq_eq_false_iff_ne.mpr h2, beq_eq_false_iff_ne.mpr h3⟩)))
      rcases hways with rfl | rfl | rfl | rfl | ⟨h0, h1, h2, h3⟩
      · have HE2 := Aside0.mk (show stepT (bytesOf s) most 0 out st = (out ++ [(numF (bytesOf s) st).1], (numF (bytesOf s) st).2) from rfl)
        have HX2 := Aside0.mk (show stepT (bytesOf s) most (rd l (i : Int)) out st = (out ++ [(numF (bytesOf s) st).1], (numF (bytesOf s) st).2) by rw [← HX.out]; exact HE2.out)
        clear HE2
        go_wp2_with (first
          | (go_at_call 28; (obtain ⟨kk, hk⟩ := (refnum s st HS.out HT.out.1).rounds); (have hc := greenwoodref01_Reader_Num.calls kk B s (sa st) (se st) _ _ _ _ w wr HR.out.2.2 HR.out.1 hk); refine hc.mono ?_; rintro e w3 ⟨rfl, hi3, hb, hk3⟩; (have hr3 := Kd.R_step HR.out.2.1 (fun k ho hk => hk3.2 k hk ho (by simp))); (have H3 := Aside0.mk (And.intro hb (And.intro hr3 hi3))); clear hb hr3 hi3 hk3 hc hk)
            | ((with_reducible refine gate_dst (N := 32) rfl ?_); refine Kd.R_append (Kd.int .i64) w.heap.size rfl (.tmp 28) (.tmp 31) 22 3 (.int .i64 0) 8 rfl Tryd.underlying22 info3 rfl (by decide) (by omega) _ out (numF (bytesOf s) st).1 [.int .i64 (numF (bytesOf s) st).1] (fun k => k ≠ B) (fun _ => False) rfl rfl ?aP (fun _ hk => hk.elim) ?aF ?aO H3.out.1 ?aS ?aL ?_; (case aP => exact rfl); (case aF => exact (fun k hk => by have := H3.out.2.2.lt; omega)); (case aO => exact H3.out.2.1); (case aS => exact H3.out.1.size); (case aL => have := HI.out; omega); intro v4 w4 ho hb hg hat; (have H4 := Aside0.mk (And.intro hb (And.intro ho (H3.out.2.2.grown hg (fun e => H3.out.2.1.1 B e.symm rfl))))); clear ho hb hg hat))
        go_roundw
        case rel => exact ⟨i + 1, _, _, by omega, by go_num, H4, ⟨(step_ok HT.out.1 HS5.out HX2.out).1, by have := HT.out.2.1; have := (step_ok HT.out.1 HS5.out HX2.out).2; omega, play_step hlt HT.out.2.2 HX2.out⟩⟩
        case measure => simp [RowKit.intOf]; omega
      · have HE2 := Aside0.mk (show stepT (bytesOf s) most 1 out st = (out ++ [(intF (bytesOf s) st).1], (intF (bytesOf s) st).2) from rfl)
        have HX2 := Aside0.mk (show stepT (bytesOf s) most (rd l (i : Int)) out st = (out ++ [(intF (bytesOf s) st).1], (intF (bytesOf s) st).2) by rw [← HX.out]; exact HE2.out)
        clear HE2
        go_wp2_with (first
          | (go_at_call 29; (obtain ⟨kk, hk⟩ := (refint s st HS.out HT.out.1).rounds); (have hc := greenwoodref01_Reader_Int.calls kk B s (sa st) (se st) _ _ _ _ w wr HR.out.2.2 HR.out.1 hk); refine hc.mono ?_; rintro e w3 ⟨rfl, hi3, hb, hk3⟩; (have hr3 := Kd.R_step HR.out.2.1 (fun k ho hk => hk3.2 k hk ho (by simp))); (have H3 := Aside0.mk (And.intro hb (And.intro hr3 hi3))); clear hb hr3 hi3 hk3 hc hk)
            | ((with_reducible refine gate_dst (N := 39) rfl ?_); refine Kd.R_append (Kd.int .i64) w.heap.size rfl (.tmp 35) (.tmp 38) 22 3 (.int .i64 0) 8 rfl Tryd.underlying22 info3 rfl (by decide) (by omega) _ out (intF (bytesOf s) st).1 [.int .i64 (intF (bytesOf s) st).1] (fun k => k ≠ B) (fun _ => False) rfl rfl ?aP (fun _ hk => hk.elim) ?aF ?aO H3.out.1 ?aS ?aL ?_; (case aP => exact rfl); (case aF => exact (fun k hk => by have := H3.out.2.2.lt; omega)); (case aO => exact H3.out.2.1); (case aS => exact H3.out.1.size); (case aL => have := HI.out; omega); intro v4 w4 ho hb hg hat; (have H4 := Aside0.mk (And.intro hb (And.intro ho (H3.out.2.2.grown hg (fun e => H3.out.2.1.1 B e.symm rfl))))); clear ho hb hg hat))
        go_roundw
        case rel => exact ⟨i + 1, _, _, by omega, by go_num, H4, ⟨(step_ok HT.out.1 HS5.out HX2.out).1, by have := HT.out.2.1; have := (step_ok HT.out.1 HS5.out HX2.out).2; omega, play_step hlt HT.out.2.2 HX2.out⟩⟩
        case measure => simp [RowKit.intOf]; omega
      · have HE2 := Aside0.mk (show stepT (bytesOf s) most 2 out st = (out ++ (listF (bytesOf s) (numF (bytesOf s)) most st).1, (listF (bytesOf s) (numF (bytesOf s)) most st).2) from rfl)
        have HX2 := Aside0.mk (show stepT (bytesOf s) most (rd l (i : Int)) out st = (out ++ (listF (bytesOf s) (numF (bytesOf s)) most st).1, (listF (bytesOf s) (numF (bytesOf s)) most st).2) by rw [← HX.out]; exact HE2.out)
        clear HE2
        go_wp2_with (first
          | (go_at_call 30; (obtain ⟨kk, hk⟩ := (refnums s st most HS.out HT.out.1).rounds); (have hc := greenwoodref01_Reader_Nums.calls kk B s (sa st) (se st) most _ _ _ _ w wr HR.out.2.2 HR.out.1 hk); refine hc.mono ?_; rintro e w3 ⟨v, rfl, hl, hi3, hb, hk3⟩; (obtain ⟨A3, c3, hv⟩ := Kd.R_slice hl); subst hv; (have hr3 := Kd.R_step HR.out.2.1 (fun k ho hk => hk3.2 k hk ho (by simp))); (have H3 := Aside0.mk (And.intro hb (And.intro hr3 hi3))); (have L3 := Aside0.mk (Kd.R_reads' hl).2.2); clear hb hr3 hi3 hk3 hc hk hl)
            | ((with_reducible refine gate_dst (N := 46) rfl ?_); refine Kd.R_append_row (Value.int .i64) 0 w.heap.size rfl (.tmp 42) (.tmp 45) 22 3 (.int .i64 0) 8 rfl Tryd.underlying22 info3 rfl (by omega) _ out (listF (bytesOf s) (numF (bytesOf s)) most st).1 A3 _ c3 (fun k => k ≠ B) rfl rfl ?aF ?aO L3.out H3.out.1 ?aS ?aL ?_; (case aF => exact (fun k hk => by have := H3.out.2.2.lt; omega)); (case aO => exact H3.out.2.1); (case aS => exact H3.out.1.size); (case aL => have := HI.out; have := HLL.out.1; have := HLL.out.2; have := HS.out; omega); intro v4 w4 ho hb hg hat; (have H4 := Aside0.mk (And.intro hb (And.intro ho (H3.out.2.2.grown hg (fun e => H3.out.2.1.1 B e.symm rfl))))); clear ho hb hg hat))
        go_roundw
        case rel => exact ⟨i + 1, _, _, by omega, by go_num, H4, ⟨(step_ok HT.out.1 HS5.out HX2.out).1, by have := HT.out.2.1; have := (step_ok HT.out.1 HS5.out HX2.out).2; omega, play_step hlt HT.out.2.2 HX2.out⟩⟩
        case measure => simp [RowKit.intOf]; omega
      · have HE2 := Aside0.mk (show stepT (bytesOf s) most 3 out st = (out ++ (listF (bytesOf s) (intF (bytesOf s)) most st).1, (listF (bytesOf s) (intF (bytesOf s)) most st).2) from rfl)
        have HX2 := Aside0.mk (show stepT (bytesOf s) most (rd l (i : Int)) out st = (out ++ (listF (bytesOf s) (intF (bytesOf s)) most st).1, (listF (bytesOf s) (intF (bytesOf s)) most st).2) by rw [← HX.out]; exact HE2.out)
        clear HE2
        go_wp2_with (first
          | (go_at_call 31; (obtain ⟨kk, hk⟩ := (refints s st most HS.out HT.out.1).rounds); (have hc := greenwoodref01_Reader_Ints.calls kk B s (sa st) (se st) most _ _ _ _ w wr HR.out.2.2 HR.out.1 hk); refine hc.mono ?_; rintro e w3 ⟨v, rfl, hl, hi3, hb, hk3⟩; (obtain ⟨A3, c3, hv⟩ := Kd.R_slice hl); subst hv; (have hr3 := Kd.R_step HR.out.2.1 (fun k ho hk => hk3.2 k hk ho (by simp))); (have H3 := Aside0.mk (And.intro hb (And.intro hr3 hi3))); (have L3 := Aside0.mk (Kd.R_reads' hl).2.2); clear hb hr3 hi3 hk3 hc hk hl)
            | ((with_reducible refine gate_dst (N := 53) rfl ?_); refine Kd.R_append_row (Value.int .i64) 0 w.heap.size rfl (.tmp 49) (.tmp 52) 22 3 (.int .i64 0) 8 rfl Tryd.underlying22 info3 rfl (by omega) _ out (listF (bytesOf s) (intF (bytesOf s)) most st).1 A3 _ c3 (fun k => k ≠ B) rfl rfl ?aF ?aO L3.out H3.out.1 ?aS ?aL ?_; (case aF => exact (fun k hk => by have := H3.out.2.2.lt; omega)); (case aO => exact H3.out.2.1); (case aS => exact H3.out.1.size); (case aL => have := HI.out; have := HLL.out.1; have := HLL.out.2; have := HS.out; omega); intro v4 w4 ho hb hg hat; (have H4 := Aside0.mk (And.intro hb (And.intro ho (H3.out.2.2.grown hg (fun e => H3.out.2.1.1 B e.symm rfl))))); clear ho hb hg hat))
        go_roundw
        case rel => exact ⟨i + 1, _, _, by omega, by go_num, H4, ⟨(step_ok HT.out.1 HS5.out HX2.out).1, by have := HT.out.2.1; have := (step_ok HT.out.1 HS5.out HX2.out).2; omega, play_step hlt HT.out.2.2 HX2.out⟩⟩
        case measure => simp [RowKit.intOf]; omega
      · have HX2 := Aside0.mk (show stepT (bytesOf s) most (rd l (i : Int)) out st = (out, st) by rw [← HX.out]; unfold stepT; rw [if_neg (beq_eq_false_iff_ne.mp h0), if_neg (beq_eq_false_iff_ne.mp h1), if_neg (beq_eq_false_iff_ne.mp h2), if_neg (beq_eq_false_iff_ne.mp h3)])
        go_wp2
        go_roundw
        case rel => exact ⟨i + 1, out, st, by omega, by go_num, HR, ⟨HT.out.1, by have := HT.out.2.1; omega, play_step hlt HT.out.2.2 HX2.out⟩⟩
        case measure => simp [RowKit.intOf]; omega
    · obtain rfl : i = l.length := by omega
      have HI := Aside0.mk (show out.length ≤ 10020 by have := HT.out.2.1; omega)
      have HF := Aside0.mk (show playR s most l = out ++ [(endF (bytesOf s) st).1, (endF (bytesOf s) st).2] by
        have h := HT.out.2.2
        rw [List.drop_length] at h
        unfold playR
        rw [h]
        rfl)
      go_wp2_with (first
        | (go_at_call 32; (have hc := greenwoodref01_Reader_End.calls B s (sa st) (se st) _ _ _ _ _ w wr HR.out.2.2 HR.out.1 (refend s st HT.out.1)); refine hc.mono ?_; rintro e w5 ⟨rfl, hi3, hb, hk3⟩; have H5 := Aside0.mk (And.intro hb (And.intro (Kd.R_step HR.out.2.1 (fun k ho hk => hk3.2 k hk ho (by simp))) hi3.lt)); clear hb hc hi3 hk3)
        | ((with_reducible refine gate_dst (N := 63) rfl ?_); refine Kd.R_append_row (Value.int .i64) 0 w.heap.size rfl (.tmp 59) (.tmp 62) 22 3 (.int .i64 0) 8 rfl Tryd.underlying22 info3 rfl (by omega) _ out [(endF (bytesOf s) st).1, (endF (bytesOf s) st).2] (some ⟨w5.heap.size, 0, none⟩) 2 2 (fun k => k ≠ B) rfl rfl ?aF ?aO (lit_C w5 [(endF (bytesOf s) st).1, (endF (bytesOf s) st).2] (by simp)) (below_alloc H5.out.1 _) ?aS ?aL ?_; (case aF => exact (fun k hk => by have := H5.out.2.2; simp at hk; omega)); (case aO => exact Kd.R_alloc H5.out.2.1 _); (case aS => exact (below_alloc H5.out.1 _).size); (case aL => have := HI.out; omega); intro v4 w6 ho hb hg hat; (have H6 := Aside0.mk (And.intro hb ho)); clear ho hb hg hat))
      go_ret
      rw [HF.out]
      exact ⟨_, rfl, Kd.R_mono H6.out.2 (fun _ _ => trivial), H6.out.1⟩
end Go.Proofs.YthiklbhplhdjmaaDoor.P
/- Layer 1: WireBack, walked. -/
namespace Go.Proofs.YthiklbhplhdjmaaDoor.P
open Go.RowKit Go.Proofs.YthiklbhplhdjmaaDoorW.PrintWords Go.Proofs.YthiklbhplhdjmaaDoorW.PrintLast Go.Proofs.YthiklbhplhdjmaaDoorW.PrintMore
open Wr
set_option linter.unusedVariables false
set_option linter.unusedSimpArgs false

theorem same_c {w : World} {A0 A1 : Option Addr} {c0 c1 : Nat} {a b : List Int} (ha : Kd.C (Kd.int .i64) w A0 a.length a) (hac : a.length ≤ c0) (hb : Kd.C (Kd.int .i64) w A1 b.length b) (hbc : b.length ≤ c1) (hn : a.length ≤ 1000000) :
    Calls Tryd.prog 11 #[.slice A0 a.length c0, .slice A1 b.length c1] w fun e w' => e = .returned (.bool (decide (a = b))) ∧ Below w.heap.size w w' := by
  obtain ⟨k, hk⟩ := (same_ev a b hn).rounds
  refine (greenwoodref01_Same.calls k A0 c0 a A1 c1 b _ w ha hac hb hbc hk).mono ?_
  rintro e w' ⟨he, hd⟩
  exact ⟨he, hd.below⟩
end Go.Proofs.YthiklbhplhdjmaaDoor.P
/- Layer 1: WireBack, walked. -/
namespace Go.Proofs.YthiklbhplhdjmaaDoor.P
open Go.RowKit Go.Proofs.YthiklbhplhdjmaaDoorW.PrintWords Go.Proofs.YthiklbhplhdjmaaDoorW.PrintLast Go.Proofs.YthiklbhplhdjmaaDoorW.PrintMore
open Wr
set_option linter.unusedVariables false
set_option linter.unusedSimpArgs false

theorem same_t {w : World} {A0 A1 : Option Addr} {c0 c1 : Nat} {a : List Int} (ha : Kd.C (Kd.int .i64) w A0 a.length a) (hac : a.length ≤ c0) (hb : Kd.C (Kd.int .i64) w A1 a.length a) (hbc : a.length ≤ c1) (hn : a.length ≤ 1000000) :
    Calls Tryd.prog 11 #[.slice A0 a.length c0, .slice A1 a.length c1] w fun e w' => e = .returned (.bool true) ∧ Below w.heap.size w w' := by
  have h := same_c ha hac hb hbc hn
  rw [decide_eq_true rfl] at h
  exact h
end Go.Proofs.YthiklbhplhdjmaaDoor.P
/- Layer 1: WireTakes, walked. -/
namespace Go.Proofs.YthiklbhplhdjmaaDoor.P
open Go.RowKit Go.Proofs.YthiklbhplhdjmaaDoorW.PrintWords Go.Proofs.YthiklbhplhdjmaaDoorW.PrintLast Go.Proofs.YthiklbhplhdjmaaDoorW.PrintMore
open Wr
set_option linter.unusedVariables false
set_option linter.unusedSimpArgs false

theorem play_len (s : ByteArray) (most : Int) (hs : s.size ≤ 500) : ∀ (l out : List Int) (st : St), Ok s st → (play (bytesOf s) most l out st).1.length ≤ out.length + l.length * 501 := by
  intro l
  induction l with
  | nil => intro out st ho; show out.length ≤ _; omega
  | cons op t ih =>
    intro out st ho
    obtain ⟨h1, h2⟩ := stepT_ok (most := most) (op := op) (out := out) ho
    have := ih (stepT (bytesOf s) most op out st).1 (stepT (bytesOf s) most op out st).2 h1
    rw [play, List.length_cons]
    omega
theorem playR_len (s : ByteArray) (most : Int) (l : List Int) (hs : s.size ≤ 500) (hl : l.length ≤ 20) : (playR s most l).length ≤ 1000000 := by
  have := play_len s most hs l [] (0, none) ⟨Nat.zero_le _, fun pc h => by simp at h⟩
  unfold playR
  rw [List.length_append]
  simp only [List.length_nil, List.length_cons] at this ⊢
  omega
set_option maxHeartbeats 8000000 in
set_option maxRecDepth 100000 in
theorem takes_long (s : ByteArray) (A1 : Option Addr) (c1 : Nat) (l : List Int) (most : Int) (w : World) (hE : EV w) (hg : decide ((500 : Int) < (s.size : Int)) = true ∨ (decide ((500 : Int) < (s.size : Int)) = false ∧ decide ((20 : Int) < (l.length : Int)) = true)) :
    Calls Tryd.prog 3 #[.string s, .slice A1 l.length c1, .int .i64 most] w fun e w' => e = .returned (.bool true) ∧ Below w.heap.size w w' := by
  have HE := Aside0.mk hE
  have HB := Aside0.mk (Below.refl w.heap.size w)
  clear hE
  rcases hg with g1 | ⟨g1, g2⟩
  all_goals
    go_enter Tryd.func3, Tryd.ntmps3
    go_wp2_with (go_at_call 10; refine (fix1 _ (EV_at HE HB)).mono ?_; rintro e w1 ⟨rfl, hb⟩; have HB' := HB_step HB hb; clear HB hb; have HB := HB'; clear HB')
    go_ret
    exact ⟨rfl, HB.out⟩
set_option maxHeartbeats 8000000 in
set_option maxRecDepth 100000 in
theorem takes_main (s : ByteArray) (A1 : Option Addr) (c1 : Nat) (l : List Int) (most : Int) (w : World) (hE : EV w) (hr : Kd.C (Kd.int .i64) w A1 l.length l) (hs : s.size ≤ 500) (hl : l.length ≤ 20) (g1 : decide ((500 : Int) < (s.size : Int)) = false) (g2 : decide ((20 : Int) < (l.length : Int)) = false) :
    Calls Tryd.prog 3 #[.string s, .slice A1 l.length c1, .int .i64 most] w fun e w' => e = .returned (.bool true) ∧ Below w.heap.size w w' := by
  have HE := Aside0.mk hE
  have HR0 := Aside0.mk hr
  have HL := Aside0.mk (playR_len s most l hs hl)
  have HS := Aside0.mk (And.intro hs hl)
  have HB := Aside0.mk (Below.refl w.heap.size w)
  obtain ⟨pl, hpl⟩ : ∃ pl, pl = playR s most l := ⟨_, rfl⟩
  rw [← hpl] at HL
  have HPL := Aside0.mk hpl
  clear hE hr hs hl hpl
  go_enter Tryd.func3, Tryd.ntmps3
  go_wp2_with (first
    | (go_at_call 11; (have z := H3.out); clear z; refine (same_t (Kd.R_reads' H3.out.2.1).2.2 (Kd.R_reads' H3.out.2.1).2.1 (Kd.R_reads' H3.out.2.2).2.2 (Kd.R_reads' H3.out.2.2).2.1 HL.out).mono ?_; rintro e w4 ⟨rfl, hb⟩; have H4 := Aside0.mk (below_step H3.out.1 hb); clear hb H3)
    | (go_at_call 13; (have z := H2.out); clear z; (have hc := model_c s A1 c1 l most w2 (EV.below HE.out H2.out.1 HE.out.pos) (Kd.C_below HR0.out H2.out.1) HS.out.2 HS.out.1); rw [← HPL.out] at hc; refine hc.mono ?_; rintro e w3 ⟨v, rfl, hl, hb⟩; (obtain ⟨A3, c3, hv⟩ := Kd.R_slice hl); subst hv; have H3 := Aside0.mk (And.intro (below_step H2.out.1 hb) (And.intro (Kd.R_below H2.out.2 hb) hl)); clear hb hl hc H2)
    | (go_at_call 12; (have z := H1.out); clear z; (have hc := script_c s A1 c1 l most w1 (EV.below HE.out H1.out HE.out.pos) (Kd.C_below HR0.out H1.out) HS.out.2 HS.out.1); rw [← HPL.out] at hc; refine hc.mono ?_; rintro e w2 ⟨v, rfl, hl, hb⟩; (obtain ⟨A2, c2, hv⟩ := Kd.R_slice hl); subst hv; have H2 := Aside0.mk (And.intro (below_step H1.out hb) hl); clear hb hl hc H1)
    | (go_at_call 10; refine (fix1 _ (EV_at HE HB)).mono ?_; rintro e w1 ⟨rfl, hb⟩; have H1 := HB_step HB hb; clear HB hb))
  go_ret
  exact ⟨rfl, H4.out⟩
theorem greenwoodlaw01_WireTakes.callsT (a0 : ByteArray) (A1 : Option Addr) (c1 : Nat) (l1 : List Int) (a2 : Int) (r : Bool) (w : World) (hE : EV w) (hr1 : Kd.C (Kd.int .i64) w A1 l1.length l1) (hc1 : l1.length ≤ c1) (hrT : r = true) (h : (some true : Option Bool) = some r) :
    Calls Tryd.prog 3 #[.string a0, .slice A1 l1.length c1, .int .i64 a2] w fun e w' => e = .returned (.bool r) ∧ Below w.heap.size w w' := by
  subst hrT
  by_cases h1 : (500 : Int) < (a0.size : Int)
  · exact takes_long a0 A1 c1 l1 a2 w hE (.inl (decide_eq_true h1))
  have g1 := decide_eq_false h1
  by_cases h2 : (20 : Int) < (l1.length : Int)
  · exact takes_long a0 A1 c1 l1 a2 w hE (.inr ⟨g1, decide_eq_true h2⟩)
  exact takes_main a0 A1 c1 l1 a2 w hE hr1 (by omega) (by omega) g1 (decide_eq_false h2)
theorem WireTakes_ev (a0 : ByteArray) (l1 : List Int) (a2 : Int) : (some true : Option Bool) = some true := rfl
end Go.Proofs.YthiklbhplhdjmaaDoor.P
/- What came in, opened kind by kind: an argument's reading tells a list (of lists ..) that its cells hold. -/
namespace Go.Proofs.YthiklbhplhdjmaaDoor.P
open Go.RowKit Go.Proofs.YthiklbhplhdjmaaDoorW.PrintWords Go.Proofs.YthiklbhplhdjmaaDoorW.PrintLast Go.Proofs.YthiklbhplhdjmaaDoorW.PrintMore
set_option linter.unusedVariables false
set_option linter.unusedSimpArgs false

structure Opens (P : Program) (t : TypeId) {α : Type} (d : Kd α) (q : α → Prop) : Prop where
  sz : P.cellsOf t = d.sz
  op : ∀ {H : Type} {enc : TypeId × Value → H} {w : World} {base fuel : Nat} {held : Bool} {cs : List Value} {x : DataW H × List MemPlace}, DataW.trod enc P w base (fun _ => true) held fuel t cs = some x → ∃ a : α, d.K w a cs ∧ q a
section
variable {P : Program} {α : Type} {d : Kd α} {q : α → Prop}
theorem opens_int {t : TypeId} {k : IntKind} (ht : P.underlying t = some (.int k)) (hs : P.cellsOf t = 1) : Opens P t (Kd.int k) (fun n => (Lit.int k n).wf = true) :=
  ⟨hs, fun h => by
    obtain ⟨n, rfl, _, hw⟩ := DataW.trod_int ht h
    exact ⟨n, rfl, hw⟩⟩
theorem Opens.mono {t : TypeId} {q' : α → Prop} (h : Opens P t d q) (hq : ∀ a, q a → q' a) : Opens P t d q' :=
  ⟨h.sz, fun ht => by obtain ⟨a, hk, ha⟩ := h.op ht; exact ⟨a, hk, hq a ha⟩⟩
theorem opens_slice {t e : TypeId} (e' : Nat) (ht : P.underlying t = some (.slice e)) (hs : P.cellsOf t = 1) (h : Opens P e d q) : Opens P t (Kd.slice e' d) (fun l => l.length ≤ maxLen ∧ ∀ x ∈ l, q x) :=
  ⟨hs, fun {H enc w base fuel held cs x} htr => by
    rcases Deep.open_slice ht htr with ⟨rfl, _⟩ | ⟨a, len, cap, m, n, D, Pl, rfl, hb, hl, hm, hmm, _, hx⟩
    · exact ⟨[], ⟨none, 0, rfl, Nat.le_refl _, Kd.C_nil d w⟩, Nat.zero_le _, fun x hx => by cases hx⟩
    · simp only [if_true] at hmm
      have each : ∀ i, i < len → ∃ y : α, (∃ cs', w.cells? base (a.add (i * P.cellsOf e)) (P.cellsOf e) = some cs' ∧ d.K w y cs') ∧ q y := by
        intro i hi
        obtain ⟨cs', h1, h2⟩ := hx i (by omega)
        obtain ⟨y, hy, hqy⟩ := h.op h2
        exact ⟨y, ⟨cs', h1, hy⟩, hqy⟩
      by_cases h0 : len = 0
      · subst h0
        refine ⟨[], ⟨some a, cap, rfl, Nat.zero_le _, rfl, by simp, fun h => absurd h (Nat.lt_irrefl 0)⟩, Nat.zero_le _, fun x hx => by cases hx⟩
      · obtain ⟨y0, _, _⟩ := each 0 (by omega)
        have : Inhabited α := ⟨y0⟩
        obtain ⟨f, hf⟩ := Deep.choose_lt each
        have hlen : ((List.range len).map f).length = len := by simp
        refine ⟨(List.range len).map f, ⟨some a, cap, by rw [hlen], by rw [hlen]; exact hl, ⟨rfl, by rw [hlen]; unfold maxLen at hm; omega, fun _ => ⟨a, rfl, fun j p hj => ?_⟩⟩⟩, by rw [hlen]; omega, fun x hx => ?_⟩
        · have hjl := (List.getElem?_eq_some_iff.1 hj).1
          rw [hlen] at hjl
          rw [List.getElem?_map, List.getElem?_range hjl] at hj
          have hj' : f j = p := by simpa using hj
          subst hj'
          obtain ⟨⟨cs', h1, h2⟩, _⟩ := hf j hjl
          obtain ⟨_, hcl, hcell⟩ := World.cells?_some h1
          refine ⟨cs', by rw [hcl, h.sz], h2, fun i u hu => ?_⟩
          have hil := (List.getElem?_eq_some_iff.1 hu).1
          have := hcell i (by omega)
          rw [Deep.add_add, hu, h.sz] at this
          exact this
        · obtain ⟨i, hi, rfl⟩ := List.mem_map.1 hx
          exact (hf i (List.mem_range.1 hi)).2⟩
/-- an argument that is a slice -/
theorem Opens.arg {t : TypeId} {e' : Nat} (h : Opens P t (Kd.slice e' d) (fun l => l.length ≤ maxLen ∧ ∀ x ∈ l, q x)) {H : Type} {enc : TypeId × Value → H} {w : World} {base : Nat} {held : Bool} {v : Value} {dd : DataW H} {ps : List MemPlace} {a : Option Addr} {len cap : Nat} (hv : v = .slice a len cap)
    (ht : DataW.Trod enc P w base (fun _ => true) held t v dd ps) : ∃ l : List α, len = l.length ∧ l.length ≤ cap ∧ d.C w a l.length l ∧ l.length ≤ maxLen ∧ ∀ x ∈ l, q x := by
  obtain ⟨fuel, hf⟩ := ht
  obtain ⟨l, ⟨A, c, hcs, hl, hC⟩, hq1, hq2⟩ := h.op hf
  subst hv
  simp only [Value.cells] at hcs
  have hcs' : Value.slice a len cap = Value.slice A l.length c := by simpa using hcs
  injection hcs' with e1 e2 e3
  subst e1 e2 e3
  exact ⟨l, rfl, hl, hC, hq1, hq2⟩
end
end Go.Proofs.YthiklbhplhdjmaaDoor.P
/- What a tied row's premise gives a walk: the one variable of the library's, laid; a world that meets it. (Turned from a worked proof of the kit.) -/
namespace Go.Proofs.YthiklbhplhdjmaaDoor.P
open Go.ChangeShapes Go.WideShapes Go.RowKit
set_option linter.unusedVariables false
set_option linter.unusedSimpArgs false

theorem td_et : Tryd.prog.globalNamed "errors.errorType" = some 0 := by kernel_rfl
theorem td_rt : (Tryd.prog.cutTypes.find? (·.1 == "internal/reflectlite.rtype")).map (·.2) = some 84 := by kernel_rfl
theorem td_oneRow : ((List.range 127).filter fun t => Tryd.prog.rowNamed t [101, 114, 114, 111, 114]) = [47] := by kernel_rfl
theorem td_size : Tryd.prog.types.size = 127 := by kernel_rfl
def laidE {H : Type} : List (String × DataW H) := [("errors.errorType", Rows.laid_errors_errorType)]
theorem ev_of_laid {W : World} (h : laidMetH Tryd.prog laidE W) : EV W := by
  have h' : laidMet Tryd.prog [] W ∧ handlesMet Tryd.prog laidE W := h
  obtain ⟨name, u, ty, e1, e2, e3, e4, e5⟩ := h'.2 _ (List.mem_singleton.2 rfl)
  have en : name = [101, 114, 114, 111, 114] := (Option.some.inj e1).symm
  subst en
  obtain rfl := Option.some.inj (td_rt.symm.trans e2)
  have hm : ty ∈ (List.range 127).filter fun t => Tryd.prog.rowNamed t [101, 114, 114, 111, 114] := List.mem_filter.2 ⟨List.mem_range.2 (by rw [← td_size]; exact e3), e4⟩
  rw [td_oneRow] at hm
  obtain rfl := List.mem_singleton.1 hm
  have hh : typeHandle Tryd.prog 47 = .pointer (some ⟨1, 47, none⟩) := by kernel_rfl
  rw [hh] at e5
  have := World.var?_cell td_et e5 0
  unfold EV
  simpa using this
noncomputable def laidWorld (os : Os) : World :=
  let w0 := World.holding Tryd.prog os ⟨#[], #[], []⟩
  { w0 with heap := w0.heap.modify 0 fun
      | .cells _ t frozen => .cells #[.iface 84 (.agg #[.pointer (some ⟨1, 47, none⟩)])] t frozen
      | o => o }
theorem laidWorld_met (os : Os) (args : Array Value) : laidMetH Tryd.prog laidE ((laidWorld os).forCall (fun _ _ => 0) ⟨#[], args, []⟩).memory :=
  laidMetH_of_parts (laidMet_nil _ _) (by kernel_rfl)
end Go.Proofs.YthiklbhplhdjmaaDoor.P
