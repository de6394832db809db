/- Texts of this claim's own repository, merged by wip/tool/pack.py: AnsX, Px4, Px6. -/
import Derived.Test.YtlekdhejgdfnpaaDoorKAnswerTells3
set_option linter.unusedVariables false
set_option linter.unusedSimpArgs false
/- layer 23's fixed calls, walked. (Written by wip/tool/ansx.py.) -/
namespace Go.Proofs.YtlekdhejgdfnpaaDoor.P
open Go.RowKit Go.Proofs.YtlekdhejgdfnpaaDoorW.PrintWords Go.Proofs.YtlekdhejgdfnpaaDoorW.PrintLast Go.Proofs.YtlekdhejgdfnpaaDoorW.PrintMore
open Wr

theorem decode_v {w : World} (s : ByteArray) (v : AnsV × Int × Int) (hv : decV (bytesOf s) = v) (hE : EV w) (hs : s.size ≤ 1000000000) :
 Calls Tryd.prog 9 #[.string s] w fun e w' => ∃ vS vU vSe vSp vCu, e = .returned (.tuple #[.agg #[.int .i64 v.1.kd, .bool (v.1.no == 1), vS, vU, vSe, vSp, vCu], .int .i64 v.2.1, .int .i64 v.2.2]) ∧ RowsA w' w.heap.size vS vU vSe vSp vCu v.1 ∧ Below w.heap.size w w' := by
 subst hv; exact decode_c s hE hs
set_option maxHeartbeats 16000000 in
set_option maxRecDepth 100000 in
theorem fixed_c {w : World} (hE : EV w) :
 Calls Tryd.prog 8 #[] w fun e w' => e = .returned (.bool true) ∧ Below w.heap.size w w' := by
 have HE := Aside0.mk hE
 have H0 := Aside0.mk (Below.refl w.heap.size w)
 clear hE
 go_enter Tryd.func8, Tryd.ntmps8
 go_upto_region 7 with (first
  | ((with_reducible refine gate_store (t := 27) (p := 14) rfl ?_); refine store_event (t := 27) (p := 14) (v := ?vo_e) (w1 := (((((((w2e.setCell ⟨Xe, 0, none⟩ (.int .i64 0)).setCell ⟨Xe, 1, none⟩ (.bool false)).setCell ⟨Xe, 2, none⟩ (.slice E2 0 ec2)).setCell ⟨Xe, 3, none⟩ (.slice E3 0 ec3)).setCell ⟨Xe, 4, none⟩ (.slice E4 0 ec4)).setCell ⟨Xe, 5, none⟩ (.slice E5 0 ec5)).setCell ⟨Xe, 6, none⟩ (.slice E6 0 ec6))) ?hg ?ho ?hn ?hr ?_; (case ho => rfl); (case hg => rfl); (case hn => rfl); (case hr => first | (go_simp; done) | (go_simp; rfl)); intro w3e hw; (have h7 := set7 (base := w3a.heap.size) (u0 := .int .i64 0) (u1 := .bool false) (u2 := .slice E2 0 ec2) (u3 := .slice E3 0 ec3) (u4 := .slice E4 0 ec4) (u5 := .slice E5 0 ec5) (u6 := .slice E6 0 ec6) H2e.out.2.1 H2e.out.2.2); (dsimp only at h7); (rw [← hw] at h7); (have H3e := Aside0.mk (H2e.out.1.trans h7.2.2));  clear x0 xf0 x1 xf1 x2 xf2 x3 xf3 x4 xf4 x5 xf5 x6 xf6; clear hw h7)
  | ((with_reducible refine gate_dst (N := 14) rfl ?_); (try (refine gate_guard (by rfl) ?_; dsimp only)); refine box_event ?hg (N := 14) ?hd (cs := #[.int .i64 0, .bool false, .slice none 0 0, .slice none 0 0, .slice none 0 0, .slice none 0 0, .slice none 0 0]) (t := 27) ?hr ?_; (case hd => rfl); (case hg => rfl); (case hr => first | (go_simp; done) | (go_simp; rfl)); intro Xe hg w2e hbox hb; (have H2e : Aside0 (Below w3a.heap.size w3a w2e ∧ w2e.heap[Xe]? = some (.cells #[.int .i64 0, .bool false, .slice none 0 0, .slice none 0 0, .slice none 0 0, .slice none 0 0, .slice none 0 0] 27 (0, 0)) ∧ w3a.heap.size ≤ Xe) := ⟨H1e.out.trans (hb.mono H1e.out.size), hbox, by rw [hg]; exact H1e.out.size⟩); (have x0 : w2e.cell? ⟨Xe, 0, none⟩ = _ := (blk_cell hbox 0).trans rfl); (have xf0 : w2e.frozen? ⟨Xe, 0, none⟩ = false := blk_frozen hbox 0); (have x1 : w2e.cell? ⟨Xe, 1, none⟩ = _ := (blk_cell hbox 1).trans rfl); (have xf1 : w2e.frozen? ⟨Xe, 1, none⟩ = false := blk_frozen hbox 1); (have x2 : w2e.cell? ⟨Xe, 2, none⟩ = _ := (blk_cell hbox 2).trans rfl); (have xf2 : w2e.frozen? ⟨Xe, 2, none⟩ = false := blk_frozen hbox 2); (have x3 : w2e.cell? ⟨Xe, 3, none⟩ = _ := (blk_cell hbox 3).trans rfl); (have xf3 : w2e.frozen? ⟨Xe, 3, none⟩ = false := blk_frozen hbox 3); (have x4 : w2e.cell? ⟨Xe, 4, none⟩ = _ := (blk_cell hbox 4).trans rfl); (have xf4 : w2e.frozen? ⟨Xe, 4, none⟩ = false := blk_frozen hbox 4); (have x5 : w2e.cell? ⟨Xe, 5, none⟩ = _ := (blk_cell hbox 5).trans rfl); (have xf5 : w2e.frozen? ⟨Xe, 5, none⟩ = false := blk_frozen hbox 5); (have x6 : w2e.cell? ⟨Xe, 6, none⟩ = _ := (blk_cell hbox 6).trans rfl); (have xf6 : w2e.frozen? ⟨Xe, 6, none⟩ = false := blk_frozen hbox 6);  clear hg hbox hb)
  | (go_at_call 9; (have z_ := H3d.out); clear z_; refine (decode_v _ (zeroV, 12, 2) (by kernel_rfl) (HEa.out.below H3d.out HEa.out.pos) (Nat.le_of_ble_eq_true (by kernel_rfl))).mono ?_; rintro e w1e ⟨vS, vU, vSe, vSp, vCu, hret, hrow, hb⟩; (obtain ⟨E2, ec2, E3, ec3, E4, ec4, E5, ec5, E6, ec6, rfl, rfl, rfl, rfl, rfl⟩ := hrow.slices); (subst hret); (have H1e := Aside0.mk (H3d.out.trans (hb.mono H3d.out.size))); clear hrow hb)
  | ((with_reducible refine gate_store (t := 27) (p := 11) rfl ?_); refine store_event (t := 27) (p := 11) (v := ?vo_d) (w1 := (((((((w2d.setCell ⟨Xd, 0, none⟩ (.int .i64 0)).setCell ⟨Xd, 1, none⟩ (.bool false)).setCell ⟨Xd, 2, none⟩ (.slice D2 0 dc2)).setCell ⟨Xd, 3, none⟩ (.slice D3 0 dc3)).setCell ⟨Xd, 4, none⟩ (.slice D4 0 dc4)).setCell ⟨Xd, 5, none⟩ (.slice D5 0 dc5)).setCell ⟨Xd, 6, none⟩ (.slice D6 0 dc6))) ?hg ?ho ?hn ?hr ?_; (case ho => rfl); (case hg => rfl); (case hn => rfl); (case hr => first | (go_simp; done) | (go_simp; rfl)); intro w3d hw; (have h7 := set7 (base := w3a.heap.size) (u0 := .int .i64 0) (u1 := .bool false) (u2 := .slice D2 0 dc2) (u3 := .slice D3 0 dc3) (u4 := .slice D4 0 dc4) (u5 := .slice D5 0 dc5) (u6 := .slice D6 0 dc6) H2d.out.2.1 H2d.out.2.2); (dsimp only at h7); (rw [← hw] at h7); (have H3d := Aside0.mk (H2d.out.1.trans h7.2.2));  clear x0 xf0 x1 xf1 x2 xf2 x3 xf3 x4 xf4 x5 xf5 x6 xf6; clear hw h7)
  | ((with_reducible refine gate_dst (N := 11) rfl ?_); (try (refine gate_guard (by rfl) ?_; dsimp only)); refine box_event ?hg (N := 11) ?hd (cs := #[.int .i64 0, .bool false, .slice none 0 0, .slice none 0 0, .slice none 0 0, .slice none 0 0, .slice none 0 0]) (t := 27) ?hr ?_; (case hd => rfl); (case hg => rfl); (case hr => first | (go_simp; done) | (go_simp; rfl)); intro Xd hg w2d hbox hb; (have H2d : Aside0 (Below w3a.heap.size w3a w2d ∧ w2d.heap[Xd]? = some (.cells #[.int .i64 0, .bool false, .slice none 0 0, .slice none 0 0, .slice none 0 0, .slice none 0 0, .slice none 0 0] 27 (0, 0)) ∧ w3a.heap.size ≤ Xd) := ⟨H1d.out.trans (hb.mono H1d.out.size), hbox, by rw [hg]; exact H1d.out.size⟩); (have x0 : w2d.cell? ⟨Xd, 0, none⟩ = _ := (blk_cell hbox 0).trans rfl); (have xf0 : w2d.frozen? ⟨Xd, 0, none⟩ = false := blk_frozen hbox 0); (have x1 : w2d.cell? ⟨Xd, 1, none⟩ = _ := (blk_cell hbox 1).trans rfl); (have xf1 : w2d.frozen? ⟨Xd, 1, none⟩ = false := blk_frozen hbox 1); (have x2 : w2d.cell? ⟨Xd, 2, none⟩ = _ := (blk_cell hbox 2).trans rfl); (have xf2 : w2d.frozen? ⟨Xd, 2, none⟩ = false := blk_frozen hbox 2); (have x3 : w2d.cell? ⟨Xd, 3, none⟩ = _ := (blk_cell hbox 3).trans rfl); (have xf3 : w2d.frozen? ⟨Xd, 3, none⟩ = false := blk_frozen hbox 3); (have x4 : w2d.cell? ⟨Xd, 4, none⟩ = _ := (blk_cell hbox 4).trans rfl); (have xf4 : w2d.frozen? ⟨Xd, 4, none⟩ = false := blk_frozen hbox 4); (have x5 : w2d.cell? ⟨Xd, 5, none⟩ = _ := (blk_cell hbox 5).trans rfl); (have xf5 : w2d.frozen? ⟨Xd, 5, none⟩ = false := blk_frozen hbox 5); (have x6 : w2d.cell? ⟨Xd, 6, none⟩ = _ := (blk_cell hbox 6).trans rfl); (have xf6 : w2d.frozen? ⟨Xd, 6, none⟩ = false := blk_frozen hbox 6);  clear hg hbox hb)
  | (go_at_call 9; (have z_ := H3c.out); clear z_; refine (decode_v _ (zeroV, 230, 0) (by kernel_rfl) (HEa.out.below H3c.out HEa.out.pos) (Nat.le_of_ble_eq_true (by kernel_rfl))).mono ?_; rintro e w1d ⟨vS, vU, vSe, vSp, vCu, hret, hrow, hb⟩; (obtain ⟨D2, dc2, D3, dc3, D4, dc4, D5, dc5, D6, dc6, rfl, rfl, rfl, rfl, rfl⟩ := hrow.slices); (subst hret); (have H1d := Aside0.mk (H3c.out.trans (hb.mono H3c.out.size))); clear hrow hb)
  | ((with_reducible refine gate_store (t := 27) (p := 8) rfl ?_); refine store_event (t := 27) (p := 8) (v := ?vo_c) (w1 := (((((((w2c.setCell ⟨Xc, 0, none⟩ (.int .i64 0)).setCell ⟨Xc, 1, none⟩ (.bool false)).setCell ⟨Xc, 2, none⟩ (.slice C2 0 cc2)).setCell ⟨Xc, 3, none⟩ (.slice C3 0 cc3)).setCell ⟨Xc, 4, none⟩ (.slice C4 0 cc4)).setCell ⟨Xc, 5, none⟩ (.slice C5 0 cc5)).setCell ⟨Xc, 6, none⟩ (.slice C6 0 cc6))) ?hg ?ho ?hn ?hr ?_; (case ho => rfl); (case hg => rfl); (case hn => rfl); (case hr => first | (go_simp; done) | (go_simp; rfl)); intro w3c hw; (have h7 := set7 (base := w3a.heap.size) (u0 := .int .i64 0) (u1 := .bool false) (u2 := .slice C2 0 cc2) (u3 := .slice C3 0 cc3) (u4 := .slice C4 0 cc4) (u5 := .slice C5 0 cc5) (u6 := .slice C6 0 cc6) H2c.out.2.1 H2c.out.2.2); (dsimp only at h7); (rw [← hw] at h7); (have H3c := Aside0.mk (H2c.out.1.trans h7.2.2));  clear x0 xf0 x1 xf1 x2 xf2 x3 xf3 x4 xf4 x5 xf5 x6 xf6; clear hw h7)
  | ((with_reducible refine gate_dst (N := 8) rfl ?_); (try (refine gate_guard (by rfl) ?_; dsimp only)); refine box_event ?hg (N := 8) ?hd (cs := #[.int .i64 0, .bool false, .slice none 0 0, .slice none 0 0, .slice none 0 0, .slice none 0 0, .slice none 0 0]) (t := 27) ?hr ?_; (case hd => rfl); (case hg => rfl); (case hr => first | (go_simp; done) | (go_simp; rfl)); intro Xc hg w2c hbox hb; (have H2c : Aside0 (Below w3a.heap.size w3a w2c ∧ w2c.heap[Xc]? = some (.cells #[.int .i64 0, .bool false, .slice none 0 0, .slice none 0 0, .slice none 0 0, .slice none 0 0, .slice none 0 0] 27 (0, 0)) ∧ w3a.heap.size ≤ Xc) := ⟨H1c.out.trans (hb.mono H1c.out.size), hbox, by rw [hg]; exact H1c.out.size⟩); (have x0 : w2c.cell? ⟨Xc, 0, none⟩ = _ := (blk_cell hbox 0).trans rfl); (have xf0 : w2c.frozen? ⟨Xc, 0, none⟩ = false := blk_frozen hbox 0); (have x1 : w2c.cell? ⟨Xc, 1, none⟩ = _ := (blk_cell hbox 1).trans rfl); (have xf1 : w2c.frozen? ⟨Xc, 1, none⟩ = false := blk_frozen hbox 1); (have x2 : w2c.cell? ⟨Xc, 2, none⟩ = _ := (blk_cell hbox 2).trans rfl); (have xf2 : w2c.frozen? ⟨Xc, 2, none⟩ = false := blk_frozen hbox 2); (have x3 : w2c.cell? ⟨Xc, 3, none⟩ = _ := (blk_cell hbox 3).trans rfl); (have xf3 : w2c.frozen? ⟨Xc, 3, none⟩ = false := blk_frozen hbox 3); (have x4 : w2c.cell? ⟨Xc, 4, none⟩ = _ := (blk_cell hbox 4).trans rfl); (have xf4 : w2c.frozen? ⟨Xc, 4, none⟩ = false := blk_frozen hbox 4); (have x5 : w2c.cell? ⟨Xc, 5, none⟩ = _ := (blk_cell hbox 5).trans rfl); (have xf5 : w2c.frozen? ⟨Xc, 5, none⟩ = false := blk_frozen hbox 5); (have x6 : w2c.cell? ⟨Xc, 6, none⟩ = _ := (blk_cell hbox 6).trans rfl); (have xf6 : w2c.frozen? ⟨Xc, 6, none⟩ = false := blk_frozen hbox 6);  clear hg hbox hb)
  | (go_at_call 9; (have z_ := H3b.out); clear z_; refine (decode_v _ (zeroV, 230, 0) (by kernel_rfl) (HEa.out.below H3b.out HEa.out.pos) (Nat.le_of_ble_eq_true (by kernel_rfl))).mono ?_; rintro e w1c ⟨vS, vU, vSe, vSp, vCu, hret, hrow, hb⟩; (obtain ⟨C2, cc2, C3, cc3, C4, cc4, C5, cc5, C6, cc6, rfl, rfl, rfl, rfl, rfl⟩ := hrow.slices); (subst hret); (have H1c := Aside0.mk (H3b.out.trans (hb.mono H3b.out.size))); clear hrow hb)
  | ((with_reducible refine gate_store (t := 27) (p := 5) rfl ?_); refine store_event (t := 27) (p := 5) (v := ?vo_b) (w1 := (((((((w2b.setCell ⟨Xb, 0, none⟩ (.int .i64 0)).setCell ⟨Xb, 1, none⟩ (.bool false)).setCell ⟨Xb, 2, none⟩ (.slice B2 0 bc2)).setCell ⟨Xb, 3, none⟩ (.slice B3 0 bc3)).setCell ⟨Xb, 4, none⟩ (.slice B4 0 bc4)).setCell ⟨Xb, 5, none⟩ (.slice B5 0 bc5)).setCell ⟨Xb, 6, none⟩ (.slice B6 0 bc6))) ?hg ?ho ?hn ?hr ?_; (case ho => rfl); (case hg => rfl); (case hn => rfl); (case hr => first | (go_simp; done) | (go_simp; rfl)); intro w3b hw; (have h7 := set7 (base := w3a.heap.size) (u0 := .int .i64 0) (u1 := .bool false) (u2 := .slice B2 0 bc2) (u3 := .slice B3 0 bc3) (u4 := .slice B4 0 bc4) (u5 := .slice B5 0 bc5) (u6 := .slice B6 0 bc6) H2b.out.2.1 H2b.out.2.2); (dsimp only at h7); (rw [← hw] at h7); (have H3b := Aside0.mk (H2b.out.1.trans h7.2.2));  clear x0 xf0 x1 xf1 x2 xf2 x3 xf3 x4 xf4 x5 xf5 x6 xf6; clear hw h7)
  | ((with_reducible refine gate_dst (N := 5) rfl ?_); (try (refine gate_guard (by rfl) ?_; dsimp only)); refine box_event ?hg (N := 5) ?hd (cs := #[.int .i64 0, .bool false, .slice none 0 0, .slice none 0 0, .slice none 0 0, .slice none 0 0, .slice none 0 0]) (t := 27) ?hr ?_; (case hd => rfl); (case hg => rfl); (case hr => first | (go_simp; done) | (go_simp; rfl)); intro Xb hg w2b hbox hb; (have H2b : Aside0 (Below w3a.heap.size w3a w2b ∧ w2b.heap[Xb]? = some (.cells #[.int .i64 0, .bool false, .slice none 0 0, .slice none 0 0, .slice none 0 0, .slice none 0 0, .slice none 0 0] 27 (0, 0)) ∧ w3a.heap.size ≤ Xb) := ⟨H1b.out.trans (hb.mono H1b.out.size), hbox, by rw [hg]; exact H1b.out.size⟩); (have x0 : w2b.cell? ⟨Xb, 0, none⟩ = _ := (blk_cell hbox 0).trans rfl); (have xf0 : w2b.frozen? ⟨Xb, 0, none⟩ = false := blk_frozen hbox 0); (have x1 : w2b.cell? ⟨Xb, 1, none⟩ = _ := (blk_cell hbox 1).trans rfl); (have xf1 : w2b.frozen? ⟨Xb, 1, none⟩ = false := blk_frozen hbox 1); (have x2 : w2b.cell? ⟨Xb, 2, none⟩ = _ := (blk_cell hbox 2).trans rfl); (have xf2 : w2b.frozen? ⟨Xb, 2, none⟩ = false := blk_frozen hbox 2); (have x3 : w2b.cell? ⟨Xb, 3, none⟩ = _ := (blk_cell hbox 3).trans rfl); (have xf3 : w2b.frozen? ⟨Xb, 3, none⟩ = false := blk_frozen hbox 3); (have x4 : w2b.cell? ⟨Xb, 4, none⟩ = _ := (blk_cell hbox 4).trans rfl); (have xf4 : w2b.frozen? ⟨Xb, 4, none⟩ = false := blk_frozen hbox 4); (have x5 : w2b.cell? ⟨Xb, 5, none⟩ = _ := (blk_cell hbox 5).trans rfl); (have xf5 : w2b.frozen? ⟨Xb, 5, none⟩ = false := blk_frozen hbox 5); (have x6 : w2b.cell? ⟨Xb, 6, none⟩ = _ := (blk_cell hbox 6).trans rfl); (have xf6 : w2b.frozen? ⟨Xb, 6, none⟩ = false := blk_frozen hbox 6);  clear hg hbox hb)
  | (go_at_call 9; (have z_ := H0a.out); clear z_; refine (decode_v _ (zeroV, 13, 7) (by kernel_rfl) (HEa.out.below H0a.out HEa.out.pos) (Nat.le_of_ble_eq_true (by kernel_rfl))).mono ?_; rintro e w1b ⟨vS, vU, vSe, vSp, vCu, hret, hrow, hb⟩; (obtain ⟨B2, bc2, B3, bc3, B4, bc4, B5, bc5, B6, bc6, rfl, rfl, rfl, rfl, rfl⟩ := hrow.slices); (subst hret); (have H1b := Aside0.mk (H0a.out.trans (hb.mono H0a.out.size))); clear hrow hb)
  | ((with_reducible refine gate_store (t := 27) (p := 2) rfl ?_); refine store_event (t := 27) (p := 2) (v := ?vo_a) (w1 := (((((((w2a.setCell ⟨Xa, 0, none⟩ (.int .i64 0)).setCell ⟨Xa, 1, none⟩ (.bool false)).setCell ⟨Xa, 2, none⟩ (.slice A2 0 ac2)).setCell ⟨Xa, 3, none⟩ (.slice A3 0 ac3)).setCell ⟨Xa, 4, none⟩ (.slice A4 0 ac4)).setCell ⟨Xa, 5, none⟩ (.slice A5 0 ac5)).setCell ⟨Xa, 6, none⟩ (.slice A6 0 ac6))) ?hg ?ho ?hn ?hr ?_; (case ho => rfl); (case hg => rfl); (case hn => rfl); (case hr => first | (go_simp; done) | (go_simp; rfl)); intro w3a hw; (have h7 := set7 (base := w.heap.size) (u0 := .int .i64 0) (u1 := .bool false) (u2 := .slice A2 0 ac2) (u3 := .slice A3 0 ac3) (u4 := .slice A4 0 ac4) (u5 := .slice A5 0 ac5) (u6 := .slice A6 0 ac6) H2a.out.2.1 H2a.out.2.2); (dsimp only at h7); (rw [← hw] at h7); (have H3a := Aside0.mk (H2a.out.1.trans h7.2.2)); (have HX := Aside0.mk (And.intro h7.1 (H2a.out.2.2))); (have HEa := Aside0.mk (HE.out.below H3a.out HE.out.pos)); (have H0a := Aside0.mk (Below.refl w3a.heap.size w3a)); clear x0 xf0 x1 xf1 x2 xf2 x3 xf3 x4 xf4 x5 xf5 x6 xf6; clear hw h7)
  | ((with_reducible refine gate_dst (N := 2) rfl ?_); (try (refine gate_guard (by rfl) ?_; dsimp only)); refine box_event ?hg (N := 2) ?hd (cs := #[.int .i64 0, .bool false, .slice none 0 0, .slice none 0 0, .slice none 0 0, .slice none 0 0, .slice none 0 0]) (t := 27) ?hr ?_; (case hd => rfl); (case hg => rfl); (case hr => first | (go_simp; done) | (go_simp; rfl)); intro Xa hg w2a hbox hb; (have H2a : Aside0 (Below w.heap.size w w2a ∧ w2a.heap[Xa]? = some (.cells #[.int .i64 0, .bool false, .slice none 0 0, .slice none 0 0, .slice none 0 0, .slice none 0 0, .slice none 0 0] 27 (0, 0)) ∧ w.heap.size ≤ Xa) := ⟨H1a.out.trans (hb.mono H1a.out.size), hbox, by rw [hg]; exact H1a.out.size⟩); (have x0 : w2a.cell? ⟨Xa, 0, none⟩ = _ := (blk_cell hbox 0).trans rfl); (have xf0 : w2a.frozen? ⟨Xa, 0, none⟩ = false := blk_frozen hbox 0); (have x1 : w2a.cell? ⟨Xa, 1, none⟩ = _ := (blk_cell hbox 1).trans rfl); (have xf1 : w2a.frozen? ⟨Xa, 1, none⟩ = false := blk_frozen hbox 1); (have x2 : w2a.cell? ⟨Xa, 2, none⟩ = _ := (blk_cell hbox 2).trans rfl); (have xf2 : w2a.frozen? ⟨Xa, 2, none⟩ = false := blk_frozen hbox 2); (have x3 : w2a.cell? ⟨Xa, 3, none⟩ = _ := (blk_cell hbox 3).trans rfl); (have xf3 : w2a.frozen? ⟨Xa, 3, none⟩ = false := blk_frozen hbox 3); (have x4 : w2a.cell? ⟨Xa, 4, none⟩ = _ := (blk_cell hbox 4).trans rfl); (have xf4 : w2a.frozen? ⟨Xa, 4, none⟩ = false := blk_frozen hbox 4); (have x5 : w2a.cell? ⟨Xa, 5, none⟩ = _ := (blk_cell hbox 5).trans rfl); (have xf5 : w2a.frozen? ⟨Xa, 5, none⟩ = false := blk_frozen hbox 5); (have x6 : w2a.cell? ⟨Xa, 6, none⟩ = _ := (blk_cell hbox 6).trans rfl); (have xf6 : w2a.frozen? ⟨Xa, 6, none⟩ = false := blk_frozen hbox 6);  clear hg hbox hb)
  | (go_at_call 9; (have z_ := H0.out); clear z_; refine (decode_v _ (zeroV, 0, 7) (by kernel_rfl) (HE.out.below H0.out HE.out.pos) (Nat.le_of_ble_eq_true (by kernel_rfl))).mono ?_; rintro e w1a ⟨vS, vU, vSe, vSp, vCu, hret, hrow, hb⟩; (obtain ⟨A2, ac2, A3, ac3, A4, ac4, A5, ac5, A6, ac6, rfl, rfl, rfl, rfl, rfl⟩ := hrow.slices); (subst hret); (have H1a := Aside0.mk (H0.out.trans (hb.mono H0.out.size))); clear hrow hb))
 go_upto_region 8 with (first
  | ((with_reducible refine gate_store (t := 27) (p := 17) rfl ?_); refine store_event (t := 27) (p := 17) (v := ?vo_y) (w1 := (((((((w8.setCell ⟨Y, 0, none⟩ (.int .i64 4)).setCell ⟨Y, 1, none⟩ (.bool true)).setCell ⟨Y, 2, none⟩ (.slice (some ⟨w3e.heap.size, 0, none⟩) 2 2)).setCell ⟨Y, 3, none⟩ (.slice none 0 0)).setCell ⟨Y, 4, none⟩ (.slice (some ⟨w3e.heap.size + 1 + 1, 0, none⟩) 1 1)).setCell ⟨Y, 5, none⟩ (.slice (some ⟨w3e.heap.size + 1 + 1 + 1 + 1, 0, none⟩) 1 1)).setCell ⟨Y, 6, none⟩ (.slice (some ⟨w3e.heap.size + 1 + 1 + 1 + 1 + 1 + 1, 0, none⟩) 1 1))) ?hg ?ho ?hn ?hr ?_; (case ho => rfl); (case hg => rfl); (case hn => rfl); (case hr => first | (go_simp; done) | (go_simp; rfl)); intro w9 hw; (have h7 := set7 (base := Y) (u0 := .int .i64 4) (u1 := .bool true) (u2 := .slice (some ⟨w3e.heap.size, 0, none⟩) 2 2) (u3 := .slice none 0 0) (u4 := .slice (some ⟨w3e.heap.size + 1 + 1, 0, none⟩) 1 1) (u5 := .slice (some ⟨w3e.heap.size + 1 + 1 + 1 + 1, 0, none⟩) 1 1) (u6 := .slice (some ⟨w3e.heap.size + 1 + 1 + 1 + 1 + 1 + 1, 0, none⟩) 1 1) HY.out.2.1 (Nat.le_refl _)); (dsimp only at h7); (rw [← hw] at h7); (have hL := lits w3e); (have hb9 : Below (L7 w3e).heap.size (L7 w3e) w9 := HY.out.2.2.2.2.trans (by rw [HY.out.2.2.2.1]; exact h7.2.2)); (have H9 := Aside0.mk (H3e.out.trans ((hL.1.trans (hb9.mono hL.1.size)).mono H3e.out.size))); (have HC9 : Aside0 (Kd.C (Kd.int .i64) w9 (some ⟨w3e.heap.size, 0, none⟩) 2 [1, -1] ∧ Kd.C (Kd.slice 3 (Kd.int .i64)) w9 (some ⟨w3e.heap.size + 1 + 1, 0, none⟩) 1 [[3]] ∧ Kd.C k41 w9 (some ⟨w3e.heap.size + 1 + 1 + 1 + 1, 0, none⟩) 1 ySp ∧ Kd.C k43 w9 (some ⟨w3e.heap.size + 1 + 1 + 1 + 1 + 1 + 1, 0, none⟩) 1 yCu) := ⟨Kd.C_below hL.2.1 hb9, Kd.C_below hL.2.2.1 hb9, Kd.C_below hL.2.2.2.1 hb9, Kd.C_below hL.2.2.2.2 hb9⟩); (have HY9 := Aside0.mk h7.1); clear hw h7 hL hb9; clear x0 xf0 x1 xf1 x2 xf2 x3 xf3 x4 xf4 x5 xf5 x6 xf6)
  | ((with_reducible refine gate_dst (N := 17) rfl ?_); (try (refine gate_guard (by rfl) ?_; dsimp only)); refine box_event ?hg (N := 17) ?hd (cs := #[.int .i64 0, .bool false, .slice none 0 0, .slice none 0 0, .slice none 0 0, .slice none 0 0, .slice none 0 0]) (t := 27) ?hr ?_; (case hd => rfl); (case hg => rfl); (case hr => first | (go_simp; done) | (go_simp; rfl)); intro Y hgY w8 hboxY hbY; (have hL := lits w3e); (have HY : Aside0 (Below w3e.heap.size w3e w8 ∧ w8.heap[Y]? = some (.cells #[.int .i64 0, .bool false, .slice none 0 0, .slice none 0 0, .slice none 0 0, .slice none 0 0, .slice none 0 0] 27 (0, 0)) ∧ w3e.heap.size ≤ Y ∧ (L7 w3e).heap.size = Y ∧ Below (L7 w3e).heap.size (L7 w3e) w8) := ⟨hL.1.trans (hbY.mono hL.1.size), hboxY, by rw [hgY]; exact hL.1.size, hgY.symm, hbY⟩); (have x0 : w8.cell? ⟨Y, 0, none⟩ = _ := (blk_cell hboxY 0).trans rfl); (have xf0 : w8.frozen? ⟨Y, 0, none⟩ = false := blk_frozen hboxY 0); (have x1 : w8.cell? ⟨Y, 1, none⟩ = _ := (blk_cell hboxY 1).trans rfl); (have xf1 : w8.frozen? ⟨Y, 1, none⟩ = false := blk_frozen hboxY 1); (have x2 : w8.cell? ⟨Y, 2, none⟩ = _ := (blk_cell hboxY 2).trans rfl); (have xf2 : w8.frozen? ⟨Y, 2, none⟩ = false := blk_frozen hboxY 2); (have x3 : w8.cell? ⟨Y, 3, none⟩ = _ := (blk_cell hboxY 3).trans rfl); (have xf3 : w8.frozen? ⟨Y, 3, none⟩ = false := blk_frozen hboxY 3); (have x4 : w8.cell? ⟨Y, 4, none⟩ = _ := (blk_cell hboxY 4).trans rfl); (have xf4 : w8.frozen? ⟨Y, 4, none⟩ = false := blk_frozen hboxY 4); (have x5 : w8.cell? ⟨Y, 5, none⟩ = _ := (blk_cell hboxY 5).trans rfl); (have xf5 : w8.frozen? ⟨Y, 5, none⟩ = false := blk_frozen hboxY 5); (have x6 : w8.cell? ⟨Y, 6, none⟩ = _ := (blk_cell hboxY 6).trans rfl); (have xf6 : w8.frozen? ⟨Y, 6, none⟩ = false := blk_frozen hboxY 6);  clear hL hgY hboxY hbY))
 have H9a := Aside0.mk H9.out
 simp only [List.append_eq, List.cons_append, List.nil_append]
 go_wp2_with (first
  | (go_at_call 11; (have z_ := HB13.out); clear z_; refine (chk_six _).mono ?_; rintro e w14 ⟨rfl, hb⟩; (have HB14 := Aside0.mk (HB13.out.trans (hb.mono HB13.out.size))); clear hb)
  | (go_at_call 11; (have z_ := HB12.out); clear z_; refine (chk_y _ _ _ _ _ (Kd.C_below HC9.out.1 HB12.out) (Kd.C_below HC9.out.2.1 HB12.out) (Kd.C_below HC9.out.2.2.1 HB12.out) (Kd.C_below HC9.out.2.2.2 HB12.out)).mono ?_; rintro e w13 ⟨rfl, hb⟩; (have HB13 := Aside0.mk (HB12.out.trans (hb.mono HB12.out.size))); clear y0 y1 y2 y3 y4 y5 y6; clear hb)
  | (go_at_call 13; (have z_ := HB11.out); clear z_; refine (enc_y _ _ _ _ _ (Kd.C_below HC9.out.1 HB11.out) (Kd.C_below HC9.out.2.1 HB11.out) (Kd.C_below HC9.out.2.2.1 HB11.out) (Kd.C_below HC9.out.2.2.2 HB11.out)).mono ?_; rintro e w12 ⟨rfl, hb⟩; (have HB12 := Aside0.mk (HB11.out.trans (hb.mono HB11.out.size))); clear y0 y1 y2 y3 y4 y5 y6; (have hy := blk_below HY9.out HB12.out); (have y0 : w12.cell? ⟨Y, 0, none⟩ = _ := (blk_cell hy 0).trans rfl); (have y1 : w12.cell? ⟨Y, 1, none⟩ = _ := (blk_cell hy 1).trans rfl); (have y2 : w12.cell? ⟨Y, 2, none⟩ = _ := (blk_cell hy 2).trans rfl); (have y3 : w12.cell? ⟨Y, 3, none⟩ = _ := (blk_cell hy 3).trans rfl); (have y4 : w12.cell? ⟨Y, 4, none⟩ = _ := (blk_cell hy 4).trans rfl); (have y5 : w12.cell? ⟨Y, 5, none⟩ = _ := (blk_cell hy 5).trans rfl); (have y6 : w12.cell? ⟨Y, 6, none⟩ = _ := (blk_cell hy 6).trans rfl);  clear hy hb)
  | (go_at_call 15; refine (same_zero _ _ _ _ _ _ _ _ _ _ _).mono ?_; rintro e w11 ⟨rfl, hb⟩; (have HB11 := Aside0.mk (HB10.out.trans (hb.mono HB10.out.size))); (have hy := blk_below HY9.out HB11.out); (have y0 : w11.cell? ⟨Y, 0, none⟩ = _ := (blk_cell hy 0).trans rfl); (have y1 : w11.cell? ⟨Y, 1, none⟩ = _ := (blk_cell hy 1).trans rfl); (have y2 : w11.cell? ⟨Y, 2, none⟩ = _ := (blk_cell hy 2).trans rfl); (have y3 : w11.cell? ⟨Y, 3, none⟩ = _ := (blk_cell hy 3).trans rfl); (have y4 : w11.cell? ⟨Y, 4, none⟩ = _ := (blk_cell hy 4).trans rfl); (have y5 : w11.cell? ⟨Y, 5, none⟩ = _ := (blk_cell hy 5).trans rfl); (have y6 : w11.cell? ⟨Y, 6, none⟩ = _ := (blk_cell hy 6).trans rfl);  clear hy hb; clear x0 x1 x2 x3 x4 x5 x6)
  | (go_at_call 13; refine (enc_zero _).mono ?_; rintro e w10 ⟨rfl, hb⟩; (have HB10 := Aside0.mk hb); (have hx := blk_below (blk_below HX.out.1 H9a.out) hb); (have x0 : w10.cell? ⟨Xa, 0, none⟩ = _ := (blk_cell hx 0).trans rfl); (have x1 : w10.cell? ⟨Xa, 1, none⟩ = _ := (blk_cell hx 1).trans rfl); (have x2 : w10.cell? ⟨Xa, 2, none⟩ = _ := (blk_cell hx 2).trans rfl); (have x3 : w10.cell? ⟨Xa, 3, none⟩ = _ := (blk_cell hx 3).trans rfl); (have x4 : w10.cell? ⟨Xa, 4, none⟩ = _ := (blk_cell hx 4).trans rfl); (have x5 : w10.cell? ⟨Xa, 5, none⟩ = _ := (blk_cell hx 5).trans rfl); (have x6 : w10.cell? ⟨Xa, 6, none⟩ = _ := (blk_cell hx 6).trans rfl);  clear hx hb))
 go_ret
 exact ⟨rfl, H3a.out.trans ((H9.out.trans (HB14.out.mono H9.out.size)).mono H3a.out.size)⟩
end Go.Proofs.YtlekdhejgdfnpaaDoor.P
namespace Go.Proofs.YtlekdhejgdfnpaaDoor.P
open Go.RowKit Go.Proofs.YtlekdhejgdfnpaaDoorW.PrintWords Go.Proofs.YtlekdhejgdfnpaaDoorW.PrintLast Go.Proofs.YtlekdhejgdfnpaaDoorW.PrintMore
attribute [local go_sem] max2_int min2_int max_two min_two max_three min_three max_four min_four   -- for this text's walks alone

/-! ### greenwoodref23_Check: function 12 -/
mutual
def greenwoodref23_Check.j0 : Nat → Bool → Int → Bool → List Int → List Int → List (List Int) → List (S41) → List (S43) → Option (Int)
 | 0, _, _, _, _, _, _, _, _ => none
 | k + 1, x3, x145000, x145001, x145002, x145003, x145004, x145005, x145006 => greenwoodref23_Check.l0 k x3 0 x145000 x145001 x145002 x145003 x145004 x145005 x145006
def greenwoodref23_Check.l0 : Nat → Bool → Int → Int → Bool → List Int → List Int → List (List Int) → List (S41) → List (S43) → Option (Int)
 | 0, _, _, _, _, _, _, _, _, _ => none
 | k + 1, x3, x4, x145000, x145001, x145002, x145003, x145004, x145005, x145006 => if x4 < (x145004.length : Int) then (if x3 = true then (if 0 ≤ x4 then ((greenwoodref23_few.f k (rd_L1 x145004 x4)).bind fun t148 => (greenwoodref23_Check.l0 k t148 (wrap64 (x4 + 1)) x145000 x145001 x145002 x145003 x145004 x145005 x145006)) else (none)) else (greenwoodref23_Check.l0 k false (wrap64 (x4 + 1)) x145000 x145001 x145002 x145003 x145004 x145005 x145006)) else (greenwoodref23_Check.l1 k x3 0 x145000 x145001 x145002 x145003 x145004 x145005 x145006)
def greenwoodref23_Check.l1 : Nat → Bool → Int → Int → Bool → List Int → List Int → List (List Int) → List (S41) → List (S43) → Option (Int)
 | 0, _, _, _, _, _, _, _, _, _ => none
 | k + 1, x3, x5, x145000, x145001, x145002, x145003, x145004, x145005, x145006 => if x5 < (x145005.length : Int) then (if x3 = true then (if 0 ≤ x5 then ((greenwoodref23_few.f k ((rd_T41 x145005 x5).f0)).bind fun t150 => (if t150 = true then ((greenwoodref23_few.f k ((rd_T41 x145005 x5).f1)).bind fun t152 => (if t152 = true then ((greenwoodref23_few.f k ((rd_T41 x145005 x5).f2)).bind fun t154 => (greenwoodref23_Check.l1 k t154 (wrap64 (x5 + 1)) x145000 x145001 x145002 x145003 x145004 x145005 x145006)) else (greenwoodref23_Check.l1 k false (wrap64 (x5 + 1)) x145000 x145001 x145002 x145003 x145004 x145005 x145006))) else (greenwoodref23_Check.l1 k false (wrap64 (x5 + 1)) x145000 x145001 x145002 x145003 x145004 x145005 x145006))) else (none)) else (greenwoodref23_Check.l1 k false (wrap64 (x5 + 1)) x145000 x145001 x145002 x145003 x145004 x145005 x145006)) else (greenwoodref23_Check.l2 k x3 0 x145000 x145001 x145002 x145003 x145004 x145005 x145006)
def greenwoodref23_Check.l2 : Nat → Bool → Int → Int → Bool → List Int → List Int → List (List Int) → List (S41) → List (S43) → Option (Int)
 | 0, _, _, _, _, _, _, _, _, _ => none
 | k + 1, x3, x6, x145000, x145001, x145002, x145003, x145004, x145005, x145006 => if x6 < (x145006.length : Int) then (if x3 = true then (if 0 ≤ x6 then ((greenwoodref23_few.f k ((rd_T43 x145006 x6).f0)).bind fun t156 => (if t156 = true then ((greenwoodref23_few.f k (([(rd_T43 x145006 x6).f1] : List Int))).bind fun t161 => (greenwoodref23_Check.l2 k t161 (wrap64 (x6 + 1)) x145000 x145001 x145002 x145003 x145004 x145005 x145006)) else (greenwoodref23_Check.l2 k false (wrap64 (x6 + 1)) x145000 x145001 x145002 x145003 x145004 x145005 x145006))) else (none)) else (greenwoodref23_Check.l2 k false (wrap64 (x6 + 1)) x145000 x145001 x145002 x145003 x145004 x145005 x145006)) else (if x3 = true then (some 0) else (some 230))
end
def greenwoodref23_Check.f (k : Nat) (a0_0 : Int) (a0_1 : Bool) (l0_2 : List Int) (l0_3 : List Int) (l0_4 : List (List Int)) (l0_5 : List (S41)) (l0_6 : List (S43)) : Option (Int) := if a0_0 ≥ 0 then (if a0_0 ≤ 5 then ((greenwoodref23_few.f k l0_2).bind fun t145 => (if t145 = true then ((greenwoodref23_few.f k l0_3).bind fun t146 => (if t146 = true then (if (l0_4.length : Int) ≤ 200 then (if (l0_5.length : Int) ≤ 65 then (greenwoodref23_Check.j0 k (decide ((l0_6.length : Int) ≤ 200)) a0_0 a0_1 l0_2 l0_3 l0_4 l0_5 l0_6) else (greenwoodref23_Check.j0 k false a0_0 a0_1 l0_2 l0_3 l0_4 l0_5 l0_6)) else (greenwoodref23_Check.j0 k false a0_0 a0_1 l0_2 l0_3 l0_4 l0_5 l0_6)) else (greenwoodref23_Check.j0 k false a0_0 a0_1 l0_2 l0_3 l0_4 l0_5 l0_6))) else (greenwoodref23_Check.j0 k false a0_0 a0_1 l0_2 l0_3 l0_4 l0_5 l0_6))) else (greenwoodref23_Check.j0 k false a0_0 a0_1 l0_2 l0_3 l0_4 l0_5 l0_6)) else (greenwoodref23_Check.j0 k false a0_0 a0_1 l0_2 l0_3 l0_4 l0_5 l0_6)
set_option maxHeartbeats 8000000 in
set_option maxRecDepth 100000 in
theorem greenwoodref23_Check.calls (k : Nat) (a0_0 : Int) (a0_1 : Bool) (A0_2 : Option Addr) (c0_2 : Nat) (l0_2 : List Int) (A0_3 : Option Addr) (c0_3 : Nat) (l0_3 : List Int) (A0_4 : Option Addr) (c0_4 : Nat) (l0_4 : List (List Int)) (A0_5 : Option Addr) (c0_5 : Nat) (l0_5 : List (S41)) (A0_6 : Option Addr) (c0_6 : Nat) (l0_6 : List (S43)) (r : Int) (w : World) (hr0_2 : Kd.C (Kd.int .i64) w A0_2 l0_2.length l0_2) (hc0_2 : l0_2.length ≤ c0_2) (hr0_3 : Kd.C (Kd.int .i64) w A0_3 l0_3.length l0_3) (hc0_3 : l0_3.length ≤ c0_3) (hr0_4 : Kd.C (Kd.slice 3 (Kd.int .i64)) w A0_4 l0_4.length l0_4) (hc0_4 : l0_4.length ≤ c0_4) (hr0_5 : Kd.C k41 w A0_5 l0_5.length l0_5) (hc0_5 : l0_5.length ≤ c0_5) (hr0_6 : Kd.C k43 w A0_6 l0_6.length l0_6) (hc0_6 : l0_6.length ≤ c0_6) (h : greenwoodref23_Check.f k a0_0 a0_1 l0_2 l0_3 l0_4 l0_5 l0_6 = some r) :
 Calls Tryd.prog 12 #[.agg #[.int .i64 a0_0, .bool a0_1, .slice A0_2 l0_2.length c0_2, .slice A0_3 l0_3.length c0_3, .slice A0_4 l0_4.length c0_4, .slice A0_5 l0_5.length c0_5, .slice A0_6 l0_6.length c0_6]] w fun e w' => e = .returned (.int .i64 r) ∧ Below w.heap.size w w' := by
 have hu27 := Tryd.underlying27
 have HR0_2 := Aside0.mk hr0_2
 have HC0_2 := Aside0.mk hc0_2
 clear hr0_2 hc0_2
 have HR0_3 := Aside0.mk hr0_3
 have HC0_3 := Aside0.mk hc0_3
 clear hr0_3 hc0_3
 have HR0_4 := Aside0.mk hr0_4
 have HC0_4 := Aside0.mk hc0_4
 clear hr0_4 hc0_4
 have HR0_5 := Aside0.mk hr0_5
 have HC0_5 := Aside0.mk hc0_5
 clear hr0_5 hc0_5
 have HR0_6 := Aside0.mk hr0_6
 have HC0_6 := Aside0.mk hc0_6
 clear hr0_6 hc0_6
 have HB := Aside0.mk (Below.refl w.heap.size w)
 have H : (if a0_0 ≥ 0 then (if a0_0 ≤ 5 then ((greenwoodref23_few.f k l0_2).bind fun t145 => (if t145 = true then ((greenwoodref23_few.f k l0_3).bind fun t146 => (if t146 = true then (if (l0_4.length : Int) ≤ 200 then (if (l0_5.length : Int) ≤ 65 then (greenwoodref23_Check.j0 k (decide ((l0_6.length : Int) ≤ 200)) a0_0 a0_1 l0_2 l0_3 l0_4 l0_5 l0_6) else (greenwoodref23_Check.j0 k false a0_0 a0_1 l0_2 l0_3 l0_4 l0_5 l0_6)) else (greenwoodref23_Check.j0 k false a0_0 a0_1 l0_2 l0_3 l0_4 l0_5 l0_6)) else (greenwoodref23_Check.j0 k false a0_0 a0_1 l0_2 l0_3 l0_4 l0_5 l0_6))) else (greenwoodref23_Check.j0 k false a0_0 a0_1 l0_2 l0_3 l0_4 l0_5 l0_6))) else (greenwoodref23_Check.j0 k false a0_0 a0_1 l0_2 l0_3 l0_4 l0_5 l0_6)) else (greenwoodref23_Check.j0 k false a0_0 a0_1 l0_2 l0_3 l0_4 l0_5 l0_6)) = some r := h
 clear h
 have HC2 := Aside0.mk H
 clear H
 go_enter Tryd.func12, Tryd.ntmps12
 go_upto_region 1 with (first | ((with_reducible refine gate_dst (N := 1) rfl ?_); (try (refine gate_guard (by rfl) ?_; dsimp only)); refine box_event ?hg (N := 1) ?hd (cs := #[.int .i64 a0_0, .bool a0_1, .slice A0_2 l0_2.length c0_2, .slice A0_3 l0_3.length c0_3, .slice A0_4 l0_4.length c0_4, .slice A0_5 l0_5.length c0_5, .slice A0_6 l0_6.length c0_6]) (t := 27) ?hr ?_; (case hd => rfl); (case hg => rfl); (case hr => first | (go_simp; done) | (go_simp; rfl)); intro gb144 hg w3 hbox hb; have n0_ := Aside0.mk (below_step (by repeat (first | (with_reducible first | exact HB.out | apply below_alloc | apply pw_below_drewN | apply below_drew1) | exact HB.out)) hb); have n1_ := Aside0.mk (hbox); have n2_ := Aside0.mk ((by rw [hg]; exact (below_size (by repeat (first | (with_reducible first | exact HB.out | apply below_alloc | apply pw_below_drewN | apply below_drew1) | exact HB.out))) : w.heap.size ≤ gb144)); have n3_ := Aside0.mk ((by rw [hg]; exact (below_size (by repeat (first | (with_reducible first | exact HB.out | apply below_alloc | apply pw_below_drewN | apply below_drew1) | exact HB.out))) : w.heap.size ≤ gb144)); clear HB; have HB := n0_; have BK144 := n1_; have GW144 := n2_; have GE144 := n3_; clear n0_ n1_ n2_ n3_; clear hb hbox hg))
 (try simp only [Act.put, List.setIfInBounds_toArray, List.set_cons_zero, List.set_cons_succ])
 go_cut [3] (fun v3 wc => ∃ (kq : Nat) (x3_1 : Bool), v3 = .bool x3_1 ∧ Aside0 (greenwoodref23_Check.j0 kq x3_1 a0_0 a0_1 l0_2 l0_3 l0_4 l0_5 l0_6 = some r) ∧ Aside0 (kq ≤ k) ∧ Aside0 (wc.heap[gb144]? = some (.cells #[.int .i64 a0_0, .bool a0_1, (.slice A0_2 l0_2.length c0_2), (.slice A0_3 l0_3.length c0_3), (.slice A0_4 l0_4.length c0_4), (.slice A0_5 l0_5.length c0_5), (.slice A0_6 l0_6.length c0_6)] 27 (0, 0))) ∧ Aside0 (Below w.heap.size w wc))
 case first =>
  have H := HC2.out
  clear HC2
  by_cases c4 : a0_0 ≥ 0
  ·rw [if_pos c4] at H
   have c4b0 : decide (0 ≤ a0_0) = true := decide_eq_true c4
   clear c4
   (first | rw [c4b0] | (simp only [i64_w, i32_w]; rw [c4b0]) | skip)
   by_cases c5 : a0_0 ≤ 5
   ·rw [if_pos c5] at H
    have c5b0 : decide (a0_0 ≤ 5) = true := decide_eq_true c5
    clear c5
    replace H := Option.bind_eq_some_iff.mp H
    obtain ⟨t145, A60, H⟩ := H
    replace H : (if t145 = true then ((greenwoodref23_few.f k l0_3).bind fun t146 => (if t146 = true then (if (l0_4.length : Int) ≤ 200 then (if (l0_5.length : Int) ≤ 65 then (greenwoodref23_Check.j0 k (decide ((l0_6.length : Int) ≤ 200)) a0_0 a0_1 l0_2 l0_3 l0_4 l0_5 l0_6) else (greenwoodref23_Check.j0 k false a0_0 a0_1 l0_2 l0_3 l0_4 l0_5 l0_6)) else (greenwoodref23_Check.j0 k false a0_0 a0_1 l0_2 l0_3 l0_4 l0_5 l0_6)) else (greenwoodref23_Check.j0 k false a0_0 a0_1 l0_2 l0_3 l0_4 l0_5 l0_6))) else (greenwoodref23_Check.j0 k false a0_0 a0_1 l0_2 l0_3 l0_4 l0_5 l0_6)) = some r := H
    have A6 := Aside0.mk A60
    clear A60
    by_cases c7 : t145 = true
    ·subst c7
     have H1 : ((greenwoodref23_few.f k l0_3).bind fun t146 => (if t146 = true then (if (l0_4.length : Int) ≤ 200 then (if (l0_5.length : Int) ≤ 65 then (greenwoodref23_Check.j0 k (decide ((l0_6.length : Int) ≤ 200)) a0_0 a0_1 l0_2 l0_3 l0_4 l0_5 l0_6) else (greenwoodref23_Check.j0 k false a0_0 a0_1 l0_2 l0_3 l0_4 l0_5 l0_6)) else (greenwoodref23_Check.j0 k false a0_0 a0_1 l0_2 l0_3 l0_4 l0_5 l0_6)) else (greenwoodref23_Check.j0 k false a0_0 a0_1 l0_2 l0_3 l0_4 l0_5 l0_6))) = some r := by rw [if_pos rfl] at H; exact H
     clear H
     have H := H1
     clear H1
     replace H := Option.bind_eq_some_iff.mp H
     obtain ⟨t146, A80, H⟩ := H
     replace H : (if t146 = true then (if (l0_4.length : Int) ≤ 200 then (if (l0_5.length : Int) ≤ 65 then (greenwoodref23_Check.j0 k (decide ((l0_6.length : Int) ≤ 200)) a0_0 a0_1 l0_2 l0_3 l0_4 l0_5 l0_6) else (greenwoodref23_Check.j0 k false a0_0 a0_1 l0_2 l0_3 l0_4 l0_5 l0_6)) else (greenwoodref23_Check.j0 k false a0_0 a0_1 l0_2 l0_3 l0_4 l0_5 l0_6)) else (greenwoodref23_Check.j0 k false a0_0 a0_1 l0_2 l0_3 l0_4 l0_5 l0_6)) = some r := H
     have A8 := Aside0.mk A80
     clear A80
     by_cases c9 : t146 = true
     ·subst c9
      have H1 : (if (l0_4.length : Int) ≤ 200 then (if (l0_5.length : Int) ≤ 65 then (greenwoodref23_Check.j0 k (decide ((l0_6.length : Int) ≤ 200)) a0_0 a0_1 l0_2 l0_3 l0_4 l0_5 l0_6) else (greenwoodref23_Check.j0 k false a0_0 a0_1 l0_2 l0_3 l0_4 l0_5 l0_6)) else (greenwoodref23_Check.j0 k false a0_0 a0_1 l0_2 l0_3 l0_4 l0_5 l0_6)) = some r := by rw [if_pos rfl] at H; exact H
      clear H
      have H := H1
      clear H1
      by_cases c10 : (l0_4.length : Int) ≤ 200
      ·rw [if_pos c10] at H
       have c10b0 : decide ((l0_4.length : Int) ≤ 200) = true := decide_eq_true c10
       have c10b1 : decide (l0_4.length ≤ 200) = true := decide_eq_true (by omega)
       clear c10
       by_cases c11 : (l0_5.length : Int) ≤ 65
       ·rw [if_pos c11] at H
        have c11b0 : decide ((l0_5.length : Int) ≤ 65) = true := decide_eq_true c11
        have c11b1 : decide (l0_5.length ≤ 65) = true := decide_eq_true (by omega)
        clear c11
        have H' := Aside0.mk H
        clear H
        have hcz12_0 : w3.cell? ⟨gb144, 0, none⟩ = some (.int .i64 a0_0) := (blk_cell BK144.out 0).trans rfl
        have hcz12_1 : w3.cell? ⟨gb144, 1, none⟩ = some (.bool a0_1) := (blk_cell BK144.out 1).trans rfl
        have hcz12_2 : w3.cell? ⟨gb144, 2, none⟩ = some (.slice A0_2 l0_2.length c0_2) := (blk_cell BK144.out 2).trans rfl
        have hcz12_3 : w3.cell? ⟨gb144, 3, none⟩ = some (.slice A0_3 l0_3.length c0_3) := (blk_cell BK144.out 3).trans rfl
        have hcz12_4 : w3.cell? ⟨gb144, 4, none⟩ = some (.slice A0_4 l0_4.length c0_4) := (blk_cell BK144.out 4).trans rfl
        have hcz12_5 : w3.cell? ⟨gb144, 5, none⟩ = some (.slice A0_5 l0_5.length c0_5) := (blk_cell BK144.out 5).trans rfl
        have hcz12_6 : w3.cell? ⟨gb144, 6, none⟩ = some (.slice A0_6 l0_6.length c0_6) := (blk_cell BK144.out 6).trans rfl
        have hfz12_0 := blk_frozen BK144.out 0
        have hfz12_1 := blk_frozen BK144.out 1
        have hfz12_2 := blk_frozen BK144.out 2
        have hfz12_3 := blk_frozen BK144.out 3
        have hfz12_4 := blk_frozen BK144.out 4
        have hfz12_5 := blk_frozen BK144.out 5
        have hfz12_6 := blk_frozen BK144.out 6
        go_wp2_with (first | (go_at_call 27; (with_reducible refine (greenwoodref23_few.calls k _ _ l0_2 true _ ?side1 ?side2 A6.out).mono ?_); (case side1 => repeat (first | exact (Kd.C_below HR0_2.out HB.out) | (with_reducible refine Kd.C_alloc ?_ _) | (with_reducible refine Kd.C_drewN ?_ _) | (with_reducible refine Kd.C_drew ?_))); (case side2 => exact HC0_2.out); rintro e w' ⟨rfl, ⟨nd, rfl⟩⟩) | (go_at_call 27; (with_reducible refine (greenwoodref23_few.calls k _ _ l0_3 true _ ?side1 ?side2 A8.out).mono ?_); (case side1 => repeat (first | exact (Kd.C_below HR0_3.out (by repeat (first | (with_reducible first | exact HB.out | apply below_alloc | apply pw_below_drewN | apply below_drew1 | refine below_set ?_ GE144.out) | exact HB.out))) | (with_reducible refine Kd.C_alloc ?_ _) | (with_reducible refine Kd.C_drewN ?_ _) | (with_reducible refine Kd.C_drew ?_))); (case side2 => exact HC0_3.out); rintro e w' ⟨rfl, ⟨nd, rfl⟩⟩))
        go_meet
        case rel => exact ⟨_, (decide ((l0_6.length : Int) ≤ 200)), (by first | rfl | (simp; done) | (simp [*]; done)), H', ⟨by first | omega | exact Nat.le_refl _⟩, ⟨by (with_reducible repeat (first | refine blk_drewN ?_ _ | refine blk_drew ?_ | refine blk_alloc ?_ _)); exact BK144.out⟩, ⟨by repeat (first | (with_reducible first | exact HB.out | apply below_alloc | apply pw_below_drewN | apply below_drew1 | refine below_set ?_ GE144.out) | exact HB.out)⟩⟩
       ·rw [if_neg c11] at H
        have c11b0 : decide ((l0_5.length : Int) ≤ 65) = false := decide_eq_false c11
        have c11b1 : decide (l0_5.length ≤ 65) = false := decide_eq_false (by omega)
        clear c11
        have H' := Aside0.mk H
        clear H
        have hcz13_0 : w3.cell? ⟨gb144, 0, none⟩ = some (.int .i64 a0_0) := (blk_cell BK144.out 0).trans rfl
        have hcz13_1 : w3.cell? ⟨gb144, 1, none⟩ = some (.bool a0_1) := (blk_cell BK144.out 1).trans rfl
        have hcz13_2 : w3.cell? ⟨gb144, 2, none⟩ = some (.slice A0_2 l0_2.length c0_2) := (blk_cell BK144.out 2).trans rfl
        have hcz13_3 : w3.cell? ⟨gb144, 3, none⟩ = some (.slice A0_3 l0_3.length c0_3) := (blk_cell BK144.out 3).trans rfl
        have hcz13_4 : w3.cell? ⟨gb144, 4, none⟩ = some (.slice A0_4 l0_4.length c0_4) := (blk_cell BK144.out 4).trans rfl
        have hcz13_5 : w3.cell? ⟨gb144, 5, none⟩ = some (.slice A0_5 l0_5.length c0_5) := (blk_cell BK144.out 5).trans rfl
        have hcz13_6 : w3.cell? ⟨gb144, 6, none⟩ = some (.slice A0_6 l0_6.length c0_6) := (blk_cell BK144.out 6).trans rfl
        have hfz13_0 := blk_frozen BK144.out 0
        have hfz13_1 := blk_frozen BK144.out 1
        have hfz13_2 := blk_frozen BK144.out 2
        have hfz13_3 := blk_frozen BK144.out 3
        have hfz13_4 := blk_frozen BK144.out 4
        have hfz13_5 := blk_frozen BK144.out 5
        have hfz13_6 := blk_frozen BK144.out 6
        go_wp2_with (first | (go_at_call 27; (with_reducible refine (greenwoodref23_few.calls k _ _ l0_2 true _ ?side1 ?side2 A6.out).mono ?_); (case side1 => repeat (first | exact (Kd.C_below HR0_2.out HB.out) | (with_reducible refine Kd.C_alloc ?_ _) | (with_reducible refine Kd.C_drewN ?_ _) | (with_reducible refine Kd.C_drew ?_))); (case side2 => exact HC0_2.out); rintro e w' ⟨rfl, ⟨nd, rfl⟩⟩) | (go_at_call 27; (with_reducible refine (greenwoodref23_few.calls k _ _ l0_3 true _ ?side1 ?side2 A8.out).mono ?_); (case side1 => repeat (first | exact (Kd.C_below HR0_3.out (by repeat (first | (with_reducible first | exact HB.out | apply below_alloc | apply pw_below_drewN | apply below_drew1 | refine below_set ?_ GE144.out) | exact HB.out))) | (with_reducible refine Kd.C_alloc ?_ _) | (with_reducible refine Kd.C_drewN ?_ _) | (with_reducible refine Kd.C_drew ?_))); (case side2 => exact HC0_3.out); rintro e w' ⟨rfl, ⟨nd, rfl⟩⟩))
        go_meet
        case rel => exact ⟨_, (false), (by first | rfl | (simp; done) | (simp [*]; done)), H', ⟨by first | omega | exact Nat.le_refl _⟩, ⟨by (with_reducible repeat (first | refine blk_drewN ?_ _ | refine blk_drew ?_ | refine blk_alloc ?_ _)); exact BK144.out⟩, ⟨by repeat (first | (with_reducible first | exact HB.out | apply below_alloc | apply pw_below_drewN | apply below_drew1 | refine below_set ?_ GE144.out) | exact HB.out)⟩⟩
      ·rw [if_neg c10] at H
       have c10b0 : decide ((l0_4.length : Int) ≤ 200) = false := decide_eq_false c10
       have c10b1 : decide (l0_4.length ≤ 200) = false := decide_eq_false (by omega)
       clear c10
       have H' := Aside0.mk H
       clear H
       have hcz14_0 : w3.cell? ⟨gb144, 0, none⟩ = some (.int .i64 a0_0) := (blk_cell BK144.out 0).trans rfl
       have hcz14_1 : w3.cell? ⟨gb144, 1, none⟩ = some (.bool a0_1) := (blk_cell BK144.out 1).trans rfl
       have hcz14_2 : w3.cell? ⟨gb144, 2, none⟩ = some (.slice A0_2 l0_2.length c0_2) := (blk_cell BK144.out 2).trans rfl
       have hcz14_3 : w3.cell? ⟨gb144, 3, none⟩ = some (.slice A0_3 l0_3.length c0_3) := (blk_cell BK144.out 3).trans rfl
       have hcz14_4 : w3.cell? ⟨gb144, 4, none⟩ = some (.slice A0_4 l0_4.length c0_4) := (blk_cell BK144.out 4).trans rfl
       have hcz14_5 : w3.cell? ⟨gb144, 5, none⟩ = some (.slice A0_5 l0_5.length c0_5) := (blk_cell BK144.out 5).trans rfl
       have hcz14_6 : w3.cell? ⟨gb144, 6, none⟩ = some (.slice A0_6 l0_6.length c0_6) := (blk_cell BK144.out 6).trans rfl
       have hfz14_0 := blk_frozen BK144.out 0
       have hfz14_1 := blk_frozen BK144.out 1
       have hfz14_2 := blk_frozen BK144.out 2
       have hfz14_3 := blk_frozen BK144.out 3
       have hfz14_4 := blk_frozen BK144.out 4
       have hfz14_5 := blk_frozen BK144.out 5
       have hfz14_6 := blk_frozen BK144.out 6
       go_wp2_with (first | (go_at_call 27; (with_reducible refine (greenwoodref23_few.calls k _ _ l0_2 true _ ?side1 ?side2 A6.out).mono ?_); (case side1 => repeat (first | exact (Kd.C_below HR0_2.out HB.out) | (with_reducible refine Kd.C_alloc ?_ _) | (with_reducible refine Kd.C_drewN ?_ _) | (with_reducible refine Kd.C_drew ?_))); (case side2 => exact HC0_2.out); rintro e w' ⟨rfl, ⟨nd, rfl⟩⟩) | (go_at_call 27; (with_reducible refine (greenwoodref23_few.calls k _ _ l0_3 true _ ?side1 ?side2 A8.out).mono ?_); (case side1 => repeat (first | exact (Kd.C_below HR0_3.out (by repeat (first | (with_reducible first | exact HB.out | apply below_alloc | apply pw_below_drewN | apply below_drew1 | refine below_set ?_ GE144.out) | exact HB.out))) | (with_reducible refine Kd.C_alloc ?_ _) | (with_reducible refine Kd.C_drewN ?_ _) | (with_reducible refine Kd.C_drew ?_))); (case side2 => exact HC0_3.out); rintro e w' ⟨rfl, ⟨nd, rfl⟩⟩))
       go_meet
       case rel => exact ⟨_, (false), (by first | rfl | (simp; done) | (simp [*]; done)), H', ⟨by first | omega | exact Nat.le_refl _⟩, ⟨by (with_reducible repeat (first | refine blk_drewN ?_ _ | refine blk_drew ?_ | refine blk_alloc ?_ _)); exact BK144.out⟩, ⟨by repeat (first | (with_reducible first | exact HB.out | apply below_alloc | apply pw_below_drewN | apply below_drew1 | refine below_set ?_ GE144.out) | exact HB.out)⟩⟩
     ·replace c9 := Bool.eq_false_iff.mpr c9
      subst c9
      have H1 : (greenwoodref23_Check.j0 k false a0_0 a0_1 l0_2 l0_3 l0_4 l0_5 l0_6) = some r := by rw [if_neg (show ¬ (false = true) by decide)] at H; exact H
      clear H
      have H := H1
      clear H1
      have H' := Aside0.mk H
      clear H
      have hcz15_0 : w3.cell? ⟨gb144, 0, none⟩ = some (.int .i64 a0_0) := (blk_cell BK144.out 0).trans rfl
      have hcz15_1 : w3.cell? ⟨gb144, 1, none⟩ = some (.bool a0_1) := (blk_cell BK144.out 1).trans rfl
      have hcz15_2 : w3.cell? ⟨gb144, 2, none⟩ = some (.slice A0_2 l0_2.length c0_2) := (blk_cell BK144.out 2).trans rfl
      have hcz15_3 : w3.cell? ⟨gb144, 3, none⟩ = some (.slice A0_3 l0_3.length c0_3) := (blk_cell BK144.out 3).trans rfl
      have hcz15_4 : w3.cell? ⟨gb144, 4, none⟩ = some (.slice A0_4 l0_4.length c0_4) := (blk_cell BK144.out 4).trans rfl
      have hcz15_5 : w3.cell? ⟨gb144, 5, none⟩ = some (.slice A0_5 l0_5.length c0_5) := (blk_cell BK144.out 5).trans rfl
      have hcz15_6 : w3.cell? ⟨gb144, 6, none⟩ = some (.slice A0_6 l0_6.length c0_6) := (blk_cell BK144.out 6).trans rfl
      have hfz15_0 := blk_frozen BK144.out 0
      have hfz15_1 := blk_frozen BK144.out 1
      have hfz15_2 := blk_frozen BK144.out 2
      have hfz15_3 := blk_frozen BK144.out 3
      have hfz15_4 := blk_frozen BK144.out 4
      have hfz15_5 := blk_frozen BK144.out 5
      have hfz15_6 := blk_frozen BK144.out 6
      go_wp2_with (first | (go_at_call 27; (with_reducible refine (greenwoodref23_few.calls k _ _ l0_2 true _ ?side1 ?side2 A6.out).mono ?_); (case side1 => repeat (first | exact (Kd.C_below HR0_2.out HB.out) | (with_reducible refine Kd.C_alloc ?_ _) | (with_reducible refine Kd.C_drewN ?_ _) | (with_reducible refine Kd.C_drew ?_))); (case side2 => exact HC0_2.out); rintro e w' ⟨rfl, ⟨nd, rfl⟩⟩) | (go_at_call 27; (with_reducible refine (greenwoodref23_few.calls k _ _ l0_3 false _ ?side1 ?side2 A8.out).mono ?_); (case side1 => repeat (first | exact (Kd.C_below HR0_3.out (by repeat (first | (with_reducible first | exact HB.out | apply below_alloc | apply pw_below_drewN | apply below_drew1 | refine below_set ?_ GE144.out) | exact HB.out))) | (with_reducible refine Kd.C_alloc ?_ _) | (with_reducible refine Kd.C_drewN ?_ _) | (with_reducible refine Kd.C_drew ?_))); (case side2 => exact HC0_3.out); rintro e w' ⟨rfl, ⟨nd, rfl⟩⟩))
      go_meet
      case rel => exact ⟨_, (false), (by first | rfl | (simp; done) | (simp [*]; done)), H', ⟨by first | omega | exact Nat.le_refl _⟩, ⟨by (with_reducible repeat (first | refine blk_drewN ?_ _ | refine blk_drew ?_ | refine blk_alloc ?_ _)); exact BK144.out⟩, ⟨by repeat (first | (with_reducible first | exact HB.out | apply below_alloc | apply pw_below_drewN | apply below_drew1 | refine below_set ?_ GE144.out) | exact HB.out)⟩⟩
    ·replace c7 := Bool.eq_false_iff.mpr c7
     subst c7
     have H1 : (greenwoodref23_Check.j0 k false a0_0 a0_1 l0_2 l0_3 l0_4 l0_5 l0_6) = some r := by rw [if_neg (show ¬ (false = true) by decide)] at H; exact H
     clear H
     have H := H1
     clear H1
     have H' := Aside0.mk H
     clear H
     have hcz16_0 : w3.cell? ⟨gb144, 0, none⟩ = some (.int .i64 a0_0) := (blk_cell BK144.out 0).trans rfl
     have hcz16_1 : w3.cell? ⟨gb144, 1, none⟩ = some (.bool a0_1) := (blk_cell BK144.out 1).trans rfl
     have hcz16_2 : w3.cell? ⟨gb144, 2, none⟩ = some (.slice A0_2 l0_2.length c0_2) := (blk_cell BK144.out 2).trans rfl
     have hcz16_3 : w3.cell? ⟨gb144, 3, none⟩ = some (.slice A0_3 l0_3.length c0_3) := (blk_cell BK144.out 3).trans rfl
     have hcz16_4 : w3.cell? ⟨gb144, 4, none⟩ = some (.slice A0_4 l0_4.length c0_4) := (blk_cell BK144.out 4).trans rfl
     have hcz16_5 : w3.cell? ⟨gb144, 5, none⟩ = some (.slice A0_5 l0_5.length c0_5) := (blk_cell BK144.out 5).trans rfl
     have hcz16_6 : w3.cell? ⟨gb144, 6, none⟩ = some (.slice A0_6 l0_6.length c0_6) := (blk_cell BK144.out 6).trans rfl
     have hfz16_0 := blk_frozen BK144.out 0
     have hfz16_1 := blk_frozen BK144.out 1
     have hfz16_2 := blk_frozen BK144.out 2
     have hfz16_3 := blk_frozen BK144.out 3
     have hfz16_4 := blk_frozen BK144.out 4
     have hfz16_5 := blk_frozen BK144.out 5
     have hfz16_6 := blk_frozen BK144.out 6
     go_wp2_with (first | (go_at_call 27; (with_reducible refine (greenwoodref23_few.calls k _ _ l0_2 false _ ?side1 ?side2 A6.out).mono ?_); (case side1 => repeat (first | exact (Kd.C_below HR0_2.out HB.out) | (with_reducible refine Kd.C_alloc ?_ _) | (with_reducible refine Kd.C_drewN ?_ _) | (with_reducible refine Kd.C_drew ?_))); (case side2 => exact HC0_2.out); rintro e w' ⟨rfl, ⟨nd, rfl⟩⟩))
     go_meet
     case rel => exact ⟨_, (false), (by first | rfl | (simp; done) | (simp [*]; done)), H', ⟨by first | omega | exact Nat.le_refl _⟩, ⟨by (with_reducible repeat (first | refine blk_drewN ?_ _ | refine blk_drew ?_ | refine blk_alloc ?_ _)); exact BK144.out⟩, ⟨by repeat (first | (with_reducible first | exact HB.out | apply below_alloc | apply pw_below_drewN | apply below_drew1 | refine below_set ?_ GE144.out) | exact HB.out)⟩⟩
   ·rw [if_neg c5] at H
    have c5b0 : decide (a0_0 ≤ 5) = false := decide_eq_false c5
    clear c5
    have H' := Aside0.mk H
    clear H
    have hcz17_0 : w3.cell? ⟨gb144, 0, none⟩ = some (.int .i64 a0_0) := (blk_cell BK144.out 0).trans rfl
    have hcz17_1 : w3.cell? ⟨gb144, 1, none⟩ = some (.bool a0_1) := (blk_cell BK144.out 1).trans rfl
    have hcz17_2 : w3.cell? ⟨gb144, 2, none⟩ = some (.slice A0_2 l0_2.length c0_2) := (blk_cell BK144.out 2).trans rfl
    have hcz17_3 : w3.cell? ⟨gb144, 3, none⟩ = some (.slice A0_3 l0_3.length c0_3) := (blk_cell BK144.out 3).trans rfl
    have hcz17_4 : w3.cell? ⟨gb144, 4, none⟩ = some (.slice A0_4 l0_4.length c0_4) := (blk_cell BK144.out 4).trans rfl
    have hcz17_5 : w3.cell? ⟨gb144, 5, none⟩ = some (.slice A0_5 l0_5.length c0_5) := (blk_cell BK144.out 5).trans rfl
    have hcz17_6 : w3.cell? ⟨gb144, 6, none⟩ = some (.slice A0_6 l0_6.length c0_6) := (blk_cell BK144.out 6).trans rfl
    have hfz17_0 := blk_frozen BK144.out 0
    have hfz17_1 := blk_frozen BK144.out 1
    have hfz17_2 := blk_frozen BK144.out 2
    have hfz17_3 := blk_frozen BK144.out 3
    have hfz17_4 := blk_frozen BK144.out 4
    have hfz17_5 := blk_frozen BK144.out 5
    have hfz17_6 := blk_frozen BK144.out 6
    go_wp2
    go_meet
    case rel => exact ⟨_, (false), (by first | rfl | (simp; done) | (simp [*]; done)), H', ⟨by first | omega | exact Nat.le_refl _⟩, ⟨by (with_reducible repeat (first | refine blk_drewN ?_ _ | refine blk_drew ?_ | refine blk_alloc ?_ _)); exact BK144.out⟩, ⟨by repeat (first | (with_reducible first | exact HB.out | apply below_alloc | apply pw_below_drewN | apply below_drew1 | refine below_set ?_ GE144.out) | exact HB.out)⟩⟩
  ·rw [if_neg c4] at H
   have c4b0 : decide (0 ≤ a0_0) = false := decide_eq_false c4
   clear c4
   (first | rw [c4b0] | (simp only [i64_w, i32_w]; rw [c4b0]) | skip)
   have H' := Aside0.mk H
   clear H
   have hcz18_0 : w3.cell? ⟨gb144, 0, none⟩ = some (.int .i64 a0_0) := (blk_cell BK144.out 0).trans rfl
   have hcz18_1 : w3.cell? ⟨gb144, 1, none⟩ = some (.bool a0_1) := (blk_cell BK144.out 1).trans rfl
   have hcz18_2 : w3.cell? ⟨gb144, 2, none⟩ = some (.slice A0_2 l0_2.length c0_2) := (blk_cell BK144.out 2).trans rfl
   have hcz18_3 : w3.cell? ⟨gb144, 3, none⟩ = some (.slice A0_3 l0_3.length c0_3) := (blk_cell BK144.out 3).trans rfl
   have hcz18_4 : w3.cell? ⟨gb144, 4, none⟩ = some (.slice A0_4 l0_4.length c0_4) := (blk_cell BK144.out 4).trans rfl
   have hcz18_5 : w3.cell? ⟨gb144, 5, none⟩ = some (.slice A0_5 l0_5.length c0_5) := (blk_cell BK144.out 5).trans rfl
   have hcz18_6 : w3.cell? ⟨gb144, 6, none⟩ = some (.slice A0_6 l0_6.length c0_6) := (blk_cell BK144.out 6).trans rfl
   have hfz18_0 := blk_frozen BK144.out 0
   have hfz18_1 := blk_frozen BK144.out 1
   have hfz18_2 := blk_frozen BK144.out 2
   have hfz18_3 := blk_frozen BK144.out 3
   have hfz18_4 := blk_frozen BK144.out 4
   have hfz18_5 := blk_frozen BK144.out 5
   have hfz18_6 := blk_frozen BK144.out 6
   go_wp2
   go_meet
   case rel => exact ⟨_, (false), (by first | rfl | (simp; done) | (simp [*]; done)), H', ⟨by first | omega | exact Nat.le_refl _⟩, ⟨by (with_reducible repeat (first | refine blk_drewN ?_ _ | refine blk_drew ?_ | refine blk_alloc ?_ _)); exact BK144.out⟩, ⟨by repeat (first | (with_reducible first | exact HB.out | apply below_alloc | apply pw_below_drewN | apply below_drew1 | refine below_set ?_ GE144.out) | exact HB.out)⟩⟩
 case rest =>
  clear HC2
  try clear c1
  try clear p2
  try clear c4
  try clear c4b0
  try clear c5
  try clear c5b0
  try clear c7
  try clear c9
  try clear c10
  try clear c10b0
  try clear c10b1
  try clear c11
  try clear c11b0
  try clear c11b1
  try clear c12
  try clear hcz12_0
  try clear hcz12_1
  try clear hcz12_2
  try clear hcz12_3
  try clear hcz12_4
  try clear hcz12_5
  try clear hcz12_6
  try clear hcz13_0
  try clear hcz13_1
  try clear hcz13_2
  try clear hcz13_3
  try clear hcz13_4
  try clear hcz13_5
  try clear hcz13_6
  try clear hcz14_0
  try clear hcz14_1
  try clear hcz14_2
  try clear hcz14_3
  try clear hcz14_4
  try clear hcz14_5
  try clear hcz14_6
  try clear hcz15_0
  try clear hcz15_1
  try clear hcz15_2
  try clear hcz15_3
  try clear hcz15_4
  try clear hcz15_5
  try clear hcz15_6
  try clear hcz16_0
  try clear hcz16_1
  try clear hcz16_2
  try clear hcz16_3
  try clear hcz16_4
  try clear hcz16_5
  try clear hcz16_6
  try clear hcz17_0
  try clear hcz17_1
  try clear hcz17_2
  try clear hcz17_3
  try clear hcz17_4
  try clear hcz17_5
  try clear hcz17_6
  try clear hcz18_0
  try clear hcz18_1
  try clear hcz18_2
  try clear hcz18_3
  try clear hcz18_4
  try clear hcz18_5
  try clear hcz18_6
  try clear hfz12_0
  try clear hfz12_1
  try clear hfz12_2
  try clear hfz12_3
  try clear hfz12_4
  try clear hfz12_5
  try clear hfz12_6
  try clear hfz13_0
  try clear hfz13_1
  try clear hfz13_2
  try clear hfz13_3
  try clear hfz13_4
  try clear hfz13_5
  try clear hfz13_6
  try clear hfz14_0
  try clear hfz14_1
  try clear hfz14_2
  try clear hfz14_3
  try clear hfz14_4
  try clear hfz14_5
  try clear hfz14_6
  try clear hfz15_0
  try clear hfz15_1
  try clear hfz15_2
  try clear hfz15_3
  try clear hfz15_4
  try clear hfz15_5
  try clear hfz15_6
  try clear hfz16_0
  try clear hfz16_1
  try clear hfz16_2
  try clear hfz16_3
  try clear hfz16_4
  try clear hfz16_5
  try clear hfz16_6
  try clear hfz17_0
  try clear hfz17_1
  try clear hfz17_2
  try clear hfz17_3
  try clear hfz17_4
  try clear hfz17_5
  try clear hfz17_6
  try clear hfz18_0
  try clear hfz18_1
  try clear hfz18_2
  try clear hfz18_3
  try clear hfz18_4
  try clear hfz18_5
  try clear hfz18_6
  obtain ⟨kq, x3_1, rfl, HA, HJ1, BK144, HB⟩ := hcut
  cases kq with
  | zero => exact absurd HA.out (by simp [greenwoodref23_Check.j0])
  | succ kj1 =>
   have H := HA.out
   clear HA
   simp only [greenwoodref23_Check.j0] at H
   have H' := Aside0.mk H
   clear H
   go_wp2
   go_loopg [3, 4] kj1 (fun kq v3 v4 w' => ∃ (x3_2 : Bool) (x4_2 : Int), v3 = .bool x3_2 ∧ v4 = .int .i64 x4_2 ∧ Aside0 (greenwoodref23_Check.l0 kq x3_2 x4_2 a0_0 a0_1 l0_2 l0_3 l0_4 l0_5 l0_6 = some r) ∧ Aside0 (kq ≤ kj1) ∧ Aside0 (w'.heap[gb144]? = some (.cells #[.int .i64 a0_0, .bool a0_1, (.slice A0_2 l0_2.length c0_2), (.slice A0_3 l0_3.length c0_3), (.slice A0_4 l0_4.length c0_4), (.slice A0_5 l0_5.length c0_5), (.slice A0_6 l0_6.length c0_6)] 27 (0, 0))) ∧ Aside0 (Below w.heap.size w w'))
   case atStart => exact ⟨(x3_1), (0), (by first | rfl | (simp; done) | (simp [*]; done)), (by first | rfl | (simp; done) | (simp [*]; done)), H', ⟨Nat.le_refl _⟩, ⟨by (with_reducible repeat (first | refine blk_drewN ?_ _ | refine blk_drew ?_ | refine blk_alloc ?_ _)); exact BK144.out⟩, ⟨by repeat (first | (with_reducible first | exact HB.out | apply below_alloc | apply pw_below_drewN | apply below_drew1 | refine below_set ?_ GE144.out) | exact HB.out)⟩⟩
   case round =>
    clear H'
    try clear c1
    try clear p2
    try clear c4
    try clear c4b0
    try clear c5
    try clear c5b0
    try clear c7
    try clear c9
    try clear c10
    try clear c10b0
    try clear c10b1
    try clear c11
    try clear c11b0
    try clear c11b1
    try clear c12
    try clear hcz12_0
    try clear hcz12_1
    try clear hcz12_2
    try clear hcz12_3
    try clear hcz12_4
    try clear hcz12_5
    try clear hcz12_6
    try clear hcz13_0
    try clear hcz13_1
    try clear hcz13_2
    try clear hcz13_3
    try clear hcz13_4
    try clear hcz13_5
    try clear hcz13_6
    try clear hcz14_0
    try clear hcz14_1
    try clear hcz14_2
    try clear hcz14_3
    try clear hcz14_4
    try clear hcz14_5
    try clear hcz14_6
    try clear hcz15_0
    try clear hcz15_1
    try clear hcz15_2
    try clear hcz15_3
    try clear hcz15_4
    try clear hcz15_5
    try clear hcz15_6
    try clear hcz16_0
    try clear hcz16_1
    try clear hcz16_2
    try clear hcz16_3
    try clear hcz16_4
    try clear hcz16_5
    try clear hcz16_6
    try clear hcz17_0
    try clear hcz17_1
    try clear hcz17_2
    try clear hcz17_3
    try clear hcz17_4
    try clear hcz17_5
    try clear hcz17_6
    try clear hcz18_0
    try clear hcz18_1
    try clear hcz18_2
    try clear hcz18_3
    try clear hcz18_4
    try clear hcz18_5
    try clear hcz18_6
    try clear hfz12_0
    try clear hfz12_1
    try clear hfz12_2
    try clear hfz12_3
    try clear hfz12_4
    try clear hfz12_5
    try clear hfz12_6
    try clear hfz13_0
    try clear hfz13_1
    try clear hfz13_2
    try clear hfz13_3
    try clear hfz13_4
    try clear hfz13_5
    try clear hfz13_6
    try clear hfz14_0
    try clear hfz14_1
    try clear hfz14_2
    try clear hfz14_3
    try clear hfz14_4
    try clear hfz14_5
    try clear hfz14_6
    try clear hfz15_0
    try clear hfz15_1
    try clear hfz15_2
    try clear hfz15_3
    try clear hfz15_4
    try clear hfz15_5
    try clear hfz15_6
    try clear hfz16_0
    try clear hfz16_1
    try clear hfz16_2
    try clear hfz16_3
    try clear hfz16_4
    try clear hfz16_5
    try clear hfz16_6
    try clear hfz17_0
    try clear hfz17_1
    try clear hfz17_2
    try clear hfz17_3
    try clear hfz17_4
    try clear hfz17_5
    try clear hfz17_6
    try clear hfz18_0
    try clear hfz18_1
    try clear hfz18_2
    try clear hfz18_3
    try clear hfz18_4
    try clear hfz18_5
    try clear hfz18_6
    try clear p2
    obtain ⟨x3_2, x4_2, rfl, rfl, HA, HK2, BK144, HB⟩ := hrel
    cases gk with
    | zero => exact absurd HA.out (by simp [greenwoodref23_Check.l0])
    | succ k2 =>
     have H := HA.out
     clear HA
     simp only [greenwoodref23_Check.l0] at H
     by_cases c19 : x4_2 < (l0_4.length : Int)
     ·rw [if_pos c19] at H
      have c19b0 : decide (x4_2 < (l0_4.length : Int)) = true := decide_eq_true c19
      clear c19
      by_cases c20 : x3_2 = true
      ·subst c20
       have H1 : (if 0 ≤ x4_2 then ((greenwoodref23_few.f k2 (rd_L1 l0_4 x4_2)).bind fun t148 => (greenwoodref23_Check.l0 k2 t148 (wrap64 (x4_2 + 1)) a0_0 a0_1 l0_2 l0_3 l0_4 l0_5 l0_6)) else (none)) = some r := by rw [if_pos rfl] at H; exact H
       clear H
       have H := H1
       clear H1
       by_cases c21 : 0 ≤ x4_2
       ·rw [if_pos c21] at H
        have c21b0 : decide (0 ≤ x4_2) = true := decide_eq_true c21
        clear c21
        replace H := Option.bind_eq_some_iff.mp H
        obtain ⟨t148, A220, H⟩ := H
        replace H : (greenwoodref23_Check.l0 k2 t148 (wrap64 (x4_2 + 1)) a0_0 a0_1 l0_2 l0_3 l0_4 l0_5 l0_6) = some r := H
        have A22 := Aside0.mk A220
        clear A220
        have H' := Aside0.mk H
        clear H
        have hcz23_0 : wr.cell? ⟨gb144, 0, none⟩ = some (.int .i64 a0_0) := (blk_cell BK144.out 0).trans rfl
        have hcz23_1 : wr.cell? ⟨gb144, 1, none⟩ = some (.bool a0_1) := (blk_cell BK144.out 1).trans rfl
        have hcz23_2 : wr.cell? ⟨gb144, 2, none⟩ = some (.slice A0_2 l0_2.length c0_2) := (blk_cell BK144.out 2).trans rfl
        have hcz23_3 : wr.cell? ⟨gb144, 3, none⟩ = some (.slice A0_3 l0_3.length c0_3) := (blk_cell BK144.out 3).trans rfl
        have hcz23_4 : wr.cell? ⟨gb144, 4, none⟩ = some (.slice A0_4 l0_4.length c0_4) := (blk_cell BK144.out 4).trans rfl
        have hcz23_5 : wr.cell? ⟨gb144, 5, none⟩ = some (.slice A0_5 l0_5.length c0_5) := (blk_cell BK144.out 5).trans rfl
        have hcz23_6 : wr.cell? ⟨gb144, 6, none⟩ = some (.slice A0_6 l0_6.length c0_6) := (blk_cell BK144.out 6).trans rfl
        have hfz23_0 := blk_frozen BK144.out 0
        have hfz23_1 := blk_frozen BK144.out 1
        have hfz23_2 := blk_frozen BK144.out 2
        have hfz23_3 := blk_frozen BK144.out 3
        have hfz23_4 := blk_frozen BK144.out 4
        have hfz23_5 := blk_frozen BK144.out 5
        have hfz23_6 := blk_frozen BK144.out 6
        have p147 : 0 ≤ (x4_2 : Int) := of_decide_eq_true (by first | (with_reducible assumption) | assumption)
        have q147 : x4_2 < (l0_4.length : Int) := of_decide_eq_true (by first | (with_reducible assumption) | assumption)
        obtain ⟨ad147, A147_0, c147_0, e147, hx147_0, hl147_0, hi147_0⟩ := at_L1 HR0_4.out x4_2 p147 q147
        cases e147
        replace hx147_0 := (HB.out.cell (World.block_lt_of_cell? w _ hx147_0)).trans hx147_0
        have HR147_0 := Aside0.mk hi147_0
        have HC147_0 := Aside0.mk hl147_0
        clear hi147_0 hl147_0
        replace p147 := eq_true p147
        replace q147 := eq_true q147
        go_wp2_with (first | (go_at_call 27; (with_reducible refine (greenwoodref23_few.calls k2 _ _ (rd_L1 l0_4 x4_2) t148 _ ?side1 ?side2 A22.out).mono ?_); (case side1 => repeat (first | exact (Kd.C_below HR147_0.out HB.out) | (with_reducible refine Kd.C_alloc ?_ _) | (with_reducible refine Kd.C_drewN ?_ _) | (with_reducible refine Kd.C_drew ?_))); (case side2 => exact HC147_0.out); rintro e w' ⟨rfl, ⟨nd, rfl⟩⟩))
        go_roundg k2
        case measure => have := HJ1.out; have := HK2.out; omega
        case rel => exact ⟨(t148), (wrap64 (x4_2 + 1)), (by first | rfl | (simp; done) | (simp [*]; done)), (by first | rfl | (simp; done) | (simp [*]; done)), H', ⟨by have := HJ1.out; have := HK2.out; omega⟩, ⟨by (with_reducible repeat (first | refine blk_drewN ?_ _ | refine blk_drew ?_ | refine blk_alloc ?_ _)); exact BK144.out⟩, ⟨by repeat (first | (with_reducible first | exact HB.out | apply below_alloc | apply pw_below_drewN | apply below_drew1 | refine below_set ?_ GE144.out) | exact HB.out)⟩⟩
       ·rw [if_neg c21] at H
        exact absurd H (by simp)
      ·replace c20 := Bool.eq_false_iff.mpr c20
       subst c20
       have H1 : (greenwoodref23_Check.l0 k2 false (wrap64 (x4_2 + 1)) a0_0 a0_1 l0_2 l0_3 l0_4 l0_5 l0_6) = some r := by rw [if_neg (show ¬ (false = true) by decide)] at H; exact H
       clear H
       have H := H1
       clear H1
       have H' := Aside0.mk H
       clear H
       have hcz24_0 : wr.cell? ⟨gb144, 0, none⟩ = some (.int .i64 a0_0) := (blk_cell BK144.out 0).trans rfl
       have hcz24_1 : wr.cell? ⟨gb144, 1, none⟩ = some (.bool a0_1) := (blk_cell BK144.out 1).trans rfl
       have hcz24_2 : wr.cell? ⟨gb144, 2, none⟩ = some (.slice A0_2 l0_2.length c0_2) := (blk_cell BK144.out 2).trans rfl
       have hcz24_3 : wr.cell? ⟨gb144, 3, none⟩ = some (.slice A0_3 l0_3.length c0_3) := (blk_cell BK144.out 3).trans rfl
       have hcz24_4 : wr.cell? ⟨gb144, 4, none⟩ = some (.slice A0_4 l0_4.length c0_4) := (blk_cell BK144.out 4).trans rfl
       have hcz24_5 : wr.cell? ⟨gb144, 5, none⟩ = some (.slice A0_5 l0_5.length c0_5) := (blk_cell BK144.out 5).trans rfl
       have hcz24_6 : wr.cell? ⟨gb144, 6, none⟩ = some (.slice A0_6 l0_6.length c0_6) := (blk_cell BK144.out 6).trans rfl
       have hfz24_0 := blk_frozen BK144.out 0
       have hfz24_1 := blk_frozen BK144.out 1
       have hfz24_2 := blk_frozen BK144.out 2
       have hfz24_3 := blk_frozen BK144.out 3
       have hfz24_4 := blk_frozen BK144.out 4
       have hfz24_5 := blk_frozen BK144.out 5
       have hfz24_6 := blk_frozen BK144.out 6
       go_wp2
       go_roundg k2
       case measure => have := HJ1.out; have := HK2.out; omega
       case rel => exact ⟨(false), (wrap64 (x4_2 + 1)), (by first | rfl | (simp; done) | (simp [*]; done)), (by first | rfl | (simp; done) | (simp [*]; done)), H', ⟨by have := HJ1.out; have := HK2.out; omega⟩, ⟨by (with_reducible repeat (first | refine blk_drewN ?_ _ | refine blk_drew ?_ | refine blk_alloc ?_ _)); exact BK144.out⟩, ⟨by repeat (first | (with_reducible first | exact HB.out | apply below_alloc | apply pw_below_drewN | apply below_drew1 | refine below_set ?_ GE144.out) | exact HB.out)⟩⟩
     ·rw [if_neg c19] at H
      have c19b0 : decide (x4_2 < (l0_4.length : Int)) = false := decide_eq_false c19
      clear c19
      have H' := Aside0.mk H
      clear H
      have hcz25_0 : wr.cell? ⟨gb144, 0, none⟩ = some (.int .i64 a0_0) := (blk_cell BK144.out 0).trans rfl
      have hcz25_1 : wr.cell? ⟨gb144, 1, none⟩ = some (.bool a0_1) := (blk_cell BK144.out 1).trans rfl
      have hcz25_2 : wr.cell? ⟨gb144, 2, none⟩ = some (.slice A0_2 l0_2.length c0_2) := (blk_cell BK144.out 2).trans rfl
      have hcz25_3 : wr.cell? ⟨gb144, 3, none⟩ = some (.slice A0_3 l0_3.length c0_3) := (blk_cell BK144.out 3).trans rfl
      have hcz25_4 : wr.cell? ⟨gb144, 4, none⟩ = some (.slice A0_4 l0_4.length c0_4) := (blk_cell BK144.out 4).trans rfl
      have hcz25_5 : wr.cell? ⟨gb144, 5, none⟩ = some (.slice A0_5 l0_5.length c0_5) := (blk_cell BK144.out 5).trans rfl
      have hcz25_6 : wr.cell? ⟨gb144, 6, none⟩ = some (.slice A0_6 l0_6.length c0_6) := (blk_cell BK144.out 6).trans rfl
      have hfz25_0 := blk_frozen BK144.out 0
      have hfz25_1 := blk_frozen BK144.out 1
      have hfz25_2 := blk_frozen BK144.out 2
      have hfz25_3 := blk_frozen BK144.out 3
      have hfz25_4 := blk_frozen BK144.out 4
      have hfz25_5 := blk_frozen BK144.out 5
      have hfz25_6 := blk_frozen BK144.out 6
      go_wp2
      go_loopg [3, 5] k2 (fun kq v3 v5 w' => ∃ (x3_3 : Bool) (x5_3 : Int), v3 = .bool x3_3 ∧ v5 = .int .i64 x5_3 ∧ Aside0 (greenwoodref23_Check.l1 kq x3_3 x5_3 a0_0 a0_1 l0_2 l0_3 l0_4 l0_5 l0_6 = some r) ∧ Aside0 (kq ≤ k2) ∧ Aside0 (w'.heap[gb144]? = some (.cells #[.int .i64 a0_0, .bool a0_1, (.slice A0_2 l0_2.length c0_2), (.slice A0_3 l0_3.length c0_3), (.slice A0_4 l0_4.length c0_4), (.slice A0_5 l0_5.length c0_5), (.slice A0_6 l0_6.length c0_6)] 27 (0, 0))) ∧ Aside0 (Below w.heap.size w w'))
      case atStart => exact ⟨(x3_2), (0), (by first | rfl | (simp; done) | (simp [*]; done)), (by first | rfl | (simp; done) | (simp [*]; done)), H', ⟨Nat.le_refl _⟩, ⟨by (with_reducible repeat (first | refine blk_drewN ?_ _ | refine blk_drew ?_ | refine blk_alloc ?_ _)); exact BK144.out⟩, ⟨by repeat (first | (with_reducible first | exact HB.out | apply below_alloc | apply pw_below_drewN | apply below_drew1 | refine below_set ?_ GE144.out) | exact HB.out)⟩⟩
      case round =>
       clear H'
       try clear c1
       try clear p1
       try clear q1
       try clear hx1
       try clear c2
       try clear p2
       try clear c4
       try clear c4b0
       try clear c5
       try clear c5b0
       try clear p6
       try clear c7
       try clear c9
       try clear c10
       try clear c10b0
       try clear c10b1
       try clear c11
       try clear c11b0
       try clear c11b1
       try clear c12
       try clear c14
       try clear p14
       try clear q14
       try clear hx14
       try clear c19
       try clear c19b0
       try clear c20
       try clear c21
       try clear c21b0
       try clear hcz12_0
       try clear hcz12_1
       try clear hcz12_2
       try clear hcz12_3
       try clear hcz12_4
       try clear hcz12_5
       try clear hcz12_6
       try clear hcz13_0
       try clear hcz13_1
       try clear hcz13_2
       try clear hcz13_3
       try clear hcz13_4
       try clear hcz13_5
       try clear hcz13_6
       try clear hcz14_0
       try clear hcz14_1
       try clear hcz14_2
       try clear hcz14_3
       try clear hcz14_4
       try clear hcz14_5
       try clear hcz14_6
       try clear hcz15_0
       try clear hcz15_1
       try clear hcz15_2
       try clear hcz15_3
       try clear hcz15_4
       try clear hcz15_5
       try clear hcz15_6
       try clear hcz16_0
       try clear hcz16_1
       try clear hcz16_2
       try clear hcz16_3
       try clear hcz16_4
       try clear hcz16_5
       try clear hcz16_6
       try clear hcz17_0
       try clear hcz17_1
       try clear hcz17_2
       try clear hcz17_3
       try clear hcz17_4
       try clear hcz17_5
       try clear hcz17_6
       try clear hcz18_0
       try clear hcz18_1
       try clear hcz18_2
       try clear hcz18_3
       try clear hcz18_4
       try clear hcz18_5
       try clear hcz18_6
       try clear hcz23_0
       try clear hcz23_1
       try clear hcz23_2
       try clear hcz23_3
       try clear hcz23_4
       try clear hcz23_5
       try clear hcz23_6
       try clear hcz24_0
       try clear hcz24_1
       try clear hcz24_2
       try clear hcz24_3
       try clear hcz24_4
       try clear hcz24_5
       try clear hcz24_6
       try clear hcz25_0
       try clear hcz25_1
       try clear hcz25_2
       try clear hcz25_3
       try clear hcz25_4
       try clear hcz25_5
       try clear hcz25_6
       try clear hfz12_0
       try clear hfz12_1
       try clear hfz12_2
       try clear hfz12_3
       try clear hfz12_4
       try clear hfz12_5
       try clear hfz12_6
       try clear hfz13_0
       try clear hfz13_1
       try clear hfz13_2
       try clear hfz13_3
       try clear hfz13_4
       try clear hfz13_5
       try clear hfz13_6
       try clear hfz14_0
       try clear hfz14_1
       try clear hfz14_2
       try clear hfz14_3
       try clear hfz14_4
       try clear hfz14_5
       try clear hfz14_6
       try clear hfz15_0
       try clear hfz15_1
       try clear hfz15_2
       try clear hfz15_3
       try clear hfz15_4
       try clear hfz15_5
       try clear hfz15_6
       try clear hfz16_0
       try clear hfz16_1
       try clear hfz16_2
       try clear hfz16_3
       try clear hfz16_4
       try clear hfz16_5
       try clear hfz16_6
       try clear hfz17_0
       try clear hfz17_1
       try clear hfz17_2
       try clear hfz17_3
       try clear hfz17_4
       try clear hfz17_5
       try clear hfz17_6
       try clear hfz18_0
       try clear hfz18_1
       try clear hfz18_2
       try clear hfz18_3
       try clear hfz18_4
       try clear hfz18_5
       try clear hfz18_6
       try clear hfz23_0
       try clear hfz23_1
       try clear hfz23_2
       try clear hfz23_3
       try clear hfz23_4
       try clear hfz23_5
       try clear hfz23_6
       try clear hfz24_0
       try clear hfz24_1
       try clear hfz24_2
       try clear hfz24_3
       try clear hfz24_4
       try clear hfz24_5
       try clear hfz24_6
       try clear hfz25_0
       try clear hfz25_1
       try clear hfz25_2
       try clear hfz25_3
       try clear hfz25_4
       try clear hfz25_5
       try clear hfz25_6
       try clear hx147_0
       try clear p147
       try clear p2
       try clear q147
       obtain ⟨x3_3, x5_3, rfl, rfl, HA, HK3, BK144, HB⟩ := hrel
       cases gk with
       | zero => exact absurd HA.out (by simp [greenwoodref23_Check.l1])
       | succ k3 =>
        have H := HA.out
        clear HA
        simp only [greenwoodref23_Check.l1] at H
        by_cases c26 : x5_3 < (l0_5.length : Int)
        ·rw [if_pos c26] at H
         have c26b0 : decide (x5_3 < (l0_5.length : Int)) = true := decide_eq_true c26
         clear c26
         by_cases c27 : x3_3 = true
         ·subst c27
          have H1 : (if 0 ≤ x5_3 then ((greenwoodref23_few.f k3 ((rd_T41 l0_5 x5_3).f0)).bind fun t150 => (if t150 = true then ((greenwoodref23_few.f k3 ((rd_T41 l0_5 x5_3).f1)).bind fun t152 => (if t152 = true then ((greenwoodref23_few.f k3 ((rd_T41 l0_5 x5_3).f2)).bind fun t154 => (greenwoodref23_Check.l1 k3 t154 (wrap64 (x5_3 + 1)) a0_0 a0_1 l0_2 l0_3 l0_4 l0_5 l0_6)) else (greenwoodref23_Check.l1 k3 false (wrap64 (x5_3 + 1)) a0_0 a0_1 l0_2 l0_3 l0_4 l0_5 l0_6))) else (greenwoodref23_Check.l1 k3 false (wrap64 (x5_3 + 1)) a0_0 a0_1 l0_2 l0_3 l0_4 l0_5 l0_6))) else (none)) = some r := by rw [if_pos rfl] at H; exact H
          clear H
          have H := H1
          clear H1
          by_cases c28 : 0 ≤ x5_3
          ·rw [if_pos c28] at H
           have c28b0 : decide (0 ≤ x5_3) = true := decide_eq_true c28
           clear c28
           replace H := Option.bind_eq_some_iff.mp H
           obtain ⟨t150, A290, H⟩ := H
           replace H : (if t150 = true then ((greenwoodref23_few.f k3 ((rd_T41 l0_5 x5_3).f1)).bind fun t152 => (if t152 = true then ((greenwoodref23_few.f k3 ((rd_T41 l0_5 x5_3).f2)).bind fun t154 => (greenwoodref23_Check.l1 k3 t154 (wrap64 (x5_3 + 1)) a0_0 a0_1 l0_2 l0_3 l0_4 l0_5 l0_6)) else (greenwoodref23_Check.l1 k3 false (wrap64 (x5_3 + 1)) a0_0 a0_1 l0_2 l0_3 l0_4 l0_5 l0_6))) else (greenwoodref23_Check.l1 k3 false (wrap64 (x5_3 + 1)) a0_0 a0_1 l0_2 l0_3 l0_4 l0_5 l0_6)) = some r := H
           have A29 := Aside0.mk A290
           clear A290
           by_cases c30 : t150 = true
           ·subst c30
            have H1 : ((greenwoodref23_few.f k3 ((rd_T41 l0_5 x5_3).f1)).bind fun t152 => (if t152 = true then ((greenwoodref23_few.f k3 ((rd_T41 l0_5 x5_3).f2)).bind fun t154 => (greenwoodref23_Check.l1 k3 t154 (wrap64 (x5_3 + 1)) a0_0 a0_1 l0_2 l0_3 l0_4 l0_5 l0_6)) else (greenwoodref23_Check.l1 k3 false (wrap64 (x5_3 + 1)) a0_0 a0_1 l0_2 l0_3 l0_4 l0_5 l0_6))) = some r := by rw [if_pos rfl] at H; exact H
            clear H
            have H := H1
            clear H1
            replace H := Option.bind_eq_some_iff.mp H
            obtain ⟨t152, A310, H⟩ := H
            replace H : (if t152 = true then ((greenwoodref23_few.f k3 ((rd_T41 l0_5 x5_3).f2)).bind fun t154 => (greenwoodref23_Check.l1 k3 t154 (wrap64 (x5_3 + 1)) a0_0 a0_1 l0_2 l0_3 l0_4 l0_5 l0_6)) else (greenwoodref23_Check.l1 k3 false (wrap64 (x5_3 + 1)) a0_0 a0_1 l0_2 l0_3 l0_4 l0_5 l0_6)) = some r := H
            have A31 := Aside0.mk A310
            clear A310
            by_cases c32 : t152 = true
            ·subst c32
             have H1 : ((greenwoodref23_few.f k3 ((rd_T41 l0_5 x5_3).f2)).bind fun t154 => (greenwoodref23_Check.l1 k3 t154 (wrap64 (x5_3 + 1)) a0_0 a0_1 l0_2 l0_3 l0_4 l0_5 l0_6)) = some r := by rw [if_pos rfl] at H; exact H
             clear H
             have H := H1
             clear H1
             replace H := Option.bind_eq_some_iff.mp H
             obtain ⟨t154, A330, H⟩ := H
             replace H : (greenwoodref23_Check.l1 k3 t154 (wrap64 (x5_3 + 1)) a0_0 a0_1 l0_2 l0_3 l0_4 l0_5 l0_6) = some r := H
             have A33 := Aside0.mk A330
             clear A330
             have H' := Aside0.mk H
             clear H
             have hcz34_0 : wr.cell? ⟨gb144, 0, none⟩ = some (.int .i64 a0_0) := (blk_cell BK144.out 0).trans rfl
             have hcz34_1 : wr.cell? ⟨gb144, 1, none⟩ = some (.bool a0_1) := (blk_cell BK144.out 1).trans rfl
             have hcz34_2 : wr.cell? ⟨gb144, 2, none⟩ = some (.slice A0_2 l0_2.length c0_2) := (blk_cell BK144.out 2).trans rfl
             have hcz34_3 : wr.cell? ⟨gb144, 3, none⟩ = some (.slice A0_3 l0_3.length c0_3) := (blk_cell BK144.out 3).trans rfl
             have hcz34_4 : wr.cell? ⟨gb144, 4, none⟩ = some (.slice A0_4 l0_4.length c0_4) := (blk_cell BK144.out 4).trans rfl
             have hcz34_5 : wr.cell? ⟨gb144, 5, none⟩ = some (.slice A0_5 l0_5.length c0_5) := (blk_cell BK144.out 5).trans rfl
             have hcz34_6 : wr.cell? ⟨gb144, 6, none⟩ = some (.slice A0_6 l0_6.length c0_6) := (blk_cell BK144.out 6).trans rfl
             have hfz34_0 := blk_frozen BK144.out 0
             have hfz34_1 := blk_frozen BK144.out 1
             have hfz34_2 := blk_frozen BK144.out 2
             have hfz34_3 := blk_frozen BK144.out 3
             have hfz34_4 := blk_frozen BK144.out 4
             have hfz34_5 := blk_frozen BK144.out 5
             have hfz34_6 := blk_frozen BK144.out 6
             have p149 : 0 ≤ (x5_3 : Int) := of_decide_eq_true (by first | (with_reducible assumption) | assumption)
             have q149 : x5_3 < (l0_5.length : Int) := of_decide_eq_true (by first | (with_reducible assumption) | assumption)
             obtain ⟨ad149, A149_0, c149_0, A149_1, c149_1, A149_2, c149_2, e149, hx149_0, hx149_1, hx149_2, hl149_0, hi149_0, hl149_1, hi149_1, hl149_2, hi149_2⟩ := at_T41 HR0_5.out x5_3 p149 q149
             cases e149
             replace hx149_0 := (HB.out.cell (World.block_lt_of_cell? w _ hx149_0)).trans hx149_0
             replace hx149_1 := (HB.out.cell (World.block_lt_of_cell? w _ hx149_1)).trans hx149_1
             replace hx149_2 := (HB.out.cell (World.block_lt_of_cell? w _ hx149_2)).trans hx149_2
             have HR149_0 := Aside0.mk hi149_0
             have HC149_0 := Aside0.mk hl149_0
             clear hi149_0 hl149_0
             have HR149_1 := Aside0.mk hi149_1
             have HC149_1 := Aside0.mk hl149_1
             clear hi149_1 hl149_1
             have HR149_2 := Aside0.mk hi149_2
             have HC149_2 := Aside0.mk hl149_2
             clear hi149_2 hl149_2
             replace p149 := eq_true p149
             replace q149 := eq_true q149
             go_wp2_with (first | (go_at_call 27; (with_reducible refine (greenwoodref23_few.calls k3 _ _ ((rd_T41 l0_5 x5_3).f0) true _ ?side1 ?side2 A29.out).mono ?_); (case side1 => repeat (first | exact (Kd.C_below HR149_0.out HB.out) | (with_reducible refine Kd.C_alloc ?_ _) | (with_reducible refine Kd.C_drewN ?_ _) | (with_reducible refine Kd.C_drew ?_))); (case side2 => exact HC149_0.out); rintro e w' ⟨rfl, ⟨nd, rfl⟩⟩; have p151 : 0 ≤ (x5_3 : Int) := of_decide_eq_true (by first | (with_reducible assumption) | assumption); have q151 : x5_3 < (l0_5.length : Int) := of_decide_eq_true (by first | (with_reducible assumption) | assumption); obtain ⟨ad151, A151_0, c151_0, A151_1, c151_1, A151_2, c151_2, e151, hx151_0, hx151_1, hx151_2, hl151_0, hi151_0, hl151_1, hi151_1, hl151_2, hi151_2⟩ := at_T41 HR0_5.out x5_3 p151 q151; obtain rfl : ad149 = ad151 := (by injection e151); replace hx151_0 := (HB.out.cell (World.block_lt_of_cell? w _ hx151_0)).trans hx151_0; replace hx151_1 := (HB.out.cell (World.block_lt_of_cell? w _ hx151_1)).trans hx151_1; replace hx151_2 := (HB.out.cell (World.block_lt_of_cell? w _ hx151_2)).trans hx151_2; have HR151_0 := Aside0.mk hi151_0; have HC151_0 := Aside0.mk hl151_0; clear hi151_0 hl151_0; have HR151_1 := Aside0.mk hi151_1; have HC151_1 := Aside0.mk hl151_1; clear hi151_1 hl151_1; have HR151_2 := Aside0.mk hi151_2; have HC151_2 := Aside0.mk hl151_2; clear hi151_2 hl151_2; replace p151 := eq_true p151; replace q151 := eq_true q151; have ea_ := Option.some.inj (hx149_0.symm.trans hx151_0); injection ea_ with ea_ en_ ec_; subst ea_; subst ec_; clear en_; have ea_ := Option.some.inj (hx149_1.symm.trans hx151_1); injection ea_ with ea_ en_ ec_; subst ea_; subst ec_; clear en_; have ea_ := Option.some.inj (hx149_2.symm.trans hx151_2); injection ea_ with ea_ en_ ec_; subst ea_; subst ec_; clear en_) | (go_at_call 27; (with_reducible refine (greenwoodref23_few.calls k3 _ _ ((rd_T41 l0_5 x5_3).f1) true _ ?side1 ?side2 A31.out).mono ?_); (case side1 => repeat (first | exact (Kd.C_below HR151_1.out (by repeat (first | (with_reducible first | exact HB.out | apply below_alloc | apply pw_below_drewN | apply below_drew1 | refine below_set ?_ GE144.out) | exact HB.out))) | (with_reducible refine Kd.C_alloc ?_ _) | (with_reducible refine Kd.C_drewN ?_ _) | (with_reducible refine Kd.C_drew ?_))); (case side2 => exact HC151_1.out); rintro e w' ⟨rfl, ⟨nd, rfl⟩⟩; have p153 : 0 ≤ (x5_3 : Int) := of_decide_eq_true (by first | (with_reducible assumption) | assumption); have q153 : x5_3 < (l0_5.length : Int) := of_decide_eq_true (by first | (with_reducible assumption) | assumption); obtain ⟨ad153, A153_0, c153_0, A153_1, c153_1, A153_2, c153_2, e153, hx153_0, hx153_1, hx153_2, hl153_0, hi153_0, hl153_1, hi153_1, hl153_2, hi153_2⟩ := at_T41 HR0_5.out x5_3 p153 q153; obtain rfl : ad149 = ad153 := (by injection e153); replace hx153_0 := (HB.out.cell (World.block_lt_of_cell? w _ hx153_0)).trans hx153_0; replace hx153_1 := (HB.out.cell (World.block_lt_of_cell? w _ hx153_1)).trans hx153_1; replace hx153_2 := (HB.out.cell (World.block_lt_of_cell? w _ hx153_2)).trans hx153_2; have HR153_0 := Aside0.mk hi153_0; have HC153_0 := Aside0.mk hl153_0; clear hi153_0 hl153_0; have HR153_1 := Aside0.mk hi153_1; have HC153_1 := Aside0.mk hl153_1; clear hi153_1 hl153_1; have HR153_2 := Aside0.mk hi153_2; have HC153_2 := Aside0.mk hl153_2; clear hi153_2 hl153_2; replace p153 := eq_true p153; replace q153 := eq_true q153; have ea_ := Option.some.inj (hx149_0.symm.trans hx153_0); injection ea_ with ea_ en_ ec_; subst ea_; subst ec_; clear en_; have ea_ := Option.some.inj (hx149_1.symm.trans hx153_1); injection ea_ with ea_ en_ ec_; subst ea_; subst ec_; clear en_; have ea_ := Option.some.inj (hx149_2.symm.trans hx153_2); injection ea_ with ea_ en_ ec_; subst ea_; subst ec_; clear en_) | (go_at_call 27; (with_reducible refine (greenwoodref23_few.calls k3 _ _ ((rd_T41 l0_5 x5_3).f2) t154 _ ?side1 ?side2 A33.out).mono ?_); (case side1 => repeat (first | exact (Kd.C_below HR153_2.out (by repeat (first | (with_reducible first | exact HB.out | apply below_alloc | apply pw_below_drewN | apply below_drew1 | refine below_set ?_ GE144.out) | exact HB.out))) | (with_reducible refine Kd.C_alloc ?_ _) | (with_reducible refine Kd.C_drewN ?_ _) | (with_reducible refine Kd.C_drew ?_))); (case side2 => exact HC153_2.out); rintro e w' ⟨rfl, ⟨nd, rfl⟩⟩))
             go_roundg k3
             case measure => have := HJ1.out; have := HK2.out; have := HK3.out; omega
             case rel => exact ⟨(t154), (wrap64 (x5_3 + 1)), (by first | rfl | (simp; done) | (simp [*]; done)), (by first | rfl | (simp; done) | (simp [*]; done)), H', ⟨by have := HJ1.out; have := HK2.out; have := HK3.out; omega⟩, ⟨by (with_reducible repeat (first | refine blk_drewN ?_ _ | refine blk_drew ?_ | refine blk_alloc ?_ _)); exact BK144.out⟩, ⟨by repeat (first | (with_reducible first | exact HB.out | apply below_alloc | apply pw_below_drewN | apply below_drew1 | refine below_set ?_ GE144.out) | exact HB.out)⟩⟩
            ·replace c32 := Bool.eq_false_iff.mpr c32
             subst c32
             have H1 : (greenwoodref23_Check.l1 k3 false (wrap64 (x5_3 + 1)) a0_0 a0_1 l0_2 l0_3 l0_4 l0_5 l0_6) = some r := by rw [if_neg (show ¬ (false = true) by decide)] at H; exact H
             clear H
             have H := H1
             clear H1
             have H' := Aside0.mk H
             clear H
             have hcz35_0 : wr.cell? ⟨gb144, 0, none⟩ = some (.int .i64 a0_0) := (blk_cell BK144.out 0).trans rfl
             have hcz35_1 : wr.cell? ⟨gb144, 1, none⟩ = some (.bool a0_1) := (blk_cell BK144.out 1).trans rfl
             have hcz35_2 : wr.cell? ⟨gb144, 2, none⟩ = some (.slice A0_2 l0_2.length c0_2) := (blk_cell BK144.out 2).trans rfl
             have hcz35_3 : wr.cell? ⟨gb144, 3, none⟩ = some (.slice A0_3 l0_3.length c0_3) := (blk_cell BK144.out 3).trans rfl
             have hcz35_4 : wr.cell? ⟨gb144, 4, none⟩ = some (.slice A0_4 l0_4.length c0_4) := (blk_cell BK144.out 4).trans rfl
             have hcz35_5 : wr.cell? ⟨gb144, 5, none⟩ = some (.slice A0_5 l0_5.length c0_5) := (blk_cell BK144.out 5).trans rfl
             have hcz35_6 : wr.cell? ⟨gb144, 6, none⟩ = some (.slice A0_6 l0_6.length c0_6) := (blk_cell BK144.out 6).trans rfl
             have hfz35_0 := blk_frozen BK144.out 0
             have hfz35_1 := blk_frozen BK144.out 1
             have hfz35_2 := blk_frozen BK144.out 2
             have hfz35_3 := blk_frozen BK144.out 3
             have hfz35_4 := blk_frozen BK144.out 4
             have hfz35_5 := blk_frozen BK144.out 5
             have hfz35_6 := blk_frozen BK144.out 6
             have p149 : 0 ≤ (x5_3 : Int) := of_decide_eq_true (by first | (with_reducible assumption) | assumption)
             have q149 : x5_3 < (l0_5.length : Int) := of_decide_eq_true (by first | (with_reducible assumption) | assumption)
             obtain ⟨ad149, A149_0, c149_0, A149_1, c149_1, A149_2, c149_2, e149, hx149_0, hx149_1, hx149_2, hl149_0, hi149_0, hl149_1, hi149_1, hl149_2, hi149_2⟩ := at_T41 HR0_5.out x5_3 p149 q149
             cases e149
             replace hx149_0 := (HB.out.cell (World.block_lt_of_cell? w _ hx149_0)).trans hx149_0
             replace hx149_1 := (HB.out.cell (World.block_lt_of_cell? w _ hx149_1)).trans hx149_1
             replace hx149_2 := (HB.out.cell (World.block_lt_of_cell? w _ hx149_2)).trans hx149_2
             have HR149_0 := Aside0.mk hi149_0
             have HC149_0 := Aside0.mk hl149_0
             clear hi149_0 hl149_0
             have HR149_1 := Aside0.mk hi149_1
             have HC149_1 := Aside0.mk hl149_1
             clear hi149_1 hl149_1
             have HR149_2 := Aside0.mk hi149_2
             have HC149_2 := Aside0.mk hl149_2
             clear hi149_2 hl149_2
             replace p149 := eq_true p149
             replace q149 := eq_true q149
             go_wp2_with (first | (go_at_call 27; (with_reducible refine (greenwoodref23_few.calls k3 _ _ ((rd_T41 l0_5 x5_3).f0) true _ ?side1 ?side2 A29.out).mono ?_); (case side1 => repeat (first | exact (Kd.C_below HR149_0.out HB.out) | (with_reducible refine Kd.C_alloc ?_ _) | (with_reducible refine Kd.C_drewN ?_ _) | (with_reducible refine Kd.C_drew ?_))); (case side2 => exact HC149_0.out); rintro e w' ⟨rfl, ⟨nd, rfl⟩⟩; have p151 : 0 ≤ (x5_3 : Int) := of_decide_eq_true (by first | (with_reducible assumption) | assumption); have q151 : x5_3 < (l0_5.length : Int) := of_decide_eq_true (by first | (with_reducible assumption) | assumption); obtain ⟨ad151, A151_0, c151_0, A151_1, c151_1, A151_2, c151_2, e151, hx151_0, hx151_1, hx151_2, hl151_0, hi151_0, hl151_1, hi151_1, hl151_2, hi151_2⟩ := at_T41 HR0_5.out x5_3 p151 q151; obtain rfl : ad149 = ad151 := (by injection e151); replace hx151_0 := (HB.out.cell (World.block_lt_of_cell? w _ hx151_0)).trans hx151_0; replace hx151_1 := (HB.out.cell (World.block_lt_of_cell? w _ hx151_1)).trans hx151_1; replace hx151_2 := (HB.out.cell (World.block_lt_of_cell? w _ hx151_2)).trans hx151_2; have HR151_0 := Aside0.mk hi151_0; have HC151_0 := Aside0.mk hl151_0; clear hi151_0 hl151_0; have HR151_1 := Aside0.mk hi151_1; have HC151_1 := Aside0.mk hl151_1; clear hi151_1 hl151_1; have HR151_2 := Aside0.mk hi151_2; have HC151_2 := Aside0.mk hl151_2; clear hi151_2 hl151_2; replace p151 := eq_true p151; replace q151 := eq_true q151; have ea_ := Option.some.inj (hx149_0.symm.trans hx151_0); injection ea_ with ea_ en_ ec_; subst ea_; subst ec_; clear en_; have ea_ := Option.some.inj (hx149_1.symm.trans hx151_1); injection ea_ with ea_ en_ ec_; subst ea_; subst ec_; clear en_; have ea_ := Option.some.inj (hx149_2.symm.trans hx151_2); injection ea_ with ea_ en_ ec_; subst ea_; subst ec_; clear en_) | (go_at_call 27; (with_reducible refine (greenwoodref23_few.calls k3 _ _ ((rd_T41 l0_5 x5_3).f1) false _ ?side1 ?side2 A31.out).mono ?_); (case side1 => repeat (first | exact (Kd.C_below HR151_1.out (by repeat (first | (with_reducible first | exact HB.out | apply below_alloc | apply pw_below_drewN | apply below_drew1 | refine below_set ?_ GE144.out) | exact HB.out))) | (with_reducible refine Kd.C_alloc ?_ _) | (with_reducible refine Kd.C_drewN ?_ _) | (with_reducible refine Kd.C_drew ?_))); (case side2 => exact HC151_1.out); rintro e w' ⟨rfl, ⟨nd, rfl⟩⟩))
             go_roundg k3
             case measure => have := HJ1.out; have := HK2.out; have := HK3.out; omega
             case rel => exact ⟨(false), (wrap64 (x5_3 + 1)), (by first | rfl | (simp; done) | (simp [*]; done)), (by first | rfl | (simp; done) | (simp [*]; done)), H', ⟨by have := HJ1.out; have := HK2.out; have := HK3.out; omega⟩, ⟨by (with_reducible repeat (first | refine blk_drewN ?_ _ | refine blk_drew ?_ | refine blk_alloc ?_ _)); exact BK144.out⟩, ⟨by repeat (first | (with_reducible first | exact HB.out | apply below_alloc | apply pw_below_drewN | apply below_drew1 | refine below_set ?_ GE144.out) | exact HB.out)⟩⟩
           ·replace c30 := Bool.eq_false_iff.mpr c30
            subst c30
            have H1 : (greenwoodref23_Check.l1 k3 false (wrap64 (x5_3 + 1)) a0_0 a0_1 l0_2 l0_3 l0_4 l0_5 l0_6) = some r := by rw [if_neg (show ¬ (false = true) by decide)] at H; exact H
            clear H
            have H := H1
            clear H1
            have H' := Aside0.mk H
            clear H
            have hcz36_0 : wr.cell? ⟨gb144, 0, none⟩ = some (.int .i64 a0_0) := (blk_cell BK144.out 0).trans rfl
            have hcz36_1 : wr.cell? ⟨gb144, 1, none⟩ = some (.bool a0_1) := (blk_cell BK144.out 1).trans rfl
            have hcz36_2 : wr.cell? ⟨gb144, 2, none⟩ = some (.slice A0_2 l0_2.length c0_2) := (blk_cell BK144.out 2).trans rfl
            have hcz36_3 : wr.cell? ⟨gb144, 3, none⟩ = some (.slice A0_3 l0_3.length c0_3) := (blk_cell BK144.out 3).trans rfl
            have hcz36_4 : wr.cell? ⟨gb144, 4, none⟩ = some (.slice A0_4 l0_4.length c0_4) := (blk_cell BK144.out 4).trans rfl
            have hcz36_5 : wr.cell? ⟨gb144, 5, none⟩ = some (.slice A0_5 l0_5.length c0_5) := (blk_cell BK144.out 5).trans rfl
            have hcz36_6 : wr.cell? ⟨gb144, 6, none⟩ = some (.slice A0_6 l0_6.length c0_6) := (blk_cell BK144.out 6).trans rfl
            have hfz36_0 := blk_frozen BK144.out 0
            have hfz36_1 := blk_frozen BK144.out 1
            have hfz36_2 := blk_frozen BK144.out 2
            have hfz36_3 := blk_frozen BK144.out 3
            have hfz36_4 := blk_frozen BK144.out 4
            have hfz36_5 := blk_frozen BK144.out 5
            have hfz36_6 := blk_frozen BK144.out 6
            have p149 : 0 ≤ (x5_3 : Int) := of_decide_eq_true (by first | (with_reducible assumption) | assumption)
            have q149 : x5_3 < (l0_5.length : Int) := of_decide_eq_true (by first | (with_reducible assumption) | assumption)
            obtain ⟨ad149, A149_0, c149_0, A149_1, c149_1, A149_2, c149_2, e149, hx149_0, hx149_1, hx149_2, hl149_0, hi149_0, hl149_1, hi149_1, hl149_2, hi149_2⟩ := at_T41 HR0_5.out x5_3 p149 q149
            cases e149
            replace hx149_0 := (HB.out.cell (World.block_lt_of_cell? w _ hx149_0)).trans hx149_0
            replace hx149_1 := (HB.out.cell (World.block_lt_of_cell? w _ hx149_1)).trans hx149_1
            replace hx149_2 := (HB.out.cell (World.block_lt_of_cell? w _ hx149_2)).trans hx149_2
            have HR149_0 := Aside0.mk hi149_0
            have HC149_0 := Aside0.mk hl149_0
            clear hi149_0 hl149_0
            have HR149_1 := Aside0.mk hi149_1
            have HC149_1 := Aside0.mk hl149_1
            clear hi149_1 hl149_1
            have HR149_2 := Aside0.mk hi149_2
            have HC149_2 := Aside0.mk hl149_2
            clear hi149_2 hl149_2
            replace p149 := eq_true p149
            replace q149 := eq_true q149
            go_wp2_with (first | (go_at_call 27; (with_reducible refine (greenwoodref23_few.calls k3 _ _ ((rd_T41 l0_5 x5_3).f0) false _ ?side1 ?side2 A29.out).mono ?_); (case side1 => repeat (first | exact (Kd.C_below HR149_0.out HB.out) | (with_reducible refine Kd.C_alloc ?_ _) | (with_reducible refine Kd.C_drewN ?_ _) | (with_reducible refine Kd.C_drew ?_))); (case side2 => exact HC149_0.out); rintro e w' ⟨rfl, ⟨nd, rfl⟩⟩))
            go_roundg k3
            case measure => have := HJ1.out; have := HK2.out; have := HK3.out; omega
            case rel => exact ⟨(false), (wrap64 (x5_3 + 1)), (by first | rfl | (simp; done) | (simp [*]; done)), (by first | rfl | (simp; done) | (simp [*]; done)), H', ⟨by have := HJ1.out; have := HK2.out; have := HK3.out; omega⟩, ⟨by (with_reducible repeat (first | refine blk_drewN ?_ _ | refine blk_drew ?_ | refine blk_alloc ?_ _)); exact BK144.out⟩, ⟨by repeat (first | (with_reducible first | exact HB.out | apply below_alloc | apply pw_below_drewN | apply below_drew1 | refine below_set ?_ GE144.out) | exact HB.out)⟩⟩
          ·rw [if_neg c28] at H
           exact absurd H (by simp)
         ·replace c27 := Bool.eq_false_iff.mpr c27
          subst c27
          have H1 : (greenwoodref23_Check.l1 k3 false (wrap64 (x5_3 + 1)) a0_0 a0_1 l0_2 l0_3 l0_4 l0_5 l0_6) = some r := by rw [if_neg (show ¬ (false = true) by decide)] at H; exact H
          clear H
          have H := H1
          clear H1
          have H' := Aside0.mk H
          clear H
          have hcz37_0 : wr.cell? ⟨gb144, 0, none⟩ = some (.int .i64 a0_0) := (blk_cell BK144.out 0).trans rfl
          have hcz37_1 : wr.cell? ⟨gb144, 1, none⟩ = some (.bool a0_1) := (blk_cell BK144.out 1).trans rfl
          have hcz37_2 : wr.cell? ⟨gb144, 2, none⟩ = some (.slice A0_2 l0_2.length c0_2) := (blk_cell BK144.out 2).trans rfl
          have hcz37_3 : wr.cell? ⟨gb144, 3, none⟩ = some (.slice A0_3 l0_3.length c0_3) := (blk_cell BK144.out 3).trans rfl
          have hcz37_4 : wr.cell? ⟨gb144, 4, none⟩ = some (.slice A0_4 l0_4.length c0_4) := (blk_cell BK144.out 4).trans rfl
          have hcz37_5 : wr.cell? ⟨gb144, 5, none⟩ = some (.slice A0_5 l0_5.length c0_5) := (blk_cell BK144.out 5).trans rfl
          have hcz37_6 : wr.cell? ⟨gb144, 6, none⟩ = some (.slice A0_6 l0_6.length c0_6) := (blk_cell BK144.out 6).trans rfl
          have hfz37_0 := blk_frozen BK144.out 0
          have hfz37_1 := blk_frozen BK144.out 1
          have hfz37_2 := blk_frozen BK144.out 2
          have hfz37_3 := blk_frozen BK144.out 3
          have hfz37_4 := blk_frozen BK144.out 4
          have hfz37_5 := blk_frozen BK144.out 5
          have hfz37_6 := blk_frozen BK144.out 6
          go_wp2
          go_roundg k3
          case measure => have := HJ1.out; have := HK2.out; have := HK3.out; omega
          case rel => exact ⟨(false), (wrap64 (x5_3 + 1)), (by first | rfl | (simp; done) | (simp [*]; done)), (by first | rfl | (simp; done) | (simp [*]; done)), H', ⟨by have := HJ1.out; have := HK2.out; have := HK3.out; omega⟩, ⟨by (with_reducible repeat (first | refine blk_drewN ?_ _ | refine blk_drew ?_ | refine blk_alloc ?_ _)); exact BK144.out⟩, ⟨by repeat (first | (with_reducible first | exact HB.out | apply below_alloc | apply pw_below_drewN | apply below_drew1 | refine below_set ?_ GE144.out) | exact HB.out)⟩⟩
        ·rw [if_neg c26] at H
         have c26b0 : decide (x5_3 < (l0_5.length : Int)) = false := decide_eq_false c26
         clear c26
         have H' := Aside0.mk H
         clear H
         have hcz38_0 : wr.cell? ⟨gb144, 0, none⟩ = some (.int .i64 a0_0) := (blk_cell BK144.out 0).trans rfl
         have hcz38_1 : wr.cell? ⟨gb144, 1, none⟩ = some (.bool a0_1) := (blk_cell BK144.out 1).trans rfl
         have hcz38_2 : wr.cell? ⟨gb144, 2, none⟩ = some (.slice A0_2 l0_2.length c0_2) := (blk_cell BK144.out 2).trans rfl
         have hcz38_3 : wr.cell? ⟨gb144, 3, none⟩ = some (.slice A0_3 l0_3.length c0_3) := (blk_cell BK144.out 3).trans rfl
         have hcz38_4 : wr.cell? ⟨gb144, 4, none⟩ = some (.slice A0_4 l0_4.length c0_4) := (blk_cell BK144.out 4).trans rfl
         have hcz38_5 : wr.cell? ⟨gb144, 5, none⟩ = some (.slice A0_5 l0_5.length c0_5) := (blk_cell BK144.out 5).trans rfl
         have hcz38_6 : wr.cell? ⟨gb144, 6, none⟩ = some (.slice A0_6 l0_6.length c0_6) := (blk_cell BK144.out 6).trans rfl
         have hfz38_0 := blk_frozen BK144.out 0
         have hfz38_1 := blk_frozen BK144.out 1
         have hfz38_2 := blk_frozen BK144.out 2
         have hfz38_3 := blk_frozen BK144.out 3
         have hfz38_4 := blk_frozen BK144.out 4
         have hfz38_5 := blk_frozen BK144.out 5
         have hfz38_6 := blk_frozen BK144.out 6
         go_wp2
         go_loopg [3, 6] k3 (fun kq v3 v6 w' => ∃ (x3_4 : Bool) (x6_4 : Int), v3 = .bool x3_4 ∧ v6 = .int .i64 x6_4 ∧ Aside0 (greenwoodref23_Check.l2 kq x3_4 x6_4 a0_0 a0_1 l0_2 l0_3 l0_4 l0_5 l0_6 = some r) ∧ Aside0 (kq ≤ k3) ∧ Aside0 (w'.heap[gb144]? = some (.cells #[.int .i64 a0_0, .bool a0_1, (.slice A0_2 l0_2.length c0_2), (.slice A0_3 l0_3.length c0_3), (.slice A0_4 l0_4.length c0_4), (.slice A0_5 l0_5.length c0_5), (.slice A0_6 l0_6.length c0_6)] 27 (0, 0))) ∧ Aside0 (Below w.heap.size w w'))
         case atStart => exact ⟨(x3_3), (0), (by first | rfl | (simp; done) | (simp [*]; done)), (by first | rfl | (simp; done) | (simp [*]; done)), H', ⟨Nat.le_refl _⟩, ⟨by (with_reducible repeat (first | refine blk_drewN ?_ _ | refine blk_drew ?_ | refine blk_alloc ?_ _)); exact BK144.out⟩, ⟨by repeat (first | (with_reducible first | exact HB.out | apply below_alloc | apply pw_below_drewN | apply below_drew1 | refine below_set ?_ GE144.out) | exact HB.out)⟩⟩
         case round =>
          clear H'
          try clear c1
          try clear p1
          try clear q1
          try clear hx1
          try clear c2
          try clear p2
          try clear c3
          try clear c4
          try clear c4b0
          try clear c5
          try clear c5b0
          try clear p6
          try clear c7
          try clear c9
          try clear c10
          try clear c10b0
          try clear c10b1
          try clear c11
          try clear c11b0
          try clear c11b1
          try clear c12
          try clear c14
          try clear p14
          try clear q14
          try clear hx14
          try clear c15
          try clear p15
          try clear q15
          try clear hx15
          try clear c19
          try clear c19b0
          try clear c20
          try clear c21
          try clear c21b0
          try clear c26
          try clear c26b0
          try clear c27
          try clear c28
          try clear c28b0
          try clear c30
          try clear c32
          try clear hcz12_0
          try clear hcz12_1
          try clear hcz12_2
          try clear hcz12_3
          try clear hcz12_4
          try clear hcz12_5
          try clear hcz12_6
          try clear hcz13_0
          try clear hcz13_1
          try clear hcz13_2
          try clear hcz13_3
          try clear hcz13_4
          try clear hcz13_5
          try clear hcz13_6
          try clear hcz14_0
          try clear hcz14_1
          try clear hcz14_2
          try clear hcz14_3
          try clear hcz14_4
          try clear hcz14_5
          try clear hcz14_6
          try clear hcz15_0
          try clear hcz15_1
          try clear hcz15_2
          try clear hcz15_3
          try clear hcz15_4
          try clear hcz15_5
          try clear hcz15_6
          try clear hcz16_0
          try clear hcz16_1
          try clear hcz16_2
          try clear hcz16_3
          try clear hcz16_4
          try clear hcz16_5
          try clear hcz16_6
          try clear hcz17_0
          try clear hcz17_1
          try clear hcz17_2
          try clear hcz17_3
          try clear hcz17_4
          try clear hcz17_5
          try clear hcz17_6
          try clear hcz18_0
          try clear hcz18_1
          try clear hcz18_2
          try clear hcz18_3
          try clear hcz18_4
          try clear hcz18_5
          try clear hcz18_6
          try clear hcz23_0
          try clear hcz23_1
          try clear hcz23_2
          try clear hcz23_3
          try clear hcz23_4
          try clear hcz23_5
          try clear hcz23_6
          try clear hcz24_0
          try clear hcz24_1
          try clear hcz24_2
          try clear hcz24_3
          try clear hcz24_4
          try clear hcz24_5
          try clear hcz24_6
          try clear hcz25_0
          try clear hcz25_1
          try clear hcz25_2
          try clear hcz25_3
          try clear hcz25_4
          try clear hcz25_5
          try clear hcz25_6
          try clear hcz34_0
          try clear hcz34_1
          try clear hcz34_2
          try clear hcz34_3
          try clear hcz34_4
          try clear hcz34_5
          try clear hcz34_6
          try clear hcz35_0
          try clear hcz35_1
          try clear hcz35_2
          try clear hcz35_3
          try clear hcz35_4
          try clear hcz35_5
          try clear hcz35_6
          try clear hcz36_0
          try clear hcz36_1
          try clear hcz36_2
          try clear hcz36_3
          try clear hcz36_4
          try clear hcz36_5
          try clear hcz36_6
          try clear hcz37_0
          try clear hcz37_1
          try clear hcz37_2
          try clear hcz37_3
          try clear hcz37_4
          try clear hcz37_5
          try clear hcz37_6
          try clear hcz38_0
          try clear hcz38_1
          try clear hcz38_2
          try clear hcz38_3
          try clear hcz38_4
          try clear hcz38_5
          try clear hcz38_6
          try clear hfz12_0
          try clear hfz12_1
          try clear hfz12_2
          try clear hfz12_3
          try clear hfz12_4
          try clear hfz12_5
          try clear hfz12_6
          try clear hfz13_0
          try clear hfz13_1
          try clear hfz13_2
          try clear hfz13_3
          try clear hfz13_4
          try clear hfz13_5
          try clear hfz13_6
          try clear hfz14_0
          try clear hfz14_1
          try clear hfz14_2
          try clear hfz14_3
          try clear hfz14_4
          try clear hfz14_5
          try clear hfz14_6
          try clear hfz15_0
          try clear hfz15_1
          try clear hfz15_2
          try clear hfz15_3
          try clear hfz15_4
          try clear hfz15_5
          try clear hfz15_6
          try clear hfz16_0
          try clear hfz16_1
          try clear hfz16_2
          try clear hfz16_3
          try clear hfz16_4
          try clear hfz16_5
          try clear hfz16_6
          try clear hfz17_0
          try clear hfz17_1
          try clear hfz17_2
          try clear hfz17_3
          try clear hfz17_4
          try clear hfz17_5
          try clear hfz17_6
          try clear hfz18_0
          try clear hfz18_1
          try clear hfz18_2
          try clear hfz18_3
          try clear hfz18_4
          try clear hfz18_5
          try clear hfz18_6
          try clear hfz23_0
          try clear hfz23_1
          try clear hfz23_2
          try clear hfz23_3
          try clear hfz23_4
          try clear hfz23_5
          try clear hfz23_6
          try clear hfz24_0
          try clear hfz24_1
          try clear hfz24_2
          try clear hfz24_3
          try clear hfz24_4
          try clear hfz24_5
          try clear hfz24_6
          try clear hfz25_0
          try clear hfz25_1
          try clear hfz25_2
          try clear hfz25_3
          try clear hfz25_4
          try clear hfz25_5
          try clear hfz25_6
          try clear hfz34_0
          try clear hfz34_1
          try clear hfz34_2
          try clear hfz34_3
          try clear hfz34_4
          try clear hfz34_5
          try clear hfz34_6
          try clear hfz35_0
          try clear hfz35_1
          try clear hfz35_2
          try clear hfz35_3
          try clear hfz35_4
          try clear hfz35_5
          try clear hfz35_6
          try clear hfz36_0
          try clear hfz36_1
          try clear hfz36_2
          try clear hfz36_3
          try clear hfz36_4
          try clear hfz36_5
          try clear hfz36_6
          try clear hfz37_0
          try clear hfz37_1
          try clear hfz37_2
          try clear hfz37_3
          try clear hfz37_4
          try clear hfz37_5
          try clear hfz37_6
          try clear hfz38_0
          try clear hfz38_1
          try clear hfz38_2
          try clear hfz38_3
          try clear hfz38_4
          try clear hfz38_5
          try clear hfz38_6
          try clear hx147_0
          try clear hx149_0
          try clear hx149_1
          try clear hx149_2
          try clear hx151_0
          try clear hx151_1
          try clear hx151_2
          try clear hx153_0
          try clear hx153_1
          try clear hx153_2
          try clear p1
          try clear p14
          try clear p147
          try clear p149
          try clear p151
          try clear p153
          try clear p2
          try clear p6
          try clear q1
          try clear q14
          try clear q147
          try clear q149
          try clear q151
          try clear q153
          obtain ⟨x3_4, x6_4, rfl, rfl, HA, HK4, BK144, HB⟩ := hrel
          cases gk with
          | zero => exact absurd HA.out (by simp [greenwoodref23_Check.l2])
          | succ k4 =>
           have H := HA.out
           clear HA
           simp only [greenwoodref23_Check.l2] at H
           by_cases c39 : x6_4 < (l0_6.length : Int)
           ·rw [if_pos c39] at H
            have c39b0 : decide (x6_4 < (l0_6.length : Int)) = true := decide_eq_true c39
            clear c39
            by_cases c40 : x3_4 = true
            ·subst c40
             have H1 : (if 0 ≤ x6_4 then ((greenwoodref23_few.f k4 ((rd_T43 l0_6 x6_4).f0)).bind fun t156 => (if t156 = true then ((greenwoodref23_few.f k4 (([(rd_T43 l0_6 x6_4).f1] : List Int))).bind fun t161 => (greenwoodref23_Check.l2 k4 t161 (wrap64 (x6_4 + 1)) a0_0 a0_1 l0_2 l0_3 l0_4 l0_5 l0_6)) else (greenwoodref23_Check.l2 k4 false (wrap64 (x6_4 + 1)) a0_0 a0_1 l0_2 l0_3 l0_4 l0_5 l0_6))) else (none)) = some r := by rw [if_pos rfl] at H; exact H
             clear H
             have H := H1
             clear H1
             by_cases c41 : 0 ≤ x6_4
             ·rw [if_pos c41] at H
              have c41b0 : decide (0 ≤ x6_4) = true := decide_eq_true c41
              clear c41
              replace H := Option.bind_eq_some_iff.mp H
              obtain ⟨t156, A420, H⟩ := H
              replace H : (if t156 = true then ((greenwoodref23_few.f k4 (([(rd_T43 l0_6 x6_4).f1] : List Int))).bind fun t161 => (greenwoodref23_Check.l2 k4 t161 (wrap64 (x6_4 + 1)) a0_0 a0_1 l0_2 l0_3 l0_4 l0_5 l0_6)) else (greenwoodref23_Check.l2 k4 false (wrap64 (x6_4 + 1)) a0_0 a0_1 l0_2 l0_3 l0_4 l0_5 l0_6)) = some r := H
              have A42 := Aside0.mk A420
              clear A420
              by_cases c43 : t156 = true
              ·subst c43
               have H1 : ((greenwoodref23_few.f k4 (([(rd_T43 l0_6 x6_4).f1] : List Int))).bind fun t161 => (greenwoodref23_Check.l2 k4 t161 (wrap64 (x6_4 + 1)) a0_0 a0_1 l0_2 l0_3 l0_4 l0_5 l0_6)) = some r := by rw [if_pos rfl] at H; exact H
               clear H
               have H := H1
               clear H1
               obtain ⟨y158, hy158⟩ : ∃ y_ : List Int, y_ = (([(rd_T43 l0_6 x6_4).f1] : List Int)) := ⟨_, rfl⟩
               replace H : ((greenwoodref23_few.f k4 y158).bind fun t161 => (greenwoodref23_Check.l2 k4 t161 (wrap64 (x6_4 + 1)) a0_0 a0_1 l0_2 l0_3 l0_4 l0_5 l0_6)) = some r := by first | (rw [hy158]; with_reducible exact H) | (have H2_ := (Option.bind_some _ _).symm.trans H; rw [hy158]; with_reducible exact H2_) | (have H2_ := (Option.bind_some _ _).symm.trans H; with_reducible exact H2_) | with_reducible exact H | (rw [hy158]; exact H) | exact H
               have Ny158 := Aside0.mk hy158
               clear hy158
               replace H := Option.bind_eq_some_iff.mp H
               obtain ⟨t161, A440, H⟩ := H
               replace H : (greenwoodref23_Check.l2 k4 t161 (wrap64 (x6_4 + 1)) a0_0 a0_1 l0_2 l0_3 l0_4 l0_5 l0_6) = some r := H
               have A44 := Aside0.mk A440
               clear A440
               have H' := Aside0.mk H
               clear H
               have hcz45_0 : wr.cell? ⟨gb144, 0, none⟩ = some (.int .i64 a0_0) := (blk_cell BK144.out 0).trans rfl
               have hcz45_1 : wr.cell? ⟨gb144, 1, none⟩ = some (.bool a0_1) := (blk_cell BK144.out 1).trans rfl
               have hcz45_2 : wr.cell? ⟨gb144, 2, none⟩ = some (.slice A0_2 l0_2.length c0_2) := (blk_cell BK144.out 2).trans rfl
               have hcz45_3 : wr.cell? ⟨gb144, 3, none⟩ = some (.slice A0_3 l0_3.length c0_3) := (blk_cell BK144.out 3).trans rfl
               have hcz45_4 : wr.cell? ⟨gb144, 4, none⟩ = some (.slice A0_4 l0_4.length c0_4) := (blk_cell BK144.out 4).trans rfl
               have hcz45_5 : wr.cell? ⟨gb144, 5, none⟩ = some (.slice A0_5 l0_5.length c0_5) := (blk_cell BK144.out 5).trans rfl
               have hcz45_6 : wr.cell? ⟨gb144, 6, none⟩ = some (.slice A0_6 l0_6.length c0_6) := (blk_cell BK144.out 6).trans rfl
               have hfz45_0 := blk_frozen BK144.out 0
               have hfz45_1 := blk_frozen BK144.out 1
               have hfz45_2 := blk_frozen BK144.out 2
               have hfz45_3 := blk_frozen BK144.out 3
               have hfz45_4 := blk_frozen BK144.out 4
               have hfz45_5 := blk_frozen BK144.out 5
               have hfz45_6 := blk_frozen BK144.out 6
               have p155 : 0 ≤ (x6_4 : Int) := of_decide_eq_true (by first | (with_reducible assumption) | assumption)
               have q155 : x6_4 < (l0_6.length : Int) := of_decide_eq_true (by first | (with_reducible assumption) | assumption)
               obtain ⟨ad155, A155_0, c155_0, e155, hx155_0, hx155_1, hl155_0, hi155_0⟩ := at_T43 HR0_6.out x6_4 p155 q155
               cases e155
               replace hx155_0 := (HB.out.cell (World.block_lt_of_cell? w _ hx155_0)).trans hx155_0
               replace hx155_1 := (HB.out.cell (World.block_lt_of_cell? w _ hx155_1)).trans hx155_1
               have HR155_0 := Aside0.mk hi155_0
               have HC155_0 := Aside0.mk hl155_0
               clear hi155_0 hl155_0
               replace p155 := eq_true p155
               replace q155 := eq_true q155
               go_wp2_with (first | (go_at_call 27; (with_reducible refine (greenwoodref23_few.calls k4 _ _ ((rd_T43 l0_6 x6_4).f0) true _ ?side1 ?side2 A42.out).mono ?_); (case side1 => repeat (first | exact (Kd.C_below HR155_0.out HB.out) | (with_reducible refine Kd.C_alloc ?_ _) | (with_reducible refine Kd.C_drewN ?_ _) | (with_reducible refine Kd.C_drew ?_))); (case side2 => exact HC155_0.out); rintro e w' ⟨rfl, ⟨nd, rfl⟩⟩; have p157 : 0 ≤ (x6_4 : Int) := of_decide_eq_true (by first | (with_reducible assumption) | assumption); have q157 : x6_4 < (l0_6.length : Int) := of_decide_eq_true (by first | (with_reducible assumption) | assumption); obtain ⟨ad157, A157_0, c157_0, e157, hx157_0, hx157_1, hl157_0, hi157_0⟩ := at_T43 HR0_6.out x6_4 p157 q157; obtain rfl : ad155 = ad157 := (by injection e157); replace hx157_0 := (HB.out.cell (World.block_lt_of_cell? w _ hx157_0)).trans hx157_0; replace hx157_1 := (HB.out.cell (World.block_lt_of_cell? w _ hx157_1)).trans hx157_1; have HR157_0 := Aside0.mk hi157_0; have HC157_0 := Aside0.mk hl157_0; clear hi157_0 hl157_0; replace p157 := eq_true p157; replace q157 := eq_true q157; have ea_ := Option.some.inj (hx155_0.symm.trans hx157_0); injection ea_ with ea_ en_ ec_; subst ea_; subst ec_; clear en_) | ((with_reducible refine gate_dst (N := 118) rfl ?_); (try (refine gate_guard (by rfl) ?_; dsimp only)); refine Kd.R_lit (Kd.int .i64) _ 3 ?hg (N := 118) ?hd (xs := ([(rd_T43 l0_6 x6_4).f1] : List Int)) (inner := [.int .i64 ((rd_T43 l0_6 x6_4).f1)]) (ok := fun _ => True) (okp := fun _ => True) ?hr ?hp (fun _ hk => hk) trivial (Below.refl _ _) (Nat.le_refl _) (by simp) ?_; (case hd => rfl); (case hg => rfl); (case hr => first | (go_simp; done) | (go_simp; rfl)); (case hp => exact (Reps.one (show Kd.M (Kd.int .i64) _ _ _ ((rd_T43 l0_6 x6_4).f1) [.int .i64 ((rd_T43 l0_6 x6_4).f1)] from rfl) (Reps.none _ _))); intro v159 w46 ho47 hb hg_ hnew_; clear hg_ hnew_; (first | rw [← Ny158.out] at ho47 | (simp only [Int.reduceToNat] at ho47; rw [← Ny158.out] at ho47)); have n0_ := Aside0.mk (Kd.R_lower ho47 (below_size (by repeat (first | (with_reducible first | exact HB.out | apply below_alloc | apply pw_below_drewN | apply below_drew1 | refine below_set ?_ GE144.out) | exact HB.out)))); have n1_ := Aside0.mk (blk_below (g := gb144) (o := .cells #[.int .i64 a0_0, .bool a0_1, .slice A0_2 l0_2.length c0_2, .slice A0_3 l0_3.length c0_3, .slice A0_4 l0_4.length c0_4, .slice A0_5 l0_5.length c0_5, .slice (some ad155) l0_6.length c0_6] 27 (0, 0)) (by (with_reducible repeat (first | refine blk_drewN ?_ _ | refine blk_drew ?_ | refine blk_alloc ?_ _)); exact BK144.out) hb); have n2_ := Aside0.mk (below_step (by repeat (first | (with_reducible first | exact HB.out | apply below_alloc | apply pw_below_drewN | apply below_drew1 | refine below_set ?_ GE144.out) | exact HB.out)) hb); clear BK144; clear HB; have HO160 := n0_; have BK144 := n1_; have HB := n2_; clear n0_ n1_ n2_; clear hb ho47; obtain ⟨Ao48, co48, eo48⟩ := Kd.R_slice HO160.out; subst eo48) | (go_at_call 27; (with_reducible refine (greenwoodref23_few.calls k4 _ _ y158 t161 _ ?side1 ?side2 A44.out).mono ?_); (case side1 => repeat (first | exact (Kd.R_reads' HO160.out).2.2 | (with_reducible refine Kd.C_alloc ?_ _) | (with_reducible refine Kd.C_drewN ?_ _) | (with_reducible refine Kd.C_drew ?_))); (case side2 => exact (Kd.R_reads' HO160.out).2.1); rintro e w' ⟨rfl, ⟨nd, rfl⟩⟩))
               go_roundg k4
               case measure => have := HJ1.out; have := HK2.out; have := HK3.out; have := HK4.out; omega
               case rel => exact ⟨(t161), (wrap64 (x6_4 + 1)), (by first | rfl | (simp; done) | (simp [*]; done)), (by first | rfl | (simp; done) | (simp [*]; done)), H', ⟨by have := HJ1.out; have := HK2.out; have := HK3.out; have := HK4.out; omega⟩, ⟨by (with_reducible repeat (first | refine blk_drewN ?_ _ | refine blk_drew ?_ | refine blk_alloc ?_ _)); exact BK144.out⟩, ⟨by repeat (first | (with_reducible first | exact HB.out | apply below_alloc | apply pw_below_drewN | apply below_drew1 | refine below_set ?_ GE144.out) | exact HB.out)⟩⟩
              ·replace c43 := Bool.eq_false_iff.mpr c43
               subst c43
               have H1 : (greenwoodref23_Check.l2 k4 false (wrap64 (x6_4 + 1)) a0_0 a0_1 l0_2 l0_3 l0_4 l0_5 l0_6) = some r := by rw [if_neg (show ¬ (false = true) by decide)] at H; exact H
               clear H
               have H := H1
               clear H1
               have H' := Aside0.mk H
               clear H
               have hcz49_0 : wr.cell? ⟨gb144, 0, none⟩ = some (.int .i64 a0_0) := (blk_cell BK144.out 0).trans rfl
               have hcz49_1 : wr.cell? ⟨gb144, 1, none⟩ = some (.bool a0_1) := (blk_cell BK144.out 1).trans rfl
               have hcz49_2 : wr.cell? ⟨gb144, 2, none⟩ = some (.slice A0_2 l0_2.length c0_2) := (blk_cell BK144.out 2).trans rfl
               have hcz49_3 : wr.cell? ⟨gb144, 3, none⟩ = some (.slice A0_3 l0_3.length c0_3) := (blk_cell BK144.out 3).trans rfl
               have hcz49_4 : wr.cell? ⟨gb144, 4, none⟩ = some (.slice A0_4 l0_4.length c0_4) := (blk_cell BK144.out 4).trans rfl
               have hcz49_5 : wr.cell? ⟨gb144, 5, none⟩ = some (.slice A0_5 l0_5.length c0_5) := (blk_cell BK144.out 5).trans rfl
               have hcz49_6 : wr.cell? ⟨gb144, 6, none⟩ = some (.slice A0_6 l0_6.length c0_6) := (blk_cell BK144.out 6).trans rfl
               have hfz49_0 := blk_frozen BK144.out 0
               have hfz49_1 := blk_frozen BK144.out 1
               have hfz49_2 := blk_frozen BK144.out 2
               have hfz49_3 := blk_frozen BK144.out 3
               have hfz49_4 := blk_frozen BK144.out 4
               have hfz49_5 := blk_frozen BK144.out 5
               have hfz49_6 := blk_frozen BK144.out 6
               have p155 : 0 ≤ (x6_4 : Int) := of_decide_eq_true (by first | (with_reducible assumption) | assumption)
               have q155 : x6_4 < (l0_6.length : Int) := of_decide_eq_true (by first | (with_reducible assumption) | assumption)
               obtain ⟨ad155, A155_0, c155_0, e155, hx155_0, hx155_1, hl155_0, hi155_0⟩ := at_T43 HR0_6.out x6_4 p155 q155
               cases e155
               replace hx155_0 := (HB.out.cell (World.block_lt_of_cell? w _ hx155_0)).trans hx155_0
               replace hx155_1 := (HB.out.cell (World.block_lt_of_cell? w _ hx155_1)).trans hx155_1
               have HR155_0 := Aside0.mk hi155_0
               have HC155_0 := Aside0.mk hl155_0
               clear hi155_0 hl155_0
               replace p155 := eq_true p155
               replace q155 := eq_true q155
               go_wp2_with (first | (go_at_call 27; (with_reducible refine (greenwoodref23_few.calls k4 _ _ ((rd_T43 l0_6 x6_4).f0) false _ ?side1 ?side2 A42.out).mono ?_); (case side1 => repeat (first | exact (Kd.C_below HR155_0.out HB.out) | (with_reducible refine Kd.C_alloc ?_ _) | (with_reducible refine Kd.C_drewN ?_ _) | (with_reducible refine Kd.C_drew ?_))); (case side2 => exact HC155_0.out); rintro e w' ⟨rfl, ⟨nd, rfl⟩⟩))
               go_roundg k4
               case measure => have := HJ1.out; have := HK2.out; have := HK3.out; have := HK4.out; omega
               case rel => exact ⟨(false), (wrap64 (x6_4 + 1)), (by first | rfl | (simp; done) | (simp [*]; done)), (by first | rfl | (simp; done) | (simp [*]; done)), H', ⟨by have := HJ1.out; have := HK2.out; have := HK3.out; have := HK4.out; omega⟩, ⟨by (with_reducible repeat (first | refine blk_drewN ?_ _ | refine blk_drew ?_ | refine blk_alloc ?_ _)); exact BK144.out⟩, ⟨by repeat (first | (with_reducible first | exact HB.out | apply below_alloc | apply pw_below_drewN | apply below_drew1 | refine below_set ?_ GE144.out) | exact HB.out)⟩⟩
             ·rw [if_neg c41] at H
              exact absurd H (by simp)
            ·replace c40 := Bool.eq_false_iff.mpr c40
             subst c40
             have H1 : (greenwoodref23_Check.l2 k4 false (wrap64 (x6_4 + 1)) a0_0 a0_1 l0_2 l0_3 l0_4 l0_5 l0_6) = some r := by rw [if_neg (show ¬ (false = true) by decide)] at H; exact H
             clear H
             have H := H1
             clear H1
             have H' := Aside0.mk H
             clear H
             have hcz50_0 : wr.cell? ⟨gb144, 0, none⟩ = some (.int .i64 a0_0) := (blk_cell BK144.out 0).trans rfl
             have hcz50_1 : wr.cell? ⟨gb144, 1, none⟩ = some (.bool a0_1) := (blk_cell BK144.out 1).trans rfl
             have hcz50_2 : wr.cell? ⟨gb144, 2, none⟩ = some (.slice A0_2 l0_2.length c0_2) := (blk_cell BK144.out 2).trans rfl
             have hcz50_3 : wr.cell? ⟨gb144, 3, none⟩ = some (.slice A0_3 l0_3.length c0_3) := (blk_cell BK144.out 3).trans rfl
             have hcz50_4 : wr.cell? ⟨gb144, 4, none⟩ = some (.slice A0_4 l0_4.length c0_4) := (blk_cell BK144.out 4).trans rfl
             have hcz50_5 : wr.cell? ⟨gb144, 5, none⟩ = some (.slice A0_5 l0_5.length c0_5) := (blk_cell BK144.out 5).trans rfl
             have hcz50_6 : wr.cell? ⟨gb144, 6, none⟩ = some (.slice A0_6 l0_6.length c0_6) := (blk_cell BK144.out 6).trans rfl
             have hfz50_0 := blk_frozen BK144.out 0
             have hfz50_1 := blk_frozen BK144.out 1
             have hfz50_2 := blk_frozen BK144.out 2
             have hfz50_3 := blk_frozen BK144.out 3
             have hfz50_4 := blk_frozen BK144.out 4
             have hfz50_5 := blk_frozen BK144.out 5
             have hfz50_6 := blk_frozen BK144.out 6
             go_wp2
             go_roundg k4
             case measure => have := HJ1.out; have := HK2.out; have := HK3.out; have := HK4.out; omega
             case rel => exact ⟨(false), (wrap64 (x6_4 + 1)), (by first | rfl | (simp; done) | (simp [*]; done)), (by first | rfl | (simp; done) | (simp [*]; done)), H', ⟨by have := HJ1.out; have := HK2.out; have := HK3.out; have := HK4.out; omega⟩, ⟨by (with_reducible repeat (first | refine blk_drewN ?_ _ | refine blk_drew ?_ | refine blk_alloc ?_ _)); exact BK144.out⟩, ⟨by repeat (first | (with_reducible first | exact HB.out | apply below_alloc | apply pw_below_drewN | apply below_drew1 | refine below_set ?_ GE144.out) | exact HB.out)⟩⟩
           ·rw [if_neg c39] at H
            have c39b0 : decide (x6_4 < (l0_6.length : Int)) = false := decide_eq_false c39
            clear c39
            by_cases c51 : x3_4 = true
            ·subst c51
             have H1 : (some 0) = some r := by rw [if_pos rfl] at H; exact H
             clear H
             have H := H1
             clear H1
             obtain rfl := Option.some.inj H
             have hcz52_0 : wr.cell? ⟨gb144, 0, none⟩ = some (.int .i64 a0_0) := (blk_cell BK144.out 0).trans rfl
             have hcz52_1 : wr.cell? ⟨gb144, 1, none⟩ = some (.bool a0_1) := (blk_cell BK144.out 1).trans rfl
             have hcz52_2 : wr.cell? ⟨gb144, 2, none⟩ = some (.slice A0_2 l0_2.length c0_2) := (blk_cell BK144.out 2).trans rfl
             have hcz52_3 : wr.cell? ⟨gb144, 3, none⟩ = some (.slice A0_3 l0_3.length c0_3) := (blk_cell BK144.out 3).trans rfl
             have hcz52_4 : wr.cell? ⟨gb144, 4, none⟩ = some (.slice A0_4 l0_4.length c0_4) := (blk_cell BK144.out 4).trans rfl
             have hcz52_5 : wr.cell? ⟨gb144, 5, none⟩ = some (.slice A0_5 l0_5.length c0_5) := (blk_cell BK144.out 5).trans rfl
             have hcz52_6 : wr.cell? ⟨gb144, 6, none⟩ = some (.slice A0_6 l0_6.length c0_6) := (blk_cell BK144.out 6).trans rfl
             have hfz52_0 := blk_frozen BK144.out 0
             have hfz52_1 := blk_frozen BK144.out 1
             have hfz52_2 := blk_frozen BK144.out 2
             have hfz52_3 := blk_frozen BK144.out 3
             have hfz52_4 := blk_frozen BK144.out 4
             have hfz52_5 := blk_frozen BK144.out 5
             have hfz52_6 := blk_frozen BK144.out 6
             go_wp2
             go_ret
             exact ⟨by first | rfl | (simp [errW_none, errW_some] <;> rfl) | (simp [*, errW_none, errW_some] <;> rfl), by repeat (first | (with_reducible first | exact HB.out | apply below_alloc | apply pw_below_drewN | apply below_drew1 | refine below_set ?_ GE144.out) | exact HB.out)⟩
            ·replace c51 := Bool.eq_false_iff.mpr c51
             subst c51
             have H1 : (some 230) = some r := by rw [if_neg (show ¬ (false = true) by decide)] at H; exact H
             clear H
             have H := H1
             clear H1
             obtain rfl := Option.some.inj H
             have hcz53_0 : wr.cell? ⟨gb144, 0, none⟩ = some (.int .i64 a0_0) := (blk_cell BK144.out 0).trans rfl
             have hcz53_1 : wr.cell? ⟨gb144, 1, none⟩ = some (.bool a0_1) := (blk_cell BK144.out 1).trans rfl
             have hcz53_2 : wr.cell? ⟨gb144, 2, none⟩ = some (.slice A0_2 l0_2.length c0_2) := (blk_cell BK144.out 2).trans rfl
             have hcz53_3 : wr.cell? ⟨gb144, 3, none⟩ = some (.slice A0_3 l0_3.length c0_3) := (blk_cell BK144.out 3).trans rfl
             have hcz53_4 : wr.cell? ⟨gb144, 4, none⟩ = some (.slice A0_4 l0_4.length c0_4) := (blk_cell BK144.out 4).trans rfl
             have hcz53_5 : wr.cell? ⟨gb144, 5, none⟩ = some (.slice A0_5 l0_5.length c0_5) := (blk_cell BK144.out 5).trans rfl
             have hcz53_6 : wr.cell? ⟨gb144, 6, none⟩ = some (.slice A0_6 l0_6.length c0_6) := (blk_cell BK144.out 6).trans rfl
             have hfz53_0 := blk_frozen BK144.out 0
             have hfz53_1 := blk_frozen BK144.out 1
             have hfz53_2 := blk_frozen BK144.out 2
             have hfz53_3 := blk_frozen BK144.out 3
             have hfz53_4 := blk_frozen BK144.out 4
             have hfz53_5 := blk_frozen BK144.out 5
             have hfz53_6 := blk_frozen BK144.out 6
             go_wp2
             go_ret
             exact ⟨by first | rfl | (simp [errW_none, errW_some] <;> rfl) | (simp [*, errW_none, errW_some] <;> rfl), by repeat (first | (with_reducible first | exact HB.out | apply below_alloc | apply pw_below_drewN | apply below_drew1 | refine below_set ?_ GE144.out) | exact HB.out)⟩

end Go.Proofs.YtlekdhejgdfnpaaDoor.P
namespace Go.Proofs.YtlekdhejgdfnpaaDoor.P
open Go.RowKit Go.Proofs.YtlekdhejgdfnpaaDoorW.PrintWords Go.Proofs.YtlekdhejgdfnpaaDoorW.PrintLast Go.Proofs.YtlekdhejgdfnpaaDoorW.PrintMore
attribute [local go_sem] max2_int min2_int max_two min_two max_three min_three max_four min_four   -- for this text's walks alone

/-! ### greenwoodref23_Encode: function 14 -/
mutual
def greenwoodref23_Encode.j0 : Nat → Int → Int → Bool → List Int → List Int → List (List Int) → List (S41) → List (S43) → Option (ByteArray)
 | 0, _, _, _, _, _, _, _, _ => none
 | k + 1, x3, x174000, x174001, x174002, x174003, x174004, x174005, x174006 => (greenwoodref01_Num.f k x174000).bind fun t175 => ((greenwoodref01_Num.f k x3).bind fun t176 => (if t175.size + t176.size ≤ 9223372036854775807 then ((greenwoodref01_Ints.f k x174002).bind fun t177 => (if (t175 ++ t176).size + t177.size ≤ 9223372036854775807 then ((greenwoodref01_Ints.f k x174003).bind fun t178 => (if ((t175 ++ t176) ++ t177).size + t178.size ≤ 9223372036854775807 then ((greenwoodref01_Num.f k (x174004.length : Int)).bind fun t179 => (if (((t175 ++ t176) ++ t177) ++ t178).size + t179.size ≤ 9223372036854775807 then (greenwoodref23_Encode.l0 k ((((t175 ++ t176) ++ t177) ++ t178) ++ t179) 0 x174000 x174001 x174002 x174003 x174004 x174005 x174006) else (none))) else (none))) else (none))) else (none)))
def greenwoodref23_Encode.l0 : Nat → ByteArray → Int → Int → Bool → List Int → List Int → List (List Int) → List (S41) → List (S43) → Option (ByteArray)
 | 0, _, _, _, _, _, _, _, _, _ => none
 | k + 1, x4, x5, x174000, x174001, x174002, x174003, x174004, x174005, x174006 => if x5 < (x174004.length : Int) then (if 0 ≤ x5 then ((greenwoodref01_Ints.f k (rd_L1 x174004 x5)).bind fun t181 => (if x4.size + t181.size ≤ 9223372036854775807 then (greenwoodref23_Encode.l0 k (x4 ++ t181) (wrap64 (x5 + 1)) x174000 x174001 x174002 x174003 x174004 x174005 x174006) else (none))) else (none)) else ((greenwoodref01_Num.f k (x174005.length : Int)).bind fun t182 => (if x4.size + t182.size ≤ 9223372036854775807 then (greenwoodref23_Encode.l1 k (x4 ++ t182) 0 x174000 x174001 x174002 x174003 x174004 x174005 x174006) else (none)))
def greenwoodref23_Encode.l1 : Nat → ByteArray → Int → Int → Bool → List Int → List Int → List (List Int) → List (S41) → List (S43) → Option (ByteArray)
 | 0, _, _, _, _, _, _, _, _, _ => none
 | k + 1, x4, x6, x174000, x174001, x174002, x174003, x174004, x174005, x174006 => if x6 < (x174005.length : Int) then (if 0 ≤ x6 then ((greenwoodref01_Ints.f k ((rd_T41 x174005 x6).f0)).bind fun t184 => ((greenwoodref01_Ints.f k ((rd_T41 x174005 x6).f1)).bind fun t186 => (if t184.size + t186.size ≤ 9223372036854775807 then ((greenwoodref01_Ints.f k ((rd_T41 x174005 x6).f2)).bind fun t188 => (if (t184 ++ t186).size + t188.size ≤ 9223372036854775807 then (if x4.size + ((t184 ++ t186) ++ t188).size ≤ 9223372036854775807 then (greenwoodref23_Encode.l1 k (x4 ++ ((t184 ++ t186) ++ t188)) (wrap64 (x6 + 1)) x174000 x174001 x174002 x174003 x174004 x174005 x174006) else (none)) else (none))) else (none)))) else (none)) else ((greenwoodref01_Num.f k (x174006.length : Int)).bind fun t189 => (if x4.size + t189.size ≤ 9223372036854775807 then (greenwoodref23_Encode.l2 k (x4 ++ t189) 0 x174000 x174001 x174002 x174003 x174004 x174005 x174006) else (none)))
def greenwoodref23_Encode.l2 : Nat → ByteArray → Int → Int → Bool → List Int → List Int → List (List Int) → List (S41) → List (S43) → Option (ByteArray)
 | 0, _, _, _, _, _, _, _, _, _ => none
 | k + 1, x4, x7, x174000, x174001, x174002, x174003, x174004, x174005, x174006 => if x7 < (x174006.length : Int) then (if 0 ≤ x7 then ((greenwoodref01_Ints.f k ((rd_T43 x174006 x7).f0)).bind fun t191 => ((greenwoodref01_Int.f k ((rd_T43 x174006 x7).f1)).bind fun t193 => (if t191.size + t193.size ≤ 9223372036854775807 then (if x4.size + (t191 ++ t193).size ≤ 9223372036854775807 then (greenwoodref23_Encode.l2 k (x4 ++ (t191 ++ t193)) (wrap64 (x7 + 1)) x174000 x174001 x174002 x174003 x174004 x174005 x174006) else (none)) else (none)))) else (none)) else (some x4)
end
def greenwoodref23_Encode.f (k : Nat) (a0_0 : Int) (a0_1 : Bool) (l0_2 : List Int) (l0_3 : List Int) (l0_4 : List (List Int)) (l0_5 : List (S41)) (l0_6 : List (S43)) : Option (ByteArray) := (greenwoodref23_Check.f k a0_0 a0_1 l0_2 l0_3 l0_4 l0_5 l0_6).bind fun t174 => (if t174 = 0 then (if a0_1 = true then (greenwoodref23_Encode.j0 k 1 a0_0 a0_1 l0_2 l0_3 l0_4 l0_5 l0_6) else (greenwoodref23_Encode.j0 k 0 a0_0 a0_1 l0_2 l0_3 l0_4 l0_5 l0_6)) else (some (⟨#[]⟩ : ByteArray)))
def greenwoodref23_Encode.T6 : Bool × List (List Nat × List Nat) := (true, [([], []), ([0], [0]), ([1], [1]), ([], []), ([3, 2], [3]), ([2, 4], [2, 4]), ([], []), ([6], [6]), ([7, 4], [7]), ([5, 8], [5, 8]), ([], []), ([10], [10]), ([11, 8], [11]), ([9, 12], [9, 12]), ([], []), ([14], [14]), ([15], [15]), ([16, 12], [16]), ([13, 17], [13, 17]), ([18, 17, 0, 1, 2, 3, 4, 5, 6, 7, 8, 9, 10, 11, 12, 13, 14, 15, 16, 17, 18], [18])])
def greenwoodref23_Encode.B6 : List Nat := [0, 1, 3, 0, 15, 31, 0, 64, 223, 511, 0, 1024, 3551, 8191, 0, 16384, 49152, 122335, 262143, 524287]
theorem greenwoodref23_Encode.tab6 : rtab .any (opsOf Tryd.f14 6) = greenwoodref23_Encode.T6 := by kernel_rfl
theorem greenwoodref23_Encode.bits6 : waitsOk greenwoodref23_Encode.T6.2 greenwoodref23_Encode.B6 = true := by kernel_rfl
def greenwoodref23_Encode.T15 : Bool × List (List Nat × List Nat) := (true, [([], []), ([], []), ([1], [1]), ([], []), ([2, 3], [2, 3]), ([4], [4]), ([5], [5]), ([6], [6]), ([], []), ([8], [8]), ([], []), ([9, 10], [9, 10]), ([11], [11]), ([12], [12]), ([13, 7], [13]), ([7, 14], [7, 14]), ([], []), ([16], [16]), ([], []), ([17, 18], [17, 18]), ([19], [19]), ([20], [20]), ([21, 14], [21]), ([15, 22], [15, 22]), ([0, 23], [0, 23]), ([24, 22, 0, 1, 2, 3, 4, 5, 6, 7, 8, 9, 10, 11, 12, 13, 14, 15, 16, 17, 18, 19, 20, 21, 22, 23, 24], [0, 24])])
def greenwoodref23_Encode.B15 : List Nat := [0, 0, 2, 0, 14, 30, 62, 126, 0, 256, 0, 1792, 3840, 7936, 16382, 32766, 0, 65536, 0, 458752, 983040, 2031616, 4161534, 8388606, 16777215, 33554431]
theorem greenwoodref23_Encode.tab15 : rtab .any (opsOf Tryd.f14 15) = greenwoodref23_Encode.T15 := by kernel_rfl
theorem greenwoodref23_Encode.bits15 : waitsOk greenwoodref23_Encode.T15.2 greenwoodref23_Encode.B15 = true := by kernel_rfl
def greenwoodref23_Encode.T20 : Bool × List (List Nat × List Nat) := (true, [([], []), ([], []), ([1], [1]), ([], []), ([2, 3], [2, 3]), ([4], [4]), ([5], [5]), ([6], [6]), ([], []), ([8], [8]), ([], []), ([9, 10], [9, 10]), ([11], [11]), ([12], [12]), ([13, 7], [13]), ([7, 14], [7, 14]), ([0, 15], [0, 15]), ([16, 14, 0, 1, 2, 3, 4, 5, 6, 7, 8, 9, 10, 11, 12, 13, 14, 15, 16], [0, 16])])
def greenwoodref23_Encode.B20 : List Nat := [0, 0, 2, 0, 14, 30, 62, 126, 0, 256, 0, 1792, 3840, 7936, 16382, 32766, 65535, 131071]
theorem greenwoodref23_Encode.tab20 : rtab .any (opsOf Tryd.f14 20) = greenwoodref23_Encode.T20 := by kernel_rfl
theorem greenwoodref23_Encode.bits20 : waitsOk greenwoodref23_Encode.T20.2 greenwoodref23_Encode.B20 = true := by kernel_rfl
set_option maxHeartbeats 8000000 in
set_option maxRecDepth 100000 in
theorem greenwoodref23_Encode.calls (k : Nat) (a0_0 : Int) (a0_1 : Bool) (A0_2 : Option Addr) (c0_2 : Nat) (l0_2 : List Int) (A0_3 : Option Addr) (c0_3 : Nat) (l0_3 : List Int) (A0_4 : Option Addr) (c0_4 : Nat) (l0_4 : List (List Int)) (A0_5 : Option Addr) (c0_5 : Nat) (l0_5 : List (S41)) (A0_6 : Option Addr) (c0_6 : Nat) (l0_6 : List (S43)) (r : ByteArray) (w : World) (hr0_2 : Kd.C (Kd.int .i64) w A0_2 l0_2.length l0_2) (hc0_2 : l0_2.length ≤ c0_2) (hr0_3 : Kd.C (Kd.int .i64) w A0_3 l0_3.length l0_3) (hc0_3 : l0_3.length ≤ c0_3) (hr0_4 : Kd.C (Kd.slice 3 (Kd.int .i64)) w A0_4 l0_4.length l0_4) (hc0_4 : l0_4.length ≤ c0_4) (hr0_5 : Kd.C k41 w A0_5 l0_5.length l0_5) (hc0_5 : l0_5.length ≤ c0_5) (hr0_6 : Kd.C k43 w A0_6 l0_6.length l0_6) (hc0_6 : l0_6.length ≤ c0_6) (h : greenwoodref23_Encode.f k a0_0 a0_1 l0_2 l0_3 l0_4 l0_5 l0_6 = some r) :
 Calls Tryd.prog 14 #[.agg #[.int .i64 a0_0, .bool a0_1, .slice A0_2 l0_2.length c0_2, .slice A0_3 l0_3.length c0_3, .slice A0_4 l0_4.length c0_4, .slice A0_5 l0_5.length c0_5, .slice A0_6 l0_6.length c0_6]] w fun e w' => e = .returned (.string r) ∧ Below w.heap.size w w' := by
 have hu27 := Tryd.underlying27
 have HR0_2 := Aside0.mk hr0_2
 have HC0_2 := Aside0.mk hc0_2
 clear hr0_2 hc0_2
 have HR0_3 := Aside0.mk hr0_3
 have HC0_3 := Aside0.mk hc0_3
 clear hr0_3 hc0_3
 have HR0_4 := Aside0.mk hr0_4
 have HC0_4 := Aside0.mk hc0_4
 clear hr0_4 hc0_4
 have HR0_5 := Aside0.mk hr0_5
 have HC0_5 := Aside0.mk hc0_5
 clear hr0_5 hc0_5
 have HR0_6 := Aside0.mk hr0_6
 have HC0_6 := Aside0.mk hc0_6
 clear hr0_6 hc0_6
 have HB := Aside0.mk (Below.refl w.heap.size w)
 have H : ((greenwoodref23_Check.f k a0_0 a0_1 l0_2 l0_3 l0_4 l0_5 l0_6).bind fun t174 => (if t174 = 0 then (if a0_1 = true then (greenwoodref23_Encode.j0 k 1 a0_0 a0_1 l0_2 l0_3 l0_4 l0_5 l0_6) else (greenwoodref23_Encode.j0 k 0 a0_0 a0_1 l0_2 l0_3 l0_4 l0_5 l0_6)) else (some (⟨#[]⟩ : ByteArray)))) = some r := h
 clear h
 replace H := Option.bind_eq_some_iff.mp H
 obtain ⟨t174, A20, H⟩ := H
 replace H : (if t174 = 0 then (if a0_1 = true then (greenwoodref23_Encode.j0 k 1 a0_0 a0_1 l0_2 l0_3 l0_4 l0_5 l0_6) else (greenwoodref23_Encode.j0 k 0 a0_0 a0_1 l0_2 l0_3 l0_4 l0_5 l0_6)) else (some (⟨#[]⟩ : ByteArray))) = some r := H
 have A2 := Aside0.mk A20
 clear A20
 by_cases c3 : t174 = 0
 ·rw [if_pos c3] at H
  have c3b0 : (t174 == 0) = true := beq_iff_eq.mpr c3
  have c3b1 : (t174 != 0) = false := bne_eq_false_iff_eq.mpr c3
  clear c3
  have HC4 := Aside0.mk H
  clear H
  go_enter Tryd.func14, Tryd.ntmps14
  go_upto_if 12 with (first | ((with_reducible refine gate_dst (N := 1) rfl ?_); refine box_event ?hg (N := 1) ?hd (cs := #[.int .i64 a0_0, .bool a0_1, .slice A0_2 l0_2.length c0_2, .slice A0_3 l0_3.length c0_3, .slice A0_4 l0_4.length c0_4, .slice A0_5 l0_5.length c0_5, .slice A0_6 l0_6.length c0_6]) (t := 27) ?hr ?_; (case hd => rfl); (case hg => rfl); (case hr => first | (go_simp; done) | (go_simp; rfl)); intro gb173 hg w5 hbox hb; have n0_ := Aside0.mk (below_step (by repeat (first | (with_reducible first | exact HB.out | apply below_alloc | apply pw_below_drewN | apply below_drew1) | exact HB.out)) hb); have n1_ := Aside0.mk (hbox); have n2_ := Aside0.mk ((by rw [hg]; exact (below_size (by repeat (first | (with_reducible first | exact HB.out | apply below_alloc | apply pw_below_drewN | apply below_drew1) | exact HB.out))) : w.heap.size ≤ gb173)); have n3_ := Aside0.mk ((by rw [hg]; exact (below_size (by repeat (first | (with_reducible first | exact HB.out | apply below_alloc | apply pw_below_drewN | apply below_drew1) | exact HB.out))) : w.heap.size ≤ gb173)); clear HB; have HB := n0_; have BK173 := n1_; have GW173 := n2_; have GE173 := n3_; clear n0_ n1_ n2_ n3_; clear hb hbox hg; have hcz6_0 : w5.cell? ⟨gb173, 0, none⟩ = some (.int .i64 a0_0) := (blk_cell BK173.out 0).trans rfl; have hcz6_1 : w5.cell? ⟨gb173, 1, none⟩ = some (.bool a0_1) := (blk_cell BK173.out 1).trans rfl; have hcz6_2 : w5.cell? ⟨gb173, 2, none⟩ = some (.slice A0_2 l0_2.length c0_2) := (blk_cell BK173.out 2).trans rfl; have hcz6_3 : w5.cell? ⟨gb173, 3, none⟩ = some (.slice A0_3 l0_3.length c0_3) := (blk_cell BK173.out 3).trans rfl; have hcz6_4 : w5.cell? ⟨gb173, 4, none⟩ = some (.slice A0_4 l0_4.length c0_4) := (blk_cell BK173.out 4).trans rfl; have hcz6_5 : w5.cell? ⟨gb173, 5, none⟩ = some (.slice A0_5 l0_5.length c0_5) := (blk_cell BK173.out 5).trans rfl; have hcz6_6 : w5.cell? ⟨gb173, 6, none⟩ = some (.slice A0_6 l0_6.length c0_6) := (blk_cell BK173.out 6).trans rfl; have hfz6_0 := blk_frozen BK173.out 0; have hfz6_1 := blk_frozen BK173.out 1; have hfz6_2 := blk_frozen BK173.out 2; have hfz6_3 := blk_frozen BK173.out 3; have hfz6_4 := blk_frozen BK173.out 4; have hfz6_5 := blk_frozen BK173.out 5; have hfz6_6 := blk_frozen BK173.out 6) | ((with_reducible refine gate_callee (f := 12) rfl ?_); refine goesL_ (some 9) rfl rfl Tryd.func12 (by kernel_rfl) rfl #[.agg #[.int .i64 a0_0, .bool a0_1, .slice A0_2 l0_2.length c0_2, .slice A0_3 l0_3.length c0_3, .slice A0_4 l0_4.length c0_4, .slice A0_5 l0_5.length c0_5, .slice A0_6 l0_6.length c0_6]] rfl (by (try simp only [List.map_toArray, List.map_cons, List.map_nil]); first | done | rfl | (simp only [List.length_drop, List.length_take]; rfl)) ?_; (with_reducible refine (greenwoodref23_Check.calls k a0_0 a0_1 _ _ l0_2 _ _ l0_3 _ _ l0_4 _ _ l0_5 _ _ l0_6 t174 _ ?side1 ?side2 ?side3 ?side4 ?side5 ?side6 ?side7 ?side8 ?side9 ?side10 A2.out).mono ?_); (case side1 => repeat (first | exact (Kd.C_below HR0_2.out HB.out) | (with_reducible refine Kd.C_alloc ?_ _) | (with_reducible refine Kd.C_drewN ?_ _) | (with_reducible refine Kd.C_drew ?_))); (case side2 => exact HC0_2.out); (case side3 => repeat (first | exact (Kd.C_below HR0_3.out HB.out) | (with_reducible refine Kd.C_alloc ?_ _) | (with_reducible refine Kd.C_drewN ?_ _) | (with_reducible refine Kd.C_drew ?_))); (case side4 => exact HC0_3.out); (case side5 => repeat (first | exact (Kd.C_below HR0_4.out HB.out) | (with_reducible refine Kd.C_alloc ?_ _) | (with_reducible refine Kd.C_drewN ?_ _) | (with_reducible refine Kd.C_drew ?_))); (case side6 => exact HC0_4.out); (case side7 => repeat (first | exact (Kd.C_below HR0_5.out HB.out) | (with_reducible refine Kd.C_alloc ?_ _) | (with_reducible refine Kd.C_drewN ?_ _) | (with_reducible refine Kd.C_drew ?_))); (case side8 => exact HC0_5.out); (case side9 => repeat (first | exact (Kd.C_below HR0_6.out HB.out) | (with_reducible refine Kd.C_alloc ?_ _) | (with_reducible refine Kd.C_drewN ?_ _) | (with_reducible refine Kd.C_drew ?_))); (case side10 => exact HC0_6.out); rintro e w7 ⟨rfl, hb⟩; refine ⟨_, rfl, ?_⟩; have n0_ := Aside0.mk (blk_below (g := gb173) (o := .cells #[.int .i64 a0_0, .bool a0_1, .slice A0_2 l0_2.length c0_2, .slice A0_3 l0_3.length c0_3, .slice A0_4 l0_4.length c0_4, .slice A0_5 l0_5.length c0_5, .slice A0_6 l0_6.length c0_6] 27 (0, 0)) (by (with_reducible repeat (first | refine blk_drewN ?_ _ | refine blk_drew ?_ | refine blk_alloc ?_ _)); exact BK173.out) hb); have n1_ := Aside0.mk (below_step (by repeat (first | (with_reducible first | exact HB.out | apply below_alloc | apply pw_below_drewN | apply below_drew1 | refine below_set ?_ GE173.out) | exact HB.out)) hb); clear BK173; clear HB; have BK173 := n0_; have HB := n1_; clear n0_ n1_; (try clear hb); (try clear hb2); (try clear hk); (try clear hi); have hcz8_0 : w7.cell? ⟨gb173, 0, none⟩ = some (.int .i64 a0_0) := (blk_cell BK173.out 0).trans rfl; have hcz8_1 : w7.cell? ⟨gb173, 1, none⟩ = some (.bool a0_1) := (blk_cell BK173.out 1).trans rfl; have hcz8_2 : w7.cell? ⟨gb173, 2, none⟩ = some (.slice A0_2 l0_2.length c0_2) := (blk_cell BK173.out 2).trans rfl; have hcz8_3 : w7.cell? ⟨gb173, 3, none⟩ = some (.slice A0_3 l0_3.length c0_3) := (blk_cell BK173.out 3).trans rfl; have hcz8_4 : w7.cell? ⟨gb173, 4, none⟩ = some (.slice A0_4 l0_4.length c0_4) := (blk_cell BK173.out 4).trans rfl; have hcz8_5 : w7.cell? ⟨gb173, 5, none⟩ = some (.slice A0_5 l0_5.length c0_5) := (blk_cell BK173.out 5).trans rfl; have hcz8_6 : w7.cell? ⟨gb173, 6, none⟩ = some (.slice A0_6 l0_6.length c0_6) := (blk_cell BK173.out 6).trans rfl; have hfz8_0 := blk_frozen BK173.out 0; have hfz8_1 := blk_frozen BK173.out 1; have hfz8_2 := blk_frozen BK173.out 2; have hfz8_3 := blk_frozen BK173.out 3; have hfz8_4 := blk_frozen BK173.out 4; have hfz8_5 := blk_frozen BK173.out 5; have hfz8_6 := blk_frozen BK173.out 6))
  (try simp only [Act.put, List.setIfInBounds_toArray, List.set_cons_zero, List.set_cons_succ])
  go_cut [3] (fun v3 wc => ∃ (kq : Nat) (x3_3 : Int), v3 = .int .i64 x3_3 ∧ Aside0 (greenwoodref23_Encode.j0 kq x3_3 a0_0 a0_1 l0_2 l0_3 l0_4 l0_5 l0_6 = some r) ∧ Aside0 (kq ≤ k) ∧ Aside0 (wc.heap[gb173]? = some (.cells #[.int .i64 a0_0, .bool a0_1, (.slice A0_2 l0_2.length c0_2), (.slice A0_3 l0_3.length c0_3), (.slice A0_4 l0_4.length c0_4), (.slice A0_5 l0_5.length c0_5), (.slice A0_6 l0_6.length c0_6)] 27 (0, 0))) ∧ Aside0 (Below w.heap.size w wc))
  case first =>
   have H := HC4.out
   clear HC4
   by_cases c9 : a0_1 = true
   ·subst c9
    have H1 : (greenwoodref23_Encode.j0 k 1 a0_0 true l0_2 l0_3 l0_4 l0_5 l0_6) = some r := by rw [if_pos rfl] at H; exact H
    clear H
    have H := H1
    clear H1
    have H' := Aside0.mk H
    clear H
    go_wp2
    go_meet
    case rel => exact ⟨_, (1), (by first | rfl | (simp; done) | (simp [*]; done)), H', ⟨by first | omega | exact Nat.le_refl _⟩, ⟨by (with_reducible repeat (first | refine blk_drewN ?_ _ | refine blk_drew ?_ | refine blk_alloc ?_ _)); exact BK173.out⟩, ⟨by repeat (first | (with_reducible first | exact HB.out | apply below_alloc | apply pw_below_drewN | apply below_drew1 | refine below_set ?_ GE173.out) | exact HB.out)⟩⟩
   ·replace c9 := Bool.eq_false_iff.mpr c9
    subst c9
    have H1 : (greenwoodref23_Encode.j0 k 0 a0_0 false l0_2 l0_3 l0_4 l0_5 l0_6) = some r := by rw [if_neg (show ¬ (false = true) by decide)] at H; exact H
    clear H
    have H := H1
    clear H1
    have H' := Aside0.mk H
    clear H
    go_wp2
    go_meet
    case rel => exact ⟨_, (0), (by first | rfl | (simp; done) | (simp [*]; done)), H', ⟨by first | omega | exact Nat.le_refl _⟩, ⟨by (with_reducible repeat (first | refine blk_drewN ?_ _ | refine blk_drew ?_ | refine blk_alloc ?_ _)); exact BK173.out⟩, ⟨by repeat (first | (with_reducible first | exact HB.out | apply below_alloc | apply pw_below_drewN | apply below_drew1 | refine below_set ?_ GE173.out) | exact HB.out)⟩⟩
  case rest =>
   clear HC4
   try clear c1
   try clear p2
   try clear c3
   try clear c3b0
   try clear c3b1
   try clear c9
   try clear hcz6_0
   try clear hcz6_1
   try clear hcz6_2
   try clear hcz6_3
   try clear hcz6_4
   try clear hcz6_5
   try clear hcz6_6
   try clear hcz8_0
   try clear hcz8_1
   try clear hcz8_2
   try clear hcz8_3
   try clear hcz8_4
   try clear hcz8_5
   try clear hcz8_6
   try clear hfz6_0
   try clear hfz6_1
   try clear hfz6_2
   try clear hfz6_3
   try clear hfz6_4
   try clear hfz6_5
   try clear hfz6_6
   try clear hfz8_0
   try clear hfz8_1
   try clear hfz8_2
   try clear hfz8_3
   try clear hfz8_4
   try clear hfz8_5
   try clear hfz8_6
   obtain ⟨kq, x3_3, rfl, HA, HJ3, BK173, HB⟩ := hcut
   cases kq with
   | zero => exact absurd HA.out (by simp [greenwoodref23_Encode.j0])
   | succ kj3 =>
    have H := HA.out
    clear HA
    simp only [greenwoodref23_Encode.j0] at H
    replace H := Option.bind_eq_some_iff.mp H
    obtain ⟨t175, A100, H⟩ := H
    replace H : ((greenwoodref01_Num.f kj3 x3_3).bind fun t176 => (if t175.size + t176.size ≤ 9223372036854775807 then ((greenwoodref01_Ints.f kj3 l0_2).bind fun t177 => (if (t175 ++ t176).size + t177.size ≤ 9223372036854775807 then ((greenwoodref01_Ints.f kj3 l0_3).bind fun t178 => (if ((t175 ++ t176) ++ t177).size + t178.size ≤ 9223372036854775807 then ((greenwoodref01_Num.f kj3 (l0_4.length : Int)).bind fun t179 => (if (((t175 ++ t176) ++ t177) ++ t178).size + t179.size ≤ 9223372036854775807 then (greenwoodref23_Encode.l0 kj3 ((((t175 ++ t176) ++ t177) ++ t178) ++ t179) 0 a0_0 a0_1 l0_2 l0_3 l0_4 l0_5 l0_6) else (none))) else (none))) else (none))) else (none))) = some r := H
    have A10 := Aside0.mk A100
    clear A100
    replace H := Option.bind_eq_some_iff.mp H
    obtain ⟨t176, A110, H⟩ := H
    replace H : (if t175.size + t176.size ≤ 9223372036854775807 then ((greenwoodref01_Ints.f kj3 l0_2).bind fun t177 => (if (t175 ++ t176).size + t177.size ≤ 9223372036854775807 then ((greenwoodref01_Ints.f kj3 l0_3).bind fun t178 => (if ((t175 ++ t176) ++ t177).size + t178.size ≤ 9223372036854775807 then ((greenwoodref01_Num.f kj3 (l0_4.length : Int)).bind fun t179 => (if (((t175 ++ t176) ++ t177) ++ t178).size + t179.size ≤ 9223372036854775807 then (greenwoodref23_Encode.l0 kj3 ((((t175 ++ t176) ++ t177) ++ t178) ++ t179) 0 a0_0 a0_1 l0_2 l0_3 l0_4 l0_5 l0_6) else (none))) else (none))) else (none))) else (none)) = some r := H
    have A11 := Aside0.mk A110
    clear A110
    by_cases c12 : t175.size + t176.size ≤ 9223372036854775807
    ·rw [if_pos c12] at H
     have c12b0 := eq_true c12
     have c12b1 : decide (t175.size + t176.size ≤ 9223372036854775807) = true := decide_eq_true c12
     try have c12b2 : (9223372036854775807 < t175.size + t176.size) = False := eq_false (Nat.not_lt.2 c12)
     replace H := Option.bind_eq_some_iff.mp H
     obtain ⟨t177, A130, H⟩ := H
     replace H : (if (t175 ++ t176).size + t177.size ≤ 9223372036854775807 then ((greenwoodref01_Ints.f kj3 l0_3).bind fun t178 => (if ((t175 ++ t176) ++ t177).size + t178.size ≤ 9223372036854775807 then ((greenwoodref01_Num.f kj3 (l0_4.length : Int)).bind fun t179 => (if (((t175 ++ t176) ++ t177) ++ t178).size + t179.size ≤ 9223372036854775807 then (greenwoodref23_Encode.l0 kj3 ((((t175 ++ t176) ++ t177) ++ t178) ++ t179) 0 a0_0 a0_1 l0_2 l0_3 l0_4 l0_5 l0_6) else (none))) else (none))) else (none)) = some r := H
     have A13 := Aside0.mk A130
     clear A130
     by_cases c14 : (t175 ++ t176).size + t177.size ≤ 9223372036854775807
     ·rw [if_pos c14] at H
      have c14b0 := eq_true c14
      have c14b1 : decide ((t175 ++ t176).size + t177.size ≤ 9223372036854775807) = true := decide_eq_true c14
      try have c14b2 : (9223372036854775807 < (t175 ++ t176).size + t177.size) = False := eq_false (Nat.not_lt.2 c14)
      try simp only [ByteArray.size_append] at c14b2
      replace H := Option.bind_eq_some_iff.mp H
      obtain ⟨t178, A150, H⟩ := H
      replace H : (if ((t175 ++ t176) ++ t177).size + t178.size ≤ 9223372036854775807 then ((greenwoodref01_Num.f kj3 (l0_4.length : Int)).bind fun t179 => (if (((t175 ++ t176) ++ t177) ++ t178).size + t179.size ≤ 9223372036854775807 then (greenwoodref23_Encode.l0 kj3 ((((t175 ++ t176) ++ t177) ++ t178) ++ t179) 0 a0_0 a0_1 l0_2 l0_3 l0_4 l0_5 l0_6) else (none))) else (none)) = some r := H
      have A15 := Aside0.mk A150
      clear A150
      by_cases c16 : ((t175 ++ t176) ++ t177).size + t178.size ≤ 9223372036854775807
      ·rw [if_pos c16] at H
       have c16b0 := eq_true c16
       have c16b1 : decide (((t175 ++ t176) ++ t177).size + t178.size ≤ 9223372036854775807) = true := decide_eq_true c16
       try have c16b2 : (9223372036854775807 < ((t175 ++ t176) ++ t177).size + t178.size) = False := eq_false (Nat.not_lt.2 c16)
       try simp only [ByteArray.size_append] at c16b2
       replace H := Option.bind_eq_some_iff.mp H
       obtain ⟨t179, A170, H⟩ := H
       replace H : (if (((t175 ++ t176) ++ t177) ++ t178).size + t179.size ≤ 9223372036854775807 then (greenwoodref23_Encode.l0 kj3 ((((t175 ++ t176) ++ t177) ++ t178) ++ t179) 0 a0_0 a0_1 l0_2 l0_3 l0_4 l0_5 l0_6) else (none)) = some r := H
       have A17 := Aside0.mk A170
       clear A170
       by_cases c18 : (((t175 ++ t176) ++ t177) ++ t178).size + t179.size ≤ 9223372036854775807
       ·rw [if_pos c18] at H
        have c18b0 := eq_true c18
        have c18b1 : decide ((((t175 ++ t176) ++ t177) ++ t178).size + t179.size ≤ 9223372036854775807) = true := decide_eq_true c18
        try have c18b2 : (9223372036854775807 < (((t175 ++ t176) ++ t177) ++ t178).size + t179.size) = False := eq_false (Nat.not_lt.2 c18)
        try simp only [ByteArray.size_append] at c18b2
        have H' := Aside0.mk H
        clear H
        try go_wp2
        have n0_ := Aside0.mk (blk_drew BK173.out)
        have n1_ := Aside0.mk (below_drew1 HB.out)
        clear BK173
        clear HB
        have BK173 := n0_
        have HB := n1_
        clear n0_ n1_
        refine start_ (n := 20) (S := fun w' => w'.cell? ⟨gb173, 0, none⟩ = some (.int .i64 a0_0) ∧ w'.cell? ⟨gb173, 1, none⟩ = some (.bool a0_1) ∧ w'.cell? ⟨gb173, 2, none⟩ = some (.slice A0_2 l0_2.length c0_2) ∧ w'.cell? ⟨gb173, 3, none⟩ = some (.slice A0_3 l0_3.length c0_3) ∧ w'.cell? ⟨gb173, 4, none⟩ = some (.slice A0_4 l0_4.length c0_4) ∧ w'.cell? ⟨gb173, 5, none⟩ = some (.slice A0_5 l0_5.length c0_5) ∧ w'.cell? ⟨gb173, 6, none⟩ = some (.slice A0_6 l0_6.length c0_6)) (ds := []) #[false, false, false, false, false, false, false, false, false, false, false, false, false, false, false, false, false, false, false, false] (by kernel_rfl) rfl rfl ⟨(blk_cell BK173.out 0).trans rfl, (blk_cell BK173.out 1).trans rfl, (blk_cell BK173.out 2).trans rfl, (blk_cell BK173.out 3).trans rfl, (blk_cell BK173.out 4).trans rfl, (blk_cell BK173.out 5).trans rfl, (blk_cell BK173.out 6).trans rfl⟩ (fun hHeld => ?_); refine with_tabW greenwoodref23_Encode.tab6 greenwoodref23_Encode.bits6 (fun HT_ HW_ => ?_)
        generalize wc.drew = w19 at BK173 HB hHeld ⊢
        refine pure_ (i := 0) (N := some 13) (v := ?_) (a' := ?_) #[true, false, false, false, false, false, false, false, false, false, false, false, false, false, false, false, false, false, false, false] rfl rfl (any_of HT_.out (by kernel_rfl)) (fun _ _ _ h => h) (Or.inl ⟨by rfl, ?_⟩) ?_ ?_
        rotate_left
        ·intro w'
         go_simp
         with_reducible rfl
        rotate_left
        ·simp only [Act.put, List.setIfInBounds_toArray, List.set_cons_zero, List.set_cons_succ, i64_w, i32_w]
         rfl
        refine pure_ (i := 3) (N := some 16) (v := ?_) (a' := ?_) #[true, false, false, true, false, false, false, false, false, false, false, false, false, false, false, false, false, false, false, false] rfl rfl (any_of HT_.out (by kernel_rfl)) (fun _ _ _ h => h) (Or.inl ⟨by rfl, ?_⟩) ?_ ?_
        rotate_left
        ·intro w'
         go_simp
         with_reducible rfl
        rotate_left
        ·simp only [Act.put, List.setIfInBounds_toArray, List.set_cons_zero, List.set_cons_succ, i64_w, i32_w]
         rfl
        refine pure_ (i := 6) (N := some 19) (v := ?_) (a' := ?_) #[true, false, false, true, false, false, true, false, false, false, false, false, false, false, false, false, false, false, false, false] rfl rfl (any_of HT_.out (by kernel_rfl)) (fun _ _ _ h => h) (Or.inl ⟨by rfl, ?_⟩) ?_ ?_
        rotate_left
        ·intro w'
         go_simp
         with_reducible rfl
        rotate_left
        ·simp only [Act.put, List.setIfInBounds_toArray, List.set_cons_zero, List.set_cons_succ, i64_w, i32_w]
         rfl
        refine pure_ (i := 10) (N := some 23) (v := ?_) (a' := ?_) #[true, false, false, true, false, false, true, false, false, false, true, false, false, false, false, false, false, false, false, false] rfl rfl (any_of HT_.out (by kernel_rfl)) (fun _ _ _ h => h) (Or.inl ⟨by rfl, ?_⟩) ?_ ?_
        rotate_left
        ·intro w'
         go_simp
         with_reducible rfl
        rotate_left
        ·simp only [Act.put, List.setIfInBounds_toArray, List.set_cons_zero, List.set_cons_succ, i64_w, i32_w]
         rfl
        refine pure_ (i := 14) (N := some 27) (v := ?_) (a' := ?_) #[true, false, false, true, false, false, true, false, false, false, true, false, false, false, true, false, false, false, false, false] rfl rfl (any_of HT_.out (by kernel_rfl)) (fun _ _ _ h => h) (Or.inl ⟨by rfl, ?_⟩) ?_ ?_
        rotate_left
        ·intro w'
         go_simp
         with_reducible rfl
        rotate_left
        ·simp only [Act.put, List.setIfInBounds_toArray, List.set_cons_zero, List.set_cons_succ, i64_w, i32_w]
         rfl
        refine take_ (i := 1) (N := some 14) (v := ?_) (a' := ?_) #[true, true, false, true, false, false, true, false, false, false, true, false, false, false, true, false, false, false, false, false] rfl rfl (take_ofW HT_.out HW_.out (by kernel_rfl)) (fun _ _ _ h => h) (Or.inl ⟨by rfl, ?_⟩) hHeld ?_ ?_
        rotate_left
        ·rintro w' ⟨s0, s1, s2, s3, s4, s5, s6⟩
         go_simp
         with_reducible rfl
        rotate_left
        ·simp only [Act.put, List.setIfInBounds_toArray, List.set_cons_zero, List.set_cons_succ, i64_w, i32_w]
         rfl
        refine take_ (i := 7) (N := some 20) (v := ?_) (a' := ?_) #[true, true, false, true, false, false, true, true, false, false, true, false, false, false, true, false, false, false, false, false] rfl rfl (take_ofW HT_.out HW_.out (by kernel_rfl)) (fun _ _ _ h => h) (Or.inl ⟨by rfl, ?_⟩) hHeld ?_ ?_
        rotate_left
        ·rintro w' ⟨s0, s1, s2, s3, s4, s5, s6⟩
         go_simp
         with_reducible rfl
        rotate_left
        ·simp only [Act.put, List.setIfInBounds_toArray, List.set_cons_zero, List.set_cons_succ, i64_w, i32_w]
         rfl
        refine take_ (i := 11) (N := some 24) (v := ?_) (a' := ?_) #[true, true, false, true, false, false, true, true, false, false, true, true, false, false, true, false, false, false, false, false] rfl rfl (take_ofW HT_.out HW_.out (by kernel_rfl)) (fun _ _ _ h => h) (Or.inl ⟨by rfl, ?_⟩) hHeld ?_ ?_
        rotate_left
        ·rintro w' ⟨s0, s1, s2, s3, s4, s5, s6⟩
         go_simp
         with_reducible rfl
        rotate_left
        ·simp only [Act.put, List.setIfInBounds_toArray, List.set_cons_zero, List.set_cons_succ, i64_w, i32_w]
         rfl
        refine take_ (i := 15) (N := some 28) (v := ?_) (a' := ?_) #[true, true, false, true, false, false, true, true, false, false, true, true, false, false, true, true, false, false, false, false] rfl rfl (take_ofW HT_.out HW_.out (by kernel_rfl)) (fun _ _ _ h => h) (Or.inl ⟨by rfl, ?_⟩) hHeld ?_ ?_
        rotate_left
        ·rintro w' ⟨s0, s1, s2, s3, s4, s5, s6⟩
         go_simp
         with_reducible rfl
        rotate_left
        ·simp only [Act.put, List.setIfInBounds_toArray, List.set_cons_zero, List.set_cons_succ, i64_w, i32_w]
         rfl
        refine pure_ (i := 16) (N := some 29) (v := ?_) (a' := ?_) #[true, true, false, true, false, false, true, true, false, false, true, true, false, false, true, true, true, false, false, false] rfl rfl (any_of HT_.out (by kernel_rfl)) (fun _ _ _ h => h) (Or.inl ⟨by rfl, ?_⟩) ?_ ?_
        rotate_left
        ·intro w'
         go_simp
         with_reducible rfl
        rotate_left
        ·simp only [Act.put, List.setIfInBounds_toArray, List.set_cons_zero, List.set_cons_succ, i64_w, i32_w]
         rfl
        refine one_ (i := 2) (N := some 15) #[true, true, true, true, false, false, true, true, false, false, true, true, false, false, true, true, true, false, false, false] rfl rfl (one_of HT_.out (by kernel_rfl)) (by decide) (fun K hK => ?_)
        refine goes_ Tryd.func35 (by kernel_rfl) rfl #[.int .i64 a0_0] (by rfl) rfl rfl (by (try simp only [List.map_toArray, List.map_cons, List.map_nil]); first | done | rfl | (simp only [List.length_drop, List.length_take]; rfl)) ?_
        with_reducible refine (greenwoodref01_Num.calls kj3 a0_0 t175 _ A10.out).mono ?_
        rintro e w20 ⟨rfl, hb⟩
        refine ⟨_, rfl, ?_⟩
        have n0_ := Aside0.mk (blk_below (g := gb173) (o := .cells #[.int .i64 a0_0, .bool a0_1, .slice A0_2 l0_2.length c0_2, .slice A0_3 l0_3.length c0_3, .slice A0_4 l0_4.length c0_4, .slice A0_5 l0_5.length c0_5, .slice A0_6 l0_6.length c0_6] 27 (0, 0)) (by (with_reducible repeat (first | refine blk_drewN ?_ _ | refine blk_drew ?_ | refine blk_alloc ?_ _)); exact BK173.out) hb)
        have n1_ := Aside0.mk (below_step (by repeat (first | (with_reducible first | exact HB.out | apply below_alloc | apply pw_below_drewN | apply below_drew1 | refine below_set ?_ GE173.out) | exact HB.out)) hb)
        clear BK173
        clear HB
        have BK173 := n0_
        have HB := n1_
        clear n0_ n1_
        (try clear hb)
        (try clear hb2)
        (try clear hk)
        (try clear hi)
        refine hK.out _ _ ⟨(blk_cell BK173.out 0).trans rfl, (blk_cell BK173.out 1).trans rfl, (blk_cell BK173.out 2).trans rfl, (blk_cell BK173.out 3).trans rfl, (blk_cell BK173.out 4).trans rfl, (blk_cell BK173.out 5).trans rfl, (blk_cell BK173.out 6).trans rfl⟩ (fun hHeld => ?_)
        clear hK K
        refine norm_ (a' := ?_) ?_ ?_
        rotate_left
        ·show Act.put _ (some 15) _ = _
         simp only [Act.put, List.setIfInBounds_toArray, List.set_cons_zero, List.set_cons_succ, i64_w, i32_w]
         rfl
        refine one_ (i := 4) (N := some 17) #[true, true, true, true, true, false, true, true, false, false, true, true, false, false, true, true, true, false, false, false] rfl rfl (one_of HT_.out (by kernel_rfl)) (by decide) (fun K hK => ?_)
        refine goes_ Tryd.func35 (by kernel_rfl) rfl #[.int .i64 x3_3] (by rfl) rfl rfl (by (try simp only [List.map_toArray, List.map_cons, List.map_nil]); first | done | rfl | (simp only [List.length_drop, List.length_take]; rfl)) ?_
        with_reducible refine (greenwoodref01_Num.calls kj3 x3_3 t176 _ A11.out).mono ?_
        rintro e w21 ⟨rfl, hb⟩
        refine ⟨_, rfl, ?_⟩
        have n0_ := Aside0.mk (blk_below (g := gb173) (o := .cells #[.int .i64 a0_0, .bool a0_1, .slice A0_2 l0_2.length c0_2, .slice A0_3 l0_3.length c0_3, .slice A0_4 l0_4.length c0_4, .slice A0_5 l0_5.length c0_5, .slice A0_6 l0_6.length c0_6] 27 (0, 0)) (by (with_reducible repeat (first | refine blk_drewN ?_ _ | refine blk_drew ?_ | refine blk_alloc ?_ _)); exact BK173.out) hb)
        have n1_ := Aside0.mk (below_step (by repeat (first | (with_reducible first | exact HB.out | apply below_alloc | apply pw_below_drewN | apply below_drew1 | refine below_set ?_ GE173.out) | exact HB.out)) hb)
        clear BK173
        clear HB
        have BK173 := n0_
        have HB := n1_
        clear n0_ n1_
        (try clear hb)
        (try clear hb2)
        (try clear hk)
        (try clear hi)
        refine hK.out _ _ ⟨(blk_cell BK173.out 0).trans rfl, (blk_cell BK173.out 1).trans rfl, (blk_cell BK173.out 2).trans rfl, (blk_cell BK173.out 3).trans rfl, (blk_cell BK173.out 4).trans rfl, (blk_cell BK173.out 5).trans rfl, (blk_cell BK173.out 6).trans rfl⟩ (fun hHeld => ?_)
        clear hK K
        refine norm_ (a' := ?_) ?_ ?_
        rotate_left
        ·show Act.put _ (some 17) _ = _
         simp only [Act.put, List.setIfInBounds_toArray, List.set_cons_zero, List.set_cons_succ, i64_w, i32_w]
         rfl
        refine pure_ (i := 5) (N := some 18) (v := ?_) (a' := ?_) #[true, true, true, true, true, true, true, true, false, false, true, true, false, false, true, true, true, false, false, false] rfl rfl (any_of HT_.out (by kernel_rfl)) (fun _ _ _ h => h) (Or.inl ⟨by rfl, ?_⟩) ?_ ?_
        rotate_left
        ·intro w'
         go_simp
         with_reducible rfl
        rotate_left
        ·simp only [Act.put, List.setIfInBounds_toArray, List.set_cons_zero, List.set_cons_succ, i64_w, i32_w]
         rfl
        refine one_ (i := 8) (N := some 21) #[true, true, true, true, true, true, true, true, true, false, true, true, false, false, true, true, true, false, false, false] rfl rfl (one_of HT_.out (by kernel_rfl)) (by decide) (fun K hK => ?_)
        refine goes_ Tryd.func36 (by kernel_rfl) rfl #[.slice A0_2 l0_2.length c0_2] (by rfl) rfl rfl (by (try simp only [List.map_toArray, List.map_cons, List.map_nil]); first | done | rfl | (simp only [List.length_drop, List.length_take]; rfl)) ?_
        with_reducible refine (greenwoodref01_Ints.calls kj3 _ _ l0_2 t177 _ ?side1 ?side2 A13.out).mono ?_
        (case side1 => repeat (first | exact (Kd.C_below HR0_2.out HB.out) | (with_reducible refine Kd.C_alloc ?_ _) | (with_reducible refine Kd.C_drewN ?_ _) | (with_reducible refine Kd.C_drew ?_)))
        (case side2 => exact HC0_2.out)
        rintro e w22 ⟨rfl, hb⟩
        refine ⟨_, rfl, ?_⟩
        have n0_ := Aside0.mk (blk_below (g := gb173) (o := .cells #[.int .i64 a0_0, .bool a0_1, .slice A0_2 l0_2.length c0_2, .slice A0_3 l0_3.length c0_3, .slice A0_4 l0_4.length c0_4, .slice A0_5 l0_5.length c0_5, .slice A0_6 l0_6.length c0_6] 27 (0, 0)) (by (with_reducible repeat (first | refine blk_drewN ?_ _ | refine blk_drew ?_ | refine blk_alloc ?_ _)); exact BK173.out) hb)
        have n1_ := Aside0.mk (below_step (by repeat (first | (with_reducible first | exact HB.out | apply below_alloc | apply pw_below_drewN | apply below_drew1 | refine below_set ?_ GE173.out) | exact HB.out)) hb)
        clear BK173
        clear HB
        have BK173 := n0_
        have HB := n1_
        clear n0_ n1_
        (try clear hb)
        (try clear hb2)
        (try clear hk)
        (try clear hi)
        refine hK.out _ _ ⟨(blk_cell BK173.out 0).trans rfl, (blk_cell BK173.out 1).trans rfl, (blk_cell BK173.out 2).trans rfl, (blk_cell BK173.out 3).trans rfl, (blk_cell BK173.out 4).trans rfl, (blk_cell BK173.out 5).trans rfl, (blk_cell BK173.out 6).trans rfl⟩ (fun hHeld => ?_)
        clear hK K
        refine norm_ (a' := ?_) ?_ ?_
        rotate_left
        ·show Act.put _ (some 21) _ = _
         simp only [Act.put, List.setIfInBounds_toArray, List.set_cons_zero, List.set_cons_succ, i64_w, i32_w]
         rfl
        refine pure_ (i := 9) (N := some 22) (v := ?_) (a' := ?_) #[true, true, true, true, true, true, true, true, true, true, true, true, false, false, true, true, true, false, false, false] rfl rfl (any_of HT_.out (by kernel_rfl)) (fun _ _ _ h => h) (Or.inl ⟨by rfl, ?_⟩) ?_ ?_
        rotate_left
        ·intro w'
         go_simp
         with_reducible rfl
        rotate_left
        ·simp only [Act.put, List.setIfInBounds_toArray, List.set_cons_zero, List.set_cons_succ, i64_w, i32_w]
         rfl
        refine one_ (i := 12) (N := some 25) #[true, true, true, true, true, true, true, true, true, true, true, true, true, false, true, true, true, false, false, false] rfl rfl (one_of HT_.out (by kernel_rfl)) (by decide) (fun K hK => ?_)
        refine goes_ Tryd.func36 (by kernel_rfl) rfl #[.slice A0_3 l0_3.length c0_3] (by rfl) rfl rfl (by (try simp only [List.map_toArray, List.map_cons, List.map_nil]); first | done | rfl | (simp only [List.length_drop, List.length_take]; rfl)) ?_
        with_reducible refine (greenwoodref01_Ints.calls kj3 _ _ l0_3 t178 _ ?side1 ?side2 A15.out).mono ?_
        (case side1 => repeat (first | exact (Kd.C_below HR0_3.out HB.out) | (with_reducible refine Kd.C_alloc ?_ _) | (with_reducible refine Kd.C_drewN ?_ _) | (with_reducible refine Kd.C_drew ?_)))
        (case side2 => exact HC0_3.out)
        rintro e w23 ⟨rfl, hb⟩
        refine ⟨_, rfl, ?_⟩
        have n0_ := Aside0.mk (blk_below (g := gb173) (o := .cells #[.int .i64 a0_0, .bool a0_1, .slice A0_2 l0_2.length c0_2, .slice A0_3 l0_3.length c0_3, .slice A0_4 l0_4.length c0_4, .slice A0_5 l0_5.length c0_5, .slice A0_6 l0_6.length c0_6] 27 (0, 0)) (by (with_reducible repeat (first | refine blk_drewN ?_ _ | refine blk_drew ?_ | refine blk_alloc ?_ _)); exact BK173.out) hb)
        have n1_ := Aside0.mk (below_step (by repeat (first | (with_reducible first | exact HB.out | apply below_alloc | apply pw_below_drewN | apply below_drew1 | refine below_set ?_ GE173.out) | exact HB.out)) hb)
        clear BK173
        clear HB
        have BK173 := n0_
        have HB := n1_
        clear n0_ n1_
        (try clear hb)
        (try clear hb2)
        (try clear hk)
        (try clear hi)
        refine hK.out _ _ ⟨(blk_cell BK173.out 0).trans rfl, (blk_cell BK173.out 1).trans rfl, (blk_cell BK173.out 2).trans rfl, (blk_cell BK173.out 3).trans rfl, (blk_cell BK173.out 4).trans rfl, (blk_cell BK173.out 5).trans rfl, (blk_cell BK173.out 6).trans rfl⟩ (fun hHeld => ?_)
        clear hK K
        refine norm_ (a' := ?_) ?_ ?_
        rotate_left
        ·show Act.put _ (some 25) _ = _
         simp only [Act.put, List.setIfInBounds_toArray, List.set_cons_zero, List.set_cons_succ, i64_w, i32_w]
         rfl
        refine pure_ (i := 13) (N := some 26) (v := ?_) (a' := ?_) #[true, true, true, true, true, true, true, true, true, true, true, true, true, true, true, true, true, false, false, false] rfl rfl (any_of HT_.out (by kernel_rfl)) (fun _ _ _ h => h) (Or.inl ⟨by rfl, ?_⟩) ?_ ?_
        rotate_left
        ·intro w'
         go_simp
         with_reducible rfl
        rotate_left
        ·simp only [Act.put, List.setIfInBounds_toArray, List.set_cons_zero, List.set_cons_succ, i64_w, i32_w]
         rfl
        refine one_ (i := 17) (N := some 30) #[true, true, true, true, true, true, true, true, true, true, true, true, true, true, true, true, true, true, false, false] rfl rfl (one_of HT_.out (by kernel_rfl)) (by decide) (fun K hK => ?_)
        refine goes_ Tryd.func35 (by kernel_rfl) rfl #[.int .i64 (l0_4.length : Int)] (by rfl) rfl rfl (by (try simp only [List.map_toArray, List.map_cons, List.map_nil]); first | done | rfl | (simp only [List.length_drop, List.length_take]; rfl)) ?_
        with_reducible refine (greenwoodref01_Num.calls kj3 (l0_4.length : Int) t179 _ A17.out).mono ?_
        rintro e w24 ⟨rfl, hb⟩
        refine ⟨_, rfl, ?_⟩
        have n0_ := Aside0.mk (blk_below (g := gb173) (o := .cells #[.int .i64 a0_0, .bool a0_1, .slice A0_2 l0_2.length c0_2, .slice A0_3 l0_3.length c0_3, .slice A0_4 l0_4.length c0_4, .slice A0_5 l0_5.length c0_5, .slice A0_6 l0_6.length c0_6] 27 (0, 0)) (by (with_reducible repeat (first | refine blk_drewN ?_ _ | refine blk_drew ?_ | refine blk_alloc ?_ _)); exact BK173.out) hb)
        have n1_ := Aside0.mk (below_step (by repeat (first | (with_reducible first | exact HB.out | apply below_alloc | apply pw_below_drewN | apply below_drew1 | refine below_set ?_ GE173.out) | exact HB.out)) hb)
        clear BK173
        clear HB
        have BK173 := n0_
        have HB := n1_
        clear n0_ n1_
        (try clear hb)
        (try clear hb2)
        (try clear hk)
        (try clear hi)
        refine hK.out _ _ ⟨(blk_cell BK173.out 0).trans rfl, (blk_cell BK173.out 1).trans rfl, (blk_cell BK173.out 2).trans rfl, (blk_cell BK173.out 3).trans rfl, (blk_cell BK173.out 4).trans rfl, (blk_cell BK173.out 5).trans rfl, (blk_cell BK173.out 6).trans rfl⟩ (fun hHeld => ?_)
        clear hK K
        refine norm_ (a' := ?_) ?_ ?_
        rotate_left
        ·show Act.put _ (some 30) _ = _
         simp only [Act.put, List.setIfInBounds_toArray, List.set_cons_zero, List.set_cons_succ, i64_w, i32_w]
         rfl
        refine pure_ (i := 18) (N := some 31) (v := ?_) (a' := ?_) #[true, true, true, true, true, true, true, true, true, true, true, true, true, true, true, true, true, true, true, false] rfl rfl (any_of HT_.out (by kernel_rfl)) (fun _ _ _ h => h) (Or.inl ⟨by rfl, ?_⟩) ?_ ?_
        rotate_left
        ·intro w'
         go_simp
         with_reducible rfl
        rotate_left
        ·simp only [Act.put, List.setIfInBounds_toArray, List.set_cons_zero, List.set_cons_succ, i64_w, i32_w]
         rfl
        refine pure_ (i := 19) (N := some 4) (v := ?_) (a' := ?_) #[true, true, true, true, true, true, true, true, true, true, true, true, true, true, true, true, true, true, true, true] rfl rfl (any_of HT_.out (by kernel_rfl)) (fun _ _ _ h => h) (Or.inl ⟨by rfl, ?_⟩) ?_ ?_
        rotate_left
        ·intro w'
         go_simp
         with_reducible rfl
        rotate_left
        ·simp only [Act.put, List.setIfInBounds_toArray, List.set_cons_zero, List.set_cons_succ, i64_w, i32_w]
         rfl
        refine done_ (done_of HT_.out (by kernel_rfl)) ?_
        try go_wp2
        go_loopg [4, 5] kj3 (fun kq v4 v5 w' => ∃ (x4_2 : ByteArray) (x5_2 : Int), v4 = .string x4_2 ∧ v5 = .int .i64 x5_2 ∧ Aside0 (greenwoodref23_Encode.l0 kq x4_2 x5_2 a0_0 a0_1 l0_2 l0_3 l0_4 l0_5 l0_6 = some r) ∧ Aside0 (kq ≤ kj3) ∧ Aside0 (w'.heap[gb173]? = some (.cells #[.int .i64 a0_0, .bool a0_1, (.slice A0_2 l0_2.length c0_2), (.slice A0_3 l0_3.length c0_3), (.slice A0_4 l0_4.length c0_4), (.slice A0_5 l0_5.length c0_5), (.slice A0_6 l0_6.length c0_6)] 27 (0, 0))) ∧ Aside0 (Below w.heap.size w w'))
        case atStart => exact ⟨((((t175 ++ t176) ++ t177) ++ t178) ++ t179), (0), (by first | rfl | (simp; done) | (simp [*]; done)), (by first | rfl | (simp; done) | (simp [*]; done)), H', ⟨Nat.le_refl _⟩, ⟨by (with_reducible repeat (first | refine blk_drewN ?_ _ | refine blk_drew ?_ | refine blk_alloc ?_ _)); exact BK173.out⟩, ⟨by repeat (first | (with_reducible first | exact HB.out | apply below_alloc | apply pw_below_drewN | apply below_drew1 | refine below_set ?_ GE173.out) | exact HB.out)⟩⟩
        case round =>
         clear H'
         try clear c1
         try clear p2
         try clear c3
         try clear c3b0
         try clear c3b1
         try clear c9
         try clear c12
         try clear c12b0
         try clear c12b1
         try clear c12b2
         try clear c14
         try clear c14b0
         try clear c14b1
         try clear c14b2
         try clear c16
         try clear c16b0
         try clear c16b1
         try clear c16b2
         try clear c18
         try clear c18b0
         try clear c18b1
         try clear c18b2
         try clear hcz6_0
         try clear hcz6_1
         try clear hcz6_2
         try clear hcz6_3
         try clear hcz6_4
         try clear hcz6_5
         try clear hcz6_6
         try clear hcz8_0
         try clear hcz8_1
         try clear hcz8_2
         try clear hcz8_3
         try clear hcz8_4
         try clear hcz8_5
         try clear hcz8_6
         try clear hfz6_0
         try clear hfz6_1
         try clear hfz6_2
         try clear hfz6_3
         try clear hfz6_4
         try clear hfz6_5
         try clear hfz6_6
         try clear hfz8_0
         try clear hfz8_1
         try clear hfz8_2
         try clear hfz8_3
         try clear hfz8_4
         try clear hfz8_5
         try clear hfz8_6
         try clear p2
         obtain ⟨x4_2, x5_2, rfl, rfl, HA, HK2, BK173, HB⟩ := hrel
         cases gk with
         | zero => exact absurd HA.out (by simp [greenwoodref23_Encode.l0])
         | succ k2 =>
          have H := HA.out
          clear HA
          simp only [greenwoodref23_Encode.l0] at H
          by_cases c25 : x5_2 < (l0_4.length : Int)
          ·rw [if_pos c25] at H
           have c25b0 : decide (x5_2 < (l0_4.length : Int)) = true := decide_eq_true c25
           clear c25
           by_cases c26 : 0 ≤ x5_2
           ·rw [if_pos c26] at H
            have c26b0 : decide (0 ≤ x5_2) = true := decide_eq_true c26
            clear c26
            replace H := Option.bind_eq_some_iff.mp H
            obtain ⟨t181, A270, H⟩ := H
            replace H : (if x4_2.size + t181.size ≤ 9223372036854775807 then (greenwoodref23_Encode.l0 k2 (x4_2 ++ t181) (wrap64 (x5_2 + 1)) a0_0 a0_1 l0_2 l0_3 l0_4 l0_5 l0_6) else (none)) = some r := H
            have A27 := Aside0.mk A270
            clear A270
            by_cases c28 : x4_2.size + t181.size ≤ 9223372036854775807
            ·rw [if_pos c28] at H
             have c28b0 := eq_true c28
             have c28b1 : decide (x4_2.size + t181.size ≤ 9223372036854775807) = true := decide_eq_true c28
             try have c28b2 : (9223372036854775807 < x4_2.size + t181.size) = False := eq_false (Nat.not_lt.2 c28)
             have H' := Aside0.mk H
             clear H
             have hcz29_0 : wr.cell? ⟨gb173, 0, none⟩ = some (.int .i64 a0_0) := (blk_cell BK173.out 0).trans rfl
             have hcz29_1 : wr.cell? ⟨gb173, 1, none⟩ = some (.bool a0_1) := (blk_cell BK173.out 1).trans rfl
             have hcz29_2 : wr.cell? ⟨gb173, 2, none⟩ = some (.slice A0_2 l0_2.length c0_2) := (blk_cell BK173.out 2).trans rfl
             have hcz29_3 : wr.cell? ⟨gb173, 3, none⟩ = some (.slice A0_3 l0_3.length c0_3) := (blk_cell BK173.out 3).trans rfl
             have hcz29_4 : wr.cell? ⟨gb173, 4, none⟩ = some (.slice A0_4 l0_4.length c0_4) := (blk_cell BK173.out 4).trans rfl
             have hcz29_5 : wr.cell? ⟨gb173, 5, none⟩ = some (.slice A0_5 l0_5.length c0_5) := (blk_cell BK173.out 5).trans rfl
             have hcz29_6 : wr.cell? ⟨gb173, 6, none⟩ = some (.slice A0_6 l0_6.length c0_6) := (blk_cell BK173.out 6).trans rfl
             have hfz29_0 := blk_frozen BK173.out 0
             have hfz29_1 := blk_frozen BK173.out 1
             have hfz29_2 := blk_frozen BK173.out 2
             have hfz29_3 := blk_frozen BK173.out 3
             have hfz29_4 := blk_frozen BK173.out 4
             have hfz29_5 := blk_frozen BK173.out 5
             have hfz29_6 := blk_frozen BK173.out 6
             have p180 : 0 ≤ (x5_2 : Int) := of_decide_eq_true (by first | (with_reducible assumption) | assumption)
             have q180 : x5_2 < (l0_4.length : Int) := of_decide_eq_true (by first | (with_reducible assumption) | assumption)
             obtain ⟨ad180, A180_0, c180_0, e180, hx180_0, hl180_0, hi180_0⟩ := at_L1 HR0_4.out x5_2 p180 q180
             cases e180
             replace hx180_0 := (HB.out.cell (World.block_lt_of_cell? w _ hx180_0)).trans hx180_0
             have HR180_0 := Aside0.mk hi180_0
             have HC180_0 := Aside0.mk hl180_0
             clear hi180_0 hl180_0
             replace p180 := eq_true p180
             replace q180 := eq_true q180
             go_wp2_with (first | ((with_reducible refine gate_callee (f := 36) rfl ?_); refine goesL_ (some 45) rfl rfl Tryd.func36 (by kernel_rfl) rfl #[.slice A180_0 (rd_L1 l0_4 x5_2).length c180_0] rfl (by (try simp only [List.map_toArray, List.map_cons, List.map_nil]); first | done | rfl | (simp only [List.length_drop, List.length_take]; rfl)) ?_; (with_reducible refine (greenwoodref01_Ints.calls k2 _ _ (rd_L1 l0_4 x5_2) t181 _ ?side1 ?side2 A27.out).mono ?_); (case side1 => repeat (first | exact (Kd.C_below HR180_0.out HB.out) | (with_reducible refine Kd.C_alloc ?_ _) | (with_reducible refine Kd.C_drewN ?_ _) | (with_reducible refine Kd.C_drew ?_))); (case side2 => exact HC180_0.out); rintro e w30 ⟨rfl, hb⟩; refine ⟨_, rfl, ?_⟩; have n0_ := Aside0.mk (blk_below (g := gb173) (o := .cells #[.int .i64 a0_0, .bool a0_1, .slice A0_2 l0_2.length c0_2, .slice A0_3 l0_3.length c0_3, .slice (some ad180) l0_4.length c0_4, .slice A0_5 l0_5.length c0_5, .slice A0_6 l0_6.length c0_6] 27 (0, 0)) (by (with_reducible repeat (first | refine blk_drewN ?_ _ | refine blk_drew ?_ | refine blk_alloc ?_ _)); exact BK173.out) hb); have n1_ := Aside0.mk (below_step (by repeat (first | (with_reducible first | exact HB.out | apply below_alloc | apply pw_below_drewN | apply below_drew1 | refine below_set ?_ GE173.out) | exact HB.out)) hb); clear BK173; clear HB; have BK173 := n0_; have HB := n1_; clear n0_ n1_; (try clear hb); (try clear hb2); (try clear hk); (try clear hi)))
             go_roundg k2
             case measure => have := HJ3.out; have := HK2.out; omega
             case rel => exact ⟨(x4_2 ++ t181), (wrap64 (x5_2 + 1)), (by first | rfl | (simp; done) | (simp [*]; done)), (by first | rfl | (simp; done) | (simp [*]; done)), H', ⟨by have := HJ3.out; have := HK2.out; omega⟩, ⟨by (with_reducible repeat (first | refine blk_drewN ?_ _ | refine blk_drew ?_ | refine blk_alloc ?_ _)); exact BK173.out⟩, ⟨by repeat (first | (with_reducible first | exact HB.out | apply below_alloc | apply pw_below_drewN | apply below_drew1 | refine below_set ?_ GE173.out) | exact HB.out)⟩⟩
            ·rw [if_neg c28] at H
             exact absurd H (by simp)
           ·rw [if_neg c26] at H
            exact absurd H (by simp)
          ·rw [if_neg c25] at H
           have c25b0 : decide (x5_2 < (l0_4.length : Int)) = false := decide_eq_false c25
           clear c25
           replace H := Option.bind_eq_some_iff.mp H
           obtain ⟨t182, A310, H⟩ := H
           replace H : (if x4_2.size + t182.size ≤ 9223372036854775807 then (greenwoodref23_Encode.l1 k2 (x4_2 ++ t182) 0 a0_0 a0_1 l0_2 l0_3 l0_4 l0_5 l0_6) else (none)) = some r := H
           have A31 := Aside0.mk A310
           clear A310
           by_cases c32 : x4_2.size + t182.size ≤ 9223372036854775807
           ·rw [if_pos c32] at H
            have c32b0 := eq_true c32
            have c32b1 : decide (x4_2.size + t182.size ≤ 9223372036854775807) = true := decide_eq_true c32
            try have c32b2 : (9223372036854775807 < x4_2.size + t182.size) = False := eq_false (Nat.not_lt.2 c32)
            have H' := Aside0.mk H
            clear H
            have hcz33_0 : wr.cell? ⟨gb173, 0, none⟩ = some (.int .i64 a0_0) := (blk_cell BK173.out 0).trans rfl
            have hcz33_1 : wr.cell? ⟨gb173, 1, none⟩ = some (.bool a0_1) := (blk_cell BK173.out 1).trans rfl
            have hcz33_2 : wr.cell? ⟨gb173, 2, none⟩ = some (.slice A0_2 l0_2.length c0_2) := (blk_cell BK173.out 2).trans rfl
            have hcz33_3 : wr.cell? ⟨gb173, 3, none⟩ = some (.slice A0_3 l0_3.length c0_3) := (blk_cell BK173.out 3).trans rfl
            have hcz33_4 : wr.cell? ⟨gb173, 4, none⟩ = some (.slice A0_4 l0_4.length c0_4) := (blk_cell BK173.out 4).trans rfl
            have hcz33_5 : wr.cell? ⟨gb173, 5, none⟩ = some (.slice A0_5 l0_5.length c0_5) := (blk_cell BK173.out 5).trans rfl
            have hcz33_6 : wr.cell? ⟨gb173, 6, none⟩ = some (.slice A0_6 l0_6.length c0_6) := (blk_cell BK173.out 6).trans rfl
            have hfz33_0 := blk_frozen BK173.out 0
            have hfz33_1 := blk_frozen BK173.out 1
            have hfz33_2 := blk_frozen BK173.out 2
            have hfz33_3 := blk_frozen BK173.out 3
            have hfz33_4 := blk_frozen BK173.out 4
            have hfz33_5 := blk_frozen BK173.out 5
            have hfz33_6 := blk_frozen BK173.out 6
            go_wp2_with (first | ((with_reducible refine gate_callee (f := 35) rfl ?_); refine goesL_ (some 51) rfl rfl Tryd.func35 (by kernel_rfl) rfl #[.int .i64 (l0_5.length : Int)] rfl (by (try simp only [List.map_toArray, List.map_cons, List.map_nil]); first | done | rfl | (simp only [List.length_drop, List.length_take]; rfl)) ?_; (with_reducible refine (greenwoodref01_Num.calls k2 (l0_5.length : Int) t182 _ A31.out).mono ?_); rintro e w34 ⟨rfl, hb⟩; refine ⟨_, rfl, ?_⟩; have n0_ := Aside0.mk (blk_below (g := gb173) (o := .cells #[.int .i64 a0_0, .bool a0_1, .slice A0_2 l0_2.length c0_2, .slice A0_3 l0_3.length c0_3, .slice A0_4 l0_4.length c0_4, .slice A0_5 l0_5.length c0_5, .slice A0_6 l0_6.length c0_6] 27 (0, 0)) (by (with_reducible repeat (first | refine blk_drewN ?_ _ | refine blk_drew ?_ | refine blk_alloc ?_ _)); exact BK173.out) hb); have n1_ := Aside0.mk (below_step (by repeat (first | (with_reducible first | exact HB.out | apply below_alloc | apply pw_below_drewN | apply below_drew1 | refine below_set ?_ GE173.out) | exact HB.out)) hb); clear BK173; clear HB; have BK173 := n0_; have HB := n1_; clear n0_ n1_; (try clear hb); (try clear hb2); (try clear hk); (try clear hi)))
            go_loopg [4, 6] k2 (fun kq v4 v6 w' => ∃ (x4_3 : ByteArray) (x6_3 : Int), v4 = .string x4_3 ∧ v6 = .int .i64 x6_3 ∧ Aside0 (greenwoodref23_Encode.l1 kq x4_3 x6_3 a0_0 a0_1 l0_2 l0_3 l0_4 l0_5 l0_6 = some r) ∧ Aside0 (kq ≤ k2) ∧ Aside0 (w'.heap[gb173]? = some (.cells #[.int .i64 a0_0, .bool a0_1, (.slice A0_2 l0_2.length c0_2), (.slice A0_3 l0_3.length c0_3), (.slice A0_4 l0_4.length c0_4), (.slice A0_5 l0_5.length c0_5), (.slice A0_6 l0_6.length c0_6)] 27 (0, 0))) ∧ Aside0 (Below w.heap.size w w'))
            case atStart => exact ⟨(x4_2 ++ t182), (0), (by first | rfl | (simp; done) | (simp [*]; done)), (by first | rfl | (simp; done) | (simp [*]; done)), H', ⟨Nat.le_refl _⟩, ⟨by (with_reducible repeat (first | refine blk_drewN ?_ _ | refine blk_drew ?_ | refine blk_alloc ?_ _)); exact BK173.out⟩, ⟨by repeat (first | (with_reducible first | exact HB.out | apply below_alloc | apply pw_below_drewN | apply below_drew1 | refine below_set ?_ GE173.out) | exact HB.out)⟩⟩
            case round =>
             clear H'
             try clear c1
             try clear p1
             try clear q1
             try clear hx1
             try clear c2
             try clear p2
             try clear c3
             try clear c3b0
             try clear c3b1
             try clear p6
             try clear c9
             try clear c12
             try clear c12b0
             try clear c12b1
             try clear c12b2
             try clear c14
             try clear c14b0
             try clear c14b1
             try clear c14b2
             try clear c16
             try clear c16b0
             try clear c16b1
             try clear c16b2
             try clear c18
             try clear c18b0
             try clear c18b1
             try clear c18b2
             try clear p18
             try clear q18
             try clear hx18
             try clear c25
             try clear c25b0
             try clear c26
             try clear c26b0
             try clear c28
             try clear c28b0
             try clear c28b1
             try clear c28b2
             try clear c32
             try clear c32b0
             try clear c32b1
             try clear c32b2
             try clear hcz29_0
             try clear hcz29_1
             try clear hcz29_2
             try clear hcz29_3
             try clear hcz29_4
             try clear hcz29_5
             try clear hcz29_6
             try clear hcz33_0
             try clear hcz33_1
             try clear hcz33_2
             try clear hcz33_3
             try clear hcz33_4
             try clear hcz33_5
             try clear hcz33_6
             try clear hcz6_0
             try clear hcz6_1
             try clear hcz6_2
             try clear hcz6_3
             try clear hcz6_4
             try clear hcz6_5
             try clear hcz6_6
             try clear hcz8_0
             try clear hcz8_1
             try clear hcz8_2
             try clear hcz8_3
             try clear hcz8_4
             try clear hcz8_5
             try clear hcz8_6
             try clear hfz29_0
             try clear hfz29_1
             try clear hfz29_2
             try clear hfz29_3
             try clear hfz29_4
             try clear hfz29_5
             try clear hfz29_6
             try clear hfz33_0
             try clear hfz33_1
             try clear hfz33_2
             try clear hfz33_3
             try clear hfz33_4
             try clear hfz33_5
             try clear hfz33_6
             try clear hfz6_0
             try clear hfz6_1
             try clear hfz6_2
             try clear hfz6_3
             try clear hfz6_4
             try clear hfz6_5
             try clear hfz6_6
             try clear hfz8_0
             try clear hfz8_1
             try clear hfz8_2
             try clear hfz8_3
             try clear hfz8_4
             try clear hfz8_5
             try clear hfz8_6
             try clear hx180_0
             try clear p180
             try clear p2
             try clear q180
             obtain ⟨x4_3, x6_3, rfl, rfl, HA, HK3, BK173, HB⟩ := hrel
             cases gk with
             | zero => exact absurd HA.out (by simp [greenwoodref23_Encode.l1])
             | succ k3 =>
              have H := HA.out
              clear HA
              simp only [greenwoodref23_Encode.l1] at H
              by_cases c35 : x6_3 < (l0_5.length : Int)
              ·rw [if_pos c35] at H
               have c35b0 : decide (x6_3 < (l0_5.length : Int)) = true := decide_eq_true c35
               clear c35
               by_cases c36 : 0 ≤ x6_3
               ·rw [if_pos c36] at H
                have c36b0 : decide (0 ≤ x6_3) = true := decide_eq_true c36
                clear c36
                replace H := Option.bind_eq_some_iff.mp H
                obtain ⟨t184, A370, H⟩ := H
                replace H : ((greenwoodref01_Ints.f k3 ((rd_T41 l0_5 x6_3).f1)).bind fun t186 => (if t184.size + t186.size ≤ 9223372036854775807 then ((greenwoodref01_Ints.f k3 ((rd_T41 l0_5 x6_3).f2)).bind fun t188 => (if (t184 ++ t186).size + t188.size ≤ 9223372036854775807 then (if x4_3.size + ((t184 ++ t186) ++ t188).size ≤ 9223372036854775807 then (greenwoodref23_Encode.l1 k3 (x4_3 ++ ((t184 ++ t186) ++ t188)) (wrap64 (x6_3 + 1)) a0_0 a0_1 l0_2 l0_3 l0_4 l0_5 l0_6) else (none)) else (none))) else (none))) = some r := H
                have A37 := Aside0.mk A370
                clear A370
                replace H := Option.bind_eq_some_iff.mp H
                obtain ⟨t186, A380, H⟩ := H
                replace H : (if t184.size + t186.size ≤ 9223372036854775807 then ((greenwoodref01_Ints.f k3 ((rd_T41 l0_5 x6_3).f2)).bind fun t188 => (if (t184 ++ t186).size + t188.size ≤ 9223372036854775807 then (if x4_3.size + ((t184 ++ t186) ++ t188).size ≤ 9223372036854775807 then (greenwoodref23_Encode.l1 k3 (x4_3 ++ ((t184 ++ t186) ++ t188)) (wrap64 (x6_3 + 1)) a0_0 a0_1 l0_2 l0_3 l0_4 l0_5 l0_6) else (none)) else (none))) else (none)) = some r := H
                have A38 := Aside0.mk A380
                clear A380
                by_cases c39 : t184.size + t186.size ≤ 9223372036854775807
                ·rw [if_pos c39] at H
                 have c39b0 := eq_true c39
                 have c39b1 : decide (t184.size + t186.size ≤ 9223372036854775807) = true := decide_eq_true c39
                 try have c39b2 : (9223372036854775807 < t184.size + t186.size) = False := eq_false (Nat.not_lt.2 c39)
                 replace H := Option.bind_eq_some_iff.mp H
                 obtain ⟨t188, A400, H⟩ := H
                 replace H : (if (t184 ++ t186).size + t188.size ≤ 9223372036854775807 then (if x4_3.size + ((t184 ++ t186) ++ t188).size ≤ 9223372036854775807 then (greenwoodref23_Encode.l1 k3 (x4_3 ++ ((t184 ++ t186) ++ t188)) (wrap64 (x6_3 + 1)) a0_0 a0_1 l0_2 l0_3 l0_4 l0_5 l0_6) else (none)) else (none)) = some r := H
                 have A40 := Aside0.mk A400
                 clear A400
                 by_cases c41 : (t184 ++ t186).size + t188.size ≤ 9223372036854775807
                 ·rw [if_pos c41] at H
                  have c41b0 := eq_true c41
                  have c41b1 : decide ((t184 ++ t186).size + t188.size ≤ 9223372036854775807) = true := decide_eq_true c41
                  try have c41b2 : (9223372036854775807 < (t184 ++ t186).size + t188.size) = False := eq_false (Nat.not_lt.2 c41)
                  try simp only [ByteArray.size_append] at c41b2
                  by_cases c42 : x4_3.size + ((t184 ++ t186) ++ t188).size ≤ 9223372036854775807
                  ·rw [if_pos c42] at H
                   have c42b0 := eq_true c42
                   have c42b1 : decide (x4_3.size + ((t184 ++ t186) ++ t188).size ≤ 9223372036854775807) = true := decide_eq_true c42
                   try have c42b2 : (9223372036854775807 < x4_3.size + ((t184 ++ t186) ++ t188).size) = False := eq_false (Nat.not_lt.2 c42)
                   try simp only [ByteArray.size_append] at c42b2
                   have H' := Aside0.mk H
                   clear H
                   have hcz43_0 : wr.cell? ⟨gb173, 0, none⟩ = some (.int .i64 a0_0) := (blk_cell BK173.out 0).trans rfl
                   have hcz43_1 : wr.cell? ⟨gb173, 1, none⟩ = some (.bool a0_1) := (blk_cell BK173.out 1).trans rfl
                   have hcz43_2 : wr.cell? ⟨gb173, 2, none⟩ = some (.slice A0_2 l0_2.length c0_2) := (blk_cell BK173.out 2).trans rfl
                   have hcz43_3 : wr.cell? ⟨gb173, 3, none⟩ = some (.slice A0_3 l0_3.length c0_3) := (blk_cell BK173.out 3).trans rfl
                   have hcz43_4 : wr.cell? ⟨gb173, 4, none⟩ = some (.slice A0_4 l0_4.length c0_4) := (blk_cell BK173.out 4).trans rfl
                   have hcz43_5 : wr.cell? ⟨gb173, 5, none⟩ = some (.slice A0_5 l0_5.length c0_5) := (blk_cell BK173.out 5).trans rfl
                   have hcz43_6 : wr.cell? ⟨gb173, 6, none⟩ = some (.slice A0_6 l0_6.length c0_6) := (blk_cell BK173.out 6).trans rfl
                   have hfz43_0 := blk_frozen BK173.out 0
                   have hfz43_1 := blk_frozen BK173.out 1
                   have hfz43_2 := blk_frozen BK173.out 2
                   have hfz43_3 := blk_frozen BK173.out 3
                   have hfz43_4 := blk_frozen BK173.out 4
                   have hfz43_5 := blk_frozen BK173.out 5
                   have hfz43_6 := blk_frozen BK173.out 6
                   try go_wp2
                   have n0_ := Aside0.mk (blk_drew BK173.out)
                   have n1_ := Aside0.mk (below_drew1 HB.out)
                   clear BK173
                   clear HB
                   have BK173 := n0_
                   have HB := n1_
                   clear n0_ n1_
                   have p183 : 0 ≤ (x6_3 : Int) := of_decide_eq_true (by first | (with_reducible assumption) | assumption)
                   have q183 : x6_3 < (l0_5.length : Int) := of_decide_eq_true (by first | (with_reducible assumption) | assumption)
                   obtain ⟨ad183, A183_0, c183_0, A183_1, c183_1, A183_2, c183_2, e183, hx183_0, hx183_1, hx183_2, hl183_0, hi183_0, hl183_1, hi183_1, hl183_2, hi183_2⟩ := at_T41 HR0_5.out x6_3 p183 q183
                   have hw183_2 := hx183_2
                   have hw183_1 := hx183_1
                   have hw183_0 := hx183_0
                   cases e183
                   replace hx183_0 := (HB.out.cell (World.block_lt_of_cell? w _ hx183_0)).trans hx183_0
                   replace hx183_1 := (HB.out.cell (World.block_lt_of_cell? w _ hx183_1)).trans hx183_1
                   replace hx183_2 := (HB.out.cell (World.block_lt_of_cell? w _ hx183_2)).trans hx183_2
                   have HR183_0 := Aside0.mk hi183_0
                   have HC183_0 := Aside0.mk hl183_0
                   clear hi183_0 hl183_0
                   have HR183_1 := Aside0.mk hi183_1
                   have HC183_1 := Aside0.mk hl183_1
                   clear hi183_1 hl183_1
                   have HR183_2 := Aside0.mk hi183_2
                   have HC183_2 := Aside0.mk hl183_2
                   clear hi183_2 hl183_2
                   replace p183 := eq_true p183
                   replace q183 := eq_true q183
                   have p185 : 0 ≤ (x6_3 : Int) := of_decide_eq_true (by first | (with_reducible assumption) | assumption)
                   have q185 : x6_3 < (l0_5.length : Int) := of_decide_eq_true (by first | (with_reducible assumption) | assumption)
                   obtain ⟨ad185, A185_0, c185_0, A185_1, c185_1, A185_2, c185_2, e185, hx185_0, hx185_1, hx185_2, hl185_0, hi185_0, hl185_1, hi185_1, hl185_2, hi185_2⟩ := at_T41 HR0_5.out x6_3 p185 q185
                   have hw185_2 := hx185_2
                   have hw185_1 := hx185_1
                   have hw185_0 := hx185_0
                   obtain rfl : ad183 = ad185 := (by injection e185)
                   replace hx185_0 := (HB.out.cell (World.block_lt_of_cell? w _ hx185_0)).trans hx185_0
                   replace hx185_1 := (HB.out.cell (World.block_lt_of_cell? w _ hx185_1)).trans hx185_1
                   replace hx185_2 := (HB.out.cell (World.block_lt_of_cell? w _ hx185_2)).trans hx185_2
                   have HR185_0 := Aside0.mk hi185_0
                   have HC185_0 := Aside0.mk hl185_0
                   clear hi185_0 hl185_0
                   have HR185_1 := Aside0.mk hi185_1
                   have HC185_1 := Aside0.mk hl185_1
                   clear hi185_1 hl185_1
                   have HR185_2 := Aside0.mk hi185_2
                   have HC185_2 := Aside0.mk hl185_2
                   clear hi185_2 hl185_2
                   replace p185 := eq_true p185
                   replace q185 := eq_true q185
                   have ea_ := Option.some.inj (hx183_0.symm.trans hx185_0)
                   injection ea_ with ea_ en_ ec_
                   subst ea_
                   subst ec_
                   clear en_
                   have ea_ := Option.some.inj (hx183_1.symm.trans hx185_1)
                   injection ea_ with ea_ en_ ec_
                   subst ea_
                   subst ec_
                   clear en_
                   have ea_ := Option.some.inj (hx183_2.symm.trans hx185_2)
                   injection ea_ with ea_ en_ ec_
                   subst ea_
                   subst ec_
                   clear en_
                   have p187 : 0 ≤ (x6_3 : Int) := of_decide_eq_true (by first | (with_reducible assumption) | assumption)
                   have q187 : x6_3 < (l0_5.length : Int) := of_decide_eq_true (by first | (with_reducible assumption) | assumption)
                   obtain ⟨ad187, A187_0, c187_0, A187_1, c187_1, A187_2, c187_2, e187, hx187_0, hx187_1, hx187_2, hl187_0, hi187_0, hl187_1, hi187_1, hl187_2, hi187_2⟩ := at_T41 HR0_5.out x6_3 p187 q187
                   have hw187_2 := hx187_2
                   have hw187_1 := hx187_1
                   have hw187_0 := hx187_0
                   obtain rfl : ad183 = ad187 := (by injection e187)
                   replace hx187_0 := (HB.out.cell (World.block_lt_of_cell? w _ hx187_0)).trans hx187_0
                   replace hx187_1 := (HB.out.cell (World.block_lt_of_cell? w _ hx187_1)).trans hx187_1
                   replace hx187_2 := (HB.out.cell (World.block_lt_of_cell? w _ hx187_2)).trans hx187_2
                   have HR187_0 := Aside0.mk hi187_0
                   have HC187_0 := Aside0.mk hl187_0
                   clear hi187_0 hl187_0
                   have HR187_1 := Aside0.mk hi187_1
                   have HC187_1 := Aside0.mk hl187_1
                   clear hi187_1 hl187_1
                   have HR187_2 := Aside0.mk hi187_2
                   have HC187_2 := Aside0.mk hl187_2
                   clear hi187_2 hl187_2
                   replace p187 := eq_true p187
                   replace q187 := eq_true q187
                   have ea_ := Option.some.inj (hx183_0.symm.trans hx187_0)
                   injection ea_ with ea_ en_ ec_
                   subst ea_
                   subst ec_
                   clear en_
                   have ea_ := Option.some.inj (hx183_1.symm.trans hx187_1)
                   injection ea_ with ea_ en_ ec_
                   subst ea_
                   subst ec_
                   clear en_
                   have ea_ := Option.some.inj (hx183_2.symm.trans hx187_2)
                   injection ea_ with ea_ en_ ec_
                   subst ea_
                   subst ec_
                   clear en_
                   refine start_ (n := 26) (S := fun w' => w'.cell? ⟨gb173, 0, none⟩ = some (.int .i64 a0_0) ∧ w'.cell? ⟨gb173, 1, none⟩ = some (.bool a0_1) ∧ w'.cell? ⟨gb173, 2, none⟩ = some (.slice A0_2 l0_2.length c0_2) ∧ w'.cell? ⟨gb173, 3, none⟩ = some (.slice A0_3 l0_3.length c0_3) ∧ w'.cell? ⟨gb173, 4, none⟩ = some (.slice A0_4 l0_4.length c0_4) ∧ w'.cell? ⟨gb173, 5, none⟩ = some (.slice (some ad183) l0_5.length c0_5) ∧ w'.cell? ⟨gb173, 6, none⟩ = some (.slice A0_6 l0_6.length c0_6) ∧ w'.cell? (ad183.add ((x6_3).toNat * 3)) = some (.slice A183_0 ((rd_T41 l0_5 x6_3).f0).length c183_0) ∧ w'.cell? ⟨(ad183.add ((x6_3).toNat * 3)).block, (ad183.add ((x6_3).toNat * 3)).off + 1, none⟩ = some (.slice A183_1 ((rd_T41 l0_5 x6_3).f1).length c183_1) ∧ w'.cell? ⟨(ad183.add ((x6_3).toNat * 3)).block, (ad183.add ((x6_3).toNat * 3)).off + 2, none⟩ = some (.slice A183_2 ((rd_T41 l0_5 x6_3).f2).length c183_2) ∧ w'.cell? (ad183.add ((x6_3).toNat * 3)) = some (.slice A183_0 ((rd_T41 l0_5 x6_3).f0).length c183_0) ∧ w'.cell? ⟨(ad183.add ((x6_3).toNat * 3)).block, (ad183.add ((x6_3).toNat * 3)).off + 1, none⟩ = some (.slice A183_1 ((rd_T41 l0_5 x6_3).f1).length c183_1) ∧ w'.cell? ⟨(ad183.add ((x6_3).toNat * 3)).block, (ad183.add ((x6_3).toNat * 3)).off + 2, none⟩ = some (.slice A183_2 ((rd_T41 l0_5 x6_3).f2).length c183_2) ∧ w'.cell? (ad183.add ((x6_3).toNat * 3)) = some (.slice A183_0 ((rd_T41 l0_5 x6_3).f0).length c183_0) ∧ w'.cell? ⟨(ad183.add ((x6_3).toNat * 3)).block, (ad183.add ((x6_3).toNat * 3)).off + 1, none⟩ = some (.slice A183_1 ((rd_T41 l0_5 x6_3).f1).length c183_1) ∧ w'.cell? ⟨(ad183.add ((x6_3).toNat * 3)).block, (ad183.add ((x6_3).toNat * 3)).off + 2, none⟩ = some (.slice A183_2 ((rd_T41 l0_5 x6_3).f2).length c183_2)) (ds := []) #[false, false, false, false, false, false, false, false, false, false, false, false, false, false, false, false, false, false, false, false, false, false, false, false, false, false] (by kernel_rfl) rfl rfl ⟨(blk_cell BK173.out 0).trans rfl, (blk_cell BK173.out 1).trans rfl, (blk_cell BK173.out 2).trans rfl, (blk_cell BK173.out 3).trans rfl, (blk_cell BK173.out 4).trans rfl, (blk_cell BK173.out 5).trans rfl, (blk_cell BK173.out 6).trans rfl, ((HB.out.cell (World.block_lt_of_cell? w _ hw183_0)).trans hw183_0), ((HB.out.cell (World.block_lt_of_cell? w _ hw183_1)).trans hw183_1), ((HB.out.cell (World.block_lt_of_cell? w _ hw183_2)).trans hw183_2), ((HB.out.cell (World.block_lt_of_cell? w _ hw185_0)).trans hw185_0), ((HB.out.cell (World.block_lt_of_cell? w _ hw185_1)).trans hw185_1), ((HB.out.cell (World.block_lt_of_cell? w _ hw185_2)).trans hw185_2), ((HB.out.cell (World.block_lt_of_cell? w _ hw187_0)).trans hw187_0), ((HB.out.cell (World.block_lt_of_cell? w _ hw187_1)).trans hw187_1), ((HB.out.cell (World.block_lt_of_cell? w _ hw187_2)).trans hw187_2)⟩ (fun hHeld => ?_); refine with_tabW greenwoodref23_Encode.tab15 greenwoodref23_Encode.bits15 (fun HT_ HW_ => ?_)
                   generalize wr.drew = w44 at BK173 HB HR183_0 HR183_1 HR183_2 HR185_0 HR185_1 HR185_2 HR187_0 HR187_1 HR187_2 hx183_0 hx183_1 hx183_2 hx185_0 hx185_1 hx185_2 hx187_0 hx187_1 hx187_2 hHeld ⊢
                   refine pure_ (i := 0) (N := some 60) (v := ?_) (a' := ?_) #[true, false, false, false, false, false, false, false, false, false, false, false, false, false, false, false, false, false, false, false, false, false, false, false, false, false] rfl rfl (any_of HT_.out (by kernel_rfl)) (fun _ _ _ h => h) (Or.inl ⟨by rfl, ?_⟩) ?_ ?_
                   rotate_left
                   ·intro w'
                    go_simp
                    with_reducible rfl
                   rotate_left
                   ·simp only [Act.put, List.setIfInBounds_toArray, List.set_cons_zero, List.set_cons_succ, i64_w, i32_w]
                    rfl
                   refine pure_ (i := 1) (N := some 61) (v := ?_) (a' := ?_) #[true, true, false, false, false, false, false, false, false, false, false, false, false, false, false, false, false, false, false, false, false, false, false, false, false, false] rfl rfl (any_of HT_.out (by kernel_rfl)) (fun _ _ _ h => h) (Or.inl ⟨by rfl, ?_⟩) ?_ ?_
                   rotate_left
                   ·intro w'
                    go_simp
                    with_reducible rfl
                   rotate_left
                   ·simp only [Act.put, List.setIfInBounds_toArray, List.set_cons_zero, List.set_cons_succ, i64_w, i32_w]
                    rfl
                   refine pure_ (i := 3) (N := some 63) (v := ?_) (a' := ?_) #[true, true, false, true, false, false, false, false, false, false, false, false, false, false, false, false, false, false, false, false, false, false, false, false, false, false] rfl rfl (any_of HT_.out (by kernel_rfl)) (fun _ _ _ h => h) (Or.inl ⟨by rfl, ?_⟩) ?_ ?_
                   rotate_left
                   ·intro w'
                    go_simp
                    with_reducible rfl
                   rotate_left
                   ·simp only [Act.put, List.setIfInBounds_toArray, List.set_cons_zero, List.set_cons_succ, i64_w, i32_w]
                    rfl
                   refine pure_ (i := 8) (N := some 68) (v := ?_) (a' := ?_) #[true, true, false, true, false, false, false, false, true, false, false, false, false, false, false, false, false, false, false, false, false, false, false, false, false, false] rfl rfl (any_of HT_.out (by kernel_rfl)) (fun _ _ _ h => h) (Or.inl ⟨by rfl, ?_⟩) ?_ ?_
                   rotate_left
                   ·intro w'
                    go_simp
                    with_reducible rfl
                   rotate_left
                   ·simp only [Act.put, List.setIfInBounds_toArray, List.set_cons_zero, List.set_cons_succ, i64_w, i32_w]
                    rfl
                   refine pure_ (i := 10) (N := some 70) (v := ?_) (a' := ?_) #[true, true, false, true, false, false, false, false, true, false, true, false, false, false, false, false, false, false, false, false, false, false, false, false, false, false] rfl rfl (any_of HT_.out (by kernel_rfl)) (fun _ _ _ h => h) (Or.inl ⟨by rfl, ?_⟩) ?_ ?_
                   rotate_left
                   ·intro w'
                    go_simp
                    with_reducible rfl
                   rotate_left
                   ·simp only [Act.put, List.setIfInBounds_toArray, List.set_cons_zero, List.set_cons_succ, i64_w, i32_w]
                    rfl
                   refine pure_ (i := 16) (N := some 76) (v := ?_) (a' := ?_) #[true, true, false, true, false, false, false, false, true, false, true, false, false, false, false, false, true, false, false, false, false, false, false, false, false, false] rfl rfl (any_of HT_.out (by kernel_rfl)) (fun _ _ _ h => h) (Or.inl ⟨by rfl, ?_⟩) ?_ ?_
                   rotate_left
                   ·intro w'
                    go_simp
                    with_reducible rfl
                   rotate_left
                   ·simp only [Act.put, List.setIfInBounds_toArray, List.set_cons_zero, List.set_cons_succ, i64_w, i32_w]
                    rfl
                   refine pure_ (i := 18) (N := some 78) (v := ?_) (a' := ?_) #[true, true, false, true, false, false, false, false, true, false, true, false, false, false, false, false, true, false, true, false, false, false, false, false, false, false] rfl rfl (any_of HT_.out (by kernel_rfl)) (fun _ _ _ h => h) (Or.inl ⟨by rfl, ?_⟩) ?_ ?_
                   rotate_left
                   ·intro w'
                    go_simp
                    with_reducible rfl
                   rotate_left
                   ·simp only [Act.put, List.setIfInBounds_toArray, List.set_cons_zero, List.set_cons_succ, i64_w, i32_w]
                    rfl
                   refine take_ (i := 2) (N := some 62) (v := ?_) (a' := ?_) #[true, true, true, true, false, false, false, false, true, false, true, false, false, false, false, false, true, false, true, false, false, false, false, false, false, false] rfl rfl (take_ofW HT_.out HW_.out (by kernel_rfl)) (fun _ _ _ h => h) (Or.inl ⟨by rfl, ?_⟩) hHeld ?_ ?_
                   rotate_left
                   ·rintro w' ⟨s0, s1, s2, s3, s4, s5, s6, s7, s8, s9, s10, s11, s12, s13, s14, s15⟩
                    go_simp
                    with_reducible rfl
                   rotate_left
                   ·simp only [Act.put, List.setIfInBounds_toArray, List.set_cons_zero, List.set_cons_succ, i64_w, i32_w]
                    rfl
                   refine pure_ (i := 4) (N := some 64) (v := ?_) (a' := ?_) #[true, true, true, true, true, false, false, false, true, false, true, false, false, false, false, false, true, false, true, false, false, false, false, false, false, false] rfl rfl (any_of HT_.out (by kernel_rfl)) (fun _ _ _ h => h) (Or.inl ⟨by rfl, ?_⟩) ?_ ?_
                   rotate_left
                   ·intro w'
                    go_simp
                    with_reducible rfl
                   rotate_left
                   ·simp only [Act.put, List.setIfInBounds_toArray, List.set_cons_zero, List.set_cons_succ, i64_w, i32_w]
                    rfl
                   refine pure_ (i := 5) (N := some 65) (v := ?_) (a' := ?_) #[true, true, true, true, true, true, false, false, true, false, true, false, false, false, false, false, true, false, true, false, false, false, false, false, false, false] rfl rfl (any_of HT_.out (by kernel_rfl)) (fun _ _ _ h => h) (Or.inl ⟨by rfl, ?_⟩) ?_ ?_
                   rotate_left
                   ·intro w'
                    go_simp
                    with_reducible rfl
                   rotate_left
                   ·simp only [Act.put, List.setIfInBounds_toArray, List.set_cons_zero, List.set_cons_succ, i64_w, i32_w]
                    rfl
                   refine take_ (i := 6) (N := some 66) (v := ?_) (a' := ?_) #[true, true, true, true, true, true, true, false, true, false, true, false, false, false, false, false, true, false, true, false, false, false, false, false, false, false] rfl rfl (take_ofW HT_.out HW_.out (by kernel_rfl)) (fun _ _ _ h => h) (Or.inl ⟨by rfl, ?_⟩) hHeld ?_ ?_
                   rotate_left
                   ·rintro w' ⟨s0, s1, s2, s3, s4, s5, s6, s7, s8, s9, s10, s11, s12, s13, s14, s15⟩
                    go_simp
                    with_reducible rfl
                   rotate_left
                   ·simp only [Act.put, List.setIfInBounds_toArray, List.set_cons_zero, List.set_cons_succ, i64_w, i32_w]
                    rfl
                   refine take_ (i := 9) (N := some 69) (v := ?_) (a' := ?_) #[true, true, true, true, true, true, true, false, true, true, true, false, false, false, false, false, true, false, true, false, false, false, false, false, false, false] rfl rfl (take_ofW HT_.out HW_.out (by kernel_rfl)) (fun _ _ _ h => h) (Or.inl ⟨by rfl, ?_⟩) hHeld ?_ ?_
                   rotate_left
                   ·rintro w' ⟨s0, s1, s2, s3, s4, s5, s6, s7, s8, s9, s10, s11, s12, s13, s14, s15⟩
                    go_simp
                    with_reducible rfl
                   rotate_left
                   ·simp only [Act.put, List.setIfInBounds_toArray, List.set_cons_zero, List.set_cons_succ, i64_w, i32_w]
                    rfl
                   refine pure_ (i := 11) (N := some 71) (v := ?_) (a' := ?_) #[true, true, true, true, true, true, true, false, true, true, true, true, false, false, false, false, true, false, true, false, false, false, false, false, false, false] rfl rfl (any_of HT_.out (by kernel_rfl)) (fun _ _ _ h => h) (Or.inl ⟨by rfl, ?_⟩) ?_ ?_
                   rotate_left
                   ·intro w'
                    go_simp
                    with_reducible rfl
                   rotate_left
                   ·simp only [Act.put, List.setIfInBounds_toArray, List.set_cons_zero, List.set_cons_succ, i64_w, i32_w]
                    rfl
                   refine pure_ (i := 12) (N := some 72) (v := ?_) (a' := ?_) #[true, true, true, true, true, true, true, false, true, true, true, true, true, false, false, false, true, false, true, false, false, false, false, false, false, false] rfl rfl (any_of HT_.out (by kernel_rfl)) (fun _ _ _ h => h) (Or.inl ⟨by rfl, ?_⟩) ?_ ?_
                   rotate_left
                   ·intro w'
                    go_simp
                    with_reducible rfl
                   rotate_left
                   ·simp only [Act.put, List.setIfInBounds_toArray, List.set_cons_zero, List.set_cons_succ, i64_w, i32_w]
                    rfl
                   refine take_ (i := 13) (N := some 73) (v := ?_) (a' := ?_) #[true, true, true, true, true, true, true, false, true, true, true, true, true, true, false, false, true, false, true, false, false, false, false, false, false, false] rfl rfl (take_ofW HT_.out HW_.out (by kernel_rfl)) (fun _ _ _ h => h) (Or.inl ⟨by rfl, ?_⟩) hHeld ?_ ?_
                   rotate_left
                   ·rintro w' ⟨s0, s1, s2, s3, s4, s5, s6, s7, s8, s9, s10, s11, s12, s13, s14, s15⟩
                    go_simp
                    with_reducible rfl
                   rotate_left
                   ·simp only [Act.put, List.setIfInBounds_toArray, List.set_cons_zero, List.set_cons_succ, i64_w, i32_w]
                    rfl
                   refine take_ (i := 17) (N := some 77) (v := ?_) (a' := ?_) #[true, true, true, true, true, true, true, false, true, true, true, true, true, true, false, false, true, true, true, false, false, false, false, false, false, false] rfl rfl (take_ofW HT_.out HW_.out (by kernel_rfl)) (fun _ _ _ h => h) (Or.inl ⟨by rfl, ?_⟩) hHeld ?_ ?_
                   rotate_left
                   ·rintro w' ⟨s0, s1, s2, s3, s4, s5, s6, s7, s8, s9, s10, s11, s12, s13, s14, s15⟩
                    go_simp
                    with_reducible rfl
                   rotate_left
                   ·simp only [Act.put, List.setIfInBounds_toArray, List.set_cons_zero, List.set_cons_succ, i64_w, i32_w]
                    rfl
                   refine pure_ (i := 19) (N := some 79) (v := ?_) (a' := ?_) #[true, true, true, true, true, true, true, false, true, true, true, true, true, true, false, false, true, true, true, true, false, false, false, false, false, false] rfl rfl (any_of HT_.out (by kernel_rfl)) (fun _ _ _ h => h) (Or.inl ⟨by rfl, ?_⟩) ?_ ?_
                   rotate_left
                   ·intro w'
                    go_simp
                    with_reducible rfl
                   rotate_left
                   ·simp only [Act.put, List.setIfInBounds_toArray, List.set_cons_zero, List.set_cons_succ, i64_w, i32_w]
                    rfl
                   refine pure_ (i := 20) (N := some 80) (v := ?_) (a' := ?_) #[true, true, true, true, true, true, true, false, true, true, true, true, true, true, false, false, true, true, true, true, true, false, false, false, false, false] rfl rfl (any_of HT_.out (by kernel_rfl)) (fun _ _ _ h => h) (Or.inl ⟨by rfl, ?_⟩) ?_ ?_
                   rotate_left
                   ·intro w'
                    go_simp
                    with_reducible rfl
                   rotate_left
                   ·simp only [Act.put, List.setIfInBounds_toArray, List.set_cons_zero, List.set_cons_succ, i64_w, i32_w]
                    rfl
                   refine take_ (i := 21) (N := some 81) (v := ?_) (a' := ?_) #[true, true, true, true, true, true, true, false, true, true, true, true, true, true, false, false, true, true, true, true, true, true, false, false, false, false] rfl rfl (take_ofW HT_.out HW_.out (by kernel_rfl)) (fun _ _ _ h => h) (Or.inl ⟨by rfl, ?_⟩) hHeld ?_ ?_
                   rotate_left
                   ·rintro w' ⟨s0, s1, s2, s3, s4, s5, s6, s7, s8, s9, s10, s11, s12, s13, s14, s15⟩
                    go_simp
                    with_reducible rfl
                   rotate_left
                   ·simp only [Act.put, List.setIfInBounds_toArray, List.set_cons_zero, List.set_cons_succ, i64_w, i32_w]
                    rfl
                   refine one_ (i := 7) (N := some 67) #[true, true, true, true, true, true, true, true, true, true, true, true, true, true, false, false, true, true, true, true, true, true, false, false, false, false] rfl rfl (one_of HT_.out (by kernel_rfl)) (by decide) (fun K hK => ?_)
                   refine goes_ Tryd.func36 (by kernel_rfl) rfl #[.slice A183_0 ((rd_T41 l0_5 x6_3).f0).length c183_0] (by rfl) rfl rfl (by (try simp only [List.map_toArray, List.map_cons, List.map_nil]); first | done | rfl | (simp only [List.length_drop, List.length_take]; rfl)) ?_
                   with_reducible refine (greenwoodref01_Ints.calls k3 _ _ ((rd_T41 l0_5 x6_3).f0) t184 _ ?side1 ?side2 A37.out).mono ?_
                   (case side1 => repeat (first | exact (Kd.C_below HR183_0.out HB.out) | (with_reducible refine Kd.C_alloc ?_ _) | (with_reducible refine Kd.C_drewN ?_ _) | (with_reducible refine Kd.C_drew ?_)))
                   (case side2 => exact HC183_0.out)
                   rintro e w45 ⟨rfl, hb⟩
                   refine ⟨_, rfl, ?_⟩
                   have n0_ := Aside0.mk (blk_below (g := gb173) (o := .cells #[.int .i64 a0_0, .bool a0_1, .slice A0_2 l0_2.length c0_2, .slice A0_3 l0_3.length c0_3, .slice A0_4 l0_4.length c0_4, .slice (some ad183) l0_5.length c0_5, .slice A0_6 l0_6.length c0_6] 27 (0, 0)) (by (with_reducible repeat (first | refine blk_drewN ?_ _ | refine blk_drew ?_ | refine blk_alloc ?_ _)); exact BK173.out) hb)
                   have n1_ := Aside0.mk (below_step (by repeat (first | (with_reducible first | exact HB.out | apply below_alloc | apply pw_below_drewN | apply below_drew1 | refine below_set ?_ GE173.out) | exact HB.out)) hb)
                   clear BK173
                   clear HB
                   have BK173 := n0_
                   have HB := n1_
                   clear n0_ n1_
                   (try clear hb)
                   (try clear hb2)
                   (try clear hk)
                   (try clear hi)
                   refine hK.out _ _ ⟨(blk_cell BK173.out 0).trans rfl, (blk_cell BK173.out 1).trans rfl, (blk_cell BK173.out 2).trans rfl, (blk_cell BK173.out 3).trans rfl, (blk_cell BK173.out 4).trans rfl, (blk_cell BK173.out 5).trans rfl, (blk_cell BK173.out 6).trans rfl, ((HB.out.cell (World.block_lt_of_cell? w _ hw183_0)).trans hw183_0), ((HB.out.cell (World.block_lt_of_cell? w _ hw183_1)).trans hw183_1), ((HB.out.cell (World.block_lt_of_cell? w _ hw183_2)).trans hw183_2), ((HB.out.cell (World.block_lt_of_cell? w _ hw185_0)).trans hw185_0), ((HB.out.cell (World.block_lt_of_cell? w _ hw185_1)).trans hw185_1), ((HB.out.cell (World.block_lt_of_cell? w _ hw185_2)).trans hw185_2), ((HB.out.cell (World.block_lt_of_cell? w _ hw187_0)).trans hw187_0), ((HB.out.cell (World.block_lt_of_cell? w _ hw187_1)).trans hw187_1), ((HB.out.cell (World.block_lt_of_cell? w _ hw187_2)).trans hw187_2)⟩ (fun hHeld => ?_)
                   clear hK K
                   refine norm_ (a' := ?_) ?_ ?_
                   rotate_left
                   ·show Act.put _ (some 67) _ = _
                    simp only [Act.put, List.setIfInBounds_toArray, List.set_cons_zero, List.set_cons_succ, i64_w, i32_w]
                    rfl
                   refine one_ (i := 14) (N := some 74) #[true, true, true, true, true, true, true, true, true, true, true, true, true, true, true, false, true, true, true, true, true, true, false, false, false, false] rfl rfl (one_of HT_.out (by kernel_rfl)) (by decide) (fun K hK => ?_)
                   refine goes_ Tryd.func36 (by kernel_rfl) rfl #[.slice A183_1 ((rd_T41 l0_5 x6_3).f1).length c183_1] (by rfl) rfl rfl (by (try simp only [List.map_toArray, List.map_cons, List.map_nil]); first | done | rfl | (simp only [List.length_drop, List.length_take]; rfl)) ?_
                   with_reducible refine (greenwoodref01_Ints.calls k3 _ _ ((rd_T41 l0_5 x6_3).f1) t186 _ ?side1 ?side2 A38.out).mono ?_
                   (case side1 => repeat (first | exact (Kd.C_below HR185_1.out HB.out) | (with_reducible refine Kd.C_alloc ?_ _) | (with_reducible refine Kd.C_drewN ?_ _) | (with_reducible refine Kd.C_drew ?_)))
                   (case side2 => exact HC185_1.out)
                   rintro e w46 ⟨rfl, hb⟩
                   refine ⟨_, rfl, ?_⟩
                   have n0_ := Aside0.mk (blk_below (g := gb173) (o := .cells #[.int .i64 a0_0, .bool a0_1, .slice A0_2 l0_2.length c0_2, .slice A0_3 l0_3.length c0_3, .slice A0_4 l0_4.length c0_4, .slice (some ad183) l0_5.length c0_5, .slice A0_6 l0_6.length c0_6] 27 (0, 0)) (by (with_reducible repeat (first | refine blk_drewN ?_ _ | refine blk_drew ?_ | refine blk_alloc ?_ _)); exact BK173.out) hb)
                   have n1_ := Aside0.mk (below_step (by repeat (first | (with_reducible first | exact HB.out | apply below_alloc | apply pw_below_drewN | apply below_drew1 | refine below_set ?_ GE173.out) | exact HB.out)) hb)
                   clear BK173
                   clear HB
                   have BK173 := n0_
                   have HB := n1_
                   clear n0_ n1_
                   (try clear hb)
                   (try clear hb2)
                   (try clear hk)
                   (try clear hi)
                   refine hK.out _ _ ⟨(blk_cell BK173.out 0).trans rfl, (blk_cell BK173.out 1).trans rfl, (blk_cell BK173.out 2).trans rfl, (blk_cell BK173.out 3).trans rfl, (blk_cell BK173.out 4).trans rfl, (blk_cell BK173.out 5).trans rfl, (blk_cell BK173.out 6).trans rfl, ((HB.out.cell (World.block_lt_of_cell? w _ hw183_0)).trans hw183_0), ((HB.out.cell (World.block_lt_of_cell? w _ hw183_1)).trans hw183_1), ((HB.out.cell (World.block_lt_of_cell? w _ hw183_2)).trans hw183_2), ((HB.out.cell (World.block_lt_of_cell? w _ hw185_0)).trans hw185_0), ((HB.out.cell (World.block_lt_of_cell? w _ hw185_1)).trans hw185_1), ((HB.out.cell (World.block_lt_of_cell? w _ hw185_2)).trans hw185_2), ((HB.out.cell (World.block_lt_of_cell? w _ hw187_0)).trans hw187_0), ((HB.out.cell (World.block_lt_of_cell? w _ hw187_1)).trans hw187_1), ((HB.out.cell (World.block_lt_of_cell? w _ hw187_2)).trans hw187_2)⟩ (fun hHeld => ?_)
                   clear hK K
                   refine norm_ (a' := ?_) ?_ ?_
                   rotate_left
                   ·show Act.put _ (some 74) _ = _
                    simp only [Act.put, List.setIfInBounds_toArray, List.set_cons_zero, List.set_cons_succ, i64_w, i32_w]
                    rfl
                   refine pure_ (i := 15) (N := some 75) (v := ?_) (a' := ?_) #[true, true, true, true, true, true, true, true, true, true, true, true, true, true, true, true, true, true, true, true, true, true, false, false, false, false] rfl rfl (any_of HT_.out (by kernel_rfl)) (fun _ _ _ h => h) (Or.inl ⟨by rfl, ?_⟩) ?_ ?_
                   rotate_left
                   ·intro w'
                    go_simp
                    with_reducible rfl
                   rotate_left
                   ·simp only [Act.put, List.setIfInBounds_toArray, List.set_cons_zero, List.set_cons_succ, i64_w, i32_w]
                    rfl
                   refine one_ (i := 22) (N := some 82) #[true, true, true, true, true, true, true, true, true, true, true, true, true, true, true, true, true, true, true, true, true, true, true, false, false, false] rfl rfl (one_of HT_.out (by kernel_rfl)) (by decide) (fun K hK => ?_)
                   refine goes_ Tryd.func36 (by kernel_rfl) rfl #[.slice A183_2 ((rd_T41 l0_5 x6_3).f2).length c183_2] (by rfl) rfl rfl (by (try simp only [List.map_toArray, List.map_cons, List.map_nil]); first | done | rfl | (simp only [List.length_drop, List.length_take]; rfl)) ?_
                   with_reducible refine (greenwoodref01_Ints.calls k3 _ _ ((rd_T41 l0_5 x6_3).f2) t188 _ ?side1 ?side2 A40.out).mono ?_
                   (case side1 => repeat (first | exact (Kd.C_below HR187_2.out HB.out) | (with_reducible refine Kd.C_alloc ?_ _) | (with_reducible refine Kd.C_drewN ?_ _) | (with_reducible refine Kd.C_drew ?_)))
                   (case side2 => exact HC187_2.out)
                   rintro e w47 ⟨rfl, hb⟩
                   refine ⟨_, rfl, ?_⟩
                   have n0_ := Aside0.mk (blk_below (g := gb173) (o := .cells #[.int .i64 a0_0, .bool a0_1, .slice A0_2 l0_2.length c0_2, .slice A0_3 l0_3.length c0_3, .slice A0_4 l0_4.length c0_4, .slice (some ad183) l0_5.length c0_5, .slice A0_6 l0_6.length c0_6] 27 (0, 0)) (by (with_reducible repeat (first | refine blk_drewN ?_ _ | refine blk_drew ?_ | refine blk_alloc ?_ _)); exact BK173.out) hb)
                   have n1_ := Aside0.mk (below_step (by repeat (first | (with_reducible first | exact HB.out | apply below_alloc | apply pw_below_drewN | apply below_drew1 | refine below_set ?_ GE173.out) | exact HB.out)) hb)
                   clear BK173
                   clear HB
                   have BK173 := n0_
                   have HB := n1_
                   clear n0_ n1_
                   (try clear hb)
                   (try clear hb2)
                   (try clear hk)
                   (try clear hi)
                   refine hK.out _ _ ⟨(blk_cell BK173.out 0).trans rfl, (blk_cell BK173.out 1).trans rfl, (blk_cell BK173.out 2).trans rfl, (blk_cell BK173.out 3).trans rfl, (blk_cell BK173.out 4).trans rfl, (blk_cell BK173.out 5).trans rfl, (blk_cell BK173.out 6).trans rfl, ((HB.out.cell (World.block_lt_of_cell? w _ hw183_0)).trans hw183_0), ((HB.out.cell (World.block_lt_of_cell? w _ hw183_1)).trans hw183_1), ((HB.out.cell (World.block_lt_of_cell? w _ hw183_2)).trans hw183_2), ((HB.out.cell (World.block_lt_of_cell? w _ hw185_0)).trans hw185_0), ((HB.out.cell (World.block_lt_of_cell? w _ hw185_1)).trans hw185_1), ((HB.out.cell (World.block_lt_of_cell? w _ hw185_2)).trans hw185_2), ((HB.out.cell (World.block_lt_of_cell? w _ hw187_0)).trans hw187_0), ((HB.out.cell (World.block_lt_of_cell? w _ hw187_1)).trans hw187_1), ((HB.out.cell (World.block_lt_of_cell? w _ hw187_2)).trans hw187_2)⟩ (fun hHeld => ?_)
                   clear hK K
                   refine norm_ (a' := ?_) ?_ ?_
                   rotate_left
                   ·show Act.put _ (some 82) _ = _
                    simp only [Act.put, List.setIfInBounds_toArray, List.set_cons_zero, List.set_cons_succ, i64_w, i32_w]
                    rfl
                   refine pure_ (i := 23) (N := some 83) (v := ?_) (a' := ?_) #[true, true, true, true, true, true, true, true, true, true, true, true, true, true, true, true, true, true, true, true, true, true, true, true, false, false] rfl rfl (any_of HT_.out (by kernel_rfl)) (fun _ _ _ h => h) (Or.inl ⟨by rfl, ?_⟩) ?_ ?_
                   rotate_left
                   ·intro w'
                    go_simp
                    with_reducible rfl
                   rotate_left
                   ·simp only [Act.put, List.setIfInBounds_toArray, List.set_cons_zero, List.set_cons_succ, i64_w, i32_w]
                    rfl
                   refine pure_ (i := 24) (N := some 84) (v := ?_) (a' := ?_) #[true, true, true, true, true, true, true, true, true, true, true, true, true, true, true, true, true, true, true, true, true, true, true, true, true, false] rfl rfl (any_of HT_.out (by kernel_rfl)) (fun _ _ _ h => h) (Or.inl ⟨by rfl, ?_⟩) ?_ ?_
                   rotate_left
                   ·intro w'
                    go_simp
                    with_reducible rfl
                   rotate_left
                   ·simp only [Act.put, List.setIfInBounds_toArray, List.set_cons_zero, List.set_cons_succ, i64_w, i32_w]
                    rfl
                   refine pure_ (i := 25) (N := some 4) (v := ?_) (a' := ?_) #[true, true, true, true, true, true, true, true, true, true, true, true, true, true, true, true, true, true, true, true, true, true, true, true, true, true] rfl rfl (any_of HT_.out (by kernel_rfl)) (fun _ _ _ h => h) (Or.inl ⟨by rfl, ?_⟩) ?_ ?_
                   rotate_left
                   ·intro w'
                    go_simp
                    with_reducible rfl
                   rotate_left
                   ·simp only [Act.put, List.setIfInBounds_toArray, List.set_cons_zero, List.set_cons_succ, i64_w, i32_w]
                    rfl
                   refine done_ (done_of HT_.out (by kernel_rfl)) ?_
                   try go_wp2
                   go_roundg k3
                   case measure => have := HJ3.out; have := HK2.out; have := HK3.out; omega
                   case rel => exact ⟨(x4_3 ++ ((t184 ++ t186) ++ t188)), (wrap64 (x6_3 + 1)), (by first | rfl | (simp; done) | (simp [*]; done)), (by first | rfl | (simp; done) | (simp [*]; done)), H', ⟨by have := HJ3.out; have := HK2.out; have := HK3.out; omega⟩, ⟨by (with_reducible repeat (first | refine blk_drewN ?_ _ | refine blk_drew ?_ | refine blk_alloc ?_ _)); exact BK173.out⟩, ⟨by repeat (first | (with_reducible first | exact HB.out | apply below_alloc | apply pw_below_drewN | apply below_drew1 | refine below_set ?_ GE173.out) | exact HB.out)⟩⟩
                  ·rw [if_neg c42] at H
                   exact absurd H (by simp)
                 ·rw [if_neg c41] at H
                  exact absurd H (by simp)
                ·rw [if_neg c39] at H
                 exact absurd H (by simp)
               ·rw [if_neg c36] at H
                exact absurd H (by simp)
              ·rw [if_neg c35] at H
               have c35b0 : decide (x6_3 < (l0_5.length : Int)) = false := decide_eq_false c35
               clear c35
               replace H := Option.bind_eq_some_iff.mp H
               obtain ⟨t189, A480, H⟩ := H
               replace H : (if x4_3.size + t189.size ≤ 9223372036854775807 then (greenwoodref23_Encode.l2 k3 (x4_3 ++ t189) 0 a0_0 a0_1 l0_2 l0_3 l0_4 l0_5 l0_6) else (none)) = some r := H
               have A48 := Aside0.mk A480
               clear A480
               by_cases c49 : x4_3.size + t189.size ≤ 9223372036854775807
               ·rw [if_pos c49] at H
                have c49b0 := eq_true c49
                have c49b1 : decide (x4_3.size + t189.size ≤ 9223372036854775807) = true := decide_eq_true c49
                try have c49b2 : (9223372036854775807 < x4_3.size + t189.size) = False := eq_false (Nat.not_lt.2 c49)
                have H' := Aside0.mk H
                clear H
                have hcz50_0 : wr.cell? ⟨gb173, 0, none⟩ = some (.int .i64 a0_0) := (blk_cell BK173.out 0).trans rfl
                have hcz50_1 : wr.cell? ⟨gb173, 1, none⟩ = some (.bool a0_1) := (blk_cell BK173.out 1).trans rfl
                have hcz50_2 : wr.cell? ⟨gb173, 2, none⟩ = some (.slice A0_2 l0_2.length c0_2) := (blk_cell BK173.out 2).trans rfl
                have hcz50_3 : wr.cell? ⟨gb173, 3, none⟩ = some (.slice A0_3 l0_3.length c0_3) := (blk_cell BK173.out 3).trans rfl
                have hcz50_4 : wr.cell? ⟨gb173, 4, none⟩ = some (.slice A0_4 l0_4.length c0_4) := (blk_cell BK173.out 4).trans rfl
                have hcz50_5 : wr.cell? ⟨gb173, 5, none⟩ = some (.slice A0_5 l0_5.length c0_5) := (blk_cell BK173.out 5).trans rfl
                have hcz50_6 : wr.cell? ⟨gb173, 6, none⟩ = some (.slice A0_6 l0_6.length c0_6) := (blk_cell BK173.out 6).trans rfl
                have hfz50_0 := blk_frozen BK173.out 0
                have hfz50_1 := blk_frozen BK173.out 1
                have hfz50_2 := blk_frozen BK173.out 2
                have hfz50_3 := blk_frozen BK173.out 3
                have hfz50_4 := blk_frozen BK173.out 4
                have hfz50_5 := blk_frozen BK173.out 5
                have hfz50_6 := blk_frozen BK173.out 6
                go_wp2_with (first | ((with_reducible refine gate_callee (f := 35) rfl ?_); refine goesL_ (some 89) rfl rfl Tryd.func35 (by kernel_rfl) rfl #[.int .i64 (l0_6.length : Int)] rfl (by (try simp only [List.map_toArray, List.map_cons, List.map_nil]); first | done | rfl | (simp only [List.length_drop, List.length_take]; rfl)) ?_; (with_reducible refine (greenwoodref01_Num.calls k3 (l0_6.length : Int) t189 _ A48.out).mono ?_); rintro e w51 ⟨rfl, hb⟩; refine ⟨_, rfl, ?_⟩; have n0_ := Aside0.mk (blk_below (g := gb173) (o := .cells #[.int .i64 a0_0, .bool a0_1, .slice A0_2 l0_2.length c0_2, .slice A0_3 l0_3.length c0_3, .slice A0_4 l0_4.length c0_4, .slice A0_5 l0_5.length c0_5, .slice A0_6 l0_6.length c0_6] 27 (0, 0)) (by (with_reducible repeat (first | refine blk_drewN ?_ _ | refine blk_drew ?_ | refine blk_alloc ?_ _)); exact BK173.out) hb); have n1_ := Aside0.mk (below_step (by repeat (first | (with_reducible first | exact HB.out | apply below_alloc | apply pw_below_drewN | apply below_drew1 | refine below_set ?_ GE173.out) | exact HB.out)) hb); clear BK173; clear HB; have BK173 := n0_; have HB := n1_; clear n0_ n1_; (try clear hb); (try clear hb2); (try clear hk); (try clear hi)))
                go_loopg [4, 7] k3 (fun kq v4 v7 w' => ∃ (x4_4 : ByteArray) (x7_4 : Int), v4 = .string x4_4 ∧ v7 = .int .i64 x7_4 ∧ Aside0 (greenwoodref23_Encode.l2 kq x4_4 x7_4 a0_0 a0_1 l0_2 l0_3 l0_4 l0_5 l0_6 = some r) ∧ Aside0 (kq ≤ k3) ∧ Aside0 (w'.heap[gb173]? = some (.cells #[.int .i64 a0_0, .bool a0_1, (.slice A0_2 l0_2.length c0_2), (.slice A0_3 l0_3.length c0_3), (.slice A0_4 l0_4.length c0_4), (.slice A0_5 l0_5.length c0_5), (.slice A0_6 l0_6.length c0_6)] 27 (0, 0))) ∧ Aside0 (Below w.heap.size w w'))
                case atStart => exact ⟨(x4_3 ++ t189), (0), (by first | rfl | (simp; done) | (simp [*]; done)), (by first | rfl | (simp; done) | (simp [*]; done)), H', ⟨Nat.le_refl _⟩, ⟨by (with_reducible repeat (first | refine blk_drewN ?_ _ | refine blk_drew ?_ | refine blk_alloc ?_ _)); exact BK173.out⟩, ⟨by repeat (first | (with_reducible first | exact HB.out | apply below_alloc | apply pw_below_drewN | apply below_drew1 | refine below_set ?_ GE173.out) | exact HB.out)⟩⟩
                case round =>
                 clear H'
                 try clear c1
                 try clear p1
                 try clear q1
                 try clear hx1
                 try clear c2
                 try clear p2
                 try clear c3
                 try clear c3b0
                 try clear c3b1
                 try clear c4
                 try clear p6
                 try clear c9
                 try clear c12
                 try clear c12b0
                 try clear c12b1
                 try clear c12b2
                 try clear c14
                 try clear c14b0
                 try clear c14b1
                 try clear c14b2
                 try clear c16
                 try clear c16b0
                 try clear c16b1
                 try clear c16b2
                 try clear c18
                 try clear c18b0
                 try clear c18b1
                 try clear c18b2
                 try clear p18
                 try clear q18
                 try clear hx18
                 try clear c25
                 try clear c25b0
                 try clear c26
                 try clear c26b0
                 try clear c28
                 try clear c28b0
                 try clear c28b1
                 try clear c28b2
                 try clear c32
                 try clear c32b0
                 try clear c32b1
                 try clear c32b2
                 try clear c35
                 try clear c35b0
                 try clear c36
                 try clear c36b0
                 try clear c39
                 try clear c39b0
                 try clear c39b1
                 try clear c39b2
                 try clear c41
                 try clear c41b0
                 try clear c41b1
                 try clear c41b2
                 try clear c42
                 try clear c42b0
                 try clear c42b1
                 try clear c42b2
                 try clear c49
                 try clear c49b0
                 try clear c49b1
                 try clear c49b2
                 try clear hcz29_0
                 try clear hcz29_1
                 try clear hcz29_2
                 try clear hcz29_3
                 try clear hcz29_4
                 try clear hcz29_5
                 try clear hcz29_6
                 try clear hcz33_0
                 try clear hcz33_1
                 try clear hcz33_2
                 try clear hcz33_3
                 try clear hcz33_4
                 try clear hcz33_5
                 try clear hcz33_6
                 try clear hcz43_0
                 try clear hcz43_1
                 try clear hcz43_2
                 try clear hcz43_3
                 try clear hcz43_4
                 try clear hcz43_5
                 try clear hcz43_6
                 try clear hcz50_0
                 try clear hcz50_1
                 try clear hcz50_2
                 try clear hcz50_3
                 try clear hcz50_4
                 try clear hcz50_5
                 try clear hcz50_6
                 try clear hcz6_0
                 try clear hcz6_1
                 try clear hcz6_2
                 try clear hcz6_3
                 try clear hcz6_4
                 try clear hcz6_5
                 try clear hcz6_6
                 try clear hcz8_0
                 try clear hcz8_1
                 try clear hcz8_2
                 try clear hcz8_3
                 try clear hcz8_4
                 try clear hcz8_5
                 try clear hcz8_6
                 try clear hfz29_0
                 try clear hfz29_1
                 try clear hfz29_2
                 try clear hfz29_3
                 try clear hfz29_4
                 try clear hfz29_5
                 try clear hfz29_6
                 try clear hfz33_0
                 try clear hfz33_1
                 try clear hfz33_2
                 try clear hfz33_3
                 try clear hfz33_4
                 try clear hfz33_5
                 try clear hfz33_6
                 try clear hfz43_0
                 try clear hfz43_1
                 try clear hfz43_2
                 try clear hfz43_3
                 try clear hfz43_4
                 try clear hfz43_5
                 try clear hfz43_6
                 try clear hfz50_0
                 try clear hfz50_1
                 try clear hfz50_2
                 try clear hfz50_3
                 try clear hfz50_4
                 try clear hfz50_5
                 try clear hfz50_6
                 try clear hfz6_0
                 try clear hfz6_1
                 try clear hfz6_2
                 try clear hfz6_3
                 try clear hfz6_4
                 try clear hfz6_5
                 try clear hfz6_6
                 try clear hfz8_0
                 try clear hfz8_1
                 try clear hfz8_2
                 try clear hfz8_3
                 try clear hfz8_4
                 try clear hfz8_5
                 try clear hfz8_6
                 try clear hx180_0
                 try clear hx183_0
                 try clear hx183_1
                 try clear hx183_2
                 try clear hx185_0
                 try clear hx185_1
                 try clear hx185_2
                 try clear hx187_0
                 try clear hx187_1
                 try clear hx187_2
                 try clear p1
                 try clear p18
                 try clear p180
                 try clear p183
                 try clear p185
                 try clear p187
                 try clear p2
                 try clear p6
                 try clear q1
                 try clear q18
                 try clear q180
                 try clear q183
                 try clear q185
                 try clear q187
                 obtain ⟨x4_4, x7_4, rfl, rfl, HA, HK4, BK173, HB⟩ := hrel
                 cases gk with
                 | zero => exact absurd HA.out (by simp [greenwoodref23_Encode.l2])
                 | succ k4 =>
                  have H := HA.out
                  clear HA
                  simp only [greenwoodref23_Encode.l2] at H
                  by_cases c52 : x7_4 < (l0_6.length : Int)
                  ·rw [if_pos c52] at H
                   have c52b0 : decide (x7_4 < (l0_6.length : Int)) = true := decide_eq_true c52
                   clear c52
                   by_cases c53 : 0 ≤ x7_4
                   ·rw [if_pos c53] at H
                    have c53b0 : decide (0 ≤ x7_4) = true := decide_eq_true c53
                    clear c53
                    replace H := Option.bind_eq_some_iff.mp H
                    obtain ⟨t191, A540, H⟩ := H
                    replace H : ((greenwoodref01_Int.f k4 ((rd_T43 l0_6 x7_4).f1)).bind fun t193 => (if t191.size + t193.size ≤ 9223372036854775807 then (if x4_4.size + (t191 ++ t193).size ≤ 9223372036854775807 then (greenwoodref23_Encode.l2 k4 (x4_4 ++ (t191 ++ t193)) (wrap64 (x7_4 + 1)) a0_0 a0_1 l0_2 l0_3 l0_4 l0_5 l0_6) else (none)) else (none))) = some r := H
                    have A54 := Aside0.mk A540
                    clear A540
                    replace H := Option.bind_eq_some_iff.mp H
                    obtain ⟨t193, A550, H⟩ := H
                    replace H : (if t191.size + t193.size ≤ 9223372036854775807 then (if x4_4.size + (t191 ++ t193).size ≤ 9223372036854775807 then (greenwoodref23_Encode.l2 k4 (x4_4 ++ (t191 ++ t193)) (wrap64 (x7_4 + 1)) a0_0 a0_1 l0_2 l0_3 l0_4 l0_5 l0_6) else (none)) else (none)) = some r := H
                    have A55 := Aside0.mk A550
                    clear A550
                    by_cases c56 : t191.size + t193.size ≤ 9223372036854775807
                    ·rw [if_pos c56] at H
                     have c56b0 := eq_true c56
                     have c56b1 : decide (t191.size + t193.size ≤ 9223372036854775807) = true := decide_eq_true c56
                     try have c56b2 : (9223372036854775807 < t191.size + t193.size) = False := eq_false (Nat.not_lt.2 c56)
                     by_cases c57 : x4_4.size + (t191 ++ t193).size ≤ 9223372036854775807
                     ·rw [if_pos c57] at H
                      have c57b0 := eq_true c57
                      have c57b1 : decide (x4_4.size + (t191 ++ t193).size ≤ 9223372036854775807) = true := decide_eq_true c57
                      try have c57b2 : (9223372036854775807 < x4_4.size + (t191 ++ t193).size) = False := eq_false (Nat.not_lt.2 c57)
                      try simp only [ByteArray.size_append] at c57b2
                      have H' := Aside0.mk H
                      clear H
                      have hcz58_0 : wr.cell? ⟨gb173, 0, none⟩ = some (.int .i64 a0_0) := (blk_cell BK173.out 0).trans rfl
                      have hcz58_1 : wr.cell? ⟨gb173, 1, none⟩ = some (.bool a0_1) := (blk_cell BK173.out 1).trans rfl
                      have hcz58_2 : wr.cell? ⟨gb173, 2, none⟩ = some (.slice A0_2 l0_2.length c0_2) := (blk_cell BK173.out 2).trans rfl
                      have hcz58_3 : wr.cell? ⟨gb173, 3, none⟩ = some (.slice A0_3 l0_3.length c0_3) := (blk_cell BK173.out 3).trans rfl
                      have hcz58_4 : wr.cell? ⟨gb173, 4, none⟩ = some (.slice A0_4 l0_4.length c0_4) := (blk_cell BK173.out 4).trans rfl
                      have hcz58_5 : wr.cell? ⟨gb173, 5, none⟩ = some (.slice A0_5 l0_5.length c0_5) := (blk_cell BK173.out 5).trans rfl
                      have hcz58_6 : wr.cell? ⟨gb173, 6, none⟩ = some (.slice A0_6 l0_6.length c0_6) := (blk_cell BK173.out 6).trans rfl
                      have hfz58_0 := blk_frozen BK173.out 0
                      have hfz58_1 := blk_frozen BK173.out 1
                      have hfz58_2 := blk_frozen BK173.out 2
                      have hfz58_3 := blk_frozen BK173.out 3
                      have hfz58_4 := blk_frozen BK173.out 4
                      have hfz58_5 := blk_frozen BK173.out 5
                      have hfz58_6 := blk_frozen BK173.out 6
                      try go_wp2
                      have n0_ := Aside0.mk (blk_drew BK173.out)
                      have n1_ := Aside0.mk (below_drew1 HB.out)
                      clear BK173
                      clear HB
                      have BK173 := n0_
                      have HB := n1_
                      clear n0_ n1_
                      have p190 : 0 ≤ (x7_4 : Int) := of_decide_eq_true (by first | (with_reducible assumption) | assumption)
                      have q190 : x7_4 < (l0_6.length : Int) := of_decide_eq_true (by first | (with_reducible assumption) | assumption)
                      obtain ⟨ad190, A190_0, c190_0, e190, hx190_0, hx190_1, hl190_0, hi190_0⟩ := at_T43 HR0_6.out x7_4 p190 q190
                      have hw190_1 := hx190_1
                      have hw190_0 := hx190_0
                      cases e190
                      replace hx190_0 := (HB.out.cell (World.block_lt_of_cell? w _ hx190_0)).trans hx190_0
                      replace hx190_1 := (HB.out.cell (World.block_lt_of_cell? w _ hx190_1)).trans hx190_1
                      have HR190_0 := Aside0.mk hi190_0
                      have HC190_0 := Aside0.mk hl190_0
                      clear hi190_0 hl190_0
                      replace p190 := eq_true p190
                      replace q190 := eq_true q190
                      have p192 : 0 ≤ (x7_4 : Int) := of_decide_eq_true (by first | (with_reducible assumption) | assumption)
                      have q192 : x7_4 < (l0_6.length : Int) := of_decide_eq_true (by first | (with_reducible assumption) | assumption)
                      obtain ⟨ad192, A192_0, c192_0, e192, hx192_0, hx192_1, hl192_0, hi192_0⟩ := at_T43 HR0_6.out x7_4 p192 q192
                      have hw192_1 := hx192_1
                      have hw192_0 := hx192_0
                      obtain rfl : ad190 = ad192 := (by injection e192)
                      replace hx192_0 := (HB.out.cell (World.block_lt_of_cell? w _ hx192_0)).trans hx192_0
                      replace hx192_1 := (HB.out.cell (World.block_lt_of_cell? w _ hx192_1)).trans hx192_1
                      have HR192_0 := Aside0.mk hi192_0
                      have HC192_0 := Aside0.mk hl192_0
                      clear hi192_0 hl192_0
                      replace p192 := eq_true p192
                      replace q192 := eq_true q192
                      have ea_ := Option.some.inj (hx190_0.symm.trans hx192_0)
                      injection ea_ with ea_ en_ ec_
                      subst ea_
                      subst ec_
                      clear en_
                      refine start_ (n := 18) (S := fun w' => w'.cell? ⟨gb173, 0, none⟩ = some (.int .i64 a0_0) ∧ w'.cell? ⟨gb173, 1, none⟩ = some (.bool a0_1) ∧ w'.cell? ⟨gb173, 2, none⟩ = some (.slice A0_2 l0_2.length c0_2) ∧ w'.cell? ⟨gb173, 3, none⟩ = some (.slice A0_3 l0_3.length c0_3) ∧ w'.cell? ⟨gb173, 4, none⟩ = some (.slice A0_4 l0_4.length c0_4) ∧ w'.cell? ⟨gb173, 5, none⟩ = some (.slice A0_5 l0_5.length c0_5) ∧ w'.cell? ⟨gb173, 6, none⟩ = some (.slice (some ad190) l0_6.length c0_6) ∧ w'.cell? (ad190.add ((x7_4).toNat * 2)) = some (.slice A190_0 ((rd_T43 l0_6 x7_4).f0).length c190_0) ∧ w'.cell? ⟨(ad190.add ((x7_4).toNat * 2)).block, (ad190.add ((x7_4).toNat * 2)).off + 1, none⟩ = some (.int .i64 ((rd_T43 l0_6 x7_4).f1)) ∧ w'.cell? (ad190.add ((x7_4).toNat * 2)) = some (.slice A190_0 ((rd_T43 l0_6 x7_4).f0).length c190_0) ∧ w'.cell? ⟨(ad190.add ((x7_4).toNat * 2)).block, (ad190.add ((x7_4).toNat * 2)).off + 1, none⟩ = some (.int .i64 ((rd_T43 l0_6 x7_4).f1))) (ds := []) #[false, false, false, false, false, false, false, false, false, false, false, false, false, false, false, false, false, false] (by kernel_rfl) rfl rfl ⟨(blk_cell BK173.out 0).trans rfl, (blk_cell BK173.out 1).trans rfl, (blk_cell BK173.out 2).trans rfl, (blk_cell BK173.out 3).trans rfl, (blk_cell BK173.out 4).trans rfl, (blk_cell BK173.out 5).trans rfl, (blk_cell BK173.out 6).trans rfl, ((HB.out.cell (World.block_lt_of_cell? w _ hw190_0)).trans hw190_0), ((HB.out.cell (World.block_lt_of_cell? w _ hw190_1)).trans hw190_1), ((HB.out.cell (World.block_lt_of_cell? w _ hw192_0)).trans hw192_0), ((HB.out.cell (World.block_lt_of_cell? w _ hw192_1)).trans hw192_1)⟩ (fun hHeld => ?_); refine with_tabW greenwoodref23_Encode.tab20 greenwoodref23_Encode.bits20 (fun HT_ HW_ => ?_)
                      generalize wr.drew = w59 at BK173 HB HR190_0 HR192_0 hx190_0 hx190_1 hx192_0 hx192_1 hHeld ⊢
                      refine pure_ (i := 0) (N := some 98) (v := ?_) (a' := ?_) #[true, false, false, false, false, false, false, false, false, false, false, false, false, false, false, false, false, false] rfl rfl (any_of HT_.out (by kernel_rfl)) (fun _ _ _ h => h) (Or.inl ⟨by rfl, ?_⟩) ?_ ?_
                      rotate_left
                      ·intro w'
                       go_simp
                       with_reducible rfl
                      rotate_left
                      ·simp only [Act.put, List.setIfInBounds_toArray, List.set_cons_zero, List.set_cons_succ, i64_w, i32_w]
                       rfl
                      refine pure_ (i := 1) (N := some 99) (v := ?_) (a' := ?_) #[true, true, false, false, false, false, false, false, false, false, false, false, false, false, false, false, false, false] rfl rfl (any_of HT_.out (by kernel_rfl)) (fun _ _ _ h => h) (Or.inl ⟨by rfl, ?_⟩) ?_ ?_
                      rotate_left
                      ·intro w'
                       go_simp
                       with_reducible rfl
                      rotate_left
                      ·simp only [Act.put, List.setIfInBounds_toArray, List.set_cons_zero, List.set_cons_succ, i64_w, i32_w]
                       rfl
                      refine pure_ (i := 3) (N := some 101) (v := ?_) (a' := ?_) #[true, true, false, true, false, false, false, false, false, false, false, false, false, false, false, false, false, false] rfl rfl (any_of HT_.out (by kernel_rfl)) (fun _ _ _ h => h) (Or.inl ⟨by rfl, ?_⟩) ?_ ?_
                      rotate_left
                      ·intro w'
                       go_simp
                       with_reducible rfl
                      rotate_left
                      ·simp only [Act.put, List.setIfInBounds_toArray, List.set_cons_zero, List.set_cons_succ, i64_w, i32_w]
                       rfl
                      refine pure_ (i := 8) (N := some 106) (v := ?_) (a' := ?_) #[true, true, false, true, false, false, false, false, true, false, false, false, false, false, false, false, false, false] rfl rfl (any_of HT_.out (by kernel_rfl)) (fun _ _ _ h => h) (Or.inl ⟨by rfl, ?_⟩) ?_ ?_
                      rotate_left
                      ·intro w'
                       go_simp
                       with_reducible rfl
                      rotate_left
                      ·simp only [Act.put, List.setIfInBounds_toArray, List.set_cons_zero, List.set_cons_succ, i64_w, i32_w]
                       rfl
                      refine pure_ (i := 10) (N := some 108) (v := ?_) (a' := ?_) #[true, true, false, true, false, false, false, false, true, false, true, false, false, false, false, false, false, false] rfl rfl (any_of HT_.out (by kernel_rfl)) (fun _ _ _ h => h) (Or.inl ⟨by rfl, ?_⟩) ?_ ?_
                      rotate_left
                      ·intro w'
                       go_simp
                       with_reducible rfl
                      rotate_left
                      ·simp only [Act.put, List.setIfInBounds_toArray, List.set_cons_zero, List.set_cons_succ, i64_w, i32_w]
                       rfl
                      refine take_ (i := 2) (N := some 100) (v := ?_) (a' := ?_) #[true, true, true, true, false, false, false, false, true, false, true, false, false, false, false, false, false, false] rfl rfl (take_ofW HT_.out HW_.out (by kernel_rfl)) (fun _ _ _ h => h) (Or.inl ⟨by rfl, ?_⟩) hHeld ?_ ?_
                      rotate_left
                      ·rintro w' ⟨s0, s1, s2, s3, s4, s5, s6, s7, s8, s9, s10⟩
                       go_simp
                       with_reducible rfl
                      rotate_left
                      ·simp only [Act.put, List.setIfInBounds_toArray, List.set_cons_zero, List.set_cons_succ, i64_w, i32_w]
                       rfl
                      refine pure_ (i := 4) (N := some 102) (v := ?_) (a' := ?_) #[true, true, true, true, true, false, false, false, true, false, true, false, false, false, false, false, false, false] rfl rfl (any_of HT_.out (by kernel_rfl)) (fun _ _ _ h => h) (Or.inl ⟨by rfl, ?_⟩) ?_ ?_
                      rotate_left
                      ·intro w'
                       go_simp
                       with_reducible rfl
                      rotate_left
                      ·simp only [Act.put, List.setIfInBounds_toArray, List.set_cons_zero, List.set_cons_succ, i64_w, i32_w]
                       rfl
                      refine pure_ (i := 5) (N := some 103) (v := ?_) (a' := ?_) #[true, true, true, true, true, true, false, false, true, false, true, false, false, false, false, false, false, false] rfl rfl (any_of HT_.out (by kernel_rfl)) (fun _ _ _ h => h) (Or.inl ⟨by rfl, ?_⟩) ?_ ?_
                      rotate_left
                      ·intro w'
                       go_simp
                       with_reducible rfl
                      rotate_left
                      ·simp only [Act.put, List.setIfInBounds_toArray, List.set_cons_zero, List.set_cons_succ, i64_w, i32_w]
                       rfl
                      refine take_ (i := 6) (N := some 104) (v := ?_) (a' := ?_) #[true, true, true, true, true, true, true, false, true, false, true, false, false, false, false, false, false, false] rfl rfl (take_ofW HT_.out HW_.out (by kernel_rfl)) (fun _ _ _ h => h) (Or.inl ⟨by rfl, ?_⟩) hHeld ?_ ?_
                      rotate_left
                      ·rintro w' ⟨s0, s1, s2, s3, s4, s5, s6, s7, s8, s9, s10⟩
                       go_simp
                       with_reducible rfl
                      rotate_left
                      ·simp only [Act.put, List.setIfInBounds_toArray, List.set_cons_zero, List.set_cons_succ, i64_w, i32_w]
                       rfl
                      refine take_ (i := 9) (N := some 107) (v := ?_) (a' := ?_) #[true, true, true, true, true, true, true, false, true, true, true, false, false, false, false, false, false, false] rfl rfl (take_ofW HT_.out HW_.out (by kernel_rfl)) (fun _ _ _ h => h) (Or.inl ⟨by rfl, ?_⟩) hHeld ?_ ?_
                      rotate_left
                      ·rintro w' ⟨s0, s1, s2, s3, s4, s5, s6, s7, s8, s9, s10⟩
                       go_simp
                       with_reducible rfl
                      rotate_left
                      ·simp only [Act.put, List.setIfInBounds_toArray, List.set_cons_zero, List.set_cons_succ, i64_w, i32_w]
                       rfl
                      refine pure_ (i := 11) (N := some 109) (v := ?_) (a' := ?_) #[true, true, true, true, true, true, true, false, true, true, true, true, false, false, false, false, false, false] rfl rfl (any_of HT_.out (by kernel_rfl)) (fun _ _ _ h => h) (Or.inl ⟨by rfl, ?_⟩) ?_ ?_
                      rotate_left
                      ·intro w'
                       go_simp
                       with_reducible rfl
                      rotate_left
                      ·simp only [Act.put, List.setIfInBounds_toArray, List.set_cons_zero, List.set_cons_succ, i64_w, i32_w]
                       rfl
                      refine pure_ (i := 12) (N := some 110) (v := ?_) (a' := ?_) #[true, true, true, true, true, true, true, false, true, true, true, true, true, false, false, false, false, false] rfl rfl (any_of HT_.out (by kernel_rfl)) (fun _ _ _ h => h) (Or.inl ⟨by rfl, ?_⟩) ?_ ?_
                      rotate_left
                      ·intro w'
                       go_simp
                       with_reducible rfl
                      rotate_left
                      ·simp only [Act.put, List.setIfInBounds_toArray, List.set_cons_zero, List.set_cons_succ, i64_w, i32_w]
                       rfl
                      refine take_ (i := 13) (N := some 111) (v := ?_) (a' := ?_) #[true, true, true, true, true, true, true, false, true, true, true, true, true, true, false, false, false, false] rfl rfl (take_ofW HT_.out HW_.out (by kernel_rfl)) (fun _ _ _ h => h) (Or.inl ⟨by rfl, ?_⟩) hHeld ?_ ?_
                      rotate_left
                      ·rintro w' ⟨s0, s1, s2, s3, s4, s5, s6, s7, s8, s9, s10⟩
                       go_simp
                       with_reducible rfl
                      rotate_left
                      ·simp only [Act.put, List.setIfInBounds_toArray, List.set_cons_zero, List.set_cons_succ, i64_w, i32_w]
                       rfl
                      refine one_ (i := 7) (N := some 105) #[true, true, true, true, true, true, true, true, true, true, true, true, true, true, false, false, false, false] rfl rfl (one_of HT_.out (by kernel_rfl)) (by decide) (fun K hK => ?_)
                      refine goes_ Tryd.func36 (by kernel_rfl) rfl #[.slice A190_0 ((rd_T43 l0_6 x7_4).f0).length c190_0] (by rfl) rfl rfl (by (try simp only [List.map_toArray, List.map_cons, List.map_nil]); first | done | rfl | (simp only [List.length_drop, List.length_take]; rfl)) ?_
                      with_reducible refine (greenwoodref01_Ints.calls k4 _ _ ((rd_T43 l0_6 x7_4).f0) t191 _ ?side1 ?side2 A54.out).mono ?_
                      (case side1 => repeat (first | exact (Kd.C_below HR190_0.out HB.out) | (with_reducible refine Kd.C_alloc ?_ _) | (with_reducible refine Kd.C_drewN ?_ _) | (with_reducible refine Kd.C_drew ?_)))
                      (case side2 => exact HC190_0.out)
                      rintro e w60 ⟨rfl, hb⟩
                      refine ⟨_, rfl, ?_⟩
                      have n0_ := Aside0.mk (blk_below (g := gb173) (o := .cells #[.int .i64 a0_0, .bool a0_1, .slice A0_2 l0_2.length c0_2, .slice A0_3 l0_3.length c0_3, .slice A0_4 l0_4.length c0_4, .slice A0_5 l0_5.length c0_5, .slice (some ad190) l0_6.length c0_6] 27 (0, 0)) (by (with_reducible repeat (first | refine blk_drewN ?_ _ | refine blk_drew ?_ | refine blk_alloc ?_ _)); exact BK173.out) hb)
                      have n1_ := Aside0.mk (below_step (by repeat (first | (with_reducible first | exact HB.out | apply below_alloc | apply pw_below_drewN | apply below_drew1 | refine below_set ?_ GE173.out) | exact HB.out)) hb)
                      clear BK173
                      clear HB
                      have BK173 := n0_
                      have HB := n1_
                      clear n0_ n1_
                      (try clear hb)
                      (try clear hb2)
                      (try clear hk)
                      (try clear hi)
                      refine hK.out _ _ ⟨(blk_cell BK173.out 0).trans rfl, (blk_cell BK173.out 1).trans rfl, (blk_cell BK173.out 2).trans rfl, (blk_cell BK173.out 3).trans rfl, (blk_cell BK173.out 4).trans rfl, (blk_cell BK173.out 5).trans rfl, (blk_cell BK173.out 6).trans rfl, ((HB.out.cell (World.block_lt_of_cell? w _ hw190_0)).trans hw190_0), ((HB.out.cell (World.block_lt_of_cell? w _ hw190_1)).trans hw190_1), ((HB.out.cell (World.block_lt_of_cell? w _ hw192_0)).trans hw192_0), ((HB.out.cell (World.block_lt_of_cell? w _ hw192_1)).trans hw192_1)⟩ (fun hHeld => ?_)
                      clear hK K
                      refine norm_ (a' := ?_) ?_ ?_
                      rotate_left
                      ·show Act.put _ (some 105) _ = _
                       simp only [Act.put, List.setIfInBounds_toArray, List.set_cons_zero, List.set_cons_succ, i64_w, i32_w]
                       rfl
                      refine one_ (i := 14) (N := some 112) #[true, true, true, true, true, true, true, true, true, true, true, true, true, true, true, false, false, false] rfl rfl (one_of HT_.out (by kernel_rfl)) (by decide) (fun K hK => ?_)
                      refine goes_ Tryd.func37 (by kernel_rfl) rfl #[.int .i64 ((rd_T43 l0_6 x7_4).f1)] (by rfl) rfl rfl (by (try simp only [List.map_toArray, List.map_cons, List.map_nil]); first | done | rfl | (simp only [List.length_drop, List.length_take]; rfl)) ?_
                      with_reducible refine (greenwoodref01_Int.calls k4 ((rd_T43 l0_6 x7_4).f1) t193 _ A55.out).mono ?_
                      rintro e w61 ⟨rfl, hb⟩
                      refine ⟨_, rfl, ?_⟩
                      have n0_ := Aside0.mk (blk_below (g := gb173) (o := .cells #[.int .i64 a0_0, .bool a0_1, .slice A0_2 l0_2.length c0_2, .slice A0_3 l0_3.length c0_3, .slice A0_4 l0_4.length c0_4, .slice A0_5 l0_5.length c0_5, .slice (some ad190) l0_6.length c0_6] 27 (0, 0)) (by (with_reducible repeat (first | refine blk_drewN ?_ _ | refine blk_drew ?_ | refine blk_alloc ?_ _)); exact BK173.out) hb)
                      have n1_ := Aside0.mk (below_step (by repeat (first | (with_reducible first | exact HB.out | apply below_alloc | apply pw_below_drewN | apply below_drew1 | refine below_set ?_ GE173.out) | exact HB.out)) hb)
                      clear BK173
                      clear HB
                      have BK173 := n0_
                      have HB := n1_
                      clear n0_ n1_
                      (try clear hb)
                      (try clear hb2)
                      (try clear hk)
                      (try clear hi)
                      refine hK.out _ _ ⟨(blk_cell BK173.out 0).trans rfl, (blk_cell BK173.out 1).trans rfl, (blk_cell BK173.out 2).trans rfl, (blk_cell BK173.out 3).trans rfl, (blk_cell BK173.out 4).trans rfl, (blk_cell BK173.out 5).trans rfl, (blk_cell BK173.out 6).trans rfl, ((HB.out.cell (World.block_lt_of_cell? w _ hw190_0)).trans hw190_0), ((HB.out.cell (World.block_lt_of_cell? w _ hw190_1)).trans hw190_1), ((HB.out.cell (World.block_lt_of_cell? w _ hw192_0)).trans hw192_0), ((HB.out.cell (World.block_lt_of_cell? w _ hw192_1)).trans hw192_1)⟩ (fun hHeld => ?_)
                      clear hK K
                      refine norm_ (a' := ?_) ?_ ?_
                      rotate_left
                      ·show Act.put _ (some 112) _ = _
                       simp only [Act.put, List.setIfInBounds_toArray, List.set_cons_zero, List.set_cons_succ, i64_w, i32_w]
                       rfl
                      refine pure_ (i := 15) (N := some 113) (v := ?_) (a' := ?_) #[true, true, true, true, true, true, true, true, true, true, true, true, true, true, true, true, false, false] rfl rfl (any_of HT_.out (by kernel_rfl)) (fun _ _ _ h => h) (Or.inl ⟨by rfl, ?_⟩) ?_ ?_
                      rotate_left
                      ·intro w'
                       go_simp
                       with_reducible rfl
                      rotate_left
                      ·simp only [Act.put, List.setIfInBounds_toArray, List.set_cons_zero, List.set_cons_succ, i64_w, i32_w]
                       rfl
                      refine pure_ (i := 16) (N := some 114) (v := ?_) (a' := ?_) #[true, true, true, true, true, true, true, true, true, true, true, true, true, true, true, true, true, false] rfl rfl (any_of HT_.out (by kernel_rfl)) (fun _ _ _ h => h) (Or.inl ⟨by rfl, ?_⟩) ?_ ?_
                      rotate_left
                      ·intro w'
                       go_simp
                       with_reducible rfl
                      rotate_left
                      ·simp only [Act.put, List.setIfInBounds_toArray, List.set_cons_zero, List.set_cons_succ, i64_w, i32_w]
                       rfl
                      refine pure_ (i := 17) (N := some 4) (v := ?_) (a' := ?_) #[true, true, true, true, true, true, true, true, true, true, true, true, true, true, true, true, true, true] rfl rfl (any_of HT_.out (by kernel_rfl)) (fun _ _ _ h => h) (Or.inl ⟨by rfl, ?_⟩) ?_ ?_
                      rotate_left
                      ·intro w'
                       go_simp
                       with_reducible rfl
                      rotate_left
                      ·simp only [Act.put, List.setIfInBounds_toArray, List.set_cons_zero, List.set_cons_succ, i64_w, i32_w]
                       rfl
                      refine done_ (done_of HT_.out (by kernel_rfl)) ?_
                      try go_wp2
                      go_roundg k4
                      case measure => have := HJ3.out; have := HK2.out; have := HK3.out; have := HK4.out; omega
                      case rel => exact ⟨(x4_4 ++ (t191 ++ t193)), (wrap64 (x7_4 + 1)), (by first | rfl | (simp; done) | (simp [*]; done)), (by first | rfl | (simp; done) | (simp [*]; done)), H', ⟨by have := HJ3.out; have := HK2.out; have := HK3.out; have := HK4.out; omega⟩, ⟨by (with_reducible repeat (first | refine blk_drewN ?_ _ | refine blk_drew ?_ | refine blk_alloc ?_ _)); exact BK173.out⟩, ⟨by repeat (first | (with_reducible first | exact HB.out | apply below_alloc | apply pw_below_drewN | apply below_drew1 | refine below_set ?_ GE173.out) | exact HB.out)⟩⟩
                     ·rw [if_neg c57] at H
                      exact absurd H (by simp)
                    ·rw [if_neg c56] at H
                     exact absurd H (by simp)
                   ·rw [if_neg c53] at H
                    exact absurd H (by simp)
                  ·rw [if_neg c52] at H
                   have c52b0 : decide (x7_4 < (l0_6.length : Int)) = false := decide_eq_false c52
                   clear c52
                   obtain rfl := Option.some.inj H
                   have hcz62_0 : wr.cell? ⟨gb173, 0, none⟩ = some (.int .i64 a0_0) := (blk_cell BK173.out 0).trans rfl
                   have hcz62_1 : wr.cell? ⟨gb173, 1, none⟩ = some (.bool a0_1) := (blk_cell BK173.out 1).trans rfl
                   have hcz62_2 : wr.cell? ⟨gb173, 2, none⟩ = some (.slice A0_2 l0_2.length c0_2) := (blk_cell BK173.out 2).trans rfl
                   have hcz62_3 : wr.cell? ⟨gb173, 3, none⟩ = some (.slice A0_3 l0_3.length c0_3) := (blk_cell BK173.out 3).trans rfl
                   have hcz62_4 : wr.cell? ⟨gb173, 4, none⟩ = some (.slice A0_4 l0_4.length c0_4) := (blk_cell BK173.out 4).trans rfl
                   have hcz62_5 : wr.cell? ⟨gb173, 5, none⟩ = some (.slice A0_5 l0_5.length c0_5) := (blk_cell BK173.out 5).trans rfl
                   have hcz62_6 : wr.cell? ⟨gb173, 6, none⟩ = some (.slice A0_6 l0_6.length c0_6) := (blk_cell BK173.out 6).trans rfl
                   have hfz62_0 := blk_frozen BK173.out 0
                   have hfz62_1 := blk_frozen BK173.out 1
                   have hfz62_2 := blk_frozen BK173.out 2
                   have hfz62_3 := blk_frozen BK173.out 3
                   have hfz62_4 := blk_frozen BK173.out 4
                   have hfz62_5 := blk_frozen BK173.out 5
                   have hfz62_6 := blk_frozen BK173.out 6
                   go_wp2
                   go_ret
                   exact ⟨by first | rfl | (simp [errW_none, errW_some] <;> rfl) | (simp [*, errW_none, errW_some] <;> rfl), by repeat (first | (with_reducible first | exact HB.out | apply below_alloc | apply pw_below_drewN | apply below_drew1 | refine below_set ?_ GE173.out) | exact HB.out)⟩
               ·rw [if_neg c49] at H
                exact absurd H (by simp)
           ·rw [if_neg c32] at H
            exact absurd H (by simp)
       ·rw [if_neg c18] at H
        exact absurd H (by simp)
      ·rw [if_neg c16] at H
       exact absurd H (by simp)
     ·rw [if_neg c14] at H
      exact absurd H (by simp)
    ·rw [if_neg c12] at H
     exact absurd H (by simp)
 ·rw [if_neg c3] at H
  have c3b0 : (t174 == 0) = false := beq_eq_false_iff_ne.mpr c3
  have c3b1 : (t174 != 0) = true := bne_iff_ne.mpr c3
  obtain rfl := Option.some.inj H
  go_enter Tryd.func14, Tryd.ntmps14
  go_wp2_with (first | ((with_reducible refine gate_dst (N := 1) rfl ?_); refine box_event ?hg (N := 1) ?hd (cs := #[.int .i64 a0_0, .bool a0_1, .slice A0_2 l0_2.length c0_2, .slice A0_3 l0_3.length c0_3, .slice A0_4 l0_4.length c0_4, .slice A0_5 l0_5.length c0_5, .slice A0_6 l0_6.length c0_6]) (t := 27) ?hr ?_; (case hd => rfl); (case hg => rfl); (case hr => first | (go_simp; done) | (go_simp; rfl)); intro gb173 hg w63 hbox hb; have n0_ := Aside0.mk (below_step (by repeat (first | (with_reducible first | exact HB.out | apply below_alloc | apply pw_below_drewN | apply below_drew1) | exact HB.out)) hb); have n1_ := Aside0.mk (hbox); have n2_ := Aside0.mk ((by rw [hg]; exact (below_size (by repeat (first | (with_reducible first | exact HB.out | apply below_alloc | apply pw_below_drewN | apply below_drew1) | exact HB.out))) : w.heap.size ≤ gb173)); have n3_ := Aside0.mk ((by rw [hg]; exact (below_size (by repeat (first | (with_reducible first | exact HB.out | apply below_alloc | apply pw_below_drewN | apply below_drew1) | exact HB.out))) : w.heap.size ≤ gb173)); clear HB; have HB := n0_; have BK173 := n1_; have GW173 := n2_; have GE173 := n3_; clear n0_ n1_ n2_ n3_; clear hb hbox hg; have hcz64_0 : w63.cell? ⟨gb173, 0, none⟩ = some (.int .i64 a0_0) := (blk_cell BK173.out 0).trans rfl; have hcz64_1 : w63.cell? ⟨gb173, 1, none⟩ = some (.bool a0_1) := (blk_cell BK173.out 1).trans rfl; have hcz64_2 : w63.cell? ⟨gb173, 2, none⟩ = some (.slice A0_2 l0_2.length c0_2) := (blk_cell BK173.out 2).trans rfl; have hcz64_3 : w63.cell? ⟨gb173, 3, none⟩ = some (.slice A0_3 l0_3.length c0_3) := (blk_cell BK173.out 3).trans rfl; have hcz64_4 : w63.cell? ⟨gb173, 4, none⟩ = some (.slice A0_4 l0_4.length c0_4) := (blk_cell BK173.out 4).trans rfl; have hcz64_5 : w63.cell? ⟨gb173, 5, none⟩ = some (.slice A0_5 l0_5.length c0_5) := (blk_cell BK173.out 5).trans rfl; have hcz64_6 : w63.cell? ⟨gb173, 6, none⟩ = some (.slice A0_6 l0_6.length c0_6) := (blk_cell BK173.out 6).trans rfl; have hfz64_0 := blk_frozen BK173.out 0; have hfz64_1 := blk_frozen BK173.out 1; have hfz64_2 := blk_frozen BK173.out 2; have hfz64_3 := blk_frozen BK173.out 3; have hfz64_4 := blk_frozen BK173.out 4; have hfz64_5 := blk_frozen BK173.out 5; have hfz64_6 := blk_frozen BK173.out 6) | ((with_reducible refine gate_callee (f := 12) rfl ?_); refine goesL_ (some 9) rfl rfl Tryd.func12 (by kernel_rfl) rfl #[.agg #[.int .i64 a0_0, .bool a0_1, .slice A0_2 l0_2.length c0_2, .slice A0_3 l0_3.length c0_3, .slice A0_4 l0_4.length c0_4, .slice A0_5 l0_5.length c0_5, .slice A0_6 l0_6.length c0_6]] rfl (by (try simp only [List.map_toArray, List.map_cons, List.map_nil]); first | done | rfl | (simp only [List.length_drop, List.length_take]; rfl)) ?_; (with_reducible refine (greenwoodref23_Check.calls k a0_0 a0_1 _ _ l0_2 _ _ l0_3 _ _ l0_4 _ _ l0_5 _ _ l0_6 t174 _ ?side1 ?side2 ?side3 ?side4 ?side5 ?side6 ?side7 ?side8 ?side9 ?side10 A2.out).mono ?_); (case side1 => repeat (first | exact (Kd.C_below HR0_2.out HB.out) | (with_reducible refine Kd.C_alloc ?_ _) | (with_reducible refine Kd.C_drewN ?_ _) | (with_reducible refine Kd.C_drew ?_))); (case side2 => exact HC0_2.out); (case side3 => repeat (first | exact (Kd.C_below HR0_3.out HB.out) | (with_reducible refine Kd.C_alloc ?_ _) | (with_reducible refine Kd.C_drewN ?_ _) | (with_reducible refine Kd.C_drew ?_))); (case side4 => exact HC0_3.out); (case side5 => repeat (first | exact (Kd.C_below HR0_4.out HB.out) | (with_reducible refine Kd.C_alloc ?_ _) | (with_reducible refine Kd.C_drewN ?_ _) | (with_reducible refine Kd.C_drew ?_))); (case side6 => exact HC0_4.out); (case side7 => repeat (first | exact (Kd.C_below HR0_5.out HB.out) | (with_reducible refine Kd.C_alloc ?_ _) | (with_reducible refine Kd.C_drewN ?_ _) | (with_reducible refine Kd.C_drew ?_))); (case side8 => exact HC0_5.out); (case side9 => repeat (first | exact (Kd.C_below HR0_6.out HB.out) | (with_reducible refine Kd.C_alloc ?_ _) | (with_reducible refine Kd.C_drewN ?_ _) | (with_reducible refine Kd.C_drew ?_))); (case side10 => exact HC0_6.out); rintro e w65 ⟨rfl, hb⟩; refine ⟨_, rfl, ?_⟩; have n0_ := Aside0.mk (blk_below (g := gb173) (o := .cells #[.int .i64 a0_0, .bool a0_1, .slice A0_2 l0_2.length c0_2, .slice A0_3 l0_3.length c0_3, .slice A0_4 l0_4.length c0_4, .slice A0_5 l0_5.length c0_5, .slice A0_6 l0_6.length c0_6] 27 (0, 0)) (by (with_reducible repeat (first | refine blk_drewN ?_ _ | refine blk_drew ?_ | refine blk_alloc ?_ _)); exact BK173.out) hb); have n1_ := Aside0.mk (below_step (by repeat (first | (with_reducible first | exact HB.out | apply below_alloc | apply pw_below_drewN | apply below_drew1 | refine below_set ?_ GE173.out) | exact HB.out)) hb); clear BK173; clear HB; have BK173 := n0_; have HB := n1_; clear n0_ n1_; (try clear hb); (try clear hb2); (try clear hk); (try clear hi)))
  go_ret
  exact ⟨by first | rfl | (simp [errW_none, errW_some] <;> rfl) | (simp [*, errW_none, errW_some] <;> rfl), by repeat (first | (with_reducible first | exact HB.out | apply below_alloc | apply pw_below_drewN | apply below_drew1 | refine below_set ?_ GE173.out) | exact HB.out)⟩

end Go.Proofs.YtlekdhejgdfnpaaDoor.P
