/- Texts of this claim's own repository, merged by wip/tool/pack.py: IdxInt, EvW, MatMay, MatRm, Px2, Px3A, ElimMay, Px3, Px4A, NumA, NumB. -/
import Derived.Outline
import Derived.Deep.RegionWith
import Derived.Test.YtgbmlkmkfigolaaDoorKMatroidTags0
set_option linter.unusedVariables false
set_option linter.unusedSimpArgs false
/- slices.IndexFunc, slices.ContainsFunc at []int, for whatever function value that reads alone. -/
namespace Go.Proofs.YtgbmlkmkfigolaaDoor.P
open Go.RowKit Go.Proofs.YtgbmlkmkfigolaaDoorW.PrintWords Go.Proofs.YtgbmlkmkfigolaaDoorW.PrintLast Go.Proofs.YtgbmlkmkfigolaaDoorW.PrintMore
set_option linter.unusedVariables false
set_option linter.unusedSimpArgs false

theorem enters_of {P : Program} {f : FuncId} {fn : Func} {c : Code} (hf : P.funcs[f]? = some fn) (hname : (fn.name == "runtime.NumGoroutine") = false) (hb : fn.body = some c) : ∀ (args : Array Value) (w : World), (callFunc f args).run P w = .ok (.enter f args) w := by
 intro args w
 have h1 : fn.name ≠ "runtime.NumGoroutine" := by simpa using hname
 simp [callFunc, hf, h1, hb, mark]

/-- where the first one is of which p holds, from i on; -1 -/
def fidx {α : Type} (p : α → Bool) : List α → Nat → Int
 | [], _ => -1
 | x :: r, i => if p x = true then (i : Int) else fidx p r (i + 1)
theorem fidx_neg {α : Type} (p : α → Bool) : ∀ (l : List α) (i : Nat), (decide (0 ≤ fidx p l i)) = l.any p := by
 intro l
 induction l with
 | nil => intro i; rfl
 | cons x r ih =>
  intro i
  unfold fidx
  rw [List.any_cons]
  by_cases h : p x = true
  ·rw [if_pos h, h, Bool.true_or]; exact decide_eq_true (by omega)
  ·rw [if_neg h, ih, Bool.eq_false_iff.mpr h, Bool.false_or]






set_option maxHeartbeats 2000000 in
set_option maxRecDepth 100000 in
theorem idxInt_c (A : Option Addr) (c : Nat) (l : List Int) (g : Nat) (lb : Array Value) (p : Int → Bool) (w : World) (hr : Kd.C (Kd.int .i64) w A l.length l) (hc : l.length ≤ c) (hm : l.length ≤ 9223372036854775807)
 (eg : ∀ args w, (callFunc g args).run Tryd.prog w = .ok (.enter g args) w)
 (hp : ∀ n (x : Int) , x ∈ l →  Calls Tryd.prog g (#[.int .i64 x] ++ lb) (w.drewN n) fun e w' => e = .returned (.bool (p x)) ∧ Drawn0 (w.drewN n) w') :
 Calls Tryd.prog 67 #[.slice A l.length c, .func (.func g) #[] lb] w fun e w' => e = .returned (.int .i64 (fidx p l 0)) ∧ Drawn0 w w' := by
 have HR := Aside0.mk hr
 have HC := Aside0.mk hc
 have HP := Aside0.mk hp
 have hm2 : (l.length : Int) ≤ 9223372036854775807 := by omega
 clear hr hc hp hm
 go_enter Tryd.func67, Tryd.ntmps67
 go_wp2
 go_loopg [5, 8] (l.length) (fun gg _ s8 wr => ∃ kk : Nat, kk ≤ l.length ∧ l.length - kk ≤ gg ∧ s8 = .int .i64 (kk : Int) ∧ Aside0 (fidx p l 0 = fidx p (l.drop kk) kk) ∧ Drawn0 w wr)
 case atStart => exact ⟨0, Nat.zero_le _, by omega, rfl, ⟨rfl⟩, Drawn0.refl _⟩
 case round =>
  obtain ⟨kk, hkk, hg, rfl, HF, ⟨q, rfl⟩⟩ := hrel
  by_cases hlt : kk < l.length
  ·have hltz : (kk : Int) < (l.length : Int) := by omega
   have hk0 : 0 ≤ (kk : Int) := by omega
   obtain ⟨ad, ead, hcell⟩ := Kd.at_int HR.out (kk : Int) hk0 hltz
   cases ead
   rw [Int.toNat_natCast] at hcell
   have hx : l.drop kk = (rd l (kk : Int)) :: l.drop (kk + 1) := by
    rw [List.drop_eq_getElem_cons hlt]; congr 1
    simp [rd, List.getElem?_eq_getElem hlt]
   have hmem : (rd l (kk : Int)) ∈ l := by
    have : (rd l (kk : Int)) ∈ l.drop kk := by rw [hx]; exact List.mem_cons_self
    exact List.mem_of_mem_drop this
   have hcall := fun n => HP.out n (rd l (kk : Int))  hmem 
   have HF2 : Aside0 (fidx p l 0 = if p (rd l (kk : Int)) = true then (kk : Int) else fidx p (l.drop (kk + 1)) (kk + 1)) := ⟨by rw [HF.out, hx]; rfl⟩
   clear HF hx hmem
   generalize (rd l (kk : Int)) = y at *
   cases hq : p y with
   | true =>
    rw [hq] at hcall
    have HF3 : Aside0 (fidx p l 0 = (kk : Int)) := ⟨by rw [HF2.out, if_pos hq]⟩
    clear HF2 hq
    go_wp2_with (fail)
    refine (hcall _).mono ?_
    rintro e w' ⟨rfl, ⟨q', rfl⟩⟩
    clear hcall HP
    go_wp2_with (fail)
    go_ret
    exact ⟨by rw [HF3.out]; rfl, by repeat (first | exact Drawn0.refl _ | apply Drawn0.step)⟩
   | false =>
    rw [hq] at hcall
    have HF3 : Aside0 (fidx p l 0 = fidx p (l.drop (kk + 1)) (kk + 1)) := ⟨by rw [HF2.out, if_neg (by rw [hq]; decide)]⟩
    clear HF2 hq
    go_wp2_with (fail)
    refine (hcall _).mono ?_
    rintro e w' ⟨rfl, ⟨q', rfl⟩⟩
    clear hcall HP
    go_wp2_with (fail)
    go_roundg (l.length - (kk + 1))
    case measure => omega
    case rel => exact ⟨kk + 1, by omega, by omega, by go_num, HF3, by repeat (first | exact Drawn0.refl _ | apply Drawn0.step)⟩
  ·have hltz : ¬ (kk : Int) < (l.length : Int) := by omega
   have HF3 : Aside0 (fidx p l 0 = -1) := ⟨by rw [HF.out, List.drop_of_length_le (by omega)]; rfl⟩
   clear HF
   go_wp2
   go_ret
   exact ⟨by rw [HF3.out]; rfl, by repeat (first | exact Drawn0.refl _ | apply Drawn0.step)⟩

set_option maxHeartbeats 2000000 in
set_option maxRecDepth 100000 in
theorem hasInt_c (A : Option Addr) (c : Nat) (l : List Int) (g : Nat) (lb : Array Value) (p : Int → Bool) (w : World) (hr : Kd.C (Kd.int .i64) w A l.length l) (hc : l.length ≤ c) (hm : l.length ≤ 9223372036854775807)
 (eg : ∀ args w, (callFunc g args).run Tryd.prog w = .ok (.enter g args) w)
 (hp : ∀ n (x : Int) , x ∈ l →  Calls Tryd.prog g (#[.int .i64 x] ++ lb) (w.drewN n) fun e w' => e = .returned (.bool (p x)) ∧ Drawn0 (w.drewN n) w') :
 Calls Tryd.prog 60 #[.slice A l.length c, .func (.func g) #[] lb] w fun e w' => e = .returned (.bool (l.any p)) ∧ Drawn0 w w' := by
 have hcall := idxInt_c A c l g lb p w hr hc hm eg hp
 have HE := Aside0.mk (fidx_neg p l 0)
 clear hr hc hm eg hp
 go_enter Tryd.func60, Tryd.ntmps60
 go_wp2_with (go_at_call 67; refine hcall.mono ?_; rintro e w' ⟨rfl, ⟨q', rfl⟩⟩)
 go_ret
 exact ⟨by rw [← HE.out]; rfl, by repeat (first | exact Drawn0.refl _ | apply Drawn0.step)⟩

set_option maxHeartbeats 2000000 in
set_option maxRecDepth 100000 in
theorem idxRow_c (A : Option Addr) (c : Nat) (l : List (List Int)) (g : Nat) (lb : Array Value) (p : (List Int) → Bool) (w : World) (hr : Kd.C (Kd.slice 3 (Kd.int .i64)) w A l.length l) (hc : l.length ≤ c) (hm : l.length ≤ 9223372036854775807)
 (eg : ∀ args w, (callFunc g args).run Tryd.prog w = .ok (.enter g args) w)
 (hp : ∀ n (x : (List Int)) (A : Option Addr) (c : Nat), x ∈ l → x.length ≤ c → Kd.C (Kd.int .i64) w A x.length x → Calls Tryd.prog g (#[.slice A x.length c] ++ lb) (w.drewN n) fun e w' => e = .returned (.bool (p x)) ∧ Drawn0 (w.drewN n) w') :
 Calls Tryd.prog 59 #[.slice A l.length c, .func (.func g) #[] lb] w fun e w' => e = .returned (.int .i64 (fidx p l 0)) ∧ Drawn0 w w' := by
 have HR := Aside0.mk hr
 have HC := Aside0.mk hc
 have HP := Aside0.mk hp
 have hm2 : (l.length : Int) ≤ 9223372036854775807 := by omega
 clear hr hc hp hm
 go_enter Tryd.func59, Tryd.ntmps59
 go_wp2
 go_loopg [5, 8] (l.length) (fun gg _ s8 wr => ∃ kk : Nat, kk ≤ l.length ∧ l.length - kk ≤ gg ∧ s8 = .int .i64 (kk : Int) ∧ Aside0 (fidx p l 0 = fidx p (l.drop kk) kk) ∧ Drawn0 w wr)
 case atStart => exact ⟨0, Nat.zero_le _, by omega, rfl, ⟨rfl⟩, Drawn0.refl _⟩
 case round =>
  obtain ⟨kk, hkk, hg, rfl, HF, ⟨q, rfl⟩⟩ := hrel
  by_cases hlt : kk < l.length
  ·have hltz : (kk : Int) < (l.length : Int) := by omega
   have hk0 : 0 ≤ (kk : Int) := by omega
   obtain ⟨ad, A0, c0, ead, hcell, hl0, hR0⟩ := at_L1 HR.out (kk : Int) hk0 hltz
   cases ead
   rw [Int.toNat_natCast] at hcell
   have HR0 := Aside0.mk hR0
   clear hR0
   have hx : l.drop kk = (rd_L1 l (kk : Int)) :: l.drop (kk + 1) := by
    rw [List.drop_eq_getElem_cons hlt]; congr 1
    simp [rd_L1, List.getElem?_eq_getElem hlt]
   have hmem : (rd_L1 l (kk : Int)) ∈ l := by
    have : (rd_L1 l (kk : Int)) ∈ l.drop kk := by rw [hx]; exact List.mem_cons_self
    exact List.mem_of_mem_drop this
   have hcall := fun n => HP.out n (rd_L1 l (kk : Int)) A0 c0 hmem hl0 HR0.out
   have HF2 : Aside0 (fidx p l 0 = if p (rd_L1 l (kk : Int)) = true then (kk : Int) else fidx p (l.drop (kk + 1)) (kk + 1)) := ⟨by rw [HF.out, hx]; rfl⟩
   clear HF hx hmem
   generalize (rd_L1 l (kk : Int)) = y at *
   cases hq : p y with
   | true =>
    rw [hq] at hcall
    have HF3 : Aside0 (fidx p l 0 = (kk : Int)) := ⟨by rw [HF2.out, if_pos hq]⟩
    clear HF2 hq
    go_wp2_with (fail)
    refine (hcall _).mono ?_
    rintro e w' ⟨rfl, ⟨q', rfl⟩⟩
    clear hcall HP
    go_wp2_with (fail)
    go_ret
    exact ⟨by rw [HF3.out]; rfl, by repeat (first | exact Drawn0.refl _ | apply Drawn0.step)⟩
   | false =>
    rw [hq] at hcall
    have HF3 : Aside0 (fidx p l 0 = fidx p (l.drop (kk + 1)) (kk + 1)) := ⟨by rw [HF2.out, if_neg (by rw [hq]; decide)]⟩
    clear HF2 hq
    go_wp2_with (fail)
    refine (hcall _).mono ?_
    rintro e w' ⟨rfl, ⟨q', rfl⟩⟩
    clear hcall HP
    go_wp2_with (fail)
    go_roundg (l.length - (kk + 1))
    case measure => omega
    case rel => exact ⟨kk + 1, by omega, by omega, by go_num, HF3, by repeat (first | exact Drawn0.refl _ | apply Drawn0.step)⟩
  ·have hltz : ¬ (kk : Int) < (l.length : Int) := by omega
   have HF3 : Aside0 (fidx p l 0 = -1) := ⟨by rw [HF.out, List.drop_of_length_le (by omega)]; rfl⟩
   clear HF
   go_wp2
   go_ret
   exact ⟨by rw [HF3.out]; rfl, by repeat (first | exact Drawn0.refl _ | apply Drawn0.step)⟩

set_option maxHeartbeats 2000000 in
set_option maxRecDepth 100000 in
theorem hasRow_c (A : Option Addr) (c : Nat) (l : List (List Int)) (g : Nat) (lb : Array Value) (p : (List Int) → Bool) (w : World) (hr : Kd.C (Kd.slice 3 (Kd.int .i64)) w A l.length l) (hc : l.length ≤ c) (hm : l.length ≤ 9223372036854775807)
 (eg : ∀ args w, (callFunc g args).run Tryd.prog w = .ok (.enter g args) w)
 (hp : ∀ n (x : (List Int)) (A : Option Addr) (c : Nat), x ∈ l → x.length ≤ c → Kd.C (Kd.int .i64) w A x.length x → Calls Tryd.prog g (#[.slice A x.length c] ++ lb) (w.drewN n) fun e w' => e = .returned (.bool (p x)) ∧ Drawn0 (w.drewN n) w') :
 Calls Tryd.prog 48 #[.slice A l.length c, .func (.func g) #[] lb] w fun e w' => e = .returned (.bool (l.any p)) ∧ Drawn0 w w' := by
 have hcall := idxRow_c A c l g lb p w hr hc hm eg hp
 have HE := Aside0.mk (fidx_neg p l 0)
 clear hr hc hm eg hp
 go_enter Tryd.func48, Tryd.ntmps48
 go_wp2_with (go_at_call 59; refine hcall.mono ?_; rintro e w' ⟨rfl, ⟨q', rfl⟩⟩)
 go_ret
 exact ⟨by rw [← HE.out]; rfl, by repeat (first | exact Drawn0.refl _ | apply Drawn0.step)⟩
end Go.Proofs.YtgbmlkmkfigolaaDoor.P
/- Values of printed functions: general words. -/
namespace Go.Proofs.YtgbmlkmkfigolaaDoor.P
open Go.RowKit Go.Proofs.YtgbmlkmkfigolaaDoorW.PrintWords Go.Proofs.YtgbmlkmkfigolaaDoorW.PrintLast Go.Proofs.YtgbmlkmkfigolaaDoorW.PrintMore
set_option linter.unusedVariables false
set_option linter.unusedSimpArgs false

theorem Ev.ifp {α : Type} {c : Prop} [Decidable c] {g f : Nat → Option α} {r : α} (h : c) (e : Ev g r) : Ev (fun n => if c then g n else f n) r := by
 simp only [if_pos h]; exact e
theorem Ev.ifn {α : Type} {c : Prop} [Decidable c] {g f : Nat → Option α} {r : α} (h : ¬ c) (e : Ev f r) : Ev (fun n => if c then g n else f n) r := by
 simp only [if_neg h]; exact e
theorem Ev.val {α : Type} {r t : α} (h : r = t) : Ev (fun _ => some r) t := by subst h; exact Ev.now r
theorem Ev.bnd {α β : Type} {a : α} {f : Nat → α → Option β} {r : β} (k : Ev (fun n => f n a) r) : Ev (fun n => (some a).bind (f n)) r := k
theorem rd_at {l : List Int} {i : Nat} (h : i < l.length) : rd l (i : Int) = l[i] := by simp [rd, List.getD_eq_getElem?_getD, List.getElem?_eq_getElem h]
theorem w1 {i : Nat} {n : Nat} (h : i < n) (hn : n ≤ 1000000) : wrap64 ((i : Int) + 1) = ((i + 1 : Nat) : Int) := by unfold wrap64; omega

end Go.Proofs.YtgbmlkmkfigolaaDoor.P
/- match.May, by hand: whether pairs of two sides may be. -/
namespace Go.Proofs.YtgbmlkmkfigolaaDoor.P
open Go.RowKit Go.Proofs.YtgbmlkmkfigolaaDoorW.PrintWords Go.Proofs.YtgbmlkmkfigolaaDoorW.PrintLast Go.Proofs.YtgbmlkmkfigolaaDoorW.PrintMore
set_option linter.unusedVariables false
set_option linter.unusedSimpArgs false

/-! ### set.May -/
def incB : Int → List Int → Bool
 | _, [] => true
 | m, x :: r => decide (m < x) && decide (x ≤ 1099511627776) && incB x r
def mayB (l : List Int) : Bool := incB (-1) l
theorem set_May_l0 (l : List Int) (hn : l.length ≤ 9223372036854775807) : ∀ (d i : Nat) (m : Int), l.length - i = d → i ≤ l.length → Ev (fun k => set_May.l0 k m l (l.length : Int) (i : Int)) (incB m (l.drop i)) := by
 intro d
 induction d with
 | zero =>
  intro i m h1 h2
  refine Ev.step (fun k => by rw [set_May.l0]) ?_
  refine Ev.ifn (by omega) (Ev.val ?_)
  rw [List.drop_of_length_le (by omega)]; rfl
 | succ d ih =>
  intro i m h1 h2
  have hi : i < l.length := by omega
  refine Ev.step (fun k => by rw [set_May.l0]) ?_
  refine Ev.ifp (by omega) (Ev.ifp (by omega) (Ev.ifp (by omega) ?_))
  rw [rd_at hi, List.drop_eq_getElem_cons hi]
  unfold incB
  by_cases h3 : l[i] ≤ m
  ·refine Ev.ifp h3 (Ev.val ?_)
   rw [decide_eq_false (show ¬ m < l[i] by omega)]; rfl
  refine Ev.ifn h3 ?_
  rw [decide_eq_true (show m < l[i] by omega)]
  by_cases h4 : l[i] > 1099511627776
  ·refine Ev.ifp h4 (Ev.val ?_)
   rw [decide_eq_false (show ¬ l[i] ≤ 1099511627776 by omega)]; rfl
  refine Ev.ifn h4 ?_
  rw [decide_eq_true (show l[i] ≤ 1099511627776 by omega)]
  have hw : wrap64 ((i : Int) + 1) = ((i + 1 : Nat) : Int) := by unfold wrap64; omega
  rw [hw]
  exact ih (i + 1) _ (by omega) (by omega)
theorem set_May_ev (l : List Int) (hn : l.length ≤ 9223372036854775807) : Ev (fun k => set_May.f k l) (mayB l) := set_May_l0 l hn l.length 0 (-1) rfl (Nat.zero_le _)
theorem set_May_now (A : Option Addr) (c : Nat) (l : List Int) (w : World) (hr : Kd.C (Kd.int .i64) w A l.length l) (hc : l.length ≤ c) (hn : l.length ≤ 9223372036854775807) :
 Calls Tryd.prog 21 #[.slice A l.length c] w fun e w' => e = .returned (.bool (mayB l)) ∧ Drawn0 w w' := by
 obtain ⟨k, hk⟩ := (set_May_ev l hn).rounds
 exact set_May.calls k A c l _ w hr hc hk

/-! ### match.May -/
def mbadB (right : Int) (l : List Int) : Bool := !mayB l || (decide (0 < (l.length : Int)) && decide (right ≤ rd l ((l.length : Int) - 1)))
def match_May.f (a0 : Int) (l1 : List (List Int)) : Option Bool := some (!decide (a0 < 0) && !decide (64 < a0) && !decide (64 < (l1.length : Int)) && !(l1.any (mbadB a0)))
set_option maxHeartbeats 2000000 in
set_option maxRecDepth 100000 in
theorem match_May.in1 (A : Option Addr) (c : Nat) (l : List Int) (p : Int) (hn : l.length ≤ 9223372036854775807) (B : Nat) (W : World) (hr : Kd.C (Kd.int .i64) W A l.length l) (hc : l.length ≤ c)
 (h1 : W.cell? ⟨B, 0, none⟩ = some (.int .i64 p)) :
 Calls Tryd.prog 62 #[.slice A l.length c, .pointer (some ⟨B, 0, none⟩)] W fun e w' => e = .returned (.bool (mbadB p l)) ∧ Drawn0 W w' := by
 have hcall := fun q => (set_May_now A c l (W.drewN q) (Kd.C_below hr (Drawn0.below ⟨⟨q, rfl⟩⟩)) hc hn).mono (fun e w' (h : e = .returned (.bool (mayB l)) ∧ Drawn0 (W.drewN q) w') => (show e = .returned (.bool (mayB l)) ∧ ∃ m, w' = (W.drewN q).drewN m from ⟨h.1, by obtain ⟨_, ⟨m, rfl⟩⟩ := h; exact ⟨m, rfl⟩⟩))
 have HE : ∀ b, mbadB p l = b → Aside0 (mbadB p l = b) := fun b h => ⟨h⟩
 cases hm : mayB l with
 | false =>
  have HB := HE true (by unfold mbadB; rw [hm]; rfl)
  rw [hm] at hcall
  have HCL := Aside0.mk hcall
  clear hm hr hc hcall HE hn
  go_enter Tryd.func62, Tryd.ntmps62
  go_wp2
  repeat (go_quiet (first | (go_at_call 21; refine Calls.quiet_of (HCL.out _))); try go_wp2)
  go_ret
  exact ⟨by rw [HB.out]; rfl, by repeat (first | exact Drawn0.refl _ | apply Drawn0.step)⟩
 | true =>
  rw [hm] at hcall
  by_cases h0 : 0 < (l.length : Int)
  ·have h0b : decide (0 < (l.length : Int)) = true := decide_eq_true h0
   have h0c : decide (0 < l.length) = true := decide_eq_true (by omega)
   have h0d : 0 < l.length := by omega
   obtain ⟨ad, rfl, hx⟩ := Kd.at_int hr ((l.length : Int) - 1) (by omega) (by omega)
   rw [show ((l.length : Int) - 1).toNat = l.length - 1 by omega] at hx
   have hlast : wrap64 ((l.length : Int) - 1) = (l.length : Int) - 1 := by unfold wrap64; omega
   have hi0 : (0 : Int) ≤ (l.length : Int) - 1 := by omega
   have hi1 : (l.length : Int) - 1 < (l.length : Int) := by omega
   have hb0 : (l.length : Int) ≤ 9223372036854775807 := by omega
   have hcases : (decide (p ≤ rd l ((l.length : Int) - 1)) = true ∧ mbadB p l = true) ∨ (decide (p ≤ rd l ((l.length : Int) - 1)) = false ∧ mbadB p l = false) := by
    unfold mbadB
    rw [hm, h0b]
    by_cases h2 : p ≤ rd l ((l.length : Int) - 1)
    ·exact .inl ⟨decide_eq_true h2, by rw [decide_eq_true h2]; rfl⟩
    ·exact .inr ⟨decide_eq_false h2, by rw [decide_eq_false h2]; rfl⟩
   generalize rd l ((l.length : Int) - 1) = y at *
   rcases hcases with ⟨h2, h3⟩ | ⟨h2, h3⟩
   ·have HB := HE _ h3
    clear h3 h0
    have HCL := Aside0.mk hcall
    clear hm hr hc hcall HE hn
    go_enter Tryd.func62, Tryd.ntmps62
    go_wp2
    repeat (go_quiet (first | (go_at_call 21; refine Calls.quiet_of (HCL.out _))); try go_wp2)
    go_ret
    exact ⟨by rw [HB.out]; rfl, by repeat (first | exact Drawn0.refl _ | apply Drawn0.step)⟩
   ·have HB := HE _ h3
    clear h3 h0
    have HCL := Aside0.mk hcall
    clear hm hr hc hcall HE hn
    go_enter Tryd.func62, Tryd.ntmps62
    go_wp2
    repeat (go_quiet (first | (go_at_call 21; refine Calls.quiet_of (HCL.out _))); try go_wp2)
    go_ret
    exact ⟨by rw [HB.out]; rfl, by repeat (first | exact Drawn0.refl _ | apply Drawn0.step)⟩
  ·have h0b : decide (0 < (l.length : Int)) = false := decide_eq_false h0
   have h0c : decide (0 < l.length) = false := decide_eq_false (by omega)
   have HB := HE false (by unfold mbadB; rw [hm, h0b]; rfl)
   clear h0
   have HCL := Aside0.mk hcall
   clear hm hr hc hcall HE hn
   go_enter Tryd.func62, Tryd.ntmps62
   go_wp2
   repeat (go_quiet (first | (go_at_call 21; refine Calls.quiet_of (HCL.out _))); try go_wp2)
   go_ret
   exact ⟨by rw [HB.out]; rfl, by repeat (first | exact Drawn0.refl _ | apply Drawn0.step)⟩
set_option maxHeartbeats 4000000 in
set_option maxRecDepth 100000 in
theorem match_May.calls (a0 : Int) (A1 : Option Addr) (c1 : Nat) (l1 : List (List Int)) (r : Bool) (w : World) (hr1 : Kd.C (Kd.slice 3 (Kd.int .i64)) w A1 l1.length l1) (hc1 : l1.length ≤ c1) (h : match_May.f a0 l1 = some r) :
 Calls Tryd.prog 51 #[.int .i64 a0, .slice A1 l1.length c1] w fun e w' => e = .returned (.bool r) ∧ Below w.heap.size w w' := by
 unfold match_May.f at h
 have hf := Option.some.inj h
 clear h
 have go : ∀ b, r = b → Aside0 (r = b) := fun b h => ⟨h⟩
 have hways : (decide (a0 < 0) = true ∧ r = false) ∨ (decide (a0 < 0) = false ∧ decide (64 < a0) = true ∧ r = false) ∨ (decide (a0 < 0) = false ∧ decide (64 < a0) = false ∧ decide (64 < (l1.length : Int)) = true ∧ decide (64 < l1.length) = true ∧ r = false) ∨ (decide (a0 < 0) = false ∧ decide (64 < a0) = false ∧ decide (64 < (l1.length : Int)) = false ∧ decide (64 < l1.length) = false ∧ l1.length ≤ 64 ∧ r = !(l1.any (mbadB a0))) := by
  by_cases h1 : a0 < 0
  ·exact .inl ⟨decide_eq_true h1, by rw [← hf, decide_eq_true h1]; rfl⟩
  by_cases h2 : 64 < a0
  ·exact .inr (.inl ⟨decide_eq_false h1, decide_eq_true h2, by rw [← hf, decide_eq_true h2]; simp⟩)
  by_cases h3 : 64 < (l1.length : Int)
  ·exact .inr (.inr (.inl ⟨decide_eq_false h1, decide_eq_false h2, decide_eq_true h3, decide_eq_true (by omega), by rw [← hf, decide_eq_true h3]; simp⟩))
  ·exact .inr (.inr (.inr ⟨decide_eq_false h1, decide_eq_false h2, decide_eq_false h3, decide_eq_false (by omega), by omega, by rw [← hf, decide_eq_false h1, decide_eq_false h2, decide_eq_false h3]; simp⟩))
 clear hf
 rcases hways with ⟨h1, h4⟩ | ⟨h1, h2, h4⟩ | ⟨h1, h2, h3, h3', h4⟩ | ⟨h1, h2, h3, h3', h5, h4⟩
 iterate 3
  ·have HF := go _ h4
   clear h4 go hr1 hc1
   go_enter Tryd.func51, Tryd.ntmps51
   go_wp2
   go_ret
   exact ⟨by rw [HF.out]; rfl, by repeat (first | exact Below.refl _ _ | exact Below.alloc (Below.refl _ _) (Nat.le_refl _) _ | (refine Below.alloc ?_ (by simp) _) | apply pw_below_drewN)⟩
 ·have HF := go _ h4
  have HR := Aside0.mk hr1
  have HC := Aside0.mk hc1
  have HW := Aside0.mk h5
  clear h4 go hr1 hc1 h5
  go_enter Tryd.func51, Tryd.ntmps51
  go_wp2_with (fail)
  have hbel : Below w.heap.size w (w.alloc (Obj.cells #[Value.int IntKind.i64 a0] 3)) := (Below.refl _ _).alloc (Nat.le_refl _) _
  have hb1 : (w.alloc (Obj.cells #[Value.int IntKind.i64 a0] 3)).cell? ⟨w.heap.size, 0, none⟩ = some (.int .i64 a0) := by go_simp
  generalize (w.alloc (Obj.cells #[Value.int IntKind.i64 a0] 3)) = W1 at hbel hb1 ⊢
  refine (hasRow_c A1 c1 l1 62 #[.pointer (some ⟨w.heap.size, 0, none⟩)] (mbadB a0) W1 (Kd.C_below HR.out hbel) HC.out (by have := HW.out; omega) (enters_of Tryd.func62 (by kernel_rfl) rfl)
   (fun n x A c _ hxl hx => match_May.in1 A c x a0 (hx.2.1) _ _ (Kd.C_below hx (Drawn0.below ⟨⟨n, rfl⟩⟩)) hxl (by simpa [World.cell?_drewN] using hb1))).mono ?_
  rintro e w' ⟨rfl, ⟨q', rfl⟩⟩
  have HB := Aside0.mk hbel
  clear hbel hb1
  generalize l1.any (mbadB a0) = b at *
  go_wp2_with (fail)
  go_ret
  exact ⟨by rw [HF.out]; rfl, pw_below_drewN HB.out _⟩
end Go.Proofs.YtgbmlkmkfigolaaDoor.P
/- greenwoodref06.May, by hand. -/
namespace Go.Proofs.YtgbmlkmkfigolaaDoor.P
open Go.RowKit Go.Proofs.YtgbmlkmkfigolaaDoorW.PrintWords Go.Proofs.YtgbmlkmkfigolaaDoorW.PrintLast Go.Proofs.YtgbmlkmkfigolaaDoorW.PrintMore
set_option linter.unusedVariables false
set_option linter.unusedSimpArgs false

/-- the last number so far, as set.May keeps it -/
def lastB (l : List Int) (i : Nat) : Int := if i = 0 then -1 else rd l ((i : Int) - 1)
end Go.Proofs.YtgbmlkmkfigolaaDoor.P
namespace Go.Proofs.YtgbmlkmkfigolaaDoor.P
open Go.RowKit Go.Proofs.YtgbmlkmkfigolaaDoorW.PrintWords Go.Proofs.YtgbmlkmkfigolaaDoorW.PrintLast Go.Proofs.YtgbmlkmkfigolaaDoorW.PrintMore
attribute [local go_sem] max2_int min2_int max_two min_two max_three min_three max_four min_four   -- for this text's walks alone
set_option linter.unusedVariables false
set_option linter.unusedSimpArgs false

/-! ### modp_may: function 70 -/
def modp_may.f (a0 : Int) : Option (Bool) := if a0 ≥ 1 then (some (decide (a0 ≤ 2147483647))) else (some false)
set_option maxHeartbeats 8000000 in
set_option maxRecDepth 100000 in
theorem modp_may.calls (a0 : Int) (r : Bool) (w : World) (h : modp_may.f a0 = some r) :
 Calls Tryd.prog 70 #[.int .i64 a0] w fun e w' => e = .returned (.bool r) ∧ Drawn0 w w' := by
 have H : (if a0 ≥ 1 then (some (decide (a0 ≤ 2147483647))) else (some false)) = some r := h
 clear h
 by_cases c2 : a0 ≥ 1
 ·rw [if_pos c2] at H
  have c2b0 : decide (1 ≤ a0) = true := decide_eq_true c2
  clear c2
  obtain rfl := Option.some.inj H
  go_enter Tryd.func70, Tryd.ntmps70
  go_wp2
  go_ret
  exact ⟨by first | rfl | (simp; done) | (simp [*]; done), by repeat (first | exact Drawn0.refl _ | apply Drawn0.step)⟩
 ·rw [if_neg c2] at H
  have c2b0 : decide (1 ≤ a0) = false := decide_eq_false c2
  clear c2
  obtain rfl := Option.some.inj H
  go_enter Tryd.func70, Tryd.ntmps70
  go_wp2
  go_ret
  exact ⟨by first | rfl | (simp; done) | (simp [*]; done), by repeat (first | exact Drawn0.refl _ | apply Drawn0.step)⟩

/-! ### modp_Mod: function 71 -/
def modp_Mod.f (a0 : Int) (a1 : Int) : Option (Int) := (modp_may.f a1).bind fun t115 => (if t115 = true then (if a1 = 0 then (none) else (if (Int.tmod a0 a1) < 0 then (some (wrap64 ((Int.tmod a0 a1) + a1))) else (some (Int.tmod a0 a1)))) else (some 0))
set_option maxHeartbeats 8000000 in
set_option maxRecDepth 100000 in
theorem modp_Mod.calls (a0 : Int) (a1 : Int) (r : Int) (w : World) (h : modp_Mod.f a0 a1 = some r) :
 Calls Tryd.prog 71 #[.int .i64 a0, .int .i64 a1] w fun e w' => e = .returned (.int .i64 r) ∧ Drawn0 w w' := by
 have H : ((modp_may.f a1).bind fun t115 => (if t115 = true then (if a1 = 0 then (none) else (if (Int.tmod a0 a1) < 0 then (some (wrap64 ((Int.tmod a0 a1) + a1))) else (some (Int.tmod a0 a1)))) else (some 0))) = some r := h
 clear h
 replace H := Option.bind_eq_some_iff.mp H
 obtain ⟨t115, A30, H⟩ := H
 replace H : (if t115 = true then (if a1 = 0 then (none) else (if (Int.tmod a0 a1) < 0 then (some (wrap64 ((Int.tmod a0 a1) + a1))) else (some (Int.tmod a0 a1)))) else (some 0)) = some r := H
 have A3 := Aside0.mk A30
 clear A30
 by_cases c4 : t115 = true
 ·subst c4
  have H1 : (if a1 = 0 then (none) else (if (Int.tmod a0 a1) < 0 then (some (wrap64 ((Int.tmod a0 a1) + a1))) else (some (Int.tmod a0 a1)))) = some r := by rw [if_pos rfl] at H; exact H
  clear H
  have H := H1
  clear H1
  by_cases c5 : a1 = 0
  ·rw [if_pos c5] at H
   exact absurd H (by simp)
  ·rw [if_neg c5] at H
   have c5b0 : (a1 == 0) = false := beq_eq_false_iff_ne.mpr c5
   have c5b1 : (a1 != 0) = true := bne_iff_ne.mpr c5
   by_cases c6 : (Int.tmod a0 a1) < 0
   ·rw [if_pos c6] at H
    have c6b0 : decide ((Int.tmod a0 a1) < 0) = true := decide_eq_true c6
    clear c6
    obtain rfl := Option.some.inj H
    go_enter Tryd.func71, Tryd.ntmps71
    go_wp2_with (first | ((with_reducible refine gate_callee (f := 70) rfl ?_); refine goesL_ (some 6) rfl rfl Tryd.func70 (by kernel_rfl) rfl #[.int .i64 a1] rfl (by (try simp only [List.map_toArray, List.map_cons, List.map_nil]); first | done | rfl | (simp only [List.length_drop, List.length_take]; rfl)) ?_; (with_reducible refine (modp_may.calls a1 true _ A3.out).mono ?_); rintro e w' ⟨rfl, ⟨nd, rfl⟩⟩; refine ⟨_, rfl, ?_⟩))
    go_ret
    exact ⟨by first | rfl | (simp; done) | (simp [*]; done), by repeat (first | exact Drawn0.refl _ | apply Drawn0.step)⟩
   ·rw [if_neg c6] at H
    have c6b0 : decide ((Int.tmod a0 a1) < 0) = false := decide_eq_false c6
    clear c6
    obtain rfl := Option.some.inj H
    go_enter Tryd.func71, Tryd.ntmps71
    go_wp2_with (first | ((with_reducible refine gate_callee (f := 70) rfl ?_); refine goesL_ (some 6) rfl rfl Tryd.func70 (by kernel_rfl) rfl #[.int .i64 a1] rfl (by (try simp only [List.map_toArray, List.map_cons, List.map_nil]); first | done | rfl | (simp only [List.length_drop, List.length_take]; rfl)) ?_; (with_reducible refine (modp_may.calls a1 true _ A3.out).mono ?_); rintro e w' ⟨rfl, ⟨nd, rfl⟩⟩; refine ⟨_, rfl, ?_⟩))
    go_ret
    exact ⟨by first | rfl | (simp; done) | (simp [*]; done), by repeat (first | exact Drawn0.refl _ | apply Drawn0.step)⟩
 ·replace c4 := Bool.eq_false_iff.mpr c4
  subst c4
  have H1 : (some 0) = some r := by rw [if_neg (show ¬ (false = true) by decide)] at H; exact H
  clear H
  have H := H1
  clear H1
  obtain rfl := Option.some.inj H
  go_enter Tryd.func71, Tryd.ntmps71
  go_wp2_with (first | ((with_reducible refine gate_callee (f := 70) rfl ?_); refine goesL_ (some 6) rfl rfl Tryd.func70 (by kernel_rfl) rfl #[.int .i64 a1] rfl (by (try simp only [List.map_toArray, List.map_cons, List.map_nil]); first | done | rfl | (simp only [List.length_drop, List.length_take]; rfl)) ?_; (with_reducible refine (modp_may.calls a1 false _ A3.out).mono ?_); rintro e w' ⟨rfl, ⟨nd, rfl⟩⟩; refine ⟨_, rfl, ?_⟩))
  go_ret
  exact ⟨by first | rfl | (simp; done) | (simp [*]; done), by repeat (first | exact Drawn0.refl _ | apply Drawn0.step)⟩

/-! ### modp_Pow: function 69 -/
mutual
def modp_Pow.j0 : Nat → Int → Int → Int → Bool → Option (Int)
 | 0, _, _, _, _ => none
 | k + 1, x0, x1, x2, x14 => if x14 = true then (some 0) else ((modp_Mod.f x0 x2).bind fun t117 => ((modp_Mod.f 1 x2).bind fun t118 => (modp_Pow.l0 k t117 x1 x2 t118)))
def modp_Pow.l0 : Nat → Int → Int → Int → Int → Option (Int)
 | 0, _, _, _, _ => none
 | k + 1, x0, x1, x2, x7 => if x1 > 0 then (if (Go.bits .and .i64 x1 1) = 1 then (if x2 = 0 then (none) else (modp_Pow.l0 k (Int.tmod (wrap64 (x0 * x0)) x2) (x1 / 2) x2 (Int.tmod (wrap64 (x7 * x0)) x2))) else (if x2 = 0 then (none) else (modp_Pow.l0 k (Int.tmod (wrap64 (x0 * x0)) x2) (x1 / 2) x2 x7))) else (some x7)
end
def modp_Pow.f (k : Nat) (a0 : Int) (a1 : Int) (a2 : Int) : Option (Int) := (modp_may.f a2).bind fun t116 => (if t116 = true then (modp_Pow.j0 k a0 a1 a2 (decide (a1 < 0))) else (modp_Pow.j0 k a0 a1 a2 true))
theorem modp_Pow.mono_l : ∀ k, (∀ y0 y1 y2 y3, LeO (modp_Pow.j0 k y0 y1 y2 y3) (modp_Pow.j0 (k + 1) y0 y1 y2 y3)) ∧ (∀ y0 y1 y2 y3, LeO (modp_Pow.l0 k y0 y1 y2 y3) (modp_Pow.l0 (k + 1) y0 y1 y2 y3))
 | 0 => ⟨fun _ _ _ _ r h => by simp [modp_Pow.j0] at h, fun _ _ _ _ r h => by simp [modp_Pow.l0] at h⟩
 | k + 1 => by
  obtain ⟨ih0, ih1⟩ := modp_Pow.mono_l k
  refine ⟨?_, ?_⟩
  ·intro y0 y1 y2 y3
   unfold modp_Pow.j0
   repeat' first
   | (with_reducible exact ih0 _ _ _ _)
   | (with_reducible exact ih1 _ _ _ _)
   | (with_reducible exact LeO.refl _)
   | (with_reducible exact LeO.none _)
   | (with_reducible refine LeO.ite ?_ ?_)
   | (with_reducible refine LeO.bind ?_ (fun _ => ?_))
   | exact ih0 _ _ _ _
   | exact ih1 _ _ _ _
   | exact LeO.none _
   | refine LeO.ite ?_ ?_
   | refine LeO.bind ?_ (fun _ => ?_)
  ·intro y0 y1 y2 y3
   unfold modp_Pow.l0
   repeat' first
   | (with_reducible exact ih0 _ _ _ _)
   | (with_reducible exact ih1 _ _ _ _)
   | (with_reducible exact LeO.refl _)
   | (with_reducible exact LeO.none _)
   | (with_reducible refine LeO.ite ?_ ?_)
   | (with_reducible refine LeO.bind ?_ (fun _ => ?_))
   | exact ih0 _ _ _ _
   | exact ih1 _ _ _ _
   | exact LeO.none _
   | refine LeO.ite ?_ ?_
   | refine LeO.bind ?_ (fun _ => ?_)
theorem modp_Pow.mono : ∀ a0 a1 a2 k, LeO (modp_Pow.f k a0 a1 a2) (modp_Pow.f (k + 1) a0 a1 a2) := by
 intro a0 a1 a2 k
 obtain ⟨ih0, ih1⟩ := modp_Pow.mono_l k
 unfold modp_Pow.f
 repeat' first
  | (with_reducible exact ih0 _ _ _ _)
  | (with_reducible exact ih1 _ _ _ _)
  | (with_reducible exact LeO.refl _)
  | (with_reducible exact LeO.none _)
  | (with_reducible refine LeO.ite ?_ ?_)
  | (with_reducible refine LeO.bind ?_ (fun _ => ?_))
  | exact ih0 _ _ _ _
  | exact ih1 _ _ _ _
  | exact LeO.none _
  | refine LeO.ite ?_ ?_
  | refine LeO.bind ?_ (fun _ => ?_)
set_option maxHeartbeats 8000000 in
set_option maxRecDepth 100000 in
theorem modp_Pow.calls (k : Nat) (a0 : Int) (a1 : Int) (a2 : Int) (r : Int) (w : World) (h : modp_Pow.f k a0 a1 a2 = some r) :
 Calls Tryd.prog 69 #[.int .i64 a0, .int .i64 a1, .int .i64 a2] w fun e w' => e = .returned (.int .i64 r) ∧ Drawn0 w w' := by
 have H : ((modp_may.f a2).bind fun t116 => (if t116 = true then (modp_Pow.j0 k a0 a1 a2 (decide (a1 < 0))) else (modp_Pow.j0 k a0 a1 a2 true))) = some r := h
 clear h
 have HC4 := Aside0.mk H
 clear H
 go_enter Tryd.func69, Tryd.ntmps69
 go_upto_region 1 with (fail)
 go_cut [14] (fun v14 wc => ∃ (kq : Nat) (x14_3 : Bool), v14 = .bool x14_3 ∧ Aside0 (modp_Pow.j0 kq a0 a1 a2 x14_3 = some r) ∧ Aside0 (kq ≤ k) ∧ Drawn0 w wc)
 case first =>
  have H := HC4.out
  clear HC4
  replace H := Option.bind_eq_some_iff.mp H
  obtain ⟨t116, A50, H⟩ := H
  replace H : (if t116 = true then (modp_Pow.j0 k a0 a1 a2 (decide (a1 < 0))) else (modp_Pow.j0 k a0 a1 a2 true)) = some r := H
  have A5 := Aside0.mk A50
  clear A50
  by_cases c6 : t116 = true
  ·subst c6
   have H1 : (modp_Pow.j0 k a0 a1 a2 (decide (a1 < 0))) = some r := by rw [if_pos rfl] at H; exact H
   clear H
   have H := H1
   clear H1
   have H' := Aside0.mk H
   clear H
   go_wp2_with (first | ((with_reducible refine gate_callee (f := 70) rfl ?_); refine goesL_ (some 9) rfl rfl Tryd.func70 (by kernel_rfl) rfl #[.int .i64 a2] rfl (by (try simp only [List.map_toArray, List.map_cons, List.map_nil]); first | done | rfl | (simp only [List.length_drop, List.length_take]; rfl)) ?_; (with_reducible refine (modp_may.calls a2 true _ A5.out).mono ?_); rintro e w' ⟨rfl, ⟨nd, rfl⟩⟩; refine ⟨_, rfl, ?_⟩))
   go_meet
   case rel => exact ⟨_, (decide (a1 < 0)), (by first | rfl | (simp; done) | (simp [*]; done)), H', ⟨by first | omega | exact Nat.le_refl _⟩, by repeat (first | exact Drawn0.refl _ | apply Drawn0.step)⟩
  ·replace c6 := Bool.eq_false_iff.mpr c6
   subst c6
   have H1 : (modp_Pow.j0 k a0 a1 a2 true) = some r := by rw [if_neg (show ¬ (false = true) by decide)] at H; exact H
   clear H
   have H := H1
   clear H1
   have H' := Aside0.mk H
   clear H
   go_wp2_with (first | ((with_reducible refine gate_callee (f := 70) rfl ?_); refine goesL_ (some 9) rfl rfl Tryd.func70 (by kernel_rfl) rfl #[.int .i64 a2] rfl (by (try simp only [List.map_toArray, List.map_cons, List.map_nil]); first | done | rfl | (simp only [List.length_drop, List.length_take]; rfl)) ?_; (with_reducible refine (modp_may.calls a2 false _ A5.out).mono ?_); rintro e w' ⟨rfl, ⟨nd, rfl⟩⟩; refine ⟨_, rfl, ?_⟩))
   go_meet
   case rel => exact ⟨_, (true), (by first | rfl | (simp; done) | (simp [*]; done)), H', ⟨by first | omega | exact Nat.le_refl _⟩, by repeat (first | exact Drawn0.refl _ | apply Drawn0.step)⟩
 case rest =>
  clear HC4
  try clear p2
  try clear c6
  obtain ⟨kq, x14_3, rfl, HA, HJ3, ⟨mc3, rfl⟩⟩ := hcut
  cases kq with
  | zero => exact absurd HA.out (by simp [modp_Pow.j0])
  | succ kj3 =>
   have H := HA.out
   clear HA
   simp only [modp_Pow.j0] at H
   by_cases c7 : x14_3 = true
   ·subst c7
    have H1 : (some 0) = some r := by rw [if_pos rfl] at H; exact H
    clear H
    have H := H1
    clear H1
    obtain rfl := Option.some.inj H
    go_wp2
    go_ret
    exact ⟨by first | rfl | (simp; done) | (simp [*]; done), by repeat (first | exact Drawn0.refl _ | apply Drawn0.step)⟩
   ·replace c7 := Bool.eq_false_iff.mpr c7
    subst c7
    have H1 : ((modp_Mod.f a0 a2).bind fun t117 => ((modp_Mod.f 1 a2).bind fun t118 => (modp_Pow.l0 kj3 t117 a1 a2 t118))) = some r := by rw [if_neg (show ¬ (false = true) by decide)] at H; exact H
    clear H
    have H := H1
    clear H1
    replace H := Option.bind_eq_some_iff.mp H
    obtain ⟨t117, A80, H⟩ := H
    replace H : ((modp_Mod.f 1 a2).bind fun t118 => (modp_Pow.l0 kj3 t117 a1 a2 t118)) = some r := H
    have A8 := Aside0.mk A80
    clear A80
    replace H := Option.bind_eq_some_iff.mp H
    obtain ⟨t118, A90, H⟩ := H
    replace H : (modp_Pow.l0 kj3 t117 a1 a2 t118) = some r := H
    have A9 := Aside0.mk A90
    clear A90
    have H' := Aside0.mk H
    clear H
    go_wp2_with (first | ((with_reducible refine gate_callee (f := 71) rfl ?_); refine goesL_ (some 17) rfl rfl Tryd.func71 (by kernel_rfl) rfl #[.int .i64 a0, .int .i64 a2] rfl (by (try simp only [List.map_toArray, List.map_cons, List.map_nil]); first | done | rfl | (simp only [List.length_drop, List.length_take]; rfl)) ?_; (with_reducible refine (modp_Mod.calls a0 a2 t117 _ A8.out).mono ?_); rintro e w' ⟨rfl, ⟨nd, rfl⟩⟩; refine ⟨_, rfl, ?_⟩) | ((with_reducible refine gate_callee (f := 71) rfl ?_); refine goesL_ (some 19) rfl rfl Tryd.func71 (by kernel_rfl) rfl #[.int .i64 1, .int .i64 a2] rfl (by (try simp only [List.map_toArray, List.map_cons, List.map_nil]); first | done | rfl | (simp only [List.length_drop, List.length_take]; rfl)) ?_; (with_reducible refine (modp_Mod.calls 1 a2 t118 _ A9.out).mono ?_); rintro e w' ⟨rfl, ⟨nd, rfl⟩⟩; refine ⟨_, rfl, ?_⟩))
    go_loopg [0, 1, 7] kj3 (fun kq v0 v1 v7 w' => ∃ (x0_2 : Int) (x1_2 : Int) (x7_2 : Int), v0 = .int .i64 x0_2 ∧ v1 = .int .i64 x1_2 ∧ v7 = .int .i64 x7_2 ∧ Aside0 (modp_Pow.l0 kq x0_2 x1_2 a2 x7_2 = some r) ∧ Aside0 (kq ≤ kj3) ∧ Drawn0 w w')
    case atStart => exact ⟨(t117), (a1), (t118), (by first | rfl | (simp; done) | (simp [*]; done)), (by first | rfl | (simp; done) | (simp [*]; done)), (by first | rfl | (simp; done) | (simp [*]; done)), H', ⟨Nat.le_refl _⟩, by repeat (first | exact Drawn0.refl _ | apply Drawn0.step)⟩
    case round =>
     clear H'
     try clear p2
     try clear c3
     try clear c6
     try clear c7
     try clear p2
     obtain ⟨x0_2, x1_2, x7_2, rfl, rfl, rfl, HA, HK2, ⟨m2, rfl⟩⟩ := hrel
     cases gk with
     | zero => exact absurd HA.out (by simp [modp_Pow.l0])
     | succ k2 =>
      have H := HA.out
      clear HA
      simp only [modp_Pow.l0] at H
      by_cases c10 : x1_2 > 0
      ·rw [if_pos c10] at H
       have c10b0 : decide (0 < x1_2) = true := decide_eq_true c10
       clear c10
       by_cases c11 : (Go.bits .and .i64 x1_2 1) = 1
       ·rw [if_pos c11] at H
        have c11b0 : ((Go.bits .and .i64 x1_2 1) == 1) = true := beq_iff_eq.mpr c11
        have c11b1 : ((Go.bits .and .i64 x1_2 1) != 1) = false := bne_eq_false_iff_eq.mpr c11
        clear c11
        by_cases c12 : a2 = 0
        ·rw [if_pos c12] at H
         exact absurd H (by simp)
        ·rw [if_neg c12] at H
         have c12b0 : (a2 == 0) = false := beq_eq_false_iff_ne.mpr c12
         have c12b1 : (a2 != 0) = true := bne_iff_ne.mpr c12
         have H' := Aside0.mk H
         clear H
         go_wp2
         go_roundg k2
         case measure => have := HJ3.out; have := HK2.out; omega
         case rel => exact ⟨(Int.tmod (wrap64 (x0_2 * x0_2)) a2), (x1_2 / 2), (Int.tmod (wrap64 (x7_2 * x0_2)) a2), (by first | rfl | (simp; done) | (simp [*]; done)), (by first | rfl | (simp; done) | (simp [*]; done)), (by first | rfl | (simp; done) | (simp [*]; done)), H', ⟨by have := HJ3.out; have := HK2.out; omega⟩, by repeat (first | exact Drawn0.refl _ | apply Drawn0.step)⟩
       ·rw [if_neg c11] at H
        have c11b0 : ((Go.bits .and .i64 x1_2 1) == 1) = false := beq_eq_false_iff_ne.mpr c11
        have c11b1 : ((Go.bits .and .i64 x1_2 1) != 1) = true := bne_iff_ne.mpr c11
        by_cases c13 : a2 = 0
        ·rw [if_pos c13] at H
         exact absurd H (by simp)
        ·rw [if_neg c13] at H
         have c13b0 : (a2 == 0) = false := beq_eq_false_iff_ne.mpr c13
         have c13b1 : (a2 != 0) = true := bne_iff_ne.mpr c13
         have H' := Aside0.mk H
         clear H
         go_wp2
         go_roundg k2
         case measure => have := HJ3.out; have := HK2.out; omega
         case rel => exact ⟨(Int.tmod (wrap64 (x0_2 * x0_2)) a2), (x1_2 / 2), (x7_2), (by first | rfl | (simp; done) | (simp [*]; done)), (by first | rfl | (simp; done) | (simp [*]; done)), (by first | rfl | (simp; done) | (simp [*]; done)), H', ⟨by have := HJ3.out; have := HK2.out; omega⟩, by repeat (first | exact Drawn0.refl _ | apply Drawn0.step)⟩
      ·rw [if_neg c10] at H
       have c10b0 : decide (0 < x1_2) = false := decide_eq_false c10
       clear c10
       obtain rfl := Option.some.inj H
       go_wp2
       go_ret
       exact ⟨by first | rfl | (simp; done) | (simp [*]; done), by repeat (first | exact Drawn0.refl _ | apply Drawn0.step)⟩
end Go.Proofs.YtgbmlkmkfigolaaDoor.P
namespace Go.Proofs.YtgbmlkmkfigolaaDoor.P
open Go.RowKit Go.Proofs.YtgbmlkmkfigolaaDoorW.PrintWords Go.Proofs.YtgbmlkmkfigolaaDoorW.PrintLast Go.Proofs.YtgbmlkmkfigolaaDoorW.PrintMore
attribute [local go_sem] max2_int min2_int max_two min_two max_three min_three max_four min_four   -- for this text's walks alone
set_option linter.unusedVariables false
set_option linter.unusedSimpArgs false

/-! ### modp_witness: function 68 -/
mutual
def modp_witness.j0 : Nat → Int → Int → Int → Bool → Option (Bool)
 | 0, _, _, _, _ => none
 | k + 1, x2, x3, x9, x25 => if x25 = true then (some false) else (modp_witness.l0 k x3 x9 (wrap64 (x2 - 1)) 0)
def modp_witness.l0 : Nat → Int → Int → Int → Int → Option (Bool)
 | 0, _, _, _, _ => none
 | k + 1, x3, x9, x27, x28 => if x28 < x27 then (if x3 = 0 then (none) else (if (Int.tmod (wrap64 (x9 * x9)) x3) = (wrap64 (x3 - 1)) then (some false) else (modp_witness.l0 k x3 (Int.tmod (wrap64 (x9 * x9)) x3) x27 (wrap64 (x28 + 1))))) else (some true)
end
def modp_witness.f (k : Nat) (a0 : Int) (a1 : Int) (a2 : Int) (a3 : Int) : Option (Bool) := (modp_Pow.f k a0 a1 a3).bind fun t119 => (if t119 = 1 then (modp_witness.j0 k a2 a3 t119 true) else (if t119 = (wrap64 (a3 - 1)) then (modp_witness.j0 k a2 a3 t119 true) else (modp_witness.j0 k a2 a3 t119 (t119 == 0))))
theorem modp_witness.mono_l : ∀ k, (∀ y0 y1 y2 y3, LeO (modp_witness.j0 k y0 y1 y2 y3) (modp_witness.j0 (k + 1) y0 y1 y2 y3)) ∧ (∀ y0 y1 y2 y3, LeO (modp_witness.l0 k y0 y1 y2 y3) (modp_witness.l0 (k + 1) y0 y1 y2 y3))
 | 0 => ⟨fun _ _ _ _ r h => by simp [modp_witness.j0] at h, fun _ _ _ _ r h => by simp [modp_witness.l0] at h⟩
 | k + 1 => by
  obtain ⟨ih0, ih1⟩ := modp_witness.mono_l k
  refine ⟨?_, ?_⟩
  ·intro y0 y1 y2 y3
   unfold modp_witness.j0
   repeat' first
   | (with_reducible exact ih0 _ _ _ _)
   | (with_reducible exact ih1 _ _ _ _)
   | (with_reducible exact modp_Pow.mono _ _ _ _)
   | (with_reducible exact LeO.refl _)
   | (with_reducible exact LeO.none _)
   | (with_reducible refine LeO.ite ?_ ?_)
   | (with_reducible refine LeO.bind ?_ (fun _ => ?_))
   | exact ih0 _ _ _ _
   | exact ih1 _ _ _ _
   | exact modp_Pow.mono _ _ _ _
   | exact LeO.none _
   | refine LeO.ite ?_ ?_
   | refine LeO.bind ?_ (fun _ => ?_)
  ·intro y0 y1 y2 y3
   unfold modp_witness.l0
   repeat' first
   | (with_reducible exact ih0 _ _ _ _)
   | (with_reducible exact ih1 _ _ _ _)
   | (with_reducible exact modp_Pow.mono _ _ _ _)
   | (with_reducible exact LeO.refl _)
   | (with_reducible exact LeO.none _)
   | (with_reducible refine LeO.ite ?_ ?_)
   | (with_reducible refine LeO.bind ?_ (fun _ => ?_))
   | exact ih0 _ _ _ _
   | exact ih1 _ _ _ _
   | exact modp_Pow.mono _ _ _ _
   | exact LeO.none _
   | refine LeO.ite ?_ ?_
   | refine LeO.bind ?_ (fun _ => ?_)
theorem modp_witness.mono : ∀ a0 a1 a2 a3 k, LeO (modp_witness.f k a0 a1 a2 a3) (modp_witness.f (k + 1) a0 a1 a2 a3) := by
 intro a0 a1 a2 a3 k
 obtain ⟨ih0, ih1⟩ := modp_witness.mono_l k
 unfold modp_witness.f
 repeat' first
  | (with_reducible exact ih0 _ _ _ _)
  | (with_reducible exact ih1 _ _ _ _)
  | (with_reducible exact modp_Pow.mono _ _ _ _)
  | (with_reducible exact LeO.refl _)
  | (with_reducible exact LeO.none _)
  | (with_reducible refine LeO.ite ?_ ?_)
  | (with_reducible refine LeO.bind ?_ (fun _ => ?_))
  | exact ih0 _ _ _ _
  | exact ih1 _ _ _ _
  | exact modp_Pow.mono _ _ _ _
  | exact LeO.none _
  | refine LeO.ite ?_ ?_
  | refine LeO.bind ?_ (fun _ => ?_)
set_option maxHeartbeats 8000000 in
set_option maxRecDepth 100000 in
theorem modp_witness.calls (k : Nat) (a0 : Int) (a1 : Int) (a2 : Int) (a3 : Int) (r : Bool) (w : World) (h : modp_witness.f k a0 a1 a2 a3 = some r) :
 Calls Tryd.prog 68 #[.int .i64 a0, .int .i64 a1, .int .i64 a2, .int .i64 a3] w fun e w' => e = .returned (.bool r) ∧ Drawn0 w w' := by
 have H : ((modp_Pow.f k a0 a1 a3).bind fun t119 => (if t119 = 1 then (modp_witness.j0 k a2 a3 t119 true) else (if t119 = (wrap64 (a3 - 1)) then (modp_witness.j0 k a2 a3 t119 true) else (modp_witness.j0 k a2 a3 t119 (t119 == 0))))) = some r := h
 clear h
 replace H := Option.bind_eq_some_iff.mp H
 obtain ⟨t119, A50, H⟩ := H
 replace H : (if t119 = 1 then (modp_witness.j0 k a2 a3 t119 true) else (if t119 = (wrap64 (a3 - 1)) then (modp_witness.j0 k a2 a3 t119 true) else (modp_witness.j0 k a2 a3 t119 (t119 == 0)))) = some r := H
 have A5 := Aside0.mk A50
 clear A50
 have HC6 := Aside0.mk H
 clear H
 go_enter Tryd.func68, Tryd.ntmps68
 go_upto_region 2 with (first | ((with_reducible refine gate_callee (f := 69) rfl ?_); refine goesL_ (some 13) rfl rfl Tryd.func69 (by kernel_rfl) rfl #[.int .i64 a0, .int .i64 a1, .int .i64 a3] rfl (by (try simp only [List.map_toArray, List.map_cons, List.map_nil]); first | done | rfl | (simp only [List.length_drop, List.length_take]; rfl)) ?_; (with_reducible refine (modp_Pow.calls k a0 a1 a3 t119 _ A5.out).mono ?_); rintro e w' ⟨rfl, ⟨nd, rfl⟩⟩; refine ⟨_, rfl, ?_⟩))
 (try simp only [Act.put, List.setIfInBounds_toArray, List.set_cons_zero, List.set_cons_succ])
 go_cut [25] (fun v25 wc => ∃ (kq : Nat) (x25_5 : Bool), v25 = .bool x25_5 ∧ Aside0 (modp_witness.j0 kq a2 a3 t119 x25_5 = some r) ∧ Aside0 (kq ≤ k) ∧ Drawn0 w wc)
 case first =>
  have H := HC6.out
  clear HC6
  by_cases c7 : t119 = 1
  ·rw [if_pos c7] at H
   have c7b0 : (t119 == 1) = true := beq_iff_eq.mpr c7
   have c7b1 : (t119 != 1) = false := bne_eq_false_iff_eq.mpr c7
   clear c7
   (first | rw [c7b0] | (simp only [i64_w, i32_w]; rw [c7b0]) | skip)
   have H' := Aside0.mk H
   clear H
   go_wp2
   go_meet
   case rel => exact ⟨_, (true), (by first | rfl | (simp; done) | (simp [*]; done)), H', ⟨by first | omega | exact Nat.le_refl _⟩, by repeat (first | exact Drawn0.refl _ | apply Drawn0.step)⟩
  ·rw [if_neg c7] at H
   have c7b0 : (t119 == 1) = false := beq_eq_false_iff_ne.mpr c7
   have c7b1 : (t119 != 1) = true := bne_iff_ne.mpr c7
   (first | rw [c7b0] | (simp only [i64_w, i32_w]; rw [c7b0]) | skip)
   by_cases c8 : t119 = (wrap64 (a3 - 1))
   ·rw [if_pos c8] at H
    have c8b0 : (t119 == (wrap64 (a3 - 1))) = true := beq_iff_eq.mpr c8
    have c8b1 : (t119 != (wrap64 (a3 - 1))) = false := bne_eq_false_iff_eq.mpr c8
    clear c8
    have H' := Aside0.mk H
    clear H
    go_wp2
    go_meet
    case rel => exact ⟨_, (true), (by first | rfl | (simp; done) | (simp [*]; done)), H', ⟨by first | omega | exact Nat.le_refl _⟩, by repeat (first | exact Drawn0.refl _ | apply Drawn0.step)⟩
   ·rw [if_neg c8] at H
    have c8b0 : (t119 == (wrap64 (a3 - 1))) = false := beq_eq_false_iff_ne.mpr c8
    have c8b1 : (t119 != (wrap64 (a3 - 1))) = true := bne_iff_ne.mpr c8
    have H' := Aside0.mk H
    clear H
    go_wp2
    go_meet
    case rel => exact ⟨_, ((t119 == 0)), (by first | rfl | (simp; done) | (simp [*]; done)), H', ⟨by first | omega | exact Nat.le_refl _⟩, by repeat (first | exact Drawn0.refl _ | apply Drawn0.step)⟩
 case rest =>
  clear HC6
  try clear p2
  try clear c6
  try clear p6
  try clear c7
  try clear c7b0
  try clear c7b1
  try clear c8
  try clear c8b0
  try clear c8b1
  obtain ⟨kq, x25_5, rfl, HA, HJ5, ⟨mc5, rfl⟩⟩ := hcut
  cases kq with
  | zero => exact absurd HA.out (by simp [modp_witness.j0])
  | succ kj5 =>
   have H := HA.out
   clear HA
   simp only [modp_witness.j0] at H
   by_cases c9 : x25_5 = true
   ·subst c9
    have H1 : (some false) = some r := by rw [if_pos rfl] at H; exact H
    clear H
    have H := H1
    clear H1
    obtain rfl := Option.some.inj H
    go_wp2
    go_ret
    exact ⟨by first | rfl | (simp; done) | (simp [*]; done), by repeat (first | exact Drawn0.refl _ | apply Drawn0.step)⟩
   ·replace c9 := Bool.eq_false_iff.mpr c9
    subst c9
    have H1 : (modp_witness.l0 kj5 a3 t119 (wrap64 (a2 - 1)) 0) = some r := by rw [if_neg (show ¬ (false = true) by decide)] at H; exact H
    clear H
    have H := H1
    clear H1
    have H' := Aside0.mk H
    clear H
    go_wp2
    go_loopg [9, 28] kj5 (fun kq v9 v28 w' => ∃ (x9_2 : Int) (x28_2 : Int), v9 = .int .i64 x9_2 ∧ v28 = .int .i64 x28_2 ∧ Aside0 (modp_witness.l0 kq a3 x9_2 (wrap64 (a2 - 1)) x28_2 = some r) ∧ Aside0 (kq ≤ kj5) ∧ Drawn0 w w')
    case atStart => exact ⟨(t119), (0), (by first | rfl | (simp; done) | (simp [*]; done)), (by first | rfl | (simp; done) | (simp [*]; done)), H', ⟨Nat.le_refl _⟩, by repeat (first | exact Drawn0.refl _ | apply Drawn0.step)⟩
    case round =>
     clear H'
     try clear p2
     try clear c5
     try clear c6
     try clear p6
     try clear c7
     try clear c7b0
     try clear c7b1
     try clear c8
     try clear c8b0
     try clear c8b1
     try clear c9
     try clear p2
     try clear p6
     obtain ⟨x9_2, x28_2, rfl, rfl, HA, HK2, ⟨m2, rfl⟩⟩ := hrel
     cases gk with
     | zero => exact absurd HA.out (by simp [modp_witness.l0])
     | succ k2 =>
      have H := HA.out
      clear HA
      simp only [modp_witness.l0] at H
      by_cases c10 : x28_2 < (wrap64 (a2 - 1))
      ·rw [if_pos c10] at H
       have c10b0 : decide (x28_2 < (wrap64 (a2 - 1))) = true := decide_eq_true c10
       clear c10
       by_cases c11 : a3 = 0
       ·rw [if_pos c11] at H
        exact absurd H (by simp)
       ·rw [if_neg c11] at H
        have c11b0 : (a3 == 0) = false := beq_eq_false_iff_ne.mpr c11
        have c11b1 : (a3 != 0) = true := bne_iff_ne.mpr c11
        by_cases c12 : (Int.tmod (wrap64 (x9_2 * x9_2)) a3) = (wrap64 (a3 - 1))
        ·rw [if_pos c12] at H
         have c12b0 : ((Int.tmod (wrap64 (x9_2 * x9_2)) a3) == (wrap64 (a3 - 1))) = true := beq_iff_eq.mpr c12
         have c12b1 : ((Int.tmod (wrap64 (x9_2 * x9_2)) a3) != (wrap64 (a3 - 1))) = false := bne_eq_false_iff_eq.mpr c12
         clear c12
         obtain rfl := Option.some.inj H
         go_wp2
         go_ret
         exact ⟨by first | rfl | (simp; done) | (simp [*]; done), by repeat (first | exact Drawn0.refl _ | apply Drawn0.step)⟩
        ·rw [if_neg c12] at H
         have c12b0 : ((Int.tmod (wrap64 (x9_2 * x9_2)) a3) == (wrap64 (a3 - 1))) = false := beq_eq_false_iff_ne.mpr c12
         have c12b1 : ((Int.tmod (wrap64 (x9_2 * x9_2)) a3) != (wrap64 (a3 - 1))) = true := bne_iff_ne.mpr c12
         have H' := Aside0.mk H
         clear H
         go_wp2
         go_roundg k2
         case measure => have := HJ5.out; have := HK2.out; omega
         case rel => exact ⟨(Int.tmod (wrap64 (x9_2 * x9_2)) a3), (wrap64 (x28_2 + 1)), (by first | rfl | (simp; done) | (simp [*]; done)), (by first | rfl | (simp; done) | (simp [*]; done)), H', ⟨by have := HJ5.out; have := HK2.out; omega⟩, by repeat (first | exact Drawn0.refl _ | apply Drawn0.step)⟩
      ·rw [if_neg c10] at H
       have c10b0 : decide (x28_2 < (wrap64 (a2 - 1))) = false := decide_eq_false c10
       clear c10
       obtain rfl := Option.some.inj H
       go_wp2
       go_ret
       exact ⟨by first | rfl | (simp; done) | (simp [*]; done), by repeat (first | exact Drawn0.refl _ | apply Drawn0.step)⟩

/-! ### modp_Prime: function 63 -/
def modp_Prime.at4 (k : Nat) (a0 d tw : Int) : List Int → Option Bool
 | [] => some true
 | q :: r => if a0 = q then some true else if (Int.tmod a0 q) = 0 then some false else (modp_witness.f k q d tw a0).bind fun t => if t = true then some false else modp_Prime.at4 k a0 d tw r
def modp_Prime.l0 : Nat → Int → Int → Int → Option Bool
 | 0, _, _, _ => none
 | k + 1, a0, d, tw => if (Int.tmod d 2) = 0 then modp_Prime.l0 k a0 (wrap64 (Int.tdiv d 2)) (wrap64 (tw + 1)) else modp_Prime.at4 k a0 d tw [2, 3, 5, 7]
def modp_Prime.f (k : Nat) (a0 : Int) : Option Bool :=
 if a0 < 2 then some (a0 == 2) else if a0 > 2147483647 then some (a0 == 2) else if (Int.tmod a0 2) = 0 then some (a0 == 2) else modp_Prime.l0 k a0 (wrap64 (a0 - 1)) 0
theorem modp_Prime.at4.mono (k : Nat) (a0 d tw : Int) : ∀ l, LeO (modp_Prime.at4 k a0 d tw l) (modp_Prime.at4 (k + 1) a0 d tw l) := by
 intro l
 induction l with
 | nil => exact LeO.refl _
 | cons q l ih =>
  unfold modp_Prime.at4
  exact LeO.ite (LeO.refl _) (LeO.ite (LeO.refl _) (LeO.bind (modp_witness.mono _ _ _ _ _) (fun _ => LeO.ite (LeO.refl _) ih)))
theorem modp_Prime.at4.mono_to (k : Nat) : ∀ k' : Nat, k ≤ k' → ∀ (a0 d tw : Int) l r, modp_Prime.at4 k a0 d tw l = some r → modp_Prime.at4 k' a0 d tw l = some r := by
 intro k' h
 induction h with
 | refl => intro a0 d tw l r h; exact h
 | step _ ih => intro a0 d tw l r h; exact modp_Prime.at4.mono _ a0 d tw l _ (ih a0 d tw l r h)
set_option maxHeartbeats 8000000 in
set_option maxRecDepth 100000 in
theorem modp_Prime.calls (k : Nat) (a0 : Int) (r : Bool) (w : World) (h : modp_Prime.f k a0 = some r) :
 Calls Tryd.prog 63 #[.int .i64 a0] w fun e w' => e = .returned (.bool r) ∧ Drawn0 w w' := by
 have H := h
 clear h
 unfold modp_Prime.f at H
 by_cases c1 : a0 < 2
 ·rw [if_pos c1] at H
  have c1b : decide (a0 < 2) = true := decide_eq_true c1
  clear c1
  obtain rfl := Option.some.inj H
  go_enter Tryd.func63, Tryd.ntmps63
  go_wp2
  go_ret
  exact ⟨by first | rfl | (simp; done) | (simp [*]; done), by repeat (first | exact Drawn0.refl _ | apply Drawn0.step)⟩
 rw [if_neg c1] at H
 have c1b : decide (a0 < 2) = false := decide_eq_false c1
 clear c1
 by_cases c2 : a0 > 2147483647
 ·rw [if_pos c2] at H
  have c2b : decide (2147483647 < a0) = true := decide_eq_true c2
  clear c2
  obtain rfl := Option.some.inj H
  go_enter Tryd.func63, Tryd.ntmps63
  go_wp2
  go_ret
  exact ⟨by first | rfl | (simp; done) | (simp [*]; done), by repeat (first | exact Drawn0.refl _ | apply Drawn0.step)⟩
 rw [if_neg c2] at H
 have c2b : decide (2147483647 < a0) = false := decide_eq_false c2
 clear c2
 by_cases c3 : (Int.tmod a0 2) = 0
 ·rw [if_pos c3] at H
  have c3b : ((Int.tmod a0 2) == 0) = true := beq_iff_eq.mpr c3
  clear c3
  obtain rfl := Option.some.inj H
  go_enter Tryd.func63, Tryd.ntmps63
  go_wp2
  go_ret
  exact ⟨by first | rfl | (simp; done) | (simp [*]; done), by repeat (first | exact Drawn0.refl _ | apply Drawn0.step)⟩
 rw [if_neg c3] at H
 have c3b : ((Int.tmod a0 2) == 0) = false := beq_eq_false_iff_ne.mpr c3
 clear c3
 have H' := Aside0.mk H
 clear H
 have ix0 : ∀ w, (Instr.index 94 (.agg #[.int .i64 2, .int .i64 3, .int .i64 5, .int .i64 7]) (.int .i64 0)).run Tryd.prog w = .ok (.int .i64 2) w := fun _ => by kernel_rfl
 have ix1 : ∀ w, (Instr.index 94 (.agg #[.int .i64 2, .int .i64 3, .int .i64 5, .int .i64 7]) (.int .i64 1)).run Tryd.prog w = .ok (.int .i64 3) w := fun _ => by kernel_rfl
 have ix2 : ∀ w, (Instr.index 94 (.agg #[.int .i64 2, .int .i64 3, .int .i64 5, .int .i64 7]) (.int .i64 2)).run Tryd.prog w = .ok (.int .i64 5) w := fun _ => by kernel_rfl
 have ix3 : ∀ w, (Instr.index 94 (.agg #[.int .i64 2, .int .i64 3, .int .i64 5, .int .i64 7]) (.int .i64 3)).run Tryd.prog w = .ok (.int .i64 7) w := fun _ => by kernel_rfl
 go_enter Tryd.func63, Tryd.ntmps63
 go_wp2
 go_loopg [3, 4] k (fun kq v3 v4 w' => ∃ (d tw : Int), v3 = .int .i64 d ∧ v4 = .int .i64 tw ∧ Aside0 (modp_Prime.l0 kq a0 d tw = some r) ∧ Aside0 (kq ≤ k) ∧ Drawn0 w w')
 case atStart => exact ⟨_, _, (by first | rfl | (simp; done) | (simp [*]; done)), (by first | rfl | (simp; done) | (simp [*]; done)), H', ⟨Nat.le_refl _⟩, by repeat (first | exact Drawn0.refl _ | apply Drawn0.step)⟩
 case round =>
  clear H'
  obtain ⟨d, tw, rfl, rfl, HA, HK, ⟨m, rfl⟩⟩ := hrel
  cases gk with
  | zero => exact absurd HA.out (by simp [modp_Prime.l0])
  | succ k2 =>
   have H := HA.out
   clear HA
   simp only [modp_Prime.l0] at H
   by_cases c4 : (Int.tmod d 2) = 0
   ·rw [if_pos c4] at H
    have c4b : ((Int.tmod d 2) == 0) = true := beq_iff_eq.mpr c4
    clear c4
    have H' := Aside0.mk H
    clear H
    go_wp2
    go_roundg k2
    case measure => have := HK.out; omega
    case rel => exact ⟨_, _, (by first | rfl | (simp; done) | (simp [*]; done)), (by first | rfl | (simp; done) | (simp [*]; done)), H', ⟨by have := HK.out; omega⟩, by repeat (first | exact Drawn0.refl _ | apply Drawn0.step)⟩
   ·rw [if_neg c4] at H
    have c4b : ((Int.tmod d 2) == 0) = false := beq_eq_false_iff_ne.mpr c4
    clear c4
    have H' := Aside0.mk H
    clear H
    go_wp2
    clear c4b
    have Hz : Aside0 (modp_Prime.at4 k a0 d tw (([2, 3, 5, 7] : List Int).drop 0) = some r) := ⟨(modp_Prime.at4.mono_to k2 k (by have := HK.out; omega) _ _ _ _ _ H'.out)⟩
    clear H' HK
    go_loopg [30] 4 (fun kq v30 w' => ∃ (j : Nat), kq + j = 4 ∧ j ≤ 4 ∧ v30 = .int .i64 (j : Int) ∧ Aside0 (modp_Prime.at4 k a0 d tw (([2, 3, 5, 7] : List Int).drop j) = some r) ∧ Drawn0 w w')
    case atStart => exact ⟨0, by omega, by omega, (by first | rfl | (simp; done) | (simp [*]; done)), Hz, by repeat (first | exact Drawn0.refl _ | apply Drawn0.step)⟩
    case round =>
     clear Hz
     obtain ⟨j, hkj, hj, rfl, HA, ⟨m2, rfl⟩⟩ := hrel
     obtain rfl | rfl | rfl | rfl | rfl : j = 0 ∨ j = 1 ∨ j = 2 ∨ j = 3 ∨ j = 4 := by omega
     ·have H : modp_Prime.at4 k a0 d tw [2, 3, 5, 7] = some r := HA.out
      clear HA
      rw [modp_Prime.at4] at H
      by_cases e1 : a0 = 2
      ·rw [if_pos e1] at H
       have e1b : (a0 == 2) = true := beq_iff_eq.mpr e1
       clear e1
       obtain rfl := Option.some.inj H
       go_wp2
       go_ret
       exact ⟨by first | rfl | (simp; done) | (simp [*]; done), by repeat (first | exact Drawn0.refl _ | apply Drawn0.step)⟩
      rw [if_neg e1] at H
      have e1b : (a0 == 2) = false := beq_eq_false_iff_ne.mpr e1
      clear e1
      rw [if_neg (show ¬ Int.tmod a0 2 = 0 by simpa using c3b)] at H
      replace H := Option.bind_eq_some_iff.mp H
      obtain ⟨t, A50, H⟩ := H
      have A5 := Aside0.mk A50
      clear A50
      by_cases e3 : t = true
      ·subst e3
       have H1 : some false = some r := by rw [if_pos rfl] at H; exact H
       clear H
       obtain rfl := Option.some.inj H1
       go_wp2_with (go_at_call 68; refine (modp_witness.calls k 2 d tw a0 true _ A5.out).mono ?_; rintro e w' ⟨rfl, ⟨nd, rfl⟩⟩)
       go_ret
       exact ⟨by first | rfl | (simp; done) | (simp [*]; done), by repeat (first | exact Drawn0.refl _ | apply Drawn0.step)⟩
      replace e3 := Bool.eq_false_iff.mpr e3
      subst e3
      have H1 : modp_Prime.at4 k a0 d tw (([2, 3, 5, 7] : List Int).drop 1) = some r := by rw [if_neg (show ¬ (false = true) by decide)] at H; exact H
      clear H
      have H' := Aside0.mk H1
      clear H1
      go_wp2_with (go_at_call 68; refine (modp_witness.calls k 2 d tw a0 false _ A5.out).mono ?_; rintro e w' ⟨rfl, ⟨nd, rfl⟩⟩)
      go_roundg 3
      case measure => omega
      case rel => exact ⟨1, by omega, by omega, (by first | rfl | (simp; done) | (simp [*]; done)), H', by repeat (first | exact Drawn0.refl _ | apply Drawn0.step)⟩
     ·have H : modp_Prime.at4 k a0 d tw [3, 5, 7] = some r := HA.out
      clear HA
      rw [modp_Prime.at4] at H
      by_cases e1 : a0 = 3
      ·rw [if_pos e1] at H
       have e1b : (a0 == 3) = true := beq_iff_eq.mpr e1
       clear e1
       obtain rfl := Option.some.inj H
       go_wp2
       go_ret
       exact ⟨by first | rfl | (simp; done) | (simp [*]; done), by repeat (first | exact Drawn0.refl _ | apply Drawn0.step)⟩
      rw [if_neg e1] at H
      have e1b : (a0 == 3) = false := beq_eq_false_iff_ne.mpr e1
      clear e1
      by_cases e2 : Int.tmod a0 3 = 0
      ·rw [if_pos e2] at H
       have e2b : (Int.tmod a0 3 == 0) = true := beq_iff_eq.mpr e2
       clear e2
       obtain rfl := Option.some.inj H
       go_wp2
       go_ret
       exact ⟨by first | rfl | (simp; done) | (simp [*]; done), by repeat (first | exact Drawn0.refl _ | apply Drawn0.step)⟩
      rw [if_neg e2] at H
      have e2b : (Int.tmod a0 3 == 0) = false := beq_eq_false_iff_ne.mpr e2
      clear e2
      replace H := Option.bind_eq_some_iff.mp H
      obtain ⟨t, A50, H⟩ := H
      have A5 := Aside0.mk A50
      clear A50
      by_cases e3 : t = true
      ·subst e3
       have H1 : some false = some r := by rw [if_pos rfl] at H; exact H
       clear H
       obtain rfl := Option.some.inj H1
       go_wp2_with (go_at_call 68; refine (modp_witness.calls k 3 d tw a0 true _ A5.out).mono ?_; rintro e w' ⟨rfl, ⟨nd, rfl⟩⟩)
       go_ret
       exact ⟨by first | rfl | (simp; done) | (simp [*]; done), by repeat (first | exact Drawn0.refl _ | apply Drawn0.step)⟩
      replace e3 := Bool.eq_false_iff.mpr e3
      subst e3
      have H1 : modp_Prime.at4 k a0 d tw (([2, 3, 5, 7] : List Int).drop 2) = some r := by rw [if_neg (show ¬ (false = true) by decide)] at H; exact H
      clear H
      have H' := Aside0.mk H1
      clear H1
      go_wp2_with (go_at_call 68; refine (modp_witness.calls k 3 d tw a0 false _ A5.out).mono ?_; rintro e w' ⟨rfl, ⟨nd, rfl⟩⟩)
      go_roundg 2
      case measure => omega
      case rel => exact ⟨2, by omega, by omega, (by first | rfl | (simp; done) | (simp [*]; done)), H', by repeat (first | exact Drawn0.refl _ | apply Drawn0.step)⟩
     ·have H : modp_Prime.at4 k a0 d tw [5, 7] = some r := HA.out
      clear HA
      rw [modp_Prime.at4] at H
      by_cases e1 : a0 = 5
      ·rw [if_pos e1] at H
       have e1b : (a0 == 5) = true := beq_iff_eq.mpr e1
       clear e1
       obtain rfl := Option.some.inj H
       go_wp2
       go_ret
       exact ⟨by first | rfl | (simp; done) | (simp [*]; done), by repeat (first | exact Drawn0.refl _ | apply Drawn0.step)⟩
      rw [if_neg e1] at H
      have e1b : (a0 == 5) = false := beq_eq_false_iff_ne.mpr e1
      clear e1
      by_cases e2 : Int.tmod a0 5 = 0
      ·rw [if_pos e2] at H
       have e2b : (Int.tmod a0 5 == 0) = true := beq_iff_eq.mpr e2
       clear e2
       obtain rfl := Option.some.inj H
       go_wp2
       go_ret
       exact ⟨by first | rfl | (simp; done) | (simp [*]; done), by repeat (first | exact Drawn0.refl _ | apply Drawn0.step)⟩
      rw [if_neg e2] at H
      have e2b : (Int.tmod a0 5 == 0) = false := beq_eq_false_iff_ne.mpr e2
      clear e2
      replace H := Option.bind_eq_some_iff.mp H
      obtain ⟨t, A50, H⟩ := H
      have A5 := Aside0.mk A50
      clear A50
      by_cases e3 : t = true
      ·subst e3
       have H1 : some false = some r := by rw [if_pos rfl] at H; exact H
       clear H
       obtain rfl := Option.some.inj H1
       go_wp2_with (go_at_call 68; refine (modp_witness.calls k 5 d tw a0 true _ A5.out).mono ?_; rintro e w' ⟨rfl, ⟨nd, rfl⟩⟩)
       go_ret
       exact ⟨by first | rfl | (simp; done) | (simp [*]; done), by repeat (first | exact Drawn0.refl _ | apply Drawn0.step)⟩
      replace e3 := Bool.eq_false_iff.mpr e3
      subst e3
      have H1 : modp_Prime.at4 k a0 d tw (([2, 3, 5, 7] : List Int).drop 3) = some r := by rw [if_neg (show ¬ (false = true) by decide)] at H; exact H
      clear H
      have H' := Aside0.mk H1
      clear H1
      go_wp2_with (go_at_call 68; refine (modp_witness.calls k 5 d tw a0 false _ A5.out).mono ?_; rintro e w' ⟨rfl, ⟨nd, rfl⟩⟩)
      go_roundg 1
      case measure => omega
      case rel => exact ⟨3, by omega, by omega, (by first | rfl | (simp; done) | (simp [*]; done)), H', by repeat (first | exact Drawn0.refl _ | apply Drawn0.step)⟩
     ·have H : modp_Prime.at4 k a0 d tw [7] = some r := HA.out
      clear HA
      rw [modp_Prime.at4] at H
      by_cases e1 : a0 = 7
      ·rw [if_pos e1] at H
       have e1b : (a0 == 7) = true := beq_iff_eq.mpr e1
       clear e1
       obtain rfl := Option.some.inj H
       go_wp2
       go_ret
       exact ⟨by first | rfl | (simp; done) | (simp [*]; done), by repeat (first | exact Drawn0.refl _ | apply Drawn0.step)⟩
      rw [if_neg e1] at H
      have e1b : (a0 == 7) = false := beq_eq_false_iff_ne.mpr e1
      clear e1
      by_cases e2 : Int.tmod a0 7 = 0
      ·rw [if_pos e2] at H
       have e2b : (Int.tmod a0 7 == 0) = true := beq_iff_eq.mpr e2
       clear e2
       obtain rfl := Option.some.inj H
       go_wp2
       go_ret
       exact ⟨by first | rfl | (simp; done) | (simp [*]; done), by repeat (first | exact Drawn0.refl _ | apply Drawn0.step)⟩
      rw [if_neg e2] at H
      have e2b : (Int.tmod a0 7 == 0) = false := beq_eq_false_iff_ne.mpr e2
      clear e2
      replace H := Option.bind_eq_some_iff.mp H
      obtain ⟨t, A50, H⟩ := H
      have A5 := Aside0.mk A50
      clear A50
      by_cases e3 : t = true
      ·subst e3
       have H1 : some false = some r := by rw [if_pos rfl] at H; exact H
       clear H
       obtain rfl := Option.some.inj H1
       go_wp2_with (go_at_call 68; refine (modp_witness.calls k 7 d tw a0 true _ A5.out).mono ?_; rintro e w' ⟨rfl, ⟨nd, rfl⟩⟩)
       go_ret
       exact ⟨by first | rfl | (simp; done) | (simp [*]; done), by repeat (first | exact Drawn0.refl _ | apply Drawn0.step)⟩
      replace e3 := Bool.eq_false_iff.mpr e3
      subst e3
      have H1 : modp_Prime.at4 k a0 d tw (([2, 3, 5, 7] : List Int).drop 4) = some r := by rw [if_neg (show ¬ (false = true) by decide)] at H; exact H
      clear H
      have H' := Aside0.mk H1
      clear H1
      go_wp2_with (go_at_call 68; refine (modp_witness.calls k 7 d tw a0 false _ A5.out).mono ?_; rintro e w' ⟨rfl, ⟨nd, rfl⟩⟩)
      go_roundg 0
      case measure => omega
      case rel => exact ⟨4, by omega, by omega, (by first | rfl | (simp; done) | (simp [*]; done)), H', by repeat (first | exact Drawn0.refl _ | apply Drawn0.step)⟩
     ·-- behind the last
      have H : modp_Prime.at4 k a0 d tw [] = some r := HA.out
      clear HA
      rw [modp_Prime.at4] at H
      obtain rfl := Option.some.inj H
      go_wp2
      go_ret
      exact ⟨by first | rfl | (simp; done) | (simp [*]; done), by repeat (first | exact Drawn0.refl _ | apply Drawn0.step)⟩

/-! ### elim_May: function 52 -/
end Go.Proofs.YtgbmlkmkfigolaaDoor.P
/- elim.May, by hand: whether columns may be. -/
namespace Go.Proofs.YtgbmlkmkfigolaaDoor.P
open Go.RowKit Go.Proofs.YtgbmlkmkfigolaaDoorW.PrintWords Go.Proofs.YtgbmlkmkfigolaaDoorW.PrintLast Go.Proofs.YtgbmlkmkfigolaaDoorW.PrintMore
set_option linter.unusedVariables false
set_option linter.unusedSimpArgs false

theorem below_drewN {B : Nat} {a w : World} (h : Below B a w) (n : Nat) : Below B a (w.drewN n) := ⟨h.os, h.tape, h.output, h.size, h.block⟩
def elim_May.out (p x : Int) : Bool := decide (x < 0) || decide (p ≤ x)
def elim_May.bad (p rows : Int) (c : List Int) : Bool := ((c.length : Int) != rows) || c.any (elim_May.out p)
def elim_May.f (k : Nat) (a0 a1 : Int) (l2 : List (List Int)) : Option Bool :=
 (modp_Prime.f k a0).bind fun t => some (t && !decide (a1 < 0) && !decide (64 < a1) && !decide (64 < (l2.length : Int)) && !(l2.any (elim_May.bad a0 a1)))
set_option maxHeartbeats 2000000 in
set_option maxRecDepth 100000 in
theorem elim_May.in2 (x p : Int) (B o : Nat) (W : World) (hc : W.cell? ⟨B, o, none⟩ = some (.int .i64 p)) :
 Calls Tryd.prog 65 #[.int .i64 x, .pointer (some ⟨B, o, none⟩)] W fun e w' => e = .returned (.bool (elim_May.out p x)) ∧ Drawn0 W w' := by
 have HE : ∀ b, elim_May.out p x = b → Aside0 (elim_May.out p x = b) := fun b h => ⟨h⟩
 by_cases h1 : x < 0
 ·have h1b : decide (x < 0) = true := decide_eq_true h1
  have H1 := HE true (by unfold elim_May.out; rw [h1b]; rfl)
  clear h1 HE
  go_enter Tryd.func65, Tryd.ntmps65
  go_wp2
  repeat (go_quiet (fail); try go_wp2)
  go_ret
  exact ⟨by rw [H1.out]; rfl, by repeat (first | exact Drawn0.refl _ | apply Drawn0.step)⟩
 ·have h1b : decide (x < 0) = false := decide_eq_false h1
  by_cases h2 : p ≤ x
  ·have h2b : decide (p ≤ x) = true := decide_eq_true h2
   have H1 := HE true (by unfold elim_May.out; rw [h1b, h2b]; rfl)
   clear h1 h2 HE
   go_enter Tryd.func65, Tryd.ntmps65
   go_wp2
   repeat (go_quiet (fail); try go_wp2)
   go_ret
   exact ⟨by rw [H1.out]; rfl, by repeat (first | exact Drawn0.refl _ | apply Drawn0.step)⟩
  ·have h2b : decide (p ≤ x) = false := decide_eq_false h2
   have H1 := HE false (by unfold elim_May.out; rw [h1b, h2b]; rfl)
   clear h1 h2 HE
   go_enter Tryd.func65, Tryd.ntmps65
   go_wp2
   repeat (go_quiet (fail); try go_wp2)
   go_ret
   exact ⟨by rw [H1.out]; rfl, by repeat (first | exact Drawn0.refl _ | apply Drawn0.step)⟩
set_option maxHeartbeats 2000000 in
set_option maxRecDepth 100000 in
theorem elim_May.in1 (A : Option Addr) (c : Nat) (l : List Int) (p rows : Int) (hrow : rows ≤ 64) (B1 B2 : Nat) (W : World) (hr : Kd.C (Kd.int .i64) W A l.length l) (hc : l.length ≤ c)
 (h1 : W.cell? ⟨B1, 0, none⟩ = some (.int .i64 rows)) (h2 : W.cell? ⟨B2, 0, none⟩ = some (.int .i64 p)) :
 Calls Tryd.prog 64 #[.slice A l.length c, .pointer (some ⟨B1, 0, none⟩), .pointer (some ⟨B2, 0, none⟩)] W fun e w' => e = .returned (.bool (elim_May.bad p rows l)) ∧ Drawn0 W w' := by
 by_cases hl : (l.length : Int) = rows
 ·have hlb : ((l.length : Int) != rows) = false := by rw [hl]; exact bne_self_eq_false _
  have hlb2 : ((l.length : Int) == rows) = true := by rw [hl]; exact beq_self_eq_true _
  have hcall := fun n => hasInt_c A c l 65 #[.pointer (some ⟨B2, 0, none⟩)] (elim_May.out p) (W.drewN n) (Kd.C_below hr (Drawn0.below ⟨⟨n, rfl⟩⟩)) hc (by omega) (enters_of Tryd.func65 (by kernel_rfl) rfl)
   (fun m x _ => elim_May.in2 x p B2 0 _ (by simpa [World.cell?_drewN] using h2))
  have HB : Aside0 (elim_May.bad p rows l = l.any (elim_May.out p)) := ⟨by unfold elim_May.bad; rw [hlb]; rfl⟩
  clear hl hr hc
  generalize l.any (elim_May.out p) = b at *
  go_enter Tryd.func64, Tryd.ntmps64
  go_wp2_with (go_at_call 60; refine (hcall 0).mono ?_; rintro e w' ⟨rfl, ⟨q, rfl⟩⟩)
  go_ret
  exact ⟨by rw [HB.out]; rfl, by repeat (first | exact Drawn0.refl _ | apply Drawn0.step)⟩
 ·have hlb : ((l.length : Int) != rows) = true := bne_iff_ne.mpr hl
  have hlb2 : ((l.length : Int) == rows) = false := beq_eq_false_iff_ne.mpr hl
  have HB : Aside0 (elim_May.bad p rows l = true) := ⟨by unfold elim_May.bad; rw [hlb]; rfl⟩
  clear hl hr hc
  go_enter Tryd.func64, Tryd.ntmps64
  go_wp2
  repeat (go_quiet (fail); try go_wp2)
  go_ret
  exact ⟨by rw [HB.out]; rfl, by repeat (first | exact Drawn0.refl _ | apply Drawn0.step)⟩
set_option maxHeartbeats 4000000 in
set_option maxRecDepth 100000 in
theorem elim_May.calls (k : Nat) (a0 a1 : Int) (A2 : Option Addr) (c2 : Nat) (l2 : List (List Int)) (r : Bool) (w : World) (hr2 : Kd.C (Kd.slice 3 (Kd.int .i64)) w A2 l2.length l2) (hc2 : l2.length ≤ c2) (h : elim_May.f k a0 a1 l2 = some r) :
 Calls Tryd.prog 52 #[.int .i64 a0, .int .i64 a1, .slice A2 l2.length c2] w fun e w' => e = .returned (.bool r) ∧ Below w.heap.size w w' := by
 unfold elim_May.f at h
 obtain ⟨t, hP, hf⟩ := Option.bind_eq_some_iff.mp h
 replace hf := Option.some.inj hf
 clear h
 have HP := Aside0.mk hP
 clear hP
 have go : ∀ b, r = b → Aside0 (r = b) := fun b h => ⟨h⟩
 cases t with
 | false =>
  have HF := go false (by rw [← hf]; rfl)
  clear hf hr2 hc2 go
  go_enter Tryd.func52, Tryd.ntmps52
  go_wp2_with (go_at_call 63; refine (modp_Prime.calls k a0 false _ HP.out).mono ?_; rintro e w' ⟨rfl, ⟨q, rfl⟩⟩)
  go_ret
  exact ⟨by rw [HF.out]; rfl, by repeat (first | exact Below.refl _ _ | exact Below.alloc (Below.refl _ _) (Nat.le_refl _) _ | (refine Below.alloc ?_ (by simp) _) | apply below_drewN)⟩
 | true =>
  by_cases c1 : a1 < 0
  ·have c1b : decide (a1 < 0) = true := decide_eq_true c1
   have HF := go false (by rw [← hf, c1b]; rfl)
   clear hf hr2 hc2 go c1
   go_enter Tryd.func52, Tryd.ntmps52
   go_wp2_with (go_at_call 63; refine (modp_Prime.calls k a0 true _ HP.out).mono ?_; rintro e w' ⟨rfl, ⟨q, rfl⟩⟩)
   go_ret
   exact ⟨by rw [HF.out]; rfl, by repeat (first | exact Below.refl _ _ | exact Below.alloc (Below.refl _ _) (Nat.le_refl _) _ | (refine Below.alloc ?_ (by simp) _) | apply below_drewN)⟩
  have c1b : decide (a1 < 0) = false := decide_eq_false c1
  by_cases c2' : 64 < a1
  ·have c2b : decide (64 < a1) = true := decide_eq_true c2'
   have HF := go false (by rw [← hf, c1b, c2b]; rfl)
   clear hf hr2 hc2 go c1 c2'
   go_enter Tryd.func52, Tryd.ntmps52
   go_wp2_with (go_at_call 63; refine (modp_Prime.calls k a0 true _ HP.out).mono ?_; rintro e w' ⟨rfl, ⟨q, rfl⟩⟩)
   go_ret
   exact ⟨by rw [HF.out]; rfl, by repeat (first | exact Below.refl _ _ | exact Below.alloc (Below.refl _ _) (Nat.le_refl _) _ | (refine Below.alloc ?_ (by simp) _) | apply below_drewN)⟩
  have c2b : decide (64 < a1) = false := decide_eq_false c2'
  by_cases c3 : 64 < (l2.length : Int)
  ·have c3b : decide (64 < (l2.length : Int)) = true := decide_eq_true c3
   have c3c : decide (64 < l2.length) = true := decide_eq_true (by omega)
   have HF := go false (by rw [← hf, c1b, c2b, c3b]; rfl)
   clear hf hr2 hc2 go c1 c2' c3
   go_enter Tryd.func52, Tryd.ntmps52
   go_wp2_with (go_at_call 63; refine (modp_Prime.calls k a0 true _ HP.out).mono ?_; rintro e w' ⟨rfl, ⟨q, rfl⟩⟩)
   go_ret
   exact ⟨by rw [HF.out]; rfl, by repeat (first | exact Below.refl _ _ | exact Below.alloc (Below.refl _ _) (Nat.le_refl _) _ | (refine Below.alloc ?_ (by simp) _) | apply below_drewN)⟩
  have c3b : decide (64 < (l2.length : Int)) = false := decide_eq_false c3
  have c3c : decide (64 < l2.length) = false := decide_eq_false (by omega)
  have HF : Aside0 (r = !(l2.any (elim_May.bad a0 a1))) := ⟨by rw [← hf, c1b, c2b, c3b]; simp⟩
  have HR := Aside0.mk hr2
  have HC := Aside0.mk hc2
  have HW : Aside0 (a1 ≤ 64 ∧ l2.length ≤ 64) := ⟨by omega⟩
  clear hf hr2 hc2 go c1 c2' c3
  go_enter Tryd.func52, Tryd.ntmps52
  go_wp2_with (go_at_call 63; refine (modp_Prime.calls k a0 true _ HP.out).mono ?_; rintro e w' ⟨rfl, ⟨q, rfl⟩⟩)
  have hbel : Below w.heap.size w (((w.alloc (Obj.cells #[Value.int IntKind.i64 a0] 3)).alloc (Obj.cells #[Value.int IntKind.i64 a1] 3)).drewN q) :=
   below_drewN (((Below.refl _ _).alloc (Nat.le_refl _) _).alloc (by simp) _) q
  have hb1 : (((w.alloc (Obj.cells #[Value.int IntKind.i64 a0] 3)).alloc (Obj.cells #[Value.int IntKind.i64 a1] 3)).drewN q).cell? ⟨w.heap.size + 1, 0, none⟩ = some (.int .i64 a1) := by go_simp
  have hb2 : (((w.alloc (Obj.cells #[Value.int IntKind.i64 a0] 3)).alloc (Obj.cells #[Value.int IntKind.i64 a1] 3)).drewN q).cell? ⟨w.heap.size, 0, none⟩ = some (.int .i64 a0) := by go_simp
  generalize (((w.alloc (Obj.cells #[Value.int IntKind.i64 a0] 3)).alloc (Obj.cells #[Value.int IntKind.i64 a1] 3)).drewN q) = W1 at hbel hb1 hb2 ⊢
  refine (hasRow_c A2 c2 l2 64 #[.pointer (some ⟨w.heap.size + 1, 0, none⟩), .pointer (some ⟨w.heap.size, 0, none⟩)] (elim_May.bad a0 a1) W1 (Kd.C_below HR.out hbel) HC.out (by have := HW.out; omega) (enters_of Tryd.func64 (by kernel_rfl) rfl)
   (fun n x A c _ hxl hx => elim_May.in1 A c x a0 a1 (by have := HW.out; omega) _ _ _ (Kd.C_below hx (Drawn0.below ⟨⟨n, rfl⟩⟩)) hxl (by simpa [World.cell?_drewN] using hb1) (by simpa [World.cell?_drewN] using hb2))).mono ?_
  rintro e w' ⟨rfl, ⟨q', rfl⟩⟩
  have HB := Aside0.mk hbel
  clear hbel hb1 hb2
  generalize l2.any (elim_May.bad a0 a1) = b at *
  go_wp2_with (fail)
  go_ret
  exact ⟨by rw [HF.out]; rfl, below_drewN HB.out _⟩
end Go.Proofs.YtgbmlkmkfigolaaDoor.P
namespace Go.Proofs.YtgbmlkmkfigolaaDoor.P
open Go.RowKit Go.Proofs.YtgbmlkmkfigolaaDoorW.PrintWords Go.Proofs.YtgbmlkmkfigolaaDoorW.PrintLast Go.Proofs.YtgbmlkmkfigolaaDoorW.PrintMore
attribute [local go_sem] max2_int min2_int max_two min_two max_three min_three max_four min_four   -- for this text's walks alone
set_option linter.unusedVariables false
set_option linter.unusedSimpArgs false


/-! ### matroid_part: function 53 -/
def matroid_part.f (k : Nat) (a0_0 : Int) (a0_1 : Int) (a0_2 : Int) (a0_3 : Int) (l0_4 : List (List Int)) (l0_5 : List (S25)) : Option (List Int × Bool) := if (l0_4.length : Int) = 1 then (if (l0_5.length : Int) = 1 then (if 0 < (l0_4.length : Int) then ((set_May.f k (rd_L1 l0_4 0)).bind fun t123 => (if t123 = true then (if ((rd_L1 l0_4 0).length : Int) = 0 then (some (rd_L1 l0_4 0, true)) else (if 0 ≤ (wrap64 (((rd_L1 l0_4 0).length : Int) - 1)) then (if (wrap64 (((rd_L1 l0_4 0).length : Int) - 1)) < ((rd_L1 l0_4 0).length : Int) then (if 0 < (l0_5.length : Int) then (some (rd_L1 l0_4 0, decide ((rd (rd_L1 l0_4 0) (wrap64 (((rd_L1 l0_4 0).length : Int) - 1))) < ((rd_T25 l0_5 0).f1)))) else (none)) else (none)) else (none))) else (some (rd_L1 l0_4 0, false)))) else (none)) else (some (([] : List Int), false))) else (some (([] : List Int), false))
set_option maxHeartbeats 8000000 in
set_option maxRecDepth 100000 in
theorem matroid_part.calls (k : Nat) (a0_0 : Int) (a0_1 : Int) (a0_2 : Int) (a0_3 : Int) (P0_4_ : Nat → Prop) (A0_4 : Option Addr) (c0_4 : Nat) (l0_4 : List (List Int)) (A0_5 : Option Addr) (c0_5 : Nat) (l0_5 : List (S25)) (r1 : List Int) (r2 : Bool) (w : World) (hs0_4 : Kd.V (Kd.slice 3 (Kd.int .i64)) 26 w w.heap.size (fun k_ => P0_4_ k_) (.slice A0_4 l0_4.length c0_4) l0_4) (hr0_5 : Kd.C k25 w A0_5 l0_5.length l0_5) (hc0_5 : l0_5.length ≤ c0_5) (h : matroid_part.f k a0_0 a0_1 a0_2 a0_3 l0_4 l0_5 = some (r1, r2)) :
 Calls Tryd.prog 53 #[.agg #[.int .i64 a0_0, .int .i64 a0_1, .int .i64 a0_2, .int .i64 a0_3, .slice A0_4 l0_4.length c0_4, .slice A0_5 l0_5.length c0_5]] w fun e w' => ∃ v0_ : Value, e = .returned (.tuple #[v0_, .bool r2]) ∧ Kd.V (Kd.int .i64) 3 w' w.heap.size (fun k_ => (P0_4_ k_ ∨ w.heap.size ≤ k_)) v0_ r1 ∧ Below w.heap.size w w' := by
 have hu25 := Tryd.underlying25
 have HO0_4 := Aside0.mk (show Kd.V (Kd.slice 3 (Kd.int .i64)) 26 w w.heap.size (fun k_ => (P0_4_ k_ ∨ w.heap.size ≤ k_)) (.slice A0_4 l0_4.length c0_4) l0_4 from Kd.V_mono hs0_4 (fun k_ hk => .inl hk))
 have HR0_5 := Aside0.mk hr0_5
 have HC0_5 := Aside0.mk hc0_5
 clear hr0_5 hc0_5
 have HB := Aside0.mk (Below.refl w.heap.size w)
 have H : (if (l0_4.length : Int) = 1 then (if (l0_5.length : Int) = 1 then (if 0 < (l0_4.length : Int) then ((set_May.f k (rd_L1 l0_4 0)).bind fun t123 => (if t123 = true then (if ((rd_L1 l0_4 0).length : Int) = 0 then (some (rd_L1 l0_4 0, true)) else (if 0 ≤ (wrap64 (((rd_L1 l0_4 0).length : Int) - 1)) then (if (wrap64 (((rd_L1 l0_4 0).length : Int) - 1)) < ((rd_L1 l0_4 0).length : Int) then (if 0 < (l0_5.length : Int) then (some (rd_L1 l0_4 0, decide ((rd (rd_L1 l0_4 0) (wrap64 (((rd_L1 l0_4 0).length : Int) - 1))) < ((rd_T25 l0_5 0).f1)))) else (none)) else (none)) else (none))) else (some (rd_L1 l0_4 0, false)))) else (none)) else (some (([] : List Int), false))) else (some (([] : List Int), false))) = some (r1, r2) := h
 clear h
 by_cases c2 : (l0_4.length : Int) = 1
 ·rw [if_pos c2] at H
  have c2b0 : ((l0_4.length : Int) == 1) = true := beq_iff_eq.mpr c2
  have c2b1 : ((l0_4.length : Int) != 1) = false := bne_eq_false_iff_eq.mpr c2
  clear c2
  by_cases c3 : (l0_5.length : Int) = 1
  ·rw [if_pos c3] at H
   have c3b0 : ((l0_5.length : Int) == 1) = true := beq_iff_eq.mpr c3
   have c3b1 : ((l0_5.length : Int) != 1) = false := bne_eq_false_iff_eq.mpr c3
   clear c3
   by_cases c4 : 0 < (l0_4.length : Int)
   ·rw [if_pos c4] at H
    have c4b0 : decide (0 < (l0_4.length : Int)) = true := decide_eq_true c4
    have c4b1 : decide (0 < l0_4.length) = true := decide_eq_true (by omega)
    clear c4
    replace H := Option.bind_eq_some_iff.mp H
    obtain ⟨t123, A50, H⟩ := H
    replace H : (if t123 = true then (if ((rd_L1 l0_4 0).length : Int) = 0 then (some (rd_L1 l0_4 0, true)) else (if 0 ≤ (wrap64 (((rd_L1 l0_4 0).length : Int) - 1)) then (if (wrap64 (((rd_L1 l0_4 0).length : Int) - 1)) < ((rd_L1 l0_4 0).length : Int) then (if 0 < (l0_5.length : Int) then (some (rd_L1 l0_4 0, decide ((rd (rd_L1 l0_4 0) (wrap64 (((rd_L1 l0_4 0).length : Int) - 1))) < ((rd_T25 l0_5 0).f1)))) else (none)) else (none)) else (none))) else (some (rd_L1 l0_4 0, false))) = some (r1, r2) := H
    have A5 := Aside0.mk A50
    clear A50
    by_cases c6 : t123 = true
    ·subst c6
     have H1 : (if ((rd_L1 l0_4 0).length : Int) = 0 then (some (rd_L1 l0_4 0, true)) else (if 0 ≤ (wrap64 (((rd_L1 l0_4 0).length : Int) - 1)) then (if (wrap64 (((rd_L1 l0_4 0).length : Int) - 1)) < ((rd_L1 l0_4 0).length : Int) then (if 0 < (l0_5.length : Int) then (some (rd_L1 l0_4 0, decide ((rd (rd_L1 l0_4 0) (wrap64 (((rd_L1 l0_4 0).length : Int) - 1))) < ((rd_T25 l0_5 0).f1)))) else (none)) else (none)) else (none))) = some (r1, r2) := by rw [if_pos rfl] at H; exact H
     clear H
     have H := H1
     clear H1
     by_cases c7 : ((rd_L1 l0_4 0).length : Int) = 0
     ·rw [if_pos c7] at H
      have c7b0 : (((rd_L1 l0_4 0).length : Int) == 0) = true := beq_iff_eq.mpr c7
      have c7b1 : (((rd_L1 l0_4 0).length : Int) != 0) = false := bne_eq_false_iff_eq.mpr c7
      clear c7
      simp only [Option.some.injEq, Prod.mk.injEq] at H
      obtain ⟨rfl, rfl⟩ := H
      go_enter Tryd.func53, Tryd.ntmps53
      go_wp2_with (first | ((with_reducible refine gate_dst (N := 1) rfl ?_); (try (refine gate_guard (by rfl) ?_; dsimp only)); refine box_event ?hg (N := 1) ?hd (cs := #[.int .i64 a0_0, .int .i64 a0_1, .int .i64 a0_2, .int .i64 a0_3, .slice A0_4 l0_4.length c0_4, .slice A0_5 l0_5.length c0_5]) (t := 25) ?hr ?_; (case hd => rfl); (case hg => rfl); (case hr => first | (go_simp; done) | (go_simp; rfl)); intro gb121 hg w8 hbox hb; have n0_ := Aside0.mk (Kd.V_below (Kd.V_elderB (by (with_reducible repeat (first | apply Kd.V_alloc | apply Kd.V_drewN | apply Kd.V_drew)); exact HO0_4.out) gb121 (Nat.le_of_eq hg.symm)) hb); have n1_ := Aside0.mk (below_step (by repeat (first | (with_reducible first | exact HB.out | apply below_alloc | apply pw_below_drewN | apply below_drew1) | exact HB.out)) hb); have n2_ := Aside0.mk (hbox); have n3_ := Aside0.mk ((by rw [hg]; exact (below_size (by repeat (first | (with_reducible first | exact HB.out | apply below_alloc | apply pw_below_drewN | apply below_drew1) | exact HB.out))) : w.heap.size ≤ gb121)); have n4_ := Aside0.mk ((by rw [hg]; exact (below_size (by repeat (first | (with_reducible first | exact HB.out | apply below_alloc | apply pw_below_drewN | apply below_drew1) | exact HB.out))) : w.heap.size ≤ gb121)); clear HO0_4; clear HB; have HO0_4 := n0_; have HB := n1_; have BK121 := n2_; have GW121 := n3_; have GE121 := n4_; clear n0_ n1_ n2_ n3_ n4_; clear hb hbox hg; have hcz9_0 : w8.cell? ⟨gb121, 0, none⟩ = some (.int .i64 a0_0) := (blk_cell BK121.out 0).trans rfl; have hcz9_1 : w8.cell? ⟨gb121, 1, none⟩ = some (.int .i64 a0_1) := (blk_cell BK121.out 1).trans rfl; have hcz9_2 : w8.cell? ⟨gb121, 2, none⟩ = some (.int .i64 a0_2) := (blk_cell BK121.out 2).trans rfl; have hcz9_3 : w8.cell? ⟨gb121, 3, none⟩ = some (.int .i64 a0_3) := (blk_cell BK121.out 3).trans rfl; have hcz9_4 : w8.cell? ⟨gb121, 4, none⟩ = some (.slice A0_4 l0_4.length c0_4) := (blk_cell BK121.out 4).trans rfl; have hcz9_5 : w8.cell? ⟨gb121, 5, none⟩ = some (.slice A0_5 l0_5.length c0_5) := (blk_cell BK121.out 5).trans rfl; have hfz9_0 := blk_frozen BK121.out 0; have hfz9_1 := blk_frozen BK121.out 1; have hfz9_2 := blk_frozen BK121.out 2; have hfz9_3 := blk_frozen BK121.out 3; have hfz9_4 := blk_frozen BK121.out 4; have hfz9_5 := blk_frozen BK121.out 5; have p122 : 0 ≤ (0 : Int) := (by omega); have q122 : 0 < (l0_4.length : Int) := of_decide_eq_true (by first | (with_reducible assumption) | assumption); obtain ⟨ad122, A122_0, c122_0, e122, hx122_0, hl122_0, hi122_0⟩ := at_L1 (Kd.V_reads' HO0_4.out).2.2 0 p122 q122; cases e122; obtain ⟨ce122, hce122, hMe122, hcc122⟩ := Kd.V_get HO0_4.out [] 0 p122 (by first | exact q122 | exact of_decide_eq_true (by first | (with_reducible assumption) | assumption) | (have e_ := (Kd.V_reads' HO0_4.out).1; omega)); obtain ⟨ua122_0, uc122_0, rfl, ul122_0, ge122_0⟩ := Kd.FK_slice_open hMe122; have hv122_0 := hcc122 0 _ rfl; rw [Nat.add_zero, show ((Kd.slice 3 (Kd.int .i64))).sz = 1 from rfl, Nat.mul_one] at hv122_0; replace hv122_0 := Option.some.inj (hv122_0.symm.trans hx122_0); injection hv122_0 with hva_ hvn_ hvc_; rw [hva_] at ge122_0; rw [hvc_] at ul122_0; have HL122_0 := Aside0.mk (show Kd.V (Kd.int .i64) 3 _ w.heap.size _ _ (rd_L1 l0_4 0) from Kd.V_mk ul122_0 ge122_0); clear hva_ hvn_ hvc_ ge122_0 ul122_0; clear hcc122 hce122; have qi122 : (0 < l0_4.length) = True := eq_true (by omega); (try rw [show ((0 : Int)).toNat = 0 from rfl] at hx122_0); (try rw [Addr.add_zero'] at hx122_0); have HR122_0 := Aside0.mk hi122_0; have HC122_0 := Aside0.mk hl122_0; clear hi122_0 hl122_0; replace p122 := eq_true p122; replace q122 := eq_true q122) | (go_at_call 21; (with_reducible refine (set_May.calls k _ _ (rd_L1 l0_4 0) true _ ?side1 ?side2 A5.out).mono ?_); (case side1 => repeat (first | exact (by repeat (first | (with_reducible exact HR122_0.out) | (with_reducible refine Kd.C_alloc ?_ _) | (with_reducible refine Kd.C_drewN ?_ _) | (with_reducible refine Kd.C_drew ?_) | exact HR122_0.out)) | (with_reducible refine Kd.C_alloc ?_ _) | (with_reducible refine Kd.C_drewN ?_ _) | (with_reducible refine Kd.C_drew ?_))); (case side2 => exact HC122_0.out); rintro e w' ⟨rfl, ⟨nd, rfl⟩⟩; (try first | exact ⟨rfl, _, World.drewN_drewN _ _ _⟩ | exact ⟨rfl, _, Eq.trans (World.drewN_drewN _ _ _) (congrArg (World.drewN _) (Nat.add_assoc _ _ _))⟩)))
      repeat (go_quiet (first | ((with_reducible refine gate_dst (N := 1) rfl ?_); (try (refine gate_guard (by rfl) ?_; dsimp only)); refine box_event ?hg (N := 1) ?hd (cs := #[.int .i64 a0_0, .int .i64 a0_1, .int .i64 a0_2, .int .i64 a0_3, .slice A0_4 l0_4.length c0_4, .slice A0_5 l0_5.length c0_5]) (t := 25) ?hr ?_; (case hd => rfl); (case hg => rfl); (case hr => first | (go_simp; done) | (go_simp; rfl)); intro gb121 hg w8 hbox hb; have n0_ := Aside0.mk (Kd.V_below (Kd.V_elderB (by (with_reducible repeat (first | apply Kd.V_alloc | apply Kd.V_drewN | apply Kd.V_drew)); exact HO0_4.out) gb121 (Nat.le_of_eq hg.symm)) hb); have n1_ := Aside0.mk (below_step (by repeat (first | (with_reducible first | exact HB.out | apply below_alloc | apply pw_below_drewN | apply below_drew1) | exact HB.out)) hb); have n2_ := Aside0.mk (hbox); have n3_ := Aside0.mk ((by rw [hg]; exact (below_size (by repeat (first | (with_reducible first | exact HB.out | apply below_alloc | apply pw_below_drewN | apply below_drew1) | exact HB.out))) : w.heap.size ≤ gb121)); have n4_ := Aside0.mk ((by rw [hg]; exact (below_size (by repeat (first | (with_reducible first | exact HB.out | apply below_alloc | apply pw_below_drewN | apply below_drew1) | exact HB.out))) : w.heap.size ≤ gb121)); clear HO0_4; clear HB; have HO0_4 := n0_; have HB := n1_; have BK121 := n2_; have GW121 := n3_; have GE121 := n4_; clear n0_ n1_ n2_ n3_ n4_; clear hb hbox hg; have hcz9_0 : w8.cell? ⟨gb121, 0, none⟩ = some (.int .i64 a0_0) := (blk_cell BK121.out 0).trans rfl; have hcz9_1 : w8.cell? ⟨gb121, 1, none⟩ = some (.int .i64 a0_1) := (blk_cell BK121.out 1).trans rfl; have hcz9_2 : w8.cell? ⟨gb121, 2, none⟩ = some (.int .i64 a0_2) := (blk_cell BK121.out 2).trans rfl; have hcz9_3 : w8.cell? ⟨gb121, 3, none⟩ = some (.int .i64 a0_3) := (blk_cell BK121.out 3).trans rfl; have hcz9_4 : w8.cell? ⟨gb121, 4, none⟩ = some (.slice A0_4 l0_4.length c0_4) := (blk_cell BK121.out 4).trans rfl; have hcz9_5 : w8.cell? ⟨gb121, 5, none⟩ = some (.slice A0_5 l0_5.length c0_5) := (blk_cell BK121.out 5).trans rfl; have hfz9_0 := blk_frozen BK121.out 0; have hfz9_1 := blk_frozen BK121.out 1; have hfz9_2 := blk_frozen BK121.out 2; have hfz9_3 := blk_frozen BK121.out 3; have hfz9_4 := blk_frozen BK121.out 4; have hfz9_5 := blk_frozen BK121.out 5; have p122 : 0 ≤ (0 : Int) := (by omega); have q122 : 0 < (l0_4.length : Int) := of_decide_eq_true (by first | (with_reducible assumption) | assumption); obtain ⟨ad122, A122_0, c122_0, e122, hx122_0, hl122_0, hi122_0⟩ := at_L1 (Kd.V_reads' HO0_4.out).2.2 0 p122 q122; cases e122; obtain ⟨ce122, hce122, hMe122, hcc122⟩ := Kd.V_get HO0_4.out [] 0 p122 (by first | exact q122 | exact of_decide_eq_true (by first | (with_reducible assumption) | assumption) | (have e_ := (Kd.V_reads' HO0_4.out).1; omega)); obtain ⟨ua122_0, uc122_0, rfl, ul122_0, ge122_0⟩ := Kd.FK_slice_open hMe122; have hv122_0 := hcc122 0 _ rfl; rw [Nat.add_zero, show ((Kd.slice 3 (Kd.int .i64))).sz = 1 from rfl, Nat.mul_one] at hv122_0; replace hv122_0 := Option.some.inj (hv122_0.symm.trans hx122_0); injection hv122_0 with hva_ hvn_ hvc_; rw [hva_] at ge122_0; rw [hvc_] at ul122_0; have HL122_0 := Aside0.mk (show Kd.V (Kd.int .i64) 3 _ w.heap.size _ _ (rd_L1 l0_4 0) from Kd.V_mk ul122_0 ge122_0); clear hva_ hvn_ hvc_ ge122_0 ul122_0; clear hcc122 hce122; have qi122 : (0 < l0_4.length) = True := eq_true (by omega); (try rw [show ((0 : Int)).toNat = 0 from rfl] at hx122_0); (try rw [Addr.add_zero'] at hx122_0); have HR122_0 := Aside0.mk hi122_0; have HC122_0 := Aside0.mk hl122_0; clear hi122_0 hl122_0; replace p122 := eq_true p122; replace q122 := eq_true q122) | (go_at_call 21; (with_reducible refine (set_May.calls k _ _ (rd_L1 l0_4 0) true _ ?side1 ?side2 A5.out).mono ?_); (case side1 => repeat (first | exact (by repeat (first | (with_reducible exact HR122_0.out) | (with_reducible refine Kd.C_alloc ?_ _) | (with_reducible refine Kd.C_drewN ?_ _) | (with_reducible refine Kd.C_drew ?_) | exact HR122_0.out)) | (with_reducible refine Kd.C_alloc ?_ _) | (with_reducible refine Kd.C_drewN ?_ _) | (with_reducible refine Kd.C_drew ?_))); (case side2 => exact HC122_0.out); rintro e w' ⟨rfl, ⟨nd, rfl⟩⟩; (try first | exact ⟨rfl, _, World.drewN_drewN _ _ _⟩ | exact ⟨rfl, _, Eq.trans (World.drewN_drewN _ _ _) (congrArg (World.drewN _) (Nat.add_assoc _ _ _))⟩))); try go_wp2_with (first | ((with_reducible refine gate_dst (N := 1) rfl ?_); (try (refine gate_guard (by rfl) ?_; dsimp only)); refine box_event ?hg (N := 1) ?hd (cs := #[.int .i64 a0_0, .int .i64 a0_1, .int .i64 a0_2, .int .i64 a0_3, .slice A0_4 l0_4.length c0_4, .slice A0_5 l0_5.length c0_5]) (t := 25) ?hr ?_; (case hd => rfl); (case hg => rfl); (case hr => first | (go_simp; done) | (go_simp; rfl)); intro gb121 hg w8 hbox hb; have n0_ := Aside0.mk (Kd.V_below (Kd.V_elderB (by (with_reducible repeat (first | apply Kd.V_alloc | apply Kd.V_drewN | apply Kd.V_drew)); exact HO0_4.out) gb121 (Nat.le_of_eq hg.symm)) hb); have n1_ := Aside0.mk (below_step (by repeat (first | (with_reducible first | exact HB.out | apply below_alloc | apply pw_below_drewN | apply below_drew1) | exact HB.out)) hb); have n2_ := Aside0.mk (hbox); have n3_ := Aside0.mk ((by rw [hg]; exact (below_size (by repeat (first | (with_reducible first | exact HB.out | apply below_alloc | apply pw_below_drewN | apply below_drew1) | exact HB.out))) : w.heap.size ≤ gb121)); have n4_ := Aside0.mk ((by rw [hg]; exact (below_size (by repeat (first | (with_reducible first | exact HB.out | apply below_alloc | apply pw_below_drewN | apply below_drew1) | exact HB.out))) : w.heap.size ≤ gb121)); clear HO0_4; clear HB; have HO0_4 := n0_; have HB := n1_; have BK121 := n2_; have GW121 := n3_; have GE121 := n4_; clear n0_ n1_ n2_ n3_ n4_; clear hb hbox hg; have hcz9_0 : w8.cell? ⟨gb121, 0, none⟩ = some (.int .i64 a0_0) := (blk_cell BK121.out 0).trans rfl; have hcz9_1 : w8.cell? ⟨gb121, 1, none⟩ = some (.int .i64 a0_1) := (blk_cell BK121.out 1).trans rfl; have hcz9_2 : w8.cell? ⟨gb121, 2, none⟩ = some (.int .i64 a0_2) := (blk_cell BK121.out 2).trans rfl; have hcz9_3 : w8.cell? ⟨gb121, 3, none⟩ = some (.int .i64 a0_3) := (blk_cell BK121.out 3).trans rfl; have hcz9_4 : w8.cell? ⟨gb121, 4, none⟩ = some (.slice A0_4 l0_4.length c0_4) := (blk_cell BK121.out 4).trans rfl; have hcz9_5 : w8.cell? ⟨gb121, 5, none⟩ = some (.slice A0_5 l0_5.length c0_5) := (blk_cell BK121.out 5).trans rfl; have hfz9_0 := blk_frozen BK121.out 0; have hfz9_1 := blk_frozen BK121.out 1; have hfz9_2 := blk_frozen BK121.out 2; have hfz9_3 := blk_frozen BK121.out 3; have hfz9_4 := blk_frozen BK121.out 4; have hfz9_5 := blk_frozen BK121.out 5; have p122 : 0 ≤ (0 : Int) := (by omega); have q122 : 0 < (l0_4.length : Int) := of_decide_eq_true (by first | (with_reducible assumption) | assumption); obtain ⟨ad122, A122_0, c122_0, e122, hx122_0, hl122_0, hi122_0⟩ := at_L1 (Kd.V_reads' HO0_4.out).2.2 0 p122 q122; cases e122; obtain ⟨ce122, hce122, hMe122, hcc122⟩ := Kd.V_get HO0_4.out [] 0 p122 (by first | exact q122 | exact of_decide_eq_true (by first | (with_reducible assumption) | assumption) | (have e_ := (Kd.V_reads' HO0_4.out).1; omega)); obtain ⟨ua122_0, uc122_0, rfl, ul122_0, ge122_0⟩ := Kd.FK_slice_open hMe122; have hv122_0 := hcc122 0 _ rfl; rw [Nat.add_zero, show ((Kd.slice 3 (Kd.int .i64))).sz = 1 from rfl, Nat.mul_one] at hv122_0; replace hv122_0 := Option.some.inj (hv122_0.symm.trans hx122_0); injection hv122_0 with hva_ hvn_ hvc_; rw [hva_] at ge122_0; rw [hvc_] at ul122_0; have HL122_0 := Aside0.mk (show Kd.V (Kd.int .i64) 3 _ w.heap.size _ _ (rd_L1 l0_4 0) from Kd.V_mk ul122_0 ge122_0); clear hva_ hvn_ hvc_ ge122_0 ul122_0; clear hcc122 hce122; have qi122 : (0 < l0_4.length) = True := eq_true (by omega); (try rw [show ((0 : Int)).toNat = 0 from rfl] at hx122_0); (try rw [Addr.add_zero'] at hx122_0); have HR122_0 := Aside0.mk hi122_0; have HC122_0 := Aside0.mk hl122_0; clear hi122_0 hl122_0; replace p122 := eq_true p122; replace q122 := eq_true q122) | (go_at_call 21; (with_reducible refine (set_May.calls k _ _ (rd_L1 l0_4 0) true _ ?side1 ?side2 A5.out).mono ?_); (case side1 => repeat (first | exact (by repeat (first | (with_reducible exact HR122_0.out) | (with_reducible refine Kd.C_alloc ?_ _) | (with_reducible refine Kd.C_drewN ?_ _) | (with_reducible refine Kd.C_drew ?_) | exact HR122_0.out)) | (with_reducible refine Kd.C_alloc ?_ _) | (with_reducible refine Kd.C_drewN ?_ _) | (with_reducible refine Kd.C_drew ?_))); (case side2 => exact HC122_0.out); rintro e w' ⟨rfl, ⟨nd, rfl⟩⟩; (try first | exact ⟨rfl, _, World.drewN_drewN _ _ _⟩ | exact ⟨rfl, _, Eq.trans (World.drewN_drewN _ _ _) (congrArg (World.drewN _) (Nat.add_assoc _ _ _))⟩))))
      go_ret2
      exact ⟨_, by first | rfl | (simp [errW_none, errW_some] <;> rfl) | (simp [*, errW_none, errW_some] <;> rfl), by (with_reducible repeat (first | apply Kd.V_alloc | apply Kd.V_drewN | apply Kd.V_drew)); exact Kd.V_mono HL122_0.out (fun _ hk => hk.1), by repeat (first | (with_reducible first | exact HB.out | apply below_alloc | apply pw_below_drewN | apply below_drew1 | refine below_set ?_ GE121.out) | exact HB.out)⟩
     ·rw [if_neg c7] at H
      have c7b0 : (((rd_L1 l0_4 0).length : Int) == 0) = false := beq_eq_false_iff_ne.mpr c7
      have c7b1 : (((rd_L1 l0_4 0).length : Int) != 0) = true := bne_iff_ne.mpr c7
      have c7b2 : ¬ ((rd_L1 l0_4 0) = []) := fun h_ => c7 (by rw [h_]; rfl)
      obtain ⟨ji10, hji10⟩ : ∃ j_ : Int, (wrap64 (((rd_L1 l0_4 0).length : Int) - 1)) = j_ := ⟨_, rfl⟩
      replace H : (if 0 ≤ (ji10) then (if (ji10) < ((rd_L1 l0_4 0).length : Int) then (if 0 < (l0_5.length : Int) then (some (rd_L1 l0_4 0, decide ((rd (rd_L1 l0_4 0) (ji10)) < ((rd_T25 l0_5 0).f1)))) else (none)) else (none)) else (none)) = some (r1, r2) := by first | (rw [hji10] at H; exact H) | (simp only [hji10] at H ⊢; exact H)
      (try rw [hji10] at A5)
      have hji10w : (IntKind.i64.wrap (((rd_L1 l0_4 0).length : Int) - 1)) = ji10 := (i64_w _).trans hji10
      by_cases c11 : 0 ≤ (ji10)
      ·rw [if_pos c11] at H
       have c11b0 : decide (0 ≤ (ji10)) = true := decide_eq_true c11
       clear c11
       by_cases c12 : (ji10) < ((rd_L1 l0_4 0).length : Int)
       ·rw [if_pos c12] at H
        have c12b0 : decide ((ji10) < ((rd_L1 l0_4 0).length : Int)) = true := decide_eq_true c12
        clear c12
        by_cases c13 : 0 < (l0_5.length : Int)
        ·rw [if_pos c13] at H
         have c13b0 : decide (0 < (l0_5.length : Int)) = true := decide_eq_true c13
         have c13b1 : decide (0 < l0_5.length) = true := decide_eq_true (by omega)
         clear c13
         simp only [Option.some.injEq, Prod.mk.injEq] at H
         obtain ⟨rfl, rfl⟩ := H
         go_enter Tryd.func53, Tryd.ntmps53
         go_wp2_with (first | ((with_reducible refine gate_dst (N := 1) rfl ?_); (try (refine gate_guard (by rfl) ?_; dsimp only)); refine box_event ?hg (N := 1) ?hd (cs := #[.int .i64 a0_0, .int .i64 a0_1, .int .i64 a0_2, .int .i64 a0_3, .slice A0_4 l0_4.length c0_4, .slice A0_5 l0_5.length c0_5]) (t := 25) ?hr ?_; (case hd => rfl); (case hg => rfl); (case hr => first | (go_simp; done) | (go_simp; rfl)); intro gb121 hg w14 hbox hb; have n0_ := Aside0.mk (Kd.V_below (Kd.V_elderB (by (with_reducible repeat (first | apply Kd.V_alloc | apply Kd.V_drewN | apply Kd.V_drew)); exact HO0_4.out) gb121 (Nat.le_of_eq hg.symm)) hb); have n1_ := Aside0.mk (below_step (by repeat (first | (with_reducible first | exact HB.out | apply below_alloc | apply pw_below_drewN | apply below_drew1) | exact HB.out)) hb); have n2_ := Aside0.mk (hbox); have n3_ := Aside0.mk ((by rw [hg]; exact (below_size (by repeat (first | (with_reducible first | exact HB.out | apply below_alloc | apply pw_below_drewN | apply below_drew1) | exact HB.out))) : w.heap.size ≤ gb121)); have n4_ := Aside0.mk ((by rw [hg]; exact (below_size (by repeat (first | (with_reducible first | exact HB.out | apply below_alloc | apply pw_below_drewN | apply below_drew1) | exact HB.out))) : w.heap.size ≤ gb121)); clear HO0_4; clear HB; have HO0_4 := n0_; have HB := n1_; have BK121 := n2_; have GW121 := n3_; have GE121 := n4_; clear n0_ n1_ n2_ n3_ n4_; clear hb hbox hg; have hcz15_0 : w14.cell? ⟨gb121, 0, none⟩ = some (.int .i64 a0_0) := (blk_cell BK121.out 0).trans rfl; have hcz15_1 : w14.cell? ⟨gb121, 1, none⟩ = some (.int .i64 a0_1) := (blk_cell BK121.out 1).trans rfl; have hcz15_2 : w14.cell? ⟨gb121, 2, none⟩ = some (.int .i64 a0_2) := (blk_cell BK121.out 2).trans rfl; have hcz15_3 : w14.cell? ⟨gb121, 3, none⟩ = some (.int .i64 a0_3) := (blk_cell BK121.out 3).trans rfl; have hcz15_4 : w14.cell? ⟨gb121, 4, none⟩ = some (.slice A0_4 l0_4.length c0_4) := (blk_cell BK121.out 4).trans rfl; have hcz15_5 : w14.cell? ⟨gb121, 5, none⟩ = some (.slice A0_5 l0_5.length c0_5) := (blk_cell BK121.out 5).trans rfl; have hfz15_0 := blk_frozen BK121.out 0; have hfz15_1 := blk_frozen BK121.out 1; have hfz15_2 := blk_frozen BK121.out 2; have hfz15_3 := blk_frozen BK121.out 3; have hfz15_4 := blk_frozen BK121.out 4; have hfz15_5 := blk_frozen BK121.out 5; have p122 : 0 ≤ (0 : Int) := (by omega); have q122 : 0 < (l0_4.length : Int) := of_decide_eq_true (by first | (with_reducible assumption) | assumption); obtain ⟨ad122, A122_0, c122_0, e122, hx122_0, hl122_0, hi122_0⟩ := at_L1 (Kd.V_reads' HO0_4.out).2.2 0 p122 q122; cases e122; obtain ⟨ce122, hce122, hMe122, hcc122⟩ := Kd.V_get HO0_4.out [] 0 p122 (by first | exact q122 | exact of_decide_eq_true (by first | (with_reducible assumption) | assumption) | (have e_ := (Kd.V_reads' HO0_4.out).1; omega)); obtain ⟨ua122_0, uc122_0, rfl, ul122_0, ge122_0⟩ := Kd.FK_slice_open hMe122; have hv122_0 := hcc122 0 _ rfl; rw [Nat.add_zero, show ((Kd.slice 3 (Kd.int .i64))).sz = 1 from rfl, Nat.mul_one] at hv122_0; replace hv122_0 := Option.some.inj (hv122_0.symm.trans hx122_0); injection hv122_0 with hva_ hvn_ hvc_; rw [hva_] at ge122_0; rw [hvc_] at ul122_0; have HL122_0 := Aside0.mk (show Kd.V (Kd.int .i64) 3 _ w.heap.size _ _ (rd_L1 l0_4 0) from Kd.V_mk ul122_0 ge122_0); clear hva_ hvn_ hvc_ ge122_0 ul122_0; clear hcc122 hce122; have qi122 : (0 < l0_4.length) = True := eq_true (by omega); (try rw [show ((0 : Int)).toNat = 0 from rfl] at hx122_0); (try rw [Addr.add_zero'] at hx122_0); have HR122_0 := Aside0.mk hi122_0; have HC122_0 := Aside0.mk hl122_0; clear hi122_0 hl122_0; replace p122 := eq_true p122; replace q122 := eq_true q122) | (go_at_call 21; (with_reducible refine (set_May.calls k _ _ (rd_L1 l0_4 0) true _ ?side1 ?side2 A5.out).mono ?_); (case side1 => repeat (first | exact (by repeat (first | (with_reducible exact HR122_0.out) | (with_reducible refine Kd.C_alloc ?_ _) | (with_reducible refine Kd.C_drewN ?_ _) | (with_reducible refine Kd.C_drew ?_) | exact HR122_0.out)) | (with_reducible refine Kd.C_alloc ?_ _) | (with_reducible refine Kd.C_drewN ?_ _) | (with_reducible refine Kd.C_drew ?_))); (case side2 => exact HC122_0.out); rintro e w' ⟨rfl, ⟨nd, rfl⟩⟩; (try first | exact ⟨rfl, _, World.drewN_drewN _ _ _⟩ | exact ⟨rfl, _, Eq.trans (World.drewN_drewN _ _ _) (congrArg (World.drewN _) (Nat.add_assoc _ _ _))⟩); have p124 : 0 ≤ ((ji10) : Int) := of_decide_eq_true (by first | (with_reducible assumption) | assumption); have q124 : (ji10) < ((rd_L1 l0_4 0).length : Int) := of_decide_eq_true (by first | (with_reducible assumption) | assumption); obtain ⟨ad124, e124, hx124_0⟩ := Kd.at_int (by repeat (first | (with_reducible exact HR122_0.out) | (with_reducible refine Kd.C_alloc ?_ _) | (with_reducible refine Kd.C_drewN ?_ _) | (with_reducible refine Kd.C_drew ?_) | exact HR122_0.out)) (ji10) p124 q124; cases e124; replace p124 := eq_true p124; replace q124 := eq_true q124; have p125 : 0 ≤ (0 : Int) := (by omega); have q125 : 0 < (l0_5.length : Int) := of_decide_eq_true (by first | (with_reducible assumption) | assumption); obtain ⟨ad125, A125_4, c125_4, A125_5, c125_5, e125, hx125_0, hx125_1, hx125_2, hx125_3, hx125_4, hx125_5, hl125_4, hi125_4, hl125_5, hi125_5⟩ := at_T25 HR0_5.out 0 p125 q125; cases e125; have qi125 : (0 < l0_5.length) = True := eq_true (by omega); (try rw [show ((0 : Int)).toNat = 0 from rfl] at hx125_0); (try rw [show 0 * 6 = 0 from rfl] at hx125_0); (try rw [Addr.add_zero'] at hx125_0); (try rw [show ((0 : Int)).toNat = 0 from rfl] at hx125_1); (try rw [show 0 * 6 = 0 from rfl] at hx125_1); (try rw [Addr.add_zero'] at hx125_1); (try rw [show ((0 : Int)).toNat = 0 from rfl] at hx125_2); (try rw [show 0 * 6 = 0 from rfl] at hx125_2); (try rw [Addr.add_zero'] at hx125_2); (try rw [show ((0 : Int)).toNat = 0 from rfl] at hx125_3); (try rw [show 0 * 6 = 0 from rfl] at hx125_3); (try rw [Addr.add_zero'] at hx125_3); (try rw [show ((0 : Int)).toNat = 0 from rfl] at hx125_4); (try rw [show 0 * 6 = 0 from rfl] at hx125_4); (try rw [Addr.add_zero'] at hx125_4); (try rw [show ((0 : Int)).toNat = 0 from rfl] at hx125_5); (try rw [show 0 * 6 = 0 from rfl] at hx125_5); (try rw [Addr.add_zero'] at hx125_5); replace hx125_0 := (HB.out.cell (World.block_lt_of_cell? w _ hx125_0)).trans hx125_0; replace hx125_1 := (HB.out.cell (World.block_lt_of_cell? w _ hx125_1)).trans hx125_1; replace hx125_2 := (HB.out.cell (World.block_lt_of_cell? w _ hx125_2)).trans hx125_2; replace hx125_3 := (HB.out.cell (World.block_lt_of_cell? w _ hx125_3)).trans hx125_3; replace hx125_4 := (HB.out.cell (World.block_lt_of_cell? w _ hx125_4)).trans hx125_4; replace hx125_5 := (HB.out.cell (World.block_lt_of_cell? w _ hx125_5)).trans hx125_5; have HR125_4 := Aside0.mk hi125_4; have HC125_4 := Aside0.mk hl125_4; clear hi125_4 hl125_4; have HR125_5 := Aside0.mk hi125_5; have HC125_5 := Aside0.mk hl125_5; clear hi125_5 hl125_5; replace p125 := eq_true p125; replace q125 := eq_true q125))
         repeat (go_quiet (first | ((with_reducible refine gate_dst (N := 1) rfl ?_); (try (refine gate_guard (by rfl) ?_; dsimp only)); refine box_event ?hg (N := 1) ?hd (cs := #[.int .i64 a0_0, .int .i64 a0_1, .int .i64 a0_2, .int .i64 a0_3, .slice A0_4 l0_4.length c0_4, .slice A0_5 l0_5.length c0_5]) (t := 25) ?hr ?_; (case hd => rfl); (case hg => rfl); (case hr => first | (go_simp; done) | (go_simp; rfl)); intro gb121 hg w14 hbox hb; have n0_ := Aside0.mk (Kd.V_below (Kd.V_elderB (by (with_reducible repeat (first | apply Kd.V_alloc | apply Kd.V_drewN | apply Kd.V_drew)); exact HO0_4.out) gb121 (Nat.le_of_eq hg.symm)) hb); have n1_ := Aside0.mk (below_step (by repeat (first | (with_reducible first | exact HB.out | apply below_alloc | apply pw_below_drewN | apply below_drew1) | exact HB.out)) hb); have n2_ := Aside0.mk (hbox); have n3_ := Aside0.mk ((by rw [hg]; exact (below_size (by repeat (first | (with_reducible first | exact HB.out | apply below_alloc | apply pw_below_drewN | apply below_drew1) | exact HB.out))) : w.heap.size ≤ gb121)); have n4_ := Aside0.mk ((by rw [hg]; exact (below_size (by repeat (first | (with_reducible first | exact HB.out | apply below_alloc | apply pw_below_drewN | apply below_drew1) | exact HB.out))) : w.heap.size ≤ gb121)); clear HO0_4; clear HB; have HO0_4 := n0_; have HB := n1_; have BK121 := n2_; have GW121 := n3_; have GE121 := n4_; clear n0_ n1_ n2_ n3_ n4_; clear hb hbox hg; have hcz15_0 : w14.cell? ⟨gb121, 0, none⟩ = some (.int .i64 a0_0) := (blk_cell BK121.out 0).trans rfl; have hcz15_1 : w14.cell? ⟨gb121, 1, none⟩ = some (.int .i64 a0_1) := (blk_cell BK121.out 1).trans rfl; have hcz15_2 : w14.cell? ⟨gb121, 2, none⟩ = some (.int .i64 a0_2) := (blk_cell BK121.out 2).trans rfl; have hcz15_3 : w14.cell? ⟨gb121, 3, none⟩ = some (.int .i64 a0_3) := (blk_cell BK121.out 3).trans rfl; have hcz15_4 : w14.cell? ⟨gb121, 4, none⟩ = some (.slice A0_4 l0_4.length c0_4) := (blk_cell BK121.out 4).trans rfl; have hcz15_5 : w14.cell? ⟨gb121, 5, none⟩ = some (.slice A0_5 l0_5.length c0_5) := (blk_cell BK121.out 5).trans rfl; have hfz15_0 := blk_frozen BK121.out 0; have hfz15_1 := blk_frozen BK121.out 1; have hfz15_2 := blk_frozen BK121.out 2; have hfz15_3 := blk_frozen BK121.out 3; have hfz15_4 := blk_frozen BK121.out 4; have hfz15_5 := blk_frozen BK121.out 5; have p122 : 0 ≤ (0 : Int) := (by omega); have q122 : 0 < (l0_4.length : Int) := of_decide_eq_true (by first | (with_reducible assumption) | assumption); obtain ⟨ad122, A122_0, c122_0, e122, hx122_0, hl122_0, hi122_0⟩ := at_L1 (Kd.V_reads' HO0_4.out).2.2 0 p122 q122; cases e122; obtain ⟨ce122, hce122, hMe122, hcc122⟩ := Kd.V_get HO0_4.out [] 0 p122 (by first | exact q122 | exact of_decide_eq_true (by first | (with_reducible assumption) | assumption) | (have e_ := (Kd.V_reads' HO0_4.out).1; omega)); obtain ⟨ua122_0, uc122_0, rfl, ul122_0, ge122_0⟩ := Kd.FK_slice_open hMe122; have hv122_0 := hcc122 0 _ rfl; rw [Nat.add_zero, show ((Kd.slice 3 (Kd.int .i64))).sz = 1 from rfl, Nat.mul_one] at hv122_0; replace hv122_0 := Option.some.inj (hv122_0.symm.trans hx122_0); injection hv122_0 with hva_ hvn_ hvc_; rw [hva_] at ge122_0; rw [hvc_] at ul122_0; have HL122_0 := Aside0.mk (show Kd.V (Kd.int .i64) 3 _ w.heap.size _ _ (rd_L1 l0_4 0) from Kd.V_mk ul122_0 ge122_0); clear hva_ hvn_ hvc_ ge122_0 ul122_0; clear hcc122 hce122; have qi122 : (0 < l0_4.length) = True := eq_true (by omega); (try rw [show ((0 : Int)).toNat = 0 from rfl] at hx122_0); (try rw [Addr.add_zero'] at hx122_0); have HR122_0 := Aside0.mk hi122_0; have HC122_0 := Aside0.mk hl122_0; clear hi122_0 hl122_0; replace p122 := eq_true p122; replace q122 := eq_true q122) | (go_at_call 21; (with_reducible refine (set_May.calls k _ _ (rd_L1 l0_4 0) true _ ?side1 ?side2 A5.out).mono ?_); (case side1 => repeat (first | exact (by repeat (first | (with_reducible exact HR122_0.out) | (with_reducible refine Kd.C_alloc ?_ _) | (with_reducible refine Kd.C_drewN ?_ _) | (with_reducible refine Kd.C_drew ?_) | exact HR122_0.out)) | (with_reducible refine Kd.C_alloc ?_ _) | (with_reducible refine Kd.C_drewN ?_ _) | (with_reducible refine Kd.C_drew ?_))); (case side2 => exact HC122_0.out); rintro e w' ⟨rfl, ⟨nd, rfl⟩⟩; (try first | exact ⟨rfl, _, World.drewN_drewN _ _ _⟩ | exact ⟨rfl, _, Eq.trans (World.drewN_drewN _ _ _) (congrArg (World.drewN _) (Nat.add_assoc _ _ _))⟩); have p124 : 0 ≤ ((ji10) : Int) := of_decide_eq_true (by first | (with_reducible assumption) | assumption); have q124 : (ji10) < ((rd_L1 l0_4 0).length : Int) := of_decide_eq_true (by first | (with_reducible assumption) | assumption); obtain ⟨ad124, e124, hx124_0⟩ := Kd.at_int (by repeat (first | (with_reducible exact HR122_0.out) | (with_reducible refine Kd.C_alloc ?_ _) | (with_reducible refine Kd.C_drewN ?_ _) | (with_reducible refine Kd.C_drew ?_) | exact HR122_0.out)) (ji10) p124 q124; cases e124; replace p124 := eq_true p124; replace q124 := eq_true q124; have p125 : 0 ≤ (0 : Int) := (by omega); have q125 : 0 < (l0_5.length : Int) := of_decide_eq_true (by first | (with_reducible assumption) | assumption); obtain ⟨ad125, A125_4, c125_4, A125_5, c125_5, e125, hx125_0, hx125_1, hx125_2, hx125_3, hx125_4, hx125_5, hl125_4, hi125_4, hl125_5, hi125_5⟩ := at_T25 HR0_5.out 0 p125 q125; cases e125; have qi125 : (0 < l0_5.length) = True := eq_true (by omega); (try rw [show ((0 : Int)).toNat = 0 from rfl] at hx125_0); (try rw [show 0 * 6 = 0 from rfl] at hx125_0); (try rw [Addr.add_zero'] at hx125_0); (try rw [show ((0 : Int)).toNat = 0 from rfl] at hx125_1); (try rw [show 0 * 6 = 0 from rfl] at hx125_1); (try rw [Addr.add_zero'] at hx125_1); (try rw [show ((0 : Int)).toNat = 0 from rfl] at hx125_2); (try rw [show 0 * 6 = 0 from rfl] at hx125_2); (try rw [Addr.add_zero'] at hx125_2); (try rw [show ((0 : Int)).toNat = 0 from rfl] at hx125_3); (try rw [show 0 * 6 = 0 from rfl] at hx125_3); (try rw [Addr.add_zero'] at hx125_3); (try rw [show ((0 : Int)).toNat = 0 from rfl] at hx125_4); (try rw [show 0 * 6 = 0 from rfl] at hx125_4); (try rw [Addr.add_zero'] at hx125_4); (try rw [show ((0 : Int)).toNat = 0 from rfl] at hx125_5); (try rw [show 0 * 6 = 0 from rfl] at hx125_5); (try rw [Addr.add_zero'] at hx125_5); replace hx125_0 := (HB.out.cell (World.block_lt_of_cell? w _ hx125_0)).trans hx125_0; replace hx125_1 := (HB.out.cell (World.block_lt_of_cell? w _ hx125_1)).trans hx125_1; replace hx125_2 := (HB.out.cell (World.block_lt_of_cell? w _ hx125_2)).trans hx125_2; replace hx125_3 := (HB.out.cell (World.block_lt_of_cell? w _ hx125_3)).trans hx125_3; replace hx125_4 := (HB.out.cell (World.block_lt_of_cell? w _ hx125_4)).trans hx125_4; replace hx125_5 := (HB.out.cell (World.block_lt_of_cell? w _ hx125_5)).trans hx125_5; have HR125_4 := Aside0.mk hi125_4; have HC125_4 := Aside0.mk hl125_4; clear hi125_4 hl125_4; have HR125_5 := Aside0.mk hi125_5; have HC125_5 := Aside0.mk hl125_5; clear hi125_5 hl125_5; replace p125 := eq_true p125; replace q125 := eq_true q125)); try go_wp2_with (first | ((with_reducible refine gate_dst (N := 1) rfl ?_); (try (refine gate_guard (by rfl) ?_; dsimp only)); refine box_event ?hg (N := 1) ?hd (cs := #[.int .i64 a0_0, .int .i64 a0_1, .int .i64 a0_2, .int .i64 a0_3, .slice A0_4 l0_4.length c0_4, .slice A0_5 l0_5.length c0_5]) (t := 25) ?hr ?_; (case hd => rfl); (case hg => rfl); (case hr => first | (go_simp; done) | (go_simp; rfl)); intro gb121 hg w14 hbox hb; have n0_ := Aside0.mk (Kd.V_below (Kd.V_elderB (by (with_reducible repeat (first | apply Kd.V_alloc | apply Kd.V_drewN | apply Kd.V_drew)); exact HO0_4.out) gb121 (Nat.le_of_eq hg.symm)) hb); have n1_ := Aside0.mk (below_step (by repeat (first | (with_reducible first | exact HB.out | apply below_alloc | apply pw_below_drewN | apply below_drew1) | exact HB.out)) hb); have n2_ := Aside0.mk (hbox); have n3_ := Aside0.mk ((by rw [hg]; exact (below_size (by repeat (first | (with_reducible first | exact HB.out | apply below_alloc | apply pw_below_drewN | apply below_drew1) | exact HB.out))) : w.heap.size ≤ gb121)); have n4_ := Aside0.mk ((by rw [hg]; exact (below_size (by repeat (first | (with_reducible first | exact HB.out | apply below_alloc | apply pw_below_drewN | apply below_drew1) | exact HB.out))) : w.heap.size ≤ gb121)); clear HO0_4; clear HB; have HO0_4 := n0_; have HB := n1_; have BK121 := n2_; have GW121 := n3_; have GE121 := n4_; clear n0_ n1_ n2_ n3_ n4_; clear hb hbox hg; have hcz15_0 : w14.cell? ⟨gb121, 0, none⟩ = some (.int .i64 a0_0) := (blk_cell BK121.out 0).trans rfl; have hcz15_1 : w14.cell? ⟨gb121, 1, none⟩ = some (.int .i64 a0_1) := (blk_cell BK121.out 1).trans rfl; have hcz15_2 : w14.cell? ⟨gb121, 2, none⟩ = some (.int .i64 a0_2) := (blk_cell BK121.out 2).trans rfl; have hcz15_3 : w14.cell? ⟨gb121, 3, none⟩ = some (.int .i64 a0_3) := (blk_cell BK121.out 3).trans rfl; have hcz15_4 : w14.cell? ⟨gb121, 4, none⟩ = some (.slice A0_4 l0_4.length c0_4) := (blk_cell BK121.out 4).trans rfl; have hcz15_5 : w14.cell? ⟨gb121, 5, none⟩ = some (.slice A0_5 l0_5.length c0_5) := (blk_cell BK121.out 5).trans rfl; have hfz15_0 := blk_frozen BK121.out 0; have hfz15_1 := blk_frozen BK121.out 1; have hfz15_2 := blk_frozen BK121.out 2; have hfz15_3 := blk_frozen BK121.out 3; have hfz15_4 := blk_frozen BK121.out 4; have hfz15_5 := blk_frozen BK121.out 5; have p122 : 0 ≤ (0 : Int) := (by omega); have q122 : 0 < (l0_4.length : Int) := of_decide_eq_true (by first | (with_reducible assumption) | assumption); obtain ⟨ad122, A122_0, c122_0, e122, hx122_0, hl122_0, hi122_0⟩ := at_L1 (Kd.V_reads' HO0_4.out).2.2 0 p122 q122; cases e122; obtain ⟨ce122, hce122, hMe122, hcc122⟩ := Kd.V_get HO0_4.out [] 0 p122 (by first | exact q122 | exact of_decide_eq_true (by first | (with_reducible assumption) | assumption) | (have e_ := (Kd.V_reads' HO0_4.out).1; omega)); obtain ⟨ua122_0, uc122_0, rfl, ul122_0, ge122_0⟩ := Kd.FK_slice_open hMe122; have hv122_0 := hcc122 0 _ rfl; rw [Nat.add_zero, show ((Kd.slice 3 (Kd.int .i64))).sz = 1 from rfl, Nat.mul_one] at hv122_0; replace hv122_0 := Option.some.inj (hv122_0.symm.trans hx122_0); injection hv122_0 with hva_ hvn_ hvc_; rw [hva_] at ge122_0; rw [hvc_] at ul122_0; have HL122_0 := Aside0.mk (show Kd.V (Kd.int .i64) 3 _ w.heap.size _ _ (rd_L1 l0_4 0) from Kd.V_mk ul122_0 ge122_0); clear hva_ hvn_ hvc_ ge122_0 ul122_0; clear hcc122 hce122; have qi122 : (0 < l0_4.length) = True := eq_true (by omega); (try rw [show ((0 : Int)).toNat = 0 from rfl] at hx122_0); (try rw [Addr.add_zero'] at hx122_0); have HR122_0 := Aside0.mk hi122_0; have HC122_0 := Aside0.mk hl122_0; clear hi122_0 hl122_0; replace p122 := eq_true p122; replace q122 := eq_true q122) | (go_at_call 21; (with_reducible refine (set_May.calls k _ _ (rd_L1 l0_4 0) true _ ?side1 ?side2 A5.out).mono ?_); (case side1 => repeat (first | exact (by repeat (first | (with_reducible exact HR122_0.out) | (with_reducible refine Kd.C_alloc ?_ _) | (with_reducible refine Kd.C_drewN ?_ _) | (with_reducible refine Kd.C_drew ?_) | exact HR122_0.out)) | (with_reducible refine Kd.C_alloc ?_ _) | (with_reducible refine Kd.C_drewN ?_ _) | (with_reducible refine Kd.C_drew ?_))); (case side2 => exact HC122_0.out); rintro e w' ⟨rfl, ⟨nd, rfl⟩⟩; (try first | exact ⟨rfl, _, World.drewN_drewN _ _ _⟩ | exact ⟨rfl, _, Eq.trans (World.drewN_drewN _ _ _) (congrArg (World.drewN _) (Nat.add_assoc _ _ _))⟩); have p124 : 0 ≤ ((ji10) : Int) := of_decide_eq_true (by first | (with_reducible assumption) | assumption); have q124 : (ji10) < ((rd_L1 l0_4 0).length : Int) := of_decide_eq_true (by first | (with_reducible assumption) | assumption); obtain ⟨ad124, e124, hx124_0⟩ := Kd.at_int (by repeat (first | (with_reducible exact HR122_0.out) | (with_reducible refine Kd.C_alloc ?_ _) | (with_reducible refine Kd.C_drewN ?_ _) | (with_reducible refine Kd.C_drew ?_) | exact HR122_0.out)) (ji10) p124 q124; cases e124; replace p124 := eq_true p124; replace q124 := eq_true q124; have p125 : 0 ≤ (0 : Int) := (by omega); have q125 : 0 < (l0_5.length : Int) := of_decide_eq_true (by first | (with_reducible assumption) | assumption); obtain ⟨ad125, A125_4, c125_4, A125_5, c125_5, e125, hx125_0, hx125_1, hx125_2, hx125_3, hx125_4, hx125_5, hl125_4, hi125_4, hl125_5, hi125_5⟩ := at_T25 HR0_5.out 0 p125 q125; cases e125; have qi125 : (0 < l0_5.length) = True := eq_true (by omega); (try rw [show ((0 : Int)).toNat = 0 from rfl] at hx125_0); (try rw [show 0 * 6 = 0 from rfl] at hx125_0); (try rw [Addr.add_zero'] at hx125_0); (try rw [show ((0 : Int)).toNat = 0 from rfl] at hx125_1); (try rw [show 0 * 6 = 0 from rfl] at hx125_1); (try rw [Addr.add_zero'] at hx125_1); (try rw [show ((0 : Int)).toNat = 0 from rfl] at hx125_2); (try rw [show 0 * 6 = 0 from rfl] at hx125_2); (try rw [Addr.add_zero'] at hx125_2); (try rw [show ((0 : Int)).toNat = 0 from rfl] at hx125_3); (try rw [show 0 * 6 = 0 from rfl] at hx125_3); (try rw [Addr.add_zero'] at hx125_3); (try rw [show ((0 : Int)).toNat = 0 from rfl] at hx125_4); (try rw [show 0 * 6 = 0 from rfl] at hx125_4); (try rw [Addr.add_zero'] at hx125_4); (try rw [show ((0 : Int)).toNat = 0 from rfl] at hx125_5); (try rw [show 0 * 6 = 0 from rfl] at hx125_5); (try rw [Addr.add_zero'] at hx125_5); replace hx125_0 := (HB.out.cell (World.block_lt_of_cell? w _ hx125_0)).trans hx125_0; replace hx125_1 := (HB.out.cell (World.block_lt_of_cell? w _ hx125_1)).trans hx125_1; replace hx125_2 := (HB.out.cell (World.block_lt_of_cell? w _ hx125_2)).trans hx125_2; replace hx125_3 := (HB.out.cell (World.block_lt_of_cell? w _ hx125_3)).trans hx125_3; replace hx125_4 := (HB.out.cell (World.block_lt_of_cell? w _ hx125_4)).trans hx125_4; replace hx125_5 := (HB.out.cell (World.block_lt_of_cell? w _ hx125_5)).trans hx125_5; have HR125_4 := Aside0.mk hi125_4; have HC125_4 := Aside0.mk hl125_4; clear hi125_4 hl125_4; have HR125_5 := Aside0.mk hi125_5; have HC125_5 := Aside0.mk hl125_5; clear hi125_5 hl125_5; replace p125 := eq_true p125; replace q125 := eq_true q125)))
         go_ret2
         exact ⟨_, by first | rfl | (simp [errW_none, errW_some] <;> rfl) | (simp only [← hji10]; first | rfl | (simp [errW_none, errW_some] <;> rfl)) | (simp [*, errW_none, errW_some] <;> rfl), by (with_reducible repeat (first | apply Kd.V_alloc | apply Kd.V_drewN | apply Kd.V_drew)); exact Kd.V_mono HL122_0.out (fun _ hk => hk.1), by repeat (first | (with_reducible first | exact HB.out | apply below_alloc | apply pw_below_drewN | apply below_drew1 | refine below_set ?_ GE121.out) | exact HB.out)⟩
        ·rw [if_neg c13] at H
         exact absurd H (by simp)
       ·rw [if_neg c12] at H
        exact absurd H (by simp)
      ·rw [if_neg c11] at H
       exact absurd H (by simp)
    ·replace c6 := Bool.eq_false_iff.mpr c6
     subst c6
     have H1 : (some (rd_L1 l0_4 0, false)) = some (r1, r2) := by rw [if_neg (show ¬ (false = true) by decide)] at H; exact H
     clear H
     have H := H1
     clear H1
     simp only [Option.some.injEq, Prod.mk.injEq] at H
     obtain ⟨rfl, rfl⟩ := H
     go_enter Tryd.func53, Tryd.ntmps53
     go_wp2_with (first | ((with_reducible refine gate_dst (N := 1) rfl ?_); (try (refine gate_guard (by rfl) ?_; dsimp only)); refine box_event ?hg (N := 1) ?hd (cs := #[.int .i64 a0_0, .int .i64 a0_1, .int .i64 a0_2, .int .i64 a0_3, .slice A0_4 l0_4.length c0_4, .slice A0_5 l0_5.length c0_5]) (t := 25) ?hr ?_; (case hd => rfl); (case hg => rfl); (case hr => first | (go_simp; done) | (go_simp; rfl)); intro gb121 hg w16 hbox hb; have n0_ := Aside0.mk (Kd.V_below (Kd.V_elderB (by (with_reducible repeat (first | apply Kd.V_alloc | apply Kd.V_drewN | apply Kd.V_drew)); exact HO0_4.out) gb121 (Nat.le_of_eq hg.symm)) hb); have n1_ := Aside0.mk (below_step (by repeat (first | (with_reducible first | exact HB.out | apply below_alloc | apply pw_below_drewN | apply below_drew1) | exact HB.out)) hb); have n2_ := Aside0.mk (hbox); have n3_ := Aside0.mk ((by rw [hg]; exact (below_size (by repeat (first | (with_reducible first | exact HB.out | apply below_alloc | apply pw_below_drewN | apply below_drew1) | exact HB.out))) : w.heap.size ≤ gb121)); have n4_ := Aside0.mk ((by rw [hg]; exact (below_size (by repeat (first | (with_reducible first | exact HB.out | apply below_alloc | apply pw_below_drewN | apply below_drew1) | exact HB.out))) : w.heap.size ≤ gb121)); clear HO0_4; clear HB; have HO0_4 := n0_; have HB := n1_; have BK121 := n2_; have GW121 := n3_; have GE121 := n4_; clear n0_ n1_ n2_ n3_ n4_; clear hb hbox hg; have hcz17_0 : w16.cell? ⟨gb121, 0, none⟩ = some (.int .i64 a0_0) := (blk_cell BK121.out 0).trans rfl; have hcz17_1 : w16.cell? ⟨gb121, 1, none⟩ = some (.int .i64 a0_1) := (blk_cell BK121.out 1).trans rfl; have hcz17_2 : w16.cell? ⟨gb121, 2, none⟩ = some (.int .i64 a0_2) := (blk_cell BK121.out 2).trans rfl; have hcz17_3 : w16.cell? ⟨gb121, 3, none⟩ = some (.int .i64 a0_3) := (blk_cell BK121.out 3).trans rfl; have hcz17_4 : w16.cell? ⟨gb121, 4, none⟩ = some (.slice A0_4 l0_4.length c0_4) := (blk_cell BK121.out 4).trans rfl; have hcz17_5 : w16.cell? ⟨gb121, 5, none⟩ = some (.slice A0_5 l0_5.length c0_5) := (blk_cell BK121.out 5).trans rfl; have hfz17_0 := blk_frozen BK121.out 0; have hfz17_1 := blk_frozen BK121.out 1; have hfz17_2 := blk_frozen BK121.out 2; have hfz17_3 := blk_frozen BK121.out 3; have hfz17_4 := blk_frozen BK121.out 4; have hfz17_5 := blk_frozen BK121.out 5; have p122 : 0 ≤ (0 : Int) := (by omega); have q122 : 0 < (l0_4.length : Int) := of_decide_eq_true (by first | (with_reducible assumption) | assumption); obtain ⟨ad122, A122_0, c122_0, e122, hx122_0, hl122_0, hi122_0⟩ := at_L1 (Kd.V_reads' HO0_4.out).2.2 0 p122 q122; cases e122; obtain ⟨ce122, hce122, hMe122, hcc122⟩ := Kd.V_get HO0_4.out [] 0 p122 (by first | exact q122 | exact of_decide_eq_true (by first | (with_reducible assumption) | assumption) | (have e_ := (Kd.V_reads' HO0_4.out).1; omega)); obtain ⟨ua122_0, uc122_0, rfl, ul122_0, ge122_0⟩ := Kd.FK_slice_open hMe122; have hv122_0 := hcc122 0 _ rfl; rw [Nat.add_zero, show ((Kd.slice 3 (Kd.int .i64))).sz = 1 from rfl, Nat.mul_one] at hv122_0; replace hv122_0 := Option.some.inj (hv122_0.symm.trans hx122_0); injection hv122_0 with hva_ hvn_ hvc_; rw [hva_] at ge122_0; rw [hvc_] at ul122_0; have HL122_0 := Aside0.mk (show Kd.V (Kd.int .i64) 3 _ w.heap.size _ _ (rd_L1 l0_4 0) from Kd.V_mk ul122_0 ge122_0); clear hva_ hvn_ hvc_ ge122_0 ul122_0; clear hcc122 hce122; have qi122 : (0 < l0_4.length) = True := eq_true (by omega); (try rw [show ((0 : Int)).toNat = 0 from rfl] at hx122_0); (try rw [Addr.add_zero'] at hx122_0); have HR122_0 := Aside0.mk hi122_0; have HC122_0 := Aside0.mk hl122_0; clear hi122_0 hl122_0; replace p122 := eq_true p122; replace q122 := eq_true q122) | (go_at_call 21; (with_reducible refine (set_May.calls k _ _ (rd_L1 l0_4 0) false _ ?side1 ?side2 A5.out).mono ?_); (case side1 => repeat (first | exact (by repeat (first | (with_reducible exact HR122_0.out) | (with_reducible refine Kd.C_alloc ?_ _) | (with_reducible refine Kd.C_drewN ?_ _) | (with_reducible refine Kd.C_drew ?_) | exact HR122_0.out)) | (with_reducible refine Kd.C_alloc ?_ _) | (with_reducible refine Kd.C_drewN ?_ _) | (with_reducible refine Kd.C_drew ?_))); (case side2 => exact HC122_0.out); rintro e w' ⟨rfl, ⟨nd, rfl⟩⟩; (try first | exact ⟨rfl, _, World.drewN_drewN _ _ _⟩ | exact ⟨rfl, _, Eq.trans (World.drewN_drewN _ _ _) (congrArg (World.drewN _) (Nat.add_assoc _ _ _))⟩)))
     repeat (go_quiet (first | ((with_reducible refine gate_dst (N := 1) rfl ?_); (try (refine gate_guard (by rfl) ?_; dsimp only)); refine box_event ?hg (N := 1) ?hd (cs := #[.int .i64 a0_0, .int .i64 a0_1, .int .i64 a0_2, .int .i64 a0_3, .slice A0_4 l0_4.length c0_4, .slice A0_5 l0_5.length c0_5]) (t := 25) ?hr ?_; (case hd => rfl); (case hg => rfl); (case hr => first | (go_simp; done) | (go_simp; rfl)); intro gb121 hg w16 hbox hb; have n0_ := Aside0.mk (Kd.V_below (Kd.V_elderB (by (with_reducible repeat (first | apply Kd.V_alloc | apply Kd.V_drewN | apply Kd.V_drew)); exact HO0_4.out) gb121 (Nat.le_of_eq hg.symm)) hb); have n1_ := Aside0.mk (below_step (by repeat (first | (with_reducible first | exact HB.out | apply below_alloc | apply pw_below_drewN | apply below_drew1) | exact HB.out)) hb); have n2_ := Aside0.mk (hbox); have n3_ := Aside0.mk ((by rw [hg]; exact (below_size (by repeat (first | (with_reducible first | exact HB.out | apply below_alloc | apply pw_below_drewN | apply below_drew1) | exact HB.out))) : w.heap.size ≤ gb121)); have n4_ := Aside0.mk ((by rw [hg]; exact (below_size (by repeat (first | (with_reducible first | exact HB.out | apply below_alloc | apply pw_below_drewN | apply below_drew1) | exact HB.out))) : w.heap.size ≤ gb121)); clear HO0_4; clear HB; have HO0_4 := n0_; have HB := n1_; have BK121 := n2_; have GW121 := n3_; have GE121 := n4_; clear n0_ n1_ n2_ n3_ n4_; clear hb hbox hg; have hcz17_0 : w16.cell? ⟨gb121, 0, none⟩ = some (.int .i64 a0_0) := (blk_cell BK121.out 0).trans rfl; have hcz17_1 : w16.cell? ⟨gb121, 1, none⟩ = some (.int .i64 a0_1) := (blk_cell BK121.out 1).trans rfl; have hcz17_2 : w16.cell? ⟨gb121, 2, none⟩ = some (.int .i64 a0_2) := (blk_cell BK121.out 2).trans rfl; have hcz17_3 : w16.cell? ⟨gb121, 3, none⟩ = some (.int .i64 a0_3) := (blk_cell BK121.out 3).trans rfl; have hcz17_4 : w16.cell? ⟨gb121, 4, none⟩ = some (.slice A0_4 l0_4.length c0_4) := (blk_cell BK121.out 4).trans rfl; have hcz17_5 : w16.cell? ⟨gb121, 5, none⟩ = some (.slice A0_5 l0_5.length c0_5) := (blk_cell BK121.out 5).trans rfl; have hfz17_0 := blk_frozen BK121.out 0; have hfz17_1 := blk_frozen BK121.out 1; have hfz17_2 := blk_frozen BK121.out 2; have hfz17_3 := blk_frozen BK121.out 3; have hfz17_4 := blk_frozen BK121.out 4; have hfz17_5 := blk_frozen BK121.out 5; have p122 : 0 ≤ (0 : Int) := (by omega); have q122 : 0 < (l0_4.length : Int) := of_decide_eq_true (by first | (with_reducible assumption) | assumption); obtain ⟨ad122, A122_0, c122_0, e122, hx122_0, hl122_0, hi122_0⟩ := at_L1 (Kd.V_reads' HO0_4.out).2.2 0 p122 q122; cases e122; obtain ⟨ce122, hce122, hMe122, hcc122⟩ := Kd.V_get HO0_4.out [] 0 p122 (by first | exact q122 | exact of_decide_eq_true (by first | (with_reducible assumption) | assumption) | (have e_ := (Kd.V_reads' HO0_4.out).1; omega)); obtain ⟨ua122_0, uc122_0, rfl, ul122_0, ge122_0⟩ := Kd.FK_slice_open hMe122; have hv122_0 := hcc122 0 _ rfl; rw [Nat.add_zero, show ((Kd.slice 3 (Kd.int .i64))).sz = 1 from rfl, Nat.mul_one] at hv122_0; replace hv122_0 := Option.some.inj (hv122_0.symm.trans hx122_0); injection hv122_0 with hva_ hvn_ hvc_; rw [hva_] at ge122_0; rw [hvc_] at ul122_0; have HL122_0 := Aside0.mk (show Kd.V (Kd.int .i64) 3 _ w.heap.size _ _ (rd_L1 l0_4 0) from Kd.V_mk ul122_0 ge122_0); clear hva_ hvn_ hvc_ ge122_0 ul122_0; clear hcc122 hce122; have qi122 : (0 < l0_4.length) = True := eq_true (by omega); (try rw [show ((0 : Int)).toNat = 0 from rfl] at hx122_0); (try rw [Addr.add_zero'] at hx122_0); have HR122_0 := Aside0.mk hi122_0; have HC122_0 := Aside0.mk hl122_0; clear hi122_0 hl122_0; replace p122 := eq_true p122; replace q122 := eq_true q122) | (go_at_call 21; (with_reducible refine (set_May.calls k _ _ (rd_L1 l0_4 0) false _ ?side1 ?side2 A5.out).mono ?_); (case side1 => repeat (first | exact (by repeat (first | (with_reducible exact HR122_0.out) | (with_reducible refine Kd.C_alloc ?_ _) | (with_reducible refine Kd.C_drewN ?_ _) | (with_reducible refine Kd.C_drew ?_) | exact HR122_0.out)) | (with_reducible refine Kd.C_alloc ?_ _) | (with_reducible refine Kd.C_drewN ?_ _) | (with_reducible refine Kd.C_drew ?_))); (case side2 => exact HC122_0.out); rintro e w' ⟨rfl, ⟨nd, rfl⟩⟩; (try first | exact ⟨rfl, _, World.drewN_drewN _ _ _⟩ | exact ⟨rfl, _, Eq.trans (World.drewN_drewN _ _ _) (congrArg (World.drewN _) (Nat.add_assoc _ _ _))⟩))); try go_wp2_with (first | ((with_reducible refine gate_dst (N := 1) rfl ?_); (try (refine gate_guard (by rfl) ?_; dsimp only)); refine box_event ?hg (N := 1) ?hd (cs := #[.int .i64 a0_0, .int .i64 a0_1, .int .i64 a0_2, .int .i64 a0_3, .slice A0_4 l0_4.length c0_4, .slice A0_5 l0_5.length c0_5]) (t := 25) ?hr ?_; (case hd => rfl); (case hg => rfl); (case hr => first | (go_simp; done) | (go_simp; rfl)); intro gb121 hg w16 hbox hb; have n0_ := Aside0.mk (Kd.V_below (Kd.V_elderB (by (with_reducible repeat (first | apply Kd.V_alloc | apply Kd.V_drewN | apply Kd.V_drew)); exact HO0_4.out) gb121 (Nat.le_of_eq hg.symm)) hb); have n1_ := Aside0.mk (below_step (by repeat (first | (with_reducible first | exact HB.out | apply below_alloc | apply pw_below_drewN | apply below_drew1) | exact HB.out)) hb); have n2_ := Aside0.mk (hbox); have n3_ := Aside0.mk ((by rw [hg]; exact (below_size (by repeat (first | (with_reducible first | exact HB.out | apply below_alloc | apply pw_below_drewN | apply below_drew1) | exact HB.out))) : w.heap.size ≤ gb121)); have n4_ := Aside0.mk ((by rw [hg]; exact (below_size (by repeat (first | (with_reducible first | exact HB.out | apply below_alloc | apply pw_below_drewN | apply below_drew1) | exact HB.out))) : w.heap.size ≤ gb121)); clear HO0_4; clear HB; have HO0_4 := n0_; have HB := n1_; have BK121 := n2_; have GW121 := n3_; have GE121 := n4_; clear n0_ n1_ n2_ n3_ n4_; clear hb hbox hg; have hcz17_0 : w16.cell? ⟨gb121, 0, none⟩ = some (.int .i64 a0_0) := (blk_cell BK121.out 0).trans rfl; have hcz17_1 : w16.cell? ⟨gb121, 1, none⟩ = some (.int .i64 a0_1) := (blk_cell BK121.out 1).trans rfl; have hcz17_2 : w16.cell? ⟨gb121, 2, none⟩ = some (.int .i64 a0_2) := (blk_cell BK121.out 2).trans rfl; have hcz17_3 : w16.cell? ⟨gb121, 3, none⟩ = some (.int .i64 a0_3) := (blk_cell BK121.out 3).trans rfl; have hcz17_4 : w16.cell? ⟨gb121, 4, none⟩ = some (.slice A0_4 l0_4.length c0_4) := (blk_cell BK121.out 4).trans rfl; have hcz17_5 : w16.cell? ⟨gb121, 5, none⟩ = some (.slice A0_5 l0_5.length c0_5) := (blk_cell BK121.out 5).trans rfl; have hfz17_0 := blk_frozen BK121.out 0; have hfz17_1 := blk_frozen BK121.out 1; have hfz17_2 := blk_frozen BK121.out 2; have hfz17_3 := blk_frozen BK121.out 3; have hfz17_4 := blk_frozen BK121.out 4; have hfz17_5 := blk_frozen BK121.out 5; have p122 : 0 ≤ (0 : Int) := (by omega); have q122 : 0 < (l0_4.length : Int) := of_decide_eq_true (by first | (with_reducible assumption) | assumption); obtain ⟨ad122, A122_0, c122_0, e122, hx122_0, hl122_0, hi122_0⟩ := at_L1 (Kd.V_reads' HO0_4.out).2.2 0 p122 q122; cases e122; obtain ⟨ce122, hce122, hMe122, hcc122⟩ := Kd.V_get HO0_4.out [] 0 p122 (by first | exact q122 | exact of_decide_eq_true (by first | (with_reducible assumption) | assumption) | (have e_ := (Kd.V_reads' HO0_4.out).1; omega)); obtain ⟨ua122_0, uc122_0, rfl, ul122_0, ge122_0⟩ := Kd.FK_slice_open hMe122; have hv122_0 := hcc122 0 _ rfl; rw [Nat.add_zero, show ((Kd.slice 3 (Kd.int .i64))).sz = 1 from rfl, Nat.mul_one] at hv122_0; replace hv122_0 := Option.some.inj (hv122_0.symm.trans hx122_0); injection hv122_0 with hva_ hvn_ hvc_; rw [hva_] at ge122_0; rw [hvc_] at ul122_0; have HL122_0 := Aside0.mk (show Kd.V (Kd.int .i64) 3 _ w.heap.size _ _ (rd_L1 l0_4 0) from Kd.V_mk ul122_0 ge122_0); clear hva_ hvn_ hvc_ ge122_0 ul122_0; clear hcc122 hce122; have qi122 : (0 < l0_4.length) = True := eq_true (by omega); (try rw [show ((0 : Int)).toNat = 0 from rfl] at hx122_0); (try rw [Addr.add_zero'] at hx122_0); have HR122_0 := Aside0.mk hi122_0; have HC122_0 := Aside0.mk hl122_0; clear hi122_0 hl122_0; replace p122 := eq_true p122; replace q122 := eq_true q122) | (go_at_call 21; (with_reducible refine (set_May.calls k _ _ (rd_L1 l0_4 0) false _ ?side1 ?side2 A5.out).mono ?_); (case side1 => repeat (first | exact (by repeat (first | (with_reducible exact HR122_0.out) | (with_reducible refine Kd.C_alloc ?_ _) | (with_reducible refine Kd.C_drewN ?_ _) | (with_reducible refine Kd.C_drew ?_) | exact HR122_0.out)) | (with_reducible refine Kd.C_alloc ?_ _) | (with_reducible refine Kd.C_drewN ?_ _) | (with_reducible refine Kd.C_drew ?_))); (case side2 => exact HC122_0.out); rintro e w' ⟨rfl, ⟨nd, rfl⟩⟩; (try first | exact ⟨rfl, _, World.drewN_drewN _ _ _⟩ | exact ⟨rfl, _, Eq.trans (World.drewN_drewN _ _ _) (congrArg (World.drewN _) (Nat.add_assoc _ _ _))⟩))))
     go_ret2
     exact ⟨_, by first | rfl | (simp [errW_none, errW_some] <;> rfl) | (simp [*, errW_none, errW_some] <;> rfl), by (with_reducible repeat (first | apply Kd.V_alloc | apply Kd.V_drewN | apply Kd.V_drew)); exact Kd.V_mono HL122_0.out (fun _ hk => hk.1), by repeat (first | (with_reducible first | exact HB.out | apply below_alloc | apply pw_below_drewN | apply below_drew1 | refine below_set ?_ GE121.out) | exact HB.out)⟩
   ·rw [if_neg c4] at H
    exact absurd H (by simp)
  ·rw [if_neg c3] at H
   have c3b0 : ((l0_5.length : Int) == 1) = false := beq_eq_false_iff_ne.mpr c3
   have c3b1 : ((l0_5.length : Int) != 1) = true := bne_iff_ne.mpr c3
   simp only [Option.some.injEq, Prod.mk.injEq] at H
   obtain ⟨rfl, rfl⟩ := H
   go_enter Tryd.func53, Tryd.ntmps53
   go_wp2_with (first | ((with_reducible refine gate_dst (N := 1) rfl ?_); (try (refine gate_guard (by rfl) ?_; dsimp only)); refine box_event ?hg (N := 1) ?hd (cs := #[.int .i64 a0_0, .int .i64 a0_1, .int .i64 a0_2, .int .i64 a0_3, .slice A0_4 l0_4.length c0_4, .slice A0_5 l0_5.length c0_5]) (t := 25) ?hr ?_; (case hd => rfl); (case hg => rfl); (case hr => first | (go_simp; done) | (go_simp; rfl)); intro gb121 hg w18 hbox hb; have n0_ := Aside0.mk (Kd.V_below (Kd.V_elderB (by (with_reducible repeat (first | apply Kd.V_alloc | apply Kd.V_drewN | apply Kd.V_drew)); exact HO0_4.out) gb121 (Nat.le_of_eq hg.symm)) hb); have n1_ := Aside0.mk (below_step (by repeat (first | (with_reducible first | exact HB.out | apply below_alloc | apply pw_below_drewN | apply below_drew1) | exact HB.out)) hb); have n2_ := Aside0.mk (hbox); have n3_ := Aside0.mk ((by rw [hg]; exact (below_size (by repeat (first | (with_reducible first | exact HB.out | apply below_alloc | apply pw_below_drewN | apply below_drew1) | exact HB.out))) : w.heap.size ≤ gb121)); have n4_ := Aside0.mk ((by rw [hg]; exact (below_size (by repeat (first | (with_reducible first | exact HB.out | apply below_alloc | apply pw_below_drewN | apply below_drew1) | exact HB.out))) : w.heap.size ≤ gb121)); clear HO0_4; clear HB; have HO0_4 := n0_; have HB := n1_; have BK121 := n2_; have GW121 := n3_; have GE121 := n4_; clear n0_ n1_ n2_ n3_ n4_; clear hb hbox hg; have hcz19_0 : w18.cell? ⟨gb121, 0, none⟩ = some (.int .i64 a0_0) := (blk_cell BK121.out 0).trans rfl; have hcz19_1 : w18.cell? ⟨gb121, 1, none⟩ = some (.int .i64 a0_1) := (blk_cell BK121.out 1).trans rfl; have hcz19_2 : w18.cell? ⟨gb121, 2, none⟩ = some (.int .i64 a0_2) := (blk_cell BK121.out 2).trans rfl; have hcz19_3 : w18.cell? ⟨gb121, 3, none⟩ = some (.int .i64 a0_3) := (blk_cell BK121.out 3).trans rfl; have hcz19_4 : w18.cell? ⟨gb121, 4, none⟩ = some (.slice A0_4 l0_4.length c0_4) := (blk_cell BK121.out 4).trans rfl; have hcz19_5 : w18.cell? ⟨gb121, 5, none⟩ = some (.slice A0_5 l0_5.length c0_5) := (blk_cell BK121.out 5).trans rfl; have hfz19_0 := blk_frozen BK121.out 0; have hfz19_1 := blk_frozen BK121.out 1; have hfz19_2 := blk_frozen BK121.out 2; have hfz19_3 := blk_frozen BK121.out 3; have hfz19_4 := blk_frozen BK121.out 4; have hfz19_5 := blk_frozen BK121.out 5))
   repeat (go_quiet (first | ((with_reducible refine gate_dst (N := 1) rfl ?_); (try (refine gate_guard (by rfl) ?_; dsimp only)); refine box_event ?hg (N := 1) ?hd (cs := #[.int .i64 a0_0, .int .i64 a0_1, .int .i64 a0_2, .int .i64 a0_3, .slice A0_4 l0_4.length c0_4, .slice A0_5 l0_5.length c0_5]) (t := 25) ?hr ?_; (case hd => rfl); (case hg => rfl); (case hr => first | (go_simp; done) | (go_simp; rfl)); intro gb121 hg w18 hbox hb; have n0_ := Aside0.mk (Kd.V_below (Kd.V_elderB (by (with_reducible repeat (first | apply Kd.V_alloc | apply Kd.V_drewN | apply Kd.V_drew)); exact HO0_4.out) gb121 (Nat.le_of_eq hg.symm)) hb); have n1_ := Aside0.mk (below_step (by repeat (first | (with_reducible first | exact HB.out | apply below_alloc | apply pw_below_drewN | apply below_drew1) | exact HB.out)) hb); have n2_ := Aside0.mk (hbox); have n3_ := Aside0.mk ((by rw [hg]; exact (below_size (by repeat (first | (with_reducible first | exact HB.out | apply below_alloc | apply pw_below_drewN | apply below_drew1) | exact HB.out))) : w.heap.size ≤ gb121)); have n4_ := Aside0.mk ((by rw [hg]; exact (below_size (by repeat (first | (with_reducible first | exact HB.out | apply below_alloc | apply pw_below_drewN | apply below_drew1) | exact HB.out))) : w.heap.size ≤ gb121)); clear HO0_4; clear HB; have HO0_4 := n0_; have HB := n1_; have BK121 := n2_; have GW121 := n3_; have GE121 := n4_; clear n0_ n1_ n2_ n3_ n4_; clear hb hbox hg; have hcz19_0 : w18.cell? ⟨gb121, 0, none⟩ = some (.int .i64 a0_0) := (blk_cell BK121.out 0).trans rfl; have hcz19_1 : w18.cell? ⟨gb121, 1, none⟩ = some (.int .i64 a0_1) := (blk_cell BK121.out 1).trans rfl; have hcz19_2 : w18.cell? ⟨gb121, 2, none⟩ = some (.int .i64 a0_2) := (blk_cell BK121.out 2).trans rfl; have hcz19_3 : w18.cell? ⟨gb121, 3, none⟩ = some (.int .i64 a0_3) := (blk_cell BK121.out 3).trans rfl; have hcz19_4 : w18.cell? ⟨gb121, 4, none⟩ = some (.slice A0_4 l0_4.length c0_4) := (blk_cell BK121.out 4).trans rfl; have hcz19_5 : w18.cell? ⟨gb121, 5, none⟩ = some (.slice A0_5 l0_5.length c0_5) := (blk_cell BK121.out 5).trans rfl; have hfz19_0 := blk_frozen BK121.out 0; have hfz19_1 := blk_frozen BK121.out 1; have hfz19_2 := blk_frozen BK121.out 2; have hfz19_3 := blk_frozen BK121.out 3; have hfz19_4 := blk_frozen BK121.out 4; have hfz19_5 := blk_frozen BK121.out 5)); try go_wp2_with (first | ((with_reducible refine gate_dst (N := 1) rfl ?_); (try (refine gate_guard (by rfl) ?_; dsimp only)); refine box_event ?hg (N := 1) ?hd (cs := #[.int .i64 a0_0, .int .i64 a0_1, .int .i64 a0_2, .int .i64 a0_3, .slice A0_4 l0_4.length c0_4, .slice A0_5 l0_5.length c0_5]) (t := 25) ?hr ?_; (case hd => rfl); (case hg => rfl); (case hr => first | (go_simp; done) | (go_simp; rfl)); intro gb121 hg w18 hbox hb; have n0_ := Aside0.mk (Kd.V_below (Kd.V_elderB (by (with_reducible repeat (first | apply Kd.V_alloc | apply Kd.V_drewN | apply Kd.V_drew)); exact HO0_4.out) gb121 (Nat.le_of_eq hg.symm)) hb); have n1_ := Aside0.mk (below_step (by repeat (first | (with_reducible first | exact HB.out | apply below_alloc | apply pw_below_drewN | apply below_drew1) | exact HB.out)) hb); have n2_ := Aside0.mk (hbox); have n3_ := Aside0.mk ((by rw [hg]; exact (below_size (by repeat (first | (with_reducible first | exact HB.out | apply below_alloc | apply pw_below_drewN | apply below_drew1) | exact HB.out))) : w.heap.size ≤ gb121)); have n4_ := Aside0.mk ((by rw [hg]; exact (below_size (by repeat (first | (with_reducible first | exact HB.out | apply below_alloc | apply pw_below_drewN | apply below_drew1) | exact HB.out))) : w.heap.size ≤ gb121)); clear HO0_4; clear HB; have HO0_4 := n0_; have HB := n1_; have BK121 := n2_; have GW121 := n3_; have GE121 := n4_; clear n0_ n1_ n2_ n3_ n4_; clear hb hbox hg; have hcz19_0 : w18.cell? ⟨gb121, 0, none⟩ = some (.int .i64 a0_0) := (blk_cell BK121.out 0).trans rfl; have hcz19_1 : w18.cell? ⟨gb121, 1, none⟩ = some (.int .i64 a0_1) := (blk_cell BK121.out 1).trans rfl; have hcz19_2 : w18.cell? ⟨gb121, 2, none⟩ = some (.int .i64 a0_2) := (blk_cell BK121.out 2).trans rfl; have hcz19_3 : w18.cell? ⟨gb121, 3, none⟩ = some (.int .i64 a0_3) := (blk_cell BK121.out 3).trans rfl; have hcz19_4 : w18.cell? ⟨gb121, 4, none⟩ = some (.slice A0_4 l0_4.length c0_4) := (blk_cell BK121.out 4).trans rfl; have hcz19_5 : w18.cell? ⟨gb121, 5, none⟩ = some (.slice A0_5 l0_5.length c0_5) := (blk_cell BK121.out 5).trans rfl; have hfz19_0 := blk_frozen BK121.out 0; have hfz19_1 := blk_frozen BK121.out 1; have hfz19_2 := blk_frozen BK121.out 2; have hfz19_3 := blk_frozen BK121.out 3; have hfz19_4 := blk_frozen BK121.out 4; have hfz19_5 := blk_frozen BK121.out 5)))
   go_ret2
   exact ⟨_, by first | rfl | (simp [errW_none, errW_some] <;> rfl) | (simp [*, errW_none, errW_some] <;> rfl), (by first | exact Kd.V_nil _ _ _ _ _ | exact Kd.V_mono (Kd.R_V (by first | exact Kd.R_nil _ _ _ _ _ | exact Kd.N_nil _ _ _ _ _ | exact Kd.V_nil _ _ _ _ _ | exact Kd.Q_nil _ _ _ _ _ | exact Kd.S_nil _ _ _ _ _)) (fun k_ hk => by first | exact ⟨(.inr (hk.1)), hk.2⟩ | exact (.inr (hk)))), by repeat (first | (with_reducible first | exact HB.out | apply below_alloc | apply pw_below_drewN | apply below_drew1 | refine below_set ?_ GE121.out) | exact HB.out)⟩
 ·rw [if_neg c2] at H
  have c2b0 : ((l0_4.length : Int) == 1) = false := beq_eq_false_iff_ne.mpr c2
  have c2b1 : ((l0_4.length : Int) != 1) = true := bne_iff_ne.mpr c2
  simp only [Option.some.injEq, Prod.mk.injEq] at H
  obtain ⟨rfl, rfl⟩ := H
  go_enter Tryd.func53, Tryd.ntmps53
  go_wp2_with (first | ((with_reducible refine gate_dst (N := 1) rfl ?_); (try (refine gate_guard (by rfl) ?_; dsimp only)); refine box_event ?hg (N := 1) ?hd (cs := #[.int .i64 a0_0, .int .i64 a0_1, .int .i64 a0_2, .int .i64 a0_3, .slice A0_4 l0_4.length c0_4, .slice A0_5 l0_5.length c0_5]) (t := 25) ?hr ?_; (case hd => rfl); (case hg => rfl); (case hr => first | (go_simp; done) | (go_simp; rfl)); intro gb121 hg w20 hbox hb; have n0_ := Aside0.mk (Kd.V_below (Kd.V_elderB (by (with_reducible repeat (first | apply Kd.V_alloc | apply Kd.V_drewN | apply Kd.V_drew)); exact HO0_4.out) gb121 (Nat.le_of_eq hg.symm)) hb); have n1_ := Aside0.mk (below_step (by repeat (first | (with_reducible first | exact HB.out | apply below_alloc | apply pw_below_drewN | apply below_drew1) | exact HB.out)) hb); have n2_ := Aside0.mk (hbox); have n3_ := Aside0.mk ((by rw [hg]; exact (below_size (by repeat (first | (with_reducible first | exact HB.out | apply below_alloc | apply pw_below_drewN | apply below_drew1) | exact HB.out))) : w.heap.size ≤ gb121)); have n4_ := Aside0.mk ((by rw [hg]; exact (below_size (by repeat (first | (with_reducible first | exact HB.out | apply below_alloc | apply pw_below_drewN | apply below_drew1) | exact HB.out))) : w.heap.size ≤ gb121)); clear HO0_4; clear HB; have HO0_4 := n0_; have HB := n1_; have BK121 := n2_; have GW121 := n3_; have GE121 := n4_; clear n0_ n1_ n2_ n3_ n4_; clear hb hbox hg; have hcz21_0 : w20.cell? ⟨gb121, 0, none⟩ = some (.int .i64 a0_0) := (blk_cell BK121.out 0).trans rfl; have hcz21_1 : w20.cell? ⟨gb121, 1, none⟩ = some (.int .i64 a0_1) := (blk_cell BK121.out 1).trans rfl; have hcz21_2 : w20.cell? ⟨gb121, 2, none⟩ = some (.int .i64 a0_2) := (blk_cell BK121.out 2).trans rfl; have hcz21_3 : w20.cell? ⟨gb121, 3, none⟩ = some (.int .i64 a0_3) := (blk_cell BK121.out 3).trans rfl; have hcz21_4 : w20.cell? ⟨gb121, 4, none⟩ = some (.slice A0_4 l0_4.length c0_4) := (blk_cell BK121.out 4).trans rfl; have hcz21_5 : w20.cell? ⟨gb121, 5, none⟩ = some (.slice A0_5 l0_5.length c0_5) := (blk_cell BK121.out 5).trans rfl; have hfz21_0 := blk_frozen BK121.out 0; have hfz21_1 := blk_frozen BK121.out 1; have hfz21_2 := blk_frozen BK121.out 2; have hfz21_3 := blk_frozen BK121.out 3; have hfz21_4 := blk_frozen BK121.out 4; have hfz21_5 := blk_frozen BK121.out 5))
  repeat (go_quiet (first | ((with_reducible refine gate_dst (N := 1) rfl ?_); (try (refine gate_guard (by rfl) ?_; dsimp only)); refine box_event ?hg (N := 1) ?hd (cs := #[.int .i64 a0_0, .int .i64 a0_1, .int .i64 a0_2, .int .i64 a0_3, .slice A0_4 l0_4.length c0_4, .slice A0_5 l0_5.length c0_5]) (t := 25) ?hr ?_; (case hd => rfl); (case hg => rfl); (case hr => first | (go_simp; done) | (go_simp; rfl)); intro gb121 hg w20 hbox hb; have n0_ := Aside0.mk (Kd.V_below (Kd.V_elderB (by (with_reducible repeat (first | apply Kd.V_alloc | apply Kd.V_drewN | apply Kd.V_drew)); exact HO0_4.out) gb121 (Nat.le_of_eq hg.symm)) hb); have n1_ := Aside0.mk (below_step (by repeat (first | (with_reducible first | exact HB.out | apply below_alloc | apply pw_below_drewN | apply below_drew1) | exact HB.out)) hb); have n2_ := Aside0.mk (hbox); have n3_ := Aside0.mk ((by rw [hg]; exact (below_size (by repeat (first | (with_reducible first | exact HB.out | apply below_alloc | apply pw_below_drewN | apply below_drew1) | exact HB.out))) : w.heap.size ≤ gb121)); have n4_ := Aside0.mk ((by rw [hg]; exact (below_size (by repeat (first | (with_reducible first | exact HB.out | apply below_alloc | apply pw_below_drewN | apply below_drew1) | exact HB.out))) : w.heap.size ≤ gb121)); clear HO0_4; clear HB; have HO0_4 := n0_; have HB := n1_; have BK121 := n2_; have GW121 := n3_; have GE121 := n4_; clear n0_ n1_ n2_ n3_ n4_; clear hb hbox hg; have hcz21_0 : w20.cell? ⟨gb121, 0, none⟩ = some (.int .i64 a0_0) := (blk_cell BK121.out 0).trans rfl; have hcz21_1 : w20.cell? ⟨gb121, 1, none⟩ = some (.int .i64 a0_1) := (blk_cell BK121.out 1).trans rfl; have hcz21_2 : w20.cell? ⟨gb121, 2, none⟩ = some (.int .i64 a0_2) := (blk_cell BK121.out 2).trans rfl; have hcz21_3 : w20.cell? ⟨gb121, 3, none⟩ = some (.int .i64 a0_3) := (blk_cell BK121.out 3).trans rfl; have hcz21_4 : w20.cell? ⟨gb121, 4, none⟩ = some (.slice A0_4 l0_4.length c0_4) := (blk_cell BK121.out 4).trans rfl; have hcz21_5 : w20.cell? ⟨gb121, 5, none⟩ = some (.slice A0_5 l0_5.length c0_5) := (blk_cell BK121.out 5).trans rfl; have hfz21_0 := blk_frozen BK121.out 0; have hfz21_1 := blk_frozen BK121.out 1; have hfz21_2 := blk_frozen BK121.out 2; have hfz21_3 := blk_frozen BK121.out 3; have hfz21_4 := blk_frozen BK121.out 4; have hfz21_5 := blk_frozen BK121.out 5)); try go_wp2_with (first | ((with_reducible refine gate_dst (N := 1) rfl ?_); (try (refine gate_guard (by rfl) ?_; dsimp only)); refine box_event ?hg (N := 1) ?hd (cs := #[.int .i64 a0_0, .int .i64 a0_1, .int .i64 a0_2, .int .i64 a0_3, .slice A0_4 l0_4.length c0_4, .slice A0_5 l0_5.length c0_5]) (t := 25) ?hr ?_; (case hd => rfl); (case hg => rfl); (case hr => first | (go_simp; done) | (go_simp; rfl)); intro gb121 hg w20 hbox hb; have n0_ := Aside0.mk (Kd.V_below (Kd.V_elderB (by (with_reducible repeat (first | apply Kd.V_alloc | apply Kd.V_drewN | apply Kd.V_drew)); exact HO0_4.out) gb121 (Nat.le_of_eq hg.symm)) hb); have n1_ := Aside0.mk (below_step (by repeat (first | (with_reducible first | exact HB.out | apply below_alloc | apply pw_below_drewN | apply below_drew1) | exact HB.out)) hb); have n2_ := Aside0.mk (hbox); have n3_ := Aside0.mk ((by rw [hg]; exact (below_size (by repeat (first | (with_reducible first | exact HB.out | apply below_alloc | apply pw_below_drewN | apply below_drew1) | exact HB.out))) : w.heap.size ≤ gb121)); have n4_ := Aside0.mk ((by rw [hg]; exact (below_size (by repeat (first | (with_reducible first | exact HB.out | apply below_alloc | apply pw_below_drewN | apply below_drew1) | exact HB.out))) : w.heap.size ≤ gb121)); clear HO0_4; clear HB; have HO0_4 := n0_; have HB := n1_; have BK121 := n2_; have GW121 := n3_; have GE121 := n4_; clear n0_ n1_ n2_ n3_ n4_; clear hb hbox hg; have hcz21_0 : w20.cell? ⟨gb121, 0, none⟩ = some (.int .i64 a0_0) := (blk_cell BK121.out 0).trans rfl; have hcz21_1 : w20.cell? ⟨gb121, 1, none⟩ = some (.int .i64 a0_1) := (blk_cell BK121.out 1).trans rfl; have hcz21_2 : w20.cell? ⟨gb121, 2, none⟩ = some (.int .i64 a0_2) := (blk_cell BK121.out 2).trans rfl; have hcz21_3 : w20.cell? ⟨gb121, 3, none⟩ = some (.int .i64 a0_3) := (blk_cell BK121.out 3).trans rfl; have hcz21_4 : w20.cell? ⟨gb121, 4, none⟩ = some (.slice A0_4 l0_4.length c0_4) := (blk_cell BK121.out 4).trans rfl; have hcz21_5 : w20.cell? ⟨gb121, 5, none⟩ = some (.slice A0_5 l0_5.length c0_5) := (blk_cell BK121.out 5).trans rfl; have hfz21_0 := blk_frozen BK121.out 0; have hfz21_1 := blk_frozen BK121.out 1; have hfz21_2 := blk_frozen BK121.out 2; have hfz21_3 := blk_frozen BK121.out 3; have hfz21_4 := blk_frozen BK121.out 4; have hfz21_5 := blk_frozen BK121.out 5)))
  go_ret2
  exact ⟨_, by first | rfl | (simp [errW_none, errW_some] <;> rfl) | (simp [*, errW_none, errW_some] <;> rfl), (by first | exact Kd.V_nil _ _ _ _ _ | exact Kd.V_mono (Kd.R_V (by first | exact Kd.R_nil _ _ _ _ _ | exact Kd.N_nil _ _ _ _ _ | exact Kd.V_nil _ _ _ _ _ | exact Kd.Q_nil _ _ _ _ _ | exact Kd.S_nil _ _ _ _ _)) (fun k_ hk => by first | exact ⟨(.inr (hk.1)), hk.2⟩ | exact (.inr (hk)))), by repeat (first | (with_reducible first | exact HB.out | apply below_alloc | apply pw_below_drewN | apply below_drew1 | refine below_set ?_ GE121.out) | exact HB.out)⟩
end Go.Proofs.YtgbmlkmkfigolaaDoor.P
namespace Go.Proofs.YtgbmlkmkfigolaaDoor.P
open Go.RowKit Go.Proofs.YtgbmlkmkfigolaaDoorW.PrintWords Go.Proofs.YtgbmlkmkfigolaaDoorW.PrintLast Go.Proofs.YtgbmlkmkfigolaaDoorW.PrintMore
attribute [local go_sem] max2_int min2_int max_two min_two max_three min_three max_four min_four   -- for this text's walks alone
set_option linter.unusedVariables false
set_option linter.unusedSimpArgs false

/-! ### matroid_outer: function 38 -/
mutual
def matroid_outer.j0 : Nat → Bool → Int → Int → Int → Int → List (List Int) → List (S25) → Option (Bool)
 | 0, _, _, _, _, _, _, _ => none
 | k + 1, x33, x127000, x127001, x127002, x127003, x127004, x127005 => if x33 = true then (some false) else (if x127000 = 9 then (matroid_outer.l0 k 0 x127005 (x127005.length : Int) 0 x127000 x127001 x127002 x127003 x127004 x127005) else (if (x127005.length : Int) = 1 then (if x127000 = 5 then ((matroid_part.f k x127000 x127001 x127002 x127003 x127004 x127005).bind fun bt130 => (if bt130.2 = true then (some (x127001 == (bt130.1.length : Int))) else (some false))) else (if x127000 = 6 then ((matroid_part.f k x127000 x127001 x127002 x127003 x127004 x127005).bind fun bt134 => (if bt134.2 = true then (if 0 < (x127005.length : Int) then (some (x127001 == (wrap64 (((rd_T25 x127005 0).f1) - (bt134.1.length : Int))))) else (none)) else (some false))) else (if 0 < (x127005.length : Int) then (some (x127001 == ((rd_T25 x127005 0).f1))) else (none)))) else (some false)))
def matroid_outer.l0 : Nat → Int → List (S25) → Int → Int → Int → Int → Int → Int → List (List Int) → List (S25) → Option (Bool)
 | 0, _, _, _, _, _, _, _, _, _, _ => none
 | k + 1, x3, x38, x39, x40, x127000, x127001, x127002, x127003, x127004, x127005 => if x40 < x39 then (if 0 ≤ x40 then (if x40 < (x38.length : Int) then ((matroid_in.f ((rd_T25 x38 x40).f1) 64).bind fun t129 => (if t129 = true then (matroid_outer.l0 k (wrap64 (x3 + ((rd_T25 x38 x40).f1))) x38 x39 (wrap64 (x40 + 1)) x127000 x127001 x127002 x127003 x127004 x127005) else (some false))) else (none)) else (none)) else (if (x127005.length : Int) ≥ 1 then (if (x127005.length : Int) ≤ 8 then (some (x3 == x127001)) else (some false)) else (some false))
end
def matroid_outer.f (k : Nat) (a0_0 : Int) (a0_1 : Int) (a0_2 : Int) (a0_3 : Int) (l0_4 : List (List Int)) (l0_5 : List (S25)) : Option (Bool) := if a0_3 = 0 then (if a0_0 = 7 then (if a0_0 ≥ 7 then (matroid_outer.j0 k ((l0_4.length : Int) != 0) a0_0 a0_1 a0_2 a0_3 l0_4 l0_5) else (matroid_outer.j0 k false a0_0 a0_1 a0_2 a0_3 l0_4 l0_5)) else (if a0_2 = 0 then (if a0_0 ≥ 7 then (matroid_outer.j0 k ((l0_4.length : Int) != 0) a0_0 a0_1 a0_2 a0_3 l0_4 l0_5) else (matroid_outer.j0 k false a0_0 a0_1 a0_2 a0_3 l0_4 l0_5)) else (matroid_outer.j0 k true a0_0 a0_1 a0_2 a0_3 l0_4 l0_5))) else (matroid_outer.j0 k true a0_0 a0_1 a0_2 a0_3 l0_4 l0_5)
set_option maxHeartbeats 8000000 in
set_option maxRecDepth 100000 in
theorem matroid_outer.calls (k : Nat) (a0_0 : Int) (a0_1 : Int) (a0_2 : Int) (a0_3 : Int) (A0_4 : Option Addr) (c0_4 : Nat) (l0_4 : List (List Int)) (A0_5 : Option Addr) (c0_5 : Nat) (l0_5 : List (S25)) (r : Bool) (w : World) (hr0_4 : Kd.C (Kd.slice 3 (Kd.int .i64)) w A0_4 l0_4.length l0_4) (hc0_4 : l0_4.length ≤ c0_4) (hr0_5 : Kd.C k25 w A0_5 l0_5.length l0_5) (hc0_5 : l0_5.length ≤ c0_5) (h : matroid_outer.f k a0_0 a0_1 a0_2 a0_3 l0_4 l0_5 = some r) :
 Calls Tryd.prog 38 #[.agg #[.int .i64 a0_0, .int .i64 a0_1, .int .i64 a0_2, .int .i64 a0_3, .slice A0_4 l0_4.length c0_4, .slice A0_5 l0_5.length c0_5]] w fun e w' => e = .returned (.bool r) ∧ Below w.heap.size w w' := by
 have hu25 := Tryd.underlying25
 have HR0_4 := Aside0.mk hr0_4
 have HC0_4 := Aside0.mk hc0_4
 clear hr0_4 hc0_4
 have HR0_5 := Aside0.mk hr0_5
 have HC0_5 := Aside0.mk hc0_5
 clear hr0_5 hc0_5
 have HB := Aside0.mk (Below.refl w.heap.size w)
 have H : (if a0_3 = 0 then (if a0_0 = 7 then (if a0_0 ≥ 7 then (matroid_outer.j0 k ((l0_4.length : Int) != 0) a0_0 a0_1 a0_2 a0_3 l0_4 l0_5) else (matroid_outer.j0 k false a0_0 a0_1 a0_2 a0_3 l0_4 l0_5)) else (if a0_2 = 0 then (if a0_0 ≥ 7 then (matroid_outer.j0 k ((l0_4.length : Int) != 0) a0_0 a0_1 a0_2 a0_3 l0_4 l0_5) else (matroid_outer.j0 k false a0_0 a0_1 a0_2 a0_3 l0_4 l0_5)) else (matroid_outer.j0 k true a0_0 a0_1 a0_2 a0_3 l0_4 l0_5))) else (matroid_outer.j0 k true a0_0 a0_1 a0_2 a0_3 l0_4 l0_5)) = some r := h
 clear h
 have HC2 := Aside0.mk H
 clear H
 go_enter Tryd.func38, Tryd.ntmps38
 go_upto_region 1 with (first | ((with_reducible refine gate_dst (N := 1) rfl ?_); (try (refine gate_guard (by rfl) ?_; dsimp only)); refine box_event ?hg (N := 1) ?hd (cs := #[.int .i64 a0_0, .int .i64 a0_1, .int .i64 a0_2, .int .i64 a0_3, .slice A0_4 l0_4.length c0_4, .slice A0_5 l0_5.length c0_5]) (t := 25) ?hr ?_; (case hd => rfl); (case hg => rfl); (case hr => first | (go_simp; done) | (go_simp; rfl)); intro gb126 hg w3 hbox hb; have n0_ := Aside0.mk (below_step (by repeat (first | (with_reducible first | exact HB.out | apply below_alloc | apply pw_below_drewN | apply below_drew1) | exact HB.out)) hb); have n1_ := Aside0.mk (hbox); have n2_ := Aside0.mk ((by rw [hg]; exact (below_size (by repeat (first | (with_reducible first | exact HB.out | apply below_alloc | apply pw_below_drewN | apply below_drew1) | exact HB.out))) : w.heap.size ≤ gb126)); have n3_ := Aside0.mk ((by rw [hg]; exact (below_size (by repeat (first | (with_reducible first | exact HB.out | apply below_alloc | apply pw_below_drewN | apply below_drew1) | exact HB.out))) : w.heap.size ≤ gb126)); clear HB; have HB := n0_; have BK126 := n1_; have GW126 := n2_; have GE126 := n3_; clear n0_ n1_ n2_ n3_; clear hb hbox hg))
 repeat (go_quiet (first | ((with_reducible refine gate_dst (N := 1) rfl ?_); (try (refine gate_guard (by rfl) ?_; dsimp only)); refine box_event ?hg (N := 1) ?hd (cs := #[.int .i64 a0_0, .int .i64 a0_1, .int .i64 a0_2, .int .i64 a0_3, .slice A0_4 l0_4.length c0_4, .slice A0_5 l0_5.length c0_5]) (t := 25) ?hr ?_; (case hd => rfl); (case hg => rfl); (case hr => first | (go_simp; done) | (go_simp; rfl)); intro gb126 hg w3 hbox hb; have n0_ := Aside0.mk (below_step (by repeat (first | (with_reducible first | exact HB.out | apply below_alloc | apply pw_below_drewN | apply below_drew1) | exact HB.out)) hb); have n1_ := Aside0.mk (hbox); have n2_ := Aside0.mk ((by rw [hg]; exact (below_size (by repeat (first | (with_reducible first | exact HB.out | apply below_alloc | apply pw_below_drewN | apply below_drew1) | exact HB.out))) : w.heap.size ≤ gb126)); have n3_ := Aside0.mk ((by rw [hg]; exact (below_size (by repeat (first | (with_reducible first | exact HB.out | apply below_alloc | apply pw_below_drewN | apply below_drew1) | exact HB.out))) : w.heap.size ≤ gb126)); clear HB; have HB := n0_; have BK126 := n1_; have GW126 := n2_; have GE126 := n3_; clear n0_ n1_ n2_ n3_; clear hb hbox hg)); go_upto_region 1 with (first | ((with_reducible refine gate_dst (N := 1) rfl ?_); (try (refine gate_guard (by rfl) ?_; dsimp only)); refine box_event ?hg (N := 1) ?hd (cs := #[.int .i64 a0_0, .int .i64 a0_1, .int .i64 a0_2, .int .i64 a0_3, .slice A0_4 l0_4.length c0_4, .slice A0_5 l0_5.length c0_5]) (t := 25) ?hr ?_; (case hd => rfl); (case hg => rfl); (case hr => first | (go_simp; done) | (go_simp; rfl)); intro gb126 hg w3 hbox hb; have n0_ := Aside0.mk (below_step (by repeat (first | (with_reducible first | exact HB.out | apply below_alloc | apply pw_below_drewN | apply below_drew1) | exact HB.out)) hb); have n1_ := Aside0.mk (hbox); have n2_ := Aside0.mk ((by rw [hg]; exact (below_size (by repeat (first | (with_reducible first | exact HB.out | apply below_alloc | apply pw_below_drewN | apply below_drew1) | exact HB.out))) : w.heap.size ≤ gb126)); have n3_ := Aside0.mk ((by rw [hg]; exact (below_size (by repeat (first | (with_reducible first | exact HB.out | apply below_alloc | apply pw_below_drewN | apply below_drew1) | exact HB.out))) : w.heap.size ≤ gb126)); clear HB; have HB := n0_; have BK126 := n1_; have GW126 := n2_; have GE126 := n3_; clear n0_ n1_ n2_ n3_; clear hb hbox hg)))
 (try simp only [Act.put, List.setIfInBounds_toArray, List.set_cons_zero, List.set_cons_succ])
 go_cut [33] (fun v33 wc => ∃ (kq : Nat) (x33_1 : Bool), v33 = .bool x33_1 ∧ Aside0 (matroid_outer.j0 kq x33_1 a0_0 a0_1 a0_2 a0_3 l0_4 l0_5 = some r) ∧ Aside0 (kq ≤ k) ∧ Aside0 (wc.heap[gb126]? = some (.cells #[.int .i64 a0_0, .int .i64 a0_1, .int .i64 a0_2, .int .i64 a0_3, (.slice A0_4 l0_4.length c0_4), (.slice A0_5 l0_5.length c0_5)] 25 (0, 0))) ∧ Aside0 (Below w.heap.size w wc))
 case first =>
  have H := HC2.out
  clear HC2
  by_cases c4 : a0_3 = 0
  ·rw [if_pos c4] at H
   have c4b0 : (a0_3 == 0) = true := beq_iff_eq.mpr c4
   have c4b1 : (a0_3 != 0) = false := bne_eq_false_iff_eq.mpr c4
   clear c4
   (first | rw [c4b0] | (simp only [i64_w, i32_w]; rw [c4b0]) | skip)
   by_cases c5 : a0_0 = 7
   ·rw [if_pos c5] at H
    have c5b0 : (a0_0 == 7) = true := beq_iff_eq.mpr c5
    have c5b1 : (a0_0 != 7) = false := bne_eq_false_iff_eq.mpr c5
    clear c5
    by_cases c6 : a0_0 ≥ 7
    ·rw [if_pos c6] at H
     have c6b0 : decide (7 ≤ a0_0) = true := decide_eq_true c6
     clear c6
     have H' := Aside0.mk H
     clear H
     have hcz7_0 : w3.cell? ⟨gb126, 0, none⟩ = some (.int .i64 a0_0) := (blk_cell BK126.out 0).trans rfl
     have hcz7_1 : w3.cell? ⟨gb126, 1, none⟩ = some (.int .i64 a0_1) := (blk_cell BK126.out 1).trans rfl
     have hcz7_2 : w3.cell? ⟨gb126, 2, none⟩ = some (.int .i64 a0_2) := (blk_cell BK126.out 2).trans rfl
     have hcz7_3 : w3.cell? ⟨gb126, 3, none⟩ = some (.int .i64 a0_3) := (blk_cell BK126.out 3).trans rfl
     have hcz7_4 : w3.cell? ⟨gb126, 4, none⟩ = some (.slice A0_4 l0_4.length c0_4) := (blk_cell BK126.out 4).trans rfl
     have hcz7_5 : w3.cell? ⟨gb126, 5, none⟩ = some (.slice A0_5 l0_5.length c0_5) := (blk_cell BK126.out 5).trans rfl
     have hfz7_0 := blk_frozen BK126.out 0
     have hfz7_1 := blk_frozen BK126.out 1
     have hfz7_2 := blk_frozen BK126.out 2
     have hfz7_3 := blk_frozen BK126.out 3
     have hfz7_4 := blk_frozen BK126.out 4
     have hfz7_5 := blk_frozen BK126.out 5
     go_wp2
     repeat (go_quiet (fail); try go_wp2)
     go_meet
     case rel => exact ⟨_, (((l0_4.length : Int) != 0)), (by first | rfl | (simp; done) | (simp [*]; done)), H', ⟨by first | omega | exact Nat.le_refl _⟩, ⟨by (with_reducible repeat (first | refine blk_drewN ?_ _ | refine blk_drew ?_ | refine blk_alloc ?_ _)); exact BK126.out⟩, ⟨by repeat (first | (with_reducible first | exact HB.out | apply below_alloc | apply pw_below_drewN | apply below_drew1 | refine below_set ?_ GE126.out) | exact HB.out)⟩⟩
    ·rw [if_neg c6] at H
     have c6b0 : decide (7 ≤ a0_0) = false := decide_eq_false c6
     clear c6
     have H' := Aside0.mk H
     clear H
     have hcz8_0 : w3.cell? ⟨gb126, 0, none⟩ = some (.int .i64 a0_0) := (blk_cell BK126.out 0).trans rfl
     have hcz8_1 : w3.cell? ⟨gb126, 1, none⟩ = some (.int .i64 a0_1) := (blk_cell BK126.out 1).trans rfl
     have hcz8_2 : w3.cell? ⟨gb126, 2, none⟩ = some (.int .i64 a0_2) := (blk_cell BK126.out 2).trans rfl
     have hcz8_3 : w3.cell? ⟨gb126, 3, none⟩ = some (.int .i64 a0_3) := (blk_cell BK126.out 3).trans rfl
     have hcz8_4 : w3.cell? ⟨gb126, 4, none⟩ = some (.slice A0_4 l0_4.length c0_4) := (blk_cell BK126.out 4).trans rfl
     have hcz8_5 : w3.cell? ⟨gb126, 5, none⟩ = some (.slice A0_5 l0_5.length c0_5) := (blk_cell BK126.out 5).trans rfl
     have hfz8_0 := blk_frozen BK126.out 0
     have hfz8_1 := blk_frozen BK126.out 1
     have hfz8_2 := blk_frozen BK126.out 2
     have hfz8_3 := blk_frozen BK126.out 3
     have hfz8_4 := blk_frozen BK126.out 4
     have hfz8_5 := blk_frozen BK126.out 5
     go_wp2
     repeat (go_quiet (fail); try go_wp2)
     go_meet
     case rel => exact ⟨_, (false), (by first | rfl | (simp; done) | (simp [*]; done)), H', ⟨by first | omega | exact Nat.le_refl _⟩, ⟨by (with_reducible repeat (first | refine blk_drewN ?_ _ | refine blk_drew ?_ | refine blk_alloc ?_ _)); exact BK126.out⟩, ⟨by repeat (first | (with_reducible first | exact HB.out | apply below_alloc | apply pw_below_drewN | apply below_drew1 | refine below_set ?_ GE126.out) | exact HB.out)⟩⟩
   ·rw [if_neg c5] at H
    have c5b0 : (a0_0 == 7) = false := beq_eq_false_iff_ne.mpr c5
    have c5b1 : (a0_0 != 7) = true := bne_iff_ne.mpr c5
    by_cases c9 : a0_2 = 0
    ·rw [if_pos c9] at H
     have c9b0 : (a0_2 == 0) = true := beq_iff_eq.mpr c9
     have c9b1 : (a0_2 != 0) = false := bne_eq_false_iff_eq.mpr c9
     clear c9
     by_cases c10 : a0_0 ≥ 7
     ·rw [if_pos c10] at H
      have c10b0 : decide (7 ≤ a0_0) = true := decide_eq_true c10
      clear c10
      have H' := Aside0.mk H
      clear H
      have hcz11_0 : w3.cell? ⟨gb126, 0, none⟩ = some (.int .i64 a0_0) := (blk_cell BK126.out 0).trans rfl
      have hcz11_1 : w3.cell? ⟨gb126, 1, none⟩ = some (.int .i64 a0_1) := (blk_cell BK126.out 1).trans rfl
      have hcz11_2 : w3.cell? ⟨gb126, 2, none⟩ = some (.int .i64 a0_2) := (blk_cell BK126.out 2).trans rfl
      have hcz11_3 : w3.cell? ⟨gb126, 3, none⟩ = some (.int .i64 a0_3) := (blk_cell BK126.out 3).trans rfl
      have hcz11_4 : w3.cell? ⟨gb126, 4, none⟩ = some (.slice A0_4 l0_4.length c0_4) := (blk_cell BK126.out 4).trans rfl
      have hcz11_5 : w3.cell? ⟨gb126, 5, none⟩ = some (.slice A0_5 l0_5.length c0_5) := (blk_cell BK126.out 5).trans rfl
      have hfz11_0 := blk_frozen BK126.out 0
      have hfz11_1 := blk_frozen BK126.out 1
      have hfz11_2 := blk_frozen BK126.out 2
      have hfz11_3 := blk_frozen BK126.out 3
      have hfz11_4 := blk_frozen BK126.out 4
      have hfz11_5 := blk_frozen BK126.out 5
      go_wp2
      repeat (go_quiet (fail); try go_wp2)
      go_meet
      case rel => exact ⟨_, (((l0_4.length : Int) != 0)), (by first | rfl | (simp; done) | (simp [*]; done)), H', ⟨by first | omega | exact Nat.le_refl _⟩, ⟨by (with_reducible repeat (first | refine blk_drewN ?_ _ | refine blk_drew ?_ | refine blk_alloc ?_ _)); exact BK126.out⟩, ⟨by repeat (first | (with_reducible first | exact HB.out | apply below_alloc | apply pw_below_drewN | apply below_drew1 | refine below_set ?_ GE126.out) | exact HB.out)⟩⟩
     ·rw [if_neg c10] at H
      have c10b0 : decide (7 ≤ a0_0) = false := decide_eq_false c10
      clear c10
      have H' := Aside0.mk H
      clear H
      have hcz12_0 : w3.cell? ⟨gb126, 0, none⟩ = some (.int .i64 a0_0) := (blk_cell BK126.out 0).trans rfl
      have hcz12_1 : w3.cell? ⟨gb126, 1, none⟩ = some (.int .i64 a0_1) := (blk_cell BK126.out 1).trans rfl
      have hcz12_2 : w3.cell? ⟨gb126, 2, none⟩ = some (.int .i64 a0_2) := (blk_cell BK126.out 2).trans rfl
      have hcz12_3 : w3.cell? ⟨gb126, 3, none⟩ = some (.int .i64 a0_3) := (blk_cell BK126.out 3).trans rfl
      have hcz12_4 : w3.cell? ⟨gb126, 4, none⟩ = some (.slice A0_4 l0_4.length c0_4) := (blk_cell BK126.out 4).trans rfl
      have hcz12_5 : w3.cell? ⟨gb126, 5, none⟩ = some (.slice A0_5 l0_5.length c0_5) := (blk_cell BK126.out 5).trans rfl
      have hfz12_0 := blk_frozen BK126.out 0
      have hfz12_1 := blk_frozen BK126.out 1
      have hfz12_2 := blk_frozen BK126.out 2
      have hfz12_3 := blk_frozen BK126.out 3
      have hfz12_4 := blk_frozen BK126.out 4
      have hfz12_5 := blk_frozen BK126.out 5
      go_wp2
      repeat (go_quiet (fail); try go_wp2)
      go_meet
      case rel => exact ⟨_, (false), (by first | rfl | (simp; done) | (simp [*]; done)), H', ⟨by first | omega | exact Nat.le_refl _⟩, ⟨by (with_reducible repeat (first | refine blk_drewN ?_ _ | refine blk_drew ?_ | refine blk_alloc ?_ _)); exact BK126.out⟩, ⟨by repeat (first | (with_reducible first | exact HB.out | apply below_alloc | apply pw_below_drewN | apply below_drew1 | refine below_set ?_ GE126.out) | exact HB.out)⟩⟩
    ·rw [if_neg c9] at H
     have c9b0 : (a0_2 == 0) = false := beq_eq_false_iff_ne.mpr c9
     have c9b1 : (a0_2 != 0) = true := bne_iff_ne.mpr c9
     have H' := Aside0.mk H
     clear H
     have hcz13_0 : w3.cell? ⟨gb126, 0, none⟩ = some (.int .i64 a0_0) := (blk_cell BK126.out 0).trans rfl
     have hcz13_1 : w3.cell? ⟨gb126, 1, none⟩ = some (.int .i64 a0_1) := (blk_cell BK126.out 1).trans rfl
     have hcz13_2 : w3.cell? ⟨gb126, 2, none⟩ = some (.int .i64 a0_2) := (blk_cell BK126.out 2).trans rfl
     have hcz13_3 : w3.cell? ⟨gb126, 3, none⟩ = some (.int .i64 a0_3) := (blk_cell BK126.out 3).trans rfl
     have hcz13_4 : w3.cell? ⟨gb126, 4, none⟩ = some (.slice A0_4 l0_4.length c0_4) := (blk_cell BK126.out 4).trans rfl
     have hcz13_5 : w3.cell? ⟨gb126, 5, none⟩ = some (.slice A0_5 l0_5.length c0_5) := (blk_cell BK126.out 5).trans rfl
     have hfz13_0 := blk_frozen BK126.out 0
     have hfz13_1 := blk_frozen BK126.out 1
     have hfz13_2 := blk_frozen BK126.out 2
     have hfz13_3 := blk_frozen BK126.out 3
     have hfz13_4 := blk_frozen BK126.out 4
     have hfz13_5 := blk_frozen BK126.out 5
     go_wp2
     repeat (go_quiet (fail); try go_wp2)
     go_meet
     case rel => exact ⟨_, (true), (by first | rfl | (simp; done) | (simp [*]; done)), H', ⟨by first | omega | exact Nat.le_refl _⟩, ⟨by (with_reducible repeat (first | refine blk_drewN ?_ _ | refine blk_drew ?_ | refine blk_alloc ?_ _)); exact BK126.out⟩, ⟨by repeat (first | (with_reducible first | exact HB.out | apply below_alloc | apply pw_below_drewN | apply below_drew1 | refine below_set ?_ GE126.out) | exact HB.out)⟩⟩
  ·rw [if_neg c4] at H
   have c4b0 : (a0_3 == 0) = false := beq_eq_false_iff_ne.mpr c4
   have c4b1 : (a0_3 != 0) = true := bne_iff_ne.mpr c4
   (first | rw [c4b0] | (simp only [i64_w, i32_w]; rw [c4b0]) | skip)
   have H' := Aside0.mk H
   clear H
   have hcz14_0 : w3.cell? ⟨gb126, 0, none⟩ = some (.int .i64 a0_0) := (blk_cell BK126.out 0).trans rfl
   have hcz14_1 : w3.cell? ⟨gb126, 1, none⟩ = some (.int .i64 a0_1) := (blk_cell BK126.out 1).trans rfl
   have hcz14_2 : w3.cell? ⟨gb126, 2, none⟩ = some (.int .i64 a0_2) := (blk_cell BK126.out 2).trans rfl
   have hcz14_3 : w3.cell? ⟨gb126, 3, none⟩ = some (.int .i64 a0_3) := (blk_cell BK126.out 3).trans rfl
   have hcz14_4 : w3.cell? ⟨gb126, 4, none⟩ = some (.slice A0_4 l0_4.length c0_4) := (blk_cell BK126.out 4).trans rfl
   have hcz14_5 : w3.cell? ⟨gb126, 5, none⟩ = some (.slice A0_5 l0_5.length c0_5) := (blk_cell BK126.out 5).trans rfl
   have hfz14_0 := blk_frozen BK126.out 0
   have hfz14_1 := blk_frozen BK126.out 1
   have hfz14_2 := blk_frozen BK126.out 2
   have hfz14_3 := blk_frozen BK126.out 3
   have hfz14_4 := blk_frozen BK126.out 4
   have hfz14_5 := blk_frozen BK126.out 5
   go_wp2
   repeat (go_quiet (fail); try go_wp2)
   go_meet
   case rel => exact ⟨_, (true), (by first | rfl | (simp; done) | (simp [*]; done)), H', ⟨by first | omega | exact Nat.le_refl _⟩, ⟨by (with_reducible repeat (first | refine blk_drewN ?_ _ | refine blk_drew ?_ | refine blk_alloc ?_ _)); exact BK126.out⟩, ⟨by repeat (first | (with_reducible first | exact HB.out | apply below_alloc | apply pw_below_drewN | apply below_drew1 | refine below_set ?_ GE126.out) | exact HB.out)⟩⟩
 case rest =>
  clear HC2
  try clear c1
  try clear p2
  try clear c3
  try clear c4
  try clear c4b0
  try clear c4b1
  try clear c5
  try clear c5b0
  try clear c5b1
  try clear c6
  try clear c6b0
  try clear c9
  try clear c9b0
  try clear c9b1
  try clear c10
  try clear c10b0
  try clear hcz11_0
  try clear hcz11_1
  try clear hcz11_2
  try clear hcz11_3
  try clear hcz11_4
  try clear hcz11_5
  try clear hcz12_0
  try clear hcz12_1
  try clear hcz12_2
  try clear hcz12_3
  try clear hcz12_4
  try clear hcz12_5
  try clear hcz13_0
  try clear hcz13_1
  try clear hcz13_2
  try clear hcz13_3
  try clear hcz13_4
  try clear hcz13_5
  try clear hcz14_0
  try clear hcz14_1
  try clear hcz14_2
  try clear hcz14_3
  try clear hcz14_4
  try clear hcz14_5
  try clear hcz7_0
  try clear hcz7_1
  try clear hcz7_2
  try clear hcz7_3
  try clear hcz7_4
  try clear hcz7_5
  try clear hcz8_0
  try clear hcz8_1
  try clear hcz8_2
  try clear hcz8_3
  try clear hcz8_4
  try clear hcz8_5
  try clear hfz11_0
  try clear hfz11_1
  try clear hfz11_2
  try clear hfz11_3
  try clear hfz11_4
  try clear hfz11_5
  try clear hfz12_0
  try clear hfz12_1
  try clear hfz12_2
  try clear hfz12_3
  try clear hfz12_4
  try clear hfz12_5
  try clear hfz13_0
  try clear hfz13_1
  try clear hfz13_2
  try clear hfz13_3
  try clear hfz13_4
  try clear hfz13_5
  try clear hfz14_0
  try clear hfz14_1
  try clear hfz14_2
  try clear hfz14_3
  try clear hfz14_4
  try clear hfz14_5
  try clear hfz7_0
  try clear hfz7_1
  try clear hfz7_2
  try clear hfz7_3
  try clear hfz7_4
  try clear hfz7_5
  try clear hfz8_0
  try clear hfz8_1
  try clear hfz8_2
  try clear hfz8_3
  try clear hfz8_4
  try clear hfz8_5
  obtain ⟨kq, x33_1, rfl, HA, HJ1, BK126, HB⟩ := hcut
  cases kq with
  | zero => exact absurd HA.out (by simp [matroid_outer.j0])
  | succ kj1 =>
   have H := HA.out
   clear HA
   simp only [matroid_outer.j0] at H
   by_cases c15 : x33_1 = true
   ·subst c15
    have H1 : (some false) = some r := by rw [if_pos rfl] at H; exact H
    clear H
    have H := H1
    clear H1
    obtain rfl := Option.some.inj H
    go_wp2
    repeat (go_quiet (fail); try go_wp2)
    go_ret
    exact ⟨by first | rfl | (simp [errW_none, errW_some] <;> rfl) | (simp [*, errW_none, errW_some] <;> rfl), by repeat (first | (with_reducible first | exact HB.out | apply below_alloc | apply pw_below_drewN | apply below_drew1 | refine below_set ?_ GE126.out) | exact HB.out)⟩
   ·replace c15 := Bool.eq_false_iff.mpr c15
    subst c15
    have H1 : (if a0_0 = 9 then (matroid_outer.l0 kj1 0 l0_5 (l0_5.length : Int) 0 a0_0 a0_1 a0_2 a0_3 l0_4 l0_5) else (if (l0_5.length : Int) = 1 then (if a0_0 = 5 then ((matroid_part.f kj1 a0_0 a0_1 a0_2 a0_3 l0_4 l0_5).bind fun bt130 => (if bt130.2 = true then (some (a0_1 == (bt130.1.length : Int))) else (some false))) else (if a0_0 = 6 then ((matroid_part.f kj1 a0_0 a0_1 a0_2 a0_3 l0_4 l0_5).bind fun bt134 => (if bt134.2 = true then (if 0 < (l0_5.length : Int) then (some (a0_1 == (wrap64 (((rd_T25 l0_5 0).f1) - (bt134.1.length : Int))))) else (none)) else (some false))) else (if 0 < (l0_5.length : Int) then (some (a0_1 == ((rd_T25 l0_5 0).f1))) else (none)))) else (some false))) = some r := by rw [if_neg (show ¬ (false = true) by decide)] at H; exact H
    clear H
    have H := H1
    clear H1
    by_cases c16 : a0_0 = 9
    ·rw [if_pos c16] at H
     have c16b0 : (a0_0 == 9) = true := beq_iff_eq.mpr c16
     have c16b1 : (a0_0 != 9) = false := bne_eq_false_iff_eq.mpr c16
     clear c16
     have H' := Aside0.mk H
     clear H
     have hcz17_0 : wc.cell? ⟨gb126, 0, none⟩ = some (.int .i64 a0_0) := (blk_cell BK126.out 0).trans rfl
     have hcz17_1 : wc.cell? ⟨gb126, 1, none⟩ = some (.int .i64 a0_1) := (blk_cell BK126.out 1).trans rfl
     have hcz17_2 : wc.cell? ⟨gb126, 2, none⟩ = some (.int .i64 a0_2) := (blk_cell BK126.out 2).trans rfl
     have hcz17_3 : wc.cell? ⟨gb126, 3, none⟩ = some (.int .i64 a0_3) := (blk_cell BK126.out 3).trans rfl
     have hcz17_4 : wc.cell? ⟨gb126, 4, none⟩ = some (.slice A0_4 l0_4.length c0_4) := (blk_cell BK126.out 4).trans rfl
     have hcz17_5 : wc.cell? ⟨gb126, 5, none⟩ = some (.slice A0_5 l0_5.length c0_5) := (blk_cell BK126.out 5).trans rfl
     have hfz17_0 := blk_frozen BK126.out 0
     have hfz17_1 := blk_frozen BK126.out 1
     have hfz17_2 := blk_frozen BK126.out 2
     have hfz17_3 := blk_frozen BK126.out 3
     have hfz17_4 := blk_frozen BK126.out 4
     have hfz17_5 := blk_frozen BK126.out 5
     go_wp2
     repeat (go_quiet (fail); try go_wp2)
     go_loopg [3, 40] kj1 (fun kq v3 v40 w' => ∃ (x3_2 : Int) (x40_2 : Int), v3 = .int .i64 x3_2 ∧ v40 = .int .i64 x40_2 ∧ Aside0 (matroid_outer.l0 kq x3_2 l0_5 (l0_5.length : Int) x40_2 a0_0 a0_1 a0_2 a0_3 l0_4 l0_5 = some r) ∧ Aside0 (kq ≤ kj1) ∧ Aside0 (w'.heap[gb126]? = some (.cells #[.int .i64 a0_0, .int .i64 a0_1, .int .i64 a0_2, .int .i64 a0_3, (.slice A0_4 l0_4.length c0_4), (.slice A0_5 l0_5.length c0_5)] 25 (0, 0))) ∧ Aside0 (Below w.heap.size w w'))
     case atStart => exact ⟨(0), (0), (by first | rfl | (simp; done) | (simp [*]; done)), (by first | rfl | (simp; done) | (simp [*]; done)), H', ⟨Nat.le_refl _⟩, ⟨by (with_reducible repeat (first | refine blk_drewN ?_ _ | refine blk_drew ?_ | refine blk_alloc ?_ _)); exact BK126.out⟩, ⟨by repeat (first | (with_reducible first | exact HB.out | apply below_alloc | apply pw_below_drewN | apply below_drew1 | refine below_set ?_ GE126.out) | exact HB.out)⟩⟩
     case round =>
      clear H'
      try clear c1
      try clear p2
      try clear c3
      try clear c4
      try clear c4b0
      try clear c4b1
      try clear c5
      try clear c5b0
      try clear c5b1
      try clear c6
      try clear c6b0
      try clear p6
      try clear c9
      try clear c9b0
      try clear c9b1
      try clear c10
      try clear c10b0
      try clear c15
      try clear c16
      try clear c16b0
      try clear c16b1
      try clear hcz11_0
      try clear hcz11_1
      try clear hcz11_2
      try clear hcz11_3
      try clear hcz11_4
      try clear hcz11_5
      try clear hcz12_0
      try clear hcz12_1
      try clear hcz12_2
      try clear hcz12_3
      try clear hcz12_4
      try clear hcz12_5
      try clear hcz13_0
      try clear hcz13_1
      try clear hcz13_2
      try clear hcz13_3
      try clear hcz13_4
      try clear hcz13_5
      try clear hcz14_0
      try clear hcz14_1
      try clear hcz14_2
      try clear hcz14_3
      try clear hcz14_4
      try clear hcz14_5
      try clear hcz17_0
      try clear hcz17_1
      try clear hcz17_2
      try clear hcz17_3
      try clear hcz17_4
      try clear hcz17_5
      try clear hcz7_0
      try clear hcz7_1
      try clear hcz7_2
      try clear hcz7_3
      try clear hcz7_4
      try clear hcz7_5
      try clear hcz8_0
      try clear hcz8_1
      try clear hcz8_2
      try clear hcz8_3
      try clear hcz8_4
      try clear hcz8_5
      try clear hfz11_0
      try clear hfz11_1
      try clear hfz11_2
      try clear hfz11_3
      try clear hfz11_4
      try clear hfz11_5
      try clear hfz12_0
      try clear hfz12_1
      try clear hfz12_2
      try clear hfz12_3
      try clear hfz12_4
      try clear hfz12_5
      try clear hfz13_0
      try clear hfz13_1
      try clear hfz13_2
      try clear hfz13_3
      try clear hfz13_4
      try clear hfz13_5
      try clear hfz14_0
      try clear hfz14_1
      try clear hfz14_2
      try clear hfz14_3
      try clear hfz14_4
      try clear hfz14_5
      try clear hfz17_0
      try clear hfz17_1
      try clear hfz17_2
      try clear hfz17_3
      try clear hfz17_4
      try clear hfz17_5
      try clear hfz7_0
      try clear hfz7_1
      try clear hfz7_2
      try clear hfz7_3
      try clear hfz7_4
      try clear hfz7_5
      try clear hfz8_0
      try clear hfz8_1
      try clear hfz8_2
      try clear hfz8_3
      try clear hfz8_4
      try clear hfz8_5
      try clear p2
      obtain ⟨x3_2, x40_2, rfl, rfl, HA, HK2, BK126, HB⟩ := hrel
      cases gk with
      | zero => exact absurd HA.out (by simp [matroid_outer.l0])
      | succ k2 =>
       have H := HA.out
       clear HA
       simp only [matroid_outer.l0] at H
       by_cases c18 : x40_2 < (l0_5.length : Int)
       ·rw [if_pos c18] at H
        have c18b0 : decide (x40_2 < (l0_5.length : Int)) = true := decide_eq_true c18
        clear c18
        by_cases c19 : 0 ≤ x40_2
        ·rw [if_pos c19] at H
         have c19b0 : decide (0 ≤ x40_2) = true := decide_eq_true c19
         clear c19
         by_cases c20 : x40_2 < (l0_5.length : Int)
         ·rw [if_pos c20] at H
          have c20b0 : decide (x40_2 < (l0_5.length : Int)) = true := decide_eq_true c20
          clear c20
          replace H := Option.bind_eq_some_iff.mp H
          obtain ⟨t129, A210, H⟩ := H
          replace H : (if t129 = true then (matroid_outer.l0 k2 (wrap64 (x3_2 + ((rd_T25 l0_5 x40_2).f1))) l0_5 (l0_5.length : Int) (wrap64 (x40_2 + 1)) a0_0 a0_1 a0_2 a0_3 l0_4 l0_5) else (some false)) = some r := H
          have A21 := Aside0.mk A210
          clear A210
          by_cases c22 : t129 = true
          ·subst c22
           have H1 : (matroid_outer.l0 k2 (wrap64 (x3_2 + ((rd_T25 l0_5 x40_2).f1))) l0_5 (l0_5.length : Int) (wrap64 (x40_2 + 1)) a0_0 a0_1 a0_2 a0_3 l0_4 l0_5) = some r := by rw [if_pos rfl] at H; exact H
           clear H
           have H := H1
           clear H1
           have H' := Aside0.mk H
           clear H
           have p127 : 0 ≤ (x40_2 : Int) := of_decide_eq_true (by first | (with_reducible assumption) | assumption)
           have q127 : x40_2 < (l0_5.length : Int) := of_decide_eq_true (by first | (with_reducible assumption) | assumption)
           obtain ⟨ad127, A127_4, c127_4, A127_5, c127_5, e127, hx127_0, hx127_1, hx127_2, hx127_3, hx127_4, hx127_5, hl127_4, hi127_4, hl127_5, hi127_5⟩ := at_T25 HR0_5.out x40_2 p127 q127
           cases e127
           replace hx127_0 := (HB.out.cell (World.block_lt_of_cell? w _ hx127_0)).trans hx127_0
           replace hx127_1 := (HB.out.cell (World.block_lt_of_cell? w _ hx127_1)).trans hx127_1
           replace hx127_2 := (HB.out.cell (World.block_lt_of_cell? w _ hx127_2)).trans hx127_2
           replace hx127_3 := (HB.out.cell (World.block_lt_of_cell? w _ hx127_3)).trans hx127_3
           replace hx127_4 := (HB.out.cell (World.block_lt_of_cell? w _ hx127_4)).trans hx127_4
           replace hx127_5 := (HB.out.cell (World.block_lt_of_cell? w _ hx127_5)).trans hx127_5
           have HR127_4 := Aside0.mk hi127_4
           have HC127_4 := Aside0.mk hl127_4
           clear hi127_4 hl127_4
           have HR127_5 := Aside0.mk hi127_5
           have HC127_5 := Aside0.mk hl127_5
           clear hi127_5 hl127_5
           replace p127 := eq_true p127
           replace q127 := eq_true q127
           go_wp2_with (first | ((with_reducible refine gate_dst (N := 5) rfl ?_); (try (refine gate_guard (by rfl) ?_; dsimp only)); refine box_event ?hg (N := 5) ?hd (cs := #[.int .i64 0, .int .i64 0, .int .i64 0, .int .i64 0, .slice none 0 0, .slice none 0 0]) (t := 25) ?hr ?_; (case hd => rfl); (case hg => rfl); (case hr => first | (go_simp; done) | (go_simp; rfl)); intro gb128 hg w23 hbox hb; have n0_ := Aside0.mk (blk_below (g := gb126) (o := .cells #[.int .i64 a0_0, .int .i64 a0_1, .int .i64 a0_2, .int .i64 a0_3, .slice A0_4 l0_4.length c0_4, .slice (some ad127) l0_5.length c0_5] 25 (0, 0)) (by (with_reducible repeat (first | refine blk_drewN ?_ _ | refine blk_drew ?_ | refine blk_alloc ?_ _)); exact BK126.out) hb); have n1_ := Aside0.mk (below_step (by repeat (first | (with_reducible first | exact HB.out | apply below_alloc | apply pw_below_drewN | apply below_drew1 | refine below_set ?_ GE126.out) | exact HB.out)) hb); have n2_ := Aside0.mk (hbox); have n3_ := Aside0.mk ((by rw [hg]; exact (below_size (by repeat (first | (with_reducible first | exact HB.out | apply below_alloc | apply pw_below_drewN | apply below_drew1 | refine below_set ?_ GE126.out) | exact HB.out))) : w.heap.size ≤ gb128)); have n4_ := Aside0.mk ((by rw [hg]; exact (below_size (by repeat (first | (with_reducible first | exact HB.out | apply below_alloc | apply pw_below_drewN | apply below_drew1 | refine below_set ?_ GE126.out) | exact HB.out))) : w.heap.size ≤ gb128)); have n5_ := Aside0.mk ((by rw [hg]; exact Nat.ne_of_lt (blk_lt (g := gb126) (o := .cells #[.int .i64 a0_0, .int .i64 a0_1, .int .i64 a0_2, .int .i64 a0_3, .slice A0_4 l0_4.length c0_4, .slice (some ad127) l0_5.length c0_5] 25 (0, 0)) (by (with_reducible repeat (first | refine blk_drewN ?_ _ | refine blk_drew ?_ | refine blk_alloc ?_ _)); exact BK126.out)) : gb126 ≠ gb128)); have n6_ := Aside0.mk ((by rw [hg]; exact Nat.ne_of_gt (blk_lt (g := gb126) (o := .cells #[.int .i64 a0_0, .int .i64 a0_1, .int .i64 a0_2, .int .i64 a0_3, .slice A0_4 l0_4.length c0_4, .slice (some ad127) l0_5.length c0_5] 25 (0, 0)) (by (with_reducible repeat (first | refine blk_drewN ?_ _ | refine blk_drew ?_ | refine blk_alloc ?_ _)); exact BK126.out)) : gb128 ≠ gb126)); clear BK126; clear HB; have BK126 := n0_; have HB := n1_; have BK128 := n2_; have GW128 := n3_; have GE128 := n4_; have NB126_128 := n5_; have NB128_126 := n6_; clear n0_ n1_ n2_ n3_ n4_ n5_ n6_; clear hb hbox hg; have hnb24 := NB128_126.out; have hnc24 := NB126_128.out; have hcz25_0 : w23.cell? ⟨gb128, 0, none⟩ = some (.int .i64 0) := (blk_cell BK128.out 0).trans rfl; have hcz25_1 : w23.cell? ⟨gb128, 1, none⟩ = some (.int .i64 0) := (blk_cell BK128.out 1).trans rfl; have hcz25_2 : w23.cell? ⟨gb128, 2, none⟩ = some (.int .i64 0) := (blk_cell BK128.out 2).trans rfl; have hcz25_3 : w23.cell? ⟨gb128, 3, none⟩ = some (.int .i64 0) := (blk_cell BK128.out 3).trans rfl; have hcz25_4 : w23.cell? ⟨gb128, 4, none⟩ = some (.slice none 0 0) := (blk_cell BK128.out 4).trans rfl; have hcz25_5 : w23.cell? ⟨gb128, 5, none⟩ = some (.slice none 0 0) := (blk_cell BK128.out 5).trans rfl; have hfz25_0 := blk_frozen BK128.out 0; have hfz25_1 := blk_frozen BK128.out 1; have hfz25_2 := blk_frozen BK128.out 2; have hfz25_3 := blk_frozen BK128.out 3; have hfz25_4 := blk_frozen BK128.out 4; have hfz25_5 := blk_frozen BK128.out 5) | (go_at_call 35; (with_reducible refine (matroid_in.calls ((rd_T25 l0_5 x40_2).f1) 64 true _ A21.out).mono ?_); rintro e w' ⟨rfl, ⟨nd, rfl⟩⟩; (try first | exact ⟨rfl, _, World.drewN_drewN _ _ _⟩ | exact ⟨rfl, _, Eq.trans (World.drewN_drewN _ _ _) (congrArg (World.drewN _) (Nat.add_assoc _ _ _))⟩)))
           repeat (go_quiet (first | ((with_reducible refine gate_dst (N := 5) rfl ?_); (try (refine gate_guard (by rfl) ?_; dsimp only)); refine box_event ?hg (N := 5) ?hd (cs := #[.int .i64 0, .int .i64 0, .int .i64 0, .int .i64 0, .slice none 0 0, .slice none 0 0]) (t := 25) ?hr ?_; (case hd => rfl); (case hg => rfl); (case hr => first | (go_simp; done) | (go_simp; rfl)); intro gb128 hg w23 hbox hb; have n0_ := Aside0.mk (blk_below (g := gb126) (o := .cells #[.int .i64 a0_0, .int .i64 a0_1, .int .i64 a0_2, .int .i64 a0_3, .slice A0_4 l0_4.length c0_4, .slice (some ad127) l0_5.length c0_5] 25 (0, 0)) (by (with_reducible repeat (first | refine blk_drewN ?_ _ | refine blk_drew ?_ | refine blk_alloc ?_ _)); exact BK126.out) hb); have n1_ := Aside0.mk (below_step (by repeat (first | (with_reducible first | exact HB.out | apply below_alloc | apply pw_below_drewN | apply below_drew1 | refine below_set ?_ GE126.out) | exact HB.out)) hb); have n2_ := Aside0.mk (hbox); have n3_ := Aside0.mk ((by rw [hg]; exact (below_size (by repeat (first | (with_reducible first | exact HB.out | apply below_alloc | apply pw_below_drewN | apply below_drew1 | refine below_set ?_ GE126.out) | exact HB.out))) : w.heap.size ≤ gb128)); have n4_ := Aside0.mk ((by rw [hg]; exact (below_size (by repeat (first | (with_reducible first | exact HB.out | apply below_alloc | apply pw_below_drewN | apply below_drew1 | refine below_set ?_ GE126.out) | exact HB.out))) : w.heap.size ≤ gb128)); have n5_ := Aside0.mk ((by rw [hg]; exact Nat.ne_of_lt (blk_lt (g := gb126) (o := .cells #[.int .i64 a0_0, .int .i64 a0_1, .int .i64 a0_2, .int .i64 a0_3, .slice A0_4 l0_4.length c0_4, .slice (some ad127) l0_5.length c0_5] 25 (0, 0)) (by (with_reducible repeat (first | refine blk_drewN ?_ _ | refine blk_drew ?_ | refine blk_alloc ?_ _)); exact BK126.out)) : gb126 ≠ gb128)); have n6_ := Aside0.mk ((by rw [hg]; exact Nat.ne_of_gt (blk_lt (g := gb126) (o := .cells #[.int .i64 a0_0, .int .i64 a0_1, .int .i64 a0_2, .int .i64 a0_3, .slice A0_4 l0_4.length c0_4, .slice (some ad127) l0_5.length c0_5] 25 (0, 0)) (by (with_reducible repeat (first | refine blk_drewN ?_ _ | refine blk_drew ?_ | refine blk_alloc ?_ _)); exact BK126.out)) : gb128 ≠ gb126)); clear BK126; clear HB; have BK126 := n0_; have HB := n1_; have BK128 := n2_; have GW128 := n3_; have GE128 := n4_; have NB126_128 := n5_; have NB128_126 := n6_; clear n0_ n1_ n2_ n3_ n4_ n5_ n6_; clear hb hbox hg; have hnb24 := NB128_126.out; have hnc24 := NB126_128.out; have hcz25_0 : w23.cell? ⟨gb128, 0, none⟩ = some (.int .i64 0) := (blk_cell BK128.out 0).trans rfl; have hcz25_1 : w23.cell? ⟨gb128, 1, none⟩ = some (.int .i64 0) := (blk_cell BK128.out 1).trans rfl; have hcz25_2 : w23.cell? ⟨gb128, 2, none⟩ = some (.int .i64 0) := (blk_cell BK128.out 2).trans rfl; have hcz25_3 : w23.cell? ⟨gb128, 3, none⟩ = some (.int .i64 0) := (blk_cell BK128.out 3).trans rfl; have hcz25_4 : w23.cell? ⟨gb128, 4, none⟩ = some (.slice none 0 0) := (blk_cell BK128.out 4).trans rfl; have hcz25_5 : w23.cell? ⟨gb128, 5, none⟩ = some (.slice none 0 0) := (blk_cell BK128.out 5).trans rfl; have hfz25_0 := blk_frozen BK128.out 0; have hfz25_1 := blk_frozen BK128.out 1; have hfz25_2 := blk_frozen BK128.out 2; have hfz25_3 := blk_frozen BK128.out 3; have hfz25_4 := blk_frozen BK128.out 4; have hfz25_5 := blk_frozen BK128.out 5) | (go_at_call 35; (with_reducible refine (matroid_in.calls ((rd_T25 l0_5 x40_2).f1) 64 true _ A21.out).mono ?_); rintro e w' ⟨rfl, ⟨nd, rfl⟩⟩; (try first | exact ⟨rfl, _, World.drewN_drewN _ _ _⟩ | exact ⟨rfl, _, Eq.trans (World.drewN_drewN _ _ _) (congrArg (World.drewN _) (Nat.add_assoc _ _ _))⟩))); try go_wp2_with (first | ((with_reducible refine gate_dst (N := 5) rfl ?_); (try (refine gate_guard (by rfl) ?_; dsimp only)); refine box_event ?hg (N := 5) ?hd (cs := #[.int .i64 0, .int .i64 0, .int .i64 0, .int .i64 0, .slice none 0 0, .slice none 0 0]) (t := 25) ?hr ?_; (case hd => rfl); (case hg => rfl); (case hr => first | (go_simp; done) | (go_simp; rfl)); intro gb128 hg w23 hbox hb; have n0_ := Aside0.mk (blk_below (g := gb126) (o := .cells #[.int .i64 a0_0, .int .i64 a0_1, .int .i64 a0_2, .int .i64 a0_3, .slice A0_4 l0_4.length c0_4, .slice (some ad127) l0_5.length c0_5] 25 (0, 0)) (by (with_reducible repeat (first | refine blk_drewN ?_ _ | refine blk_drew ?_ | refine blk_alloc ?_ _)); exact BK126.out) hb); have n1_ := Aside0.mk (below_step (by repeat (first | (with_reducible first | exact HB.out | apply below_alloc | apply pw_below_drewN | apply below_drew1 | refine below_set ?_ GE126.out) | exact HB.out)) hb); have n2_ := Aside0.mk (hbox); have n3_ := Aside0.mk ((by rw [hg]; exact (below_size (by repeat (first | (with_reducible first | exact HB.out | apply below_alloc | apply pw_below_drewN | apply below_drew1 | refine below_set ?_ GE126.out) | exact HB.out))) : w.heap.size ≤ gb128)); have n4_ := Aside0.mk ((by rw [hg]; exact (below_size (by repeat (first | (with_reducible first | exact HB.out | apply below_alloc | apply pw_below_drewN | apply below_drew1 | refine below_set ?_ GE126.out) | exact HB.out))) : w.heap.size ≤ gb128)); have n5_ := Aside0.mk ((by rw [hg]; exact Nat.ne_of_lt (blk_lt (g := gb126) (o := .cells #[.int .i64 a0_0, .int .i64 a0_1, .int .i64 a0_2, .int .i64 a0_3, .slice A0_4 l0_4.length c0_4, .slice (some ad127) l0_5.length c0_5] 25 (0, 0)) (by (with_reducible repeat (first | refine blk_drewN ?_ _ | refine blk_drew ?_ | refine blk_alloc ?_ _)); exact BK126.out)) : gb126 ≠ gb128)); have n6_ := Aside0.mk ((by rw [hg]; exact Nat.ne_of_gt (blk_lt (g := gb126) (o := .cells #[.int .i64 a0_0, .int .i64 a0_1, .int .i64 a0_2, .int .i64 a0_3, .slice A0_4 l0_4.length c0_4, .slice (some ad127) l0_5.length c0_5] 25 (0, 0)) (by (with_reducible repeat (first | refine blk_drewN ?_ _ | refine blk_drew ?_ | refine blk_alloc ?_ _)); exact BK126.out)) : gb128 ≠ gb126)); clear BK126; clear HB; have BK126 := n0_; have HB := n1_; have BK128 := n2_; have GW128 := n3_; have GE128 := n4_; have NB126_128 := n5_; have NB128_126 := n6_; clear n0_ n1_ n2_ n3_ n4_ n5_ n6_; clear hb hbox hg; have hnb24 := NB128_126.out; have hnc24 := NB126_128.out; have hcz25_0 : w23.cell? ⟨gb128, 0, none⟩ = some (.int .i64 0) := (blk_cell BK128.out 0).trans rfl; have hcz25_1 : w23.cell? ⟨gb128, 1, none⟩ = some (.int .i64 0) := (blk_cell BK128.out 1).trans rfl; have hcz25_2 : w23.cell? ⟨gb128, 2, none⟩ = some (.int .i64 0) := (blk_cell BK128.out 2).trans rfl; have hcz25_3 : w23.cell? ⟨gb128, 3, none⟩ = some (.int .i64 0) := (blk_cell BK128.out 3).trans rfl; have hcz25_4 : w23.cell? ⟨gb128, 4, none⟩ = some (.slice none 0 0) := (blk_cell BK128.out 4).trans rfl; have hcz25_5 : w23.cell? ⟨gb128, 5, none⟩ = some (.slice none 0 0) := (blk_cell BK128.out 5).trans rfl; have hfz25_0 := blk_frozen BK128.out 0; have hfz25_1 := blk_frozen BK128.out 1; have hfz25_2 := blk_frozen BK128.out 2; have hfz25_3 := blk_frozen BK128.out 3; have hfz25_4 := blk_frozen BK128.out 4; have hfz25_5 := blk_frozen BK128.out 5) | (go_at_call 35; (with_reducible refine (matroid_in.calls ((rd_T25 l0_5 x40_2).f1) 64 true _ A21.out).mono ?_); rintro e w' ⟨rfl, ⟨nd, rfl⟩⟩; (try first | exact ⟨rfl, _, World.drewN_drewN _ _ _⟩ | exact ⟨rfl, _, Eq.trans (World.drewN_drewN _ _ _) (congrArg (World.drewN _) (Nat.add_assoc _ _ _))⟩))))
           go_roundg k2
           case measure => have := HJ1.out; have := HK2.out; omega
           case rel => exact ⟨(wrap64 (x3_2 + ((rd_T25 l0_5 x40_2).f1))), (wrap64 (x40_2 + 1)), (by first | rfl | (simp; done) | (simp [*]; done)), (by first | rfl | (simp; done) | (simp [*]; done)), H', ⟨by have := HJ1.out; have := HK2.out; omega⟩, ⟨by (with_reducible repeat (first | refine blk_drewN ?_ _ | refine blk_drew ?_ | refine blk_alloc ?_ _)); refine blk_far ?_ NB126_128.out _; (with_reducible repeat (first | refine blk_drewN ?_ _ | refine blk_drew ?_ | refine blk_alloc ?_ _)); refine blk_far ?_ NB126_128.out _; (with_reducible repeat (first | refine blk_drewN ?_ _ | refine blk_drew ?_ | refine blk_alloc ?_ _)); refine blk_far ?_ NB126_128.out _; (with_reducible repeat (first | refine blk_drewN ?_ _ | refine blk_drew ?_ | refine blk_alloc ?_ _)); refine blk_far ?_ NB126_128.out _; (with_reducible repeat (first | refine blk_drewN ?_ _ | refine blk_drew ?_ | refine blk_alloc ?_ _)); refine blk_far ?_ NB126_128.out _; (with_reducible repeat (first | refine blk_drewN ?_ _ | refine blk_drew ?_ | refine blk_alloc ?_ _)); refine blk_far ?_ NB126_128.out _; (with_reducible repeat (first | refine blk_drewN ?_ _ | refine blk_drew ?_ | refine blk_alloc ?_ _)); exact BK126.out⟩, ⟨by repeat (first | (with_reducible first | exact HB.out | apply below_alloc | apply pw_below_drewN | apply below_drew1 | refine below_set ?_ GE126.out | refine below_set ?_ GE128.out) | exact HB.out)⟩⟩
          ·replace c22 := Bool.eq_false_iff.mpr c22
           subst c22
           have H1 : (some false) = some r := by rw [if_neg (show ¬ (false = true) by decide)] at H; exact H
           clear H
           have H := H1
           clear H1
           obtain rfl := Option.some.inj H
           have p127 : 0 ≤ (x40_2 : Int) := of_decide_eq_true (by first | (with_reducible assumption) | assumption)
           have q127 : x40_2 < (l0_5.length : Int) := of_decide_eq_true (by first | (with_reducible assumption) | assumption)
           obtain ⟨ad127, A127_4, c127_4, A127_5, c127_5, e127, hx127_0, hx127_1, hx127_2, hx127_3, hx127_4, hx127_5, hl127_4, hi127_4, hl127_5, hi127_5⟩ := at_T25 HR0_5.out x40_2 p127 q127
           cases e127
           replace hx127_0 := (HB.out.cell (World.block_lt_of_cell? w _ hx127_0)).trans hx127_0
           replace hx127_1 := (HB.out.cell (World.block_lt_of_cell? w _ hx127_1)).trans hx127_1
           replace hx127_2 := (HB.out.cell (World.block_lt_of_cell? w _ hx127_2)).trans hx127_2
           replace hx127_3 := (HB.out.cell (World.block_lt_of_cell? w _ hx127_3)).trans hx127_3
           replace hx127_4 := (HB.out.cell (World.block_lt_of_cell? w _ hx127_4)).trans hx127_4
           replace hx127_5 := (HB.out.cell (World.block_lt_of_cell? w _ hx127_5)).trans hx127_5
           have HR127_4 := Aside0.mk hi127_4
           have HC127_4 := Aside0.mk hl127_4
           clear hi127_4 hl127_4
           have HR127_5 := Aside0.mk hi127_5
           have HC127_5 := Aside0.mk hl127_5
           clear hi127_5 hl127_5
           replace p127 := eq_true p127
           replace q127 := eq_true q127
           go_wp2_with (first | ((with_reducible refine gate_dst (N := 5) rfl ?_); (try (refine gate_guard (by rfl) ?_; dsimp only)); refine box_event ?hg (N := 5) ?hd (cs := #[.int .i64 0, .int .i64 0, .int .i64 0, .int .i64 0, .slice none 0 0, .slice none 0 0]) (t := 25) ?hr ?_; (case hd => rfl); (case hg => rfl); (case hr => first | (go_simp; done) | (go_simp; rfl)); intro gb128 hg w26 hbox hb; have n0_ := Aside0.mk (blk_below (g := gb126) (o := .cells #[.int .i64 a0_0, .int .i64 a0_1, .int .i64 a0_2, .int .i64 a0_3, .slice A0_4 l0_4.length c0_4, .slice (some ad127) l0_5.length c0_5] 25 (0, 0)) (by (with_reducible repeat (first | refine blk_drewN ?_ _ | refine blk_drew ?_ | refine blk_alloc ?_ _)); exact BK126.out) hb); have n1_ := Aside0.mk (below_step (by repeat (first | (with_reducible first | exact HB.out | apply below_alloc | apply pw_below_drewN | apply below_drew1 | refine below_set ?_ GE126.out) | exact HB.out)) hb); have n2_ := Aside0.mk (hbox); have n3_ := Aside0.mk ((by rw [hg]; exact (below_size (by repeat (first | (with_reducible first | exact HB.out | apply below_alloc | apply pw_below_drewN | apply below_drew1 | refine below_set ?_ GE126.out) | exact HB.out))) : w.heap.size ≤ gb128)); have n4_ := Aside0.mk ((by rw [hg]; exact (below_size (by repeat (first | (with_reducible first | exact HB.out | apply below_alloc | apply pw_below_drewN | apply below_drew1 | refine below_set ?_ GE126.out) | exact HB.out))) : w.heap.size ≤ gb128)); have n5_ := Aside0.mk ((by rw [hg]; exact Nat.ne_of_lt (blk_lt (g := gb126) (o := .cells #[.int .i64 a0_0, .int .i64 a0_1, .int .i64 a0_2, .int .i64 a0_3, .slice A0_4 l0_4.length c0_4, .slice (some ad127) l0_5.length c0_5] 25 (0, 0)) (by (with_reducible repeat (first | refine blk_drewN ?_ _ | refine blk_drew ?_ | refine blk_alloc ?_ _)); exact BK126.out)) : gb126 ≠ gb128)); have n6_ := Aside0.mk ((by rw [hg]; exact Nat.ne_of_gt (blk_lt (g := gb126) (o := .cells #[.int .i64 a0_0, .int .i64 a0_1, .int .i64 a0_2, .int .i64 a0_3, .slice A0_4 l0_4.length c0_4, .slice (some ad127) l0_5.length c0_5] 25 (0, 0)) (by (with_reducible repeat (first | refine blk_drewN ?_ _ | refine blk_drew ?_ | refine blk_alloc ?_ _)); exact BK126.out)) : gb128 ≠ gb126)); clear BK126; clear HB; have BK126 := n0_; have HB := n1_; have BK128 := n2_; have GW128 := n3_; have GE128 := n4_; have NB126_128 := n5_; have NB128_126 := n6_; clear n0_ n1_ n2_ n3_ n4_ n5_ n6_; clear hb hbox hg; have hnb27 := NB128_126.out; have hnc27 := NB126_128.out; have hcz28_0 : w26.cell? ⟨gb128, 0, none⟩ = some (.int .i64 0) := (blk_cell BK128.out 0).trans rfl; have hcz28_1 : w26.cell? ⟨gb128, 1, none⟩ = some (.int .i64 0) := (blk_cell BK128.out 1).trans rfl; have hcz28_2 : w26.cell? ⟨gb128, 2, none⟩ = some (.int .i64 0) := (blk_cell BK128.out 2).trans rfl; have hcz28_3 : w26.cell? ⟨gb128, 3, none⟩ = some (.int .i64 0) := (blk_cell BK128.out 3).trans rfl; have hcz28_4 : w26.cell? ⟨gb128, 4, none⟩ = some (.slice none 0 0) := (blk_cell BK128.out 4).trans rfl; have hcz28_5 : w26.cell? ⟨gb128, 5, none⟩ = some (.slice none 0 0) := (blk_cell BK128.out 5).trans rfl; have hfz28_0 := blk_frozen BK128.out 0; have hfz28_1 := blk_frozen BK128.out 1; have hfz28_2 := blk_frozen BK128.out 2; have hfz28_3 := blk_frozen BK128.out 3; have hfz28_4 := blk_frozen BK128.out 4; have hfz28_5 := blk_frozen BK128.out 5) | (go_at_call 35; (with_reducible refine (matroid_in.calls ((rd_T25 l0_5 x40_2).f1) 64 false _ A21.out).mono ?_); rintro e w' ⟨rfl, ⟨nd, rfl⟩⟩; (try first | exact ⟨rfl, _, World.drewN_drewN _ _ _⟩ | exact ⟨rfl, _, Eq.trans (World.drewN_drewN _ _ _) (congrArg (World.drewN _) (Nat.add_assoc _ _ _))⟩)))
           repeat (go_quiet (first | ((with_reducible refine gate_dst (N := 5) rfl ?_); (try (refine gate_guard (by rfl) ?_; dsimp only)); refine box_event ?hg (N := 5) ?hd (cs := #[.int .i64 0, .int .i64 0, .int .i64 0, .int .i64 0, .slice none 0 0, .slice none 0 0]) (t := 25) ?hr ?_; (case hd => rfl); (case hg => rfl); (case hr => first | (go_simp; done) | (go_simp; rfl)); intro gb128 hg w26 hbox hb; have n0_ := Aside0.mk (blk_below (g := gb126) (o := .cells #[.int .i64 a0_0, .int .i64 a0_1, .int .i64 a0_2, .int .i64 a0_3, .slice A0_4 l0_4.length c0_4, .slice (some ad127) l0_5.length c0_5] 25 (0, 0)) (by (with_reducible repeat (first | refine blk_drewN ?_ _ | refine blk_drew ?_ | refine blk_alloc ?_ _)); exact BK126.out) hb); have n1_ := Aside0.mk (below_step (by repeat (first | (with_reducible first | exact HB.out | apply below_alloc | apply pw_below_drewN | apply below_drew1 | refine below_set ?_ GE126.out) | exact HB.out)) hb); have n2_ := Aside0.mk (hbox); have n3_ := Aside0.mk ((by rw [hg]; exact (below_size (by repeat (first | (with_reducible first | exact HB.out | apply below_alloc | apply pw_below_drewN | apply below_drew1 | refine below_set ?_ GE126.out) | exact HB.out))) : w.heap.size ≤ gb128)); have n4_ := Aside0.mk ((by rw [hg]; exact (below_size (by repeat (first | (with_reducible first | exact HB.out | apply below_alloc | apply pw_below_drewN | apply below_drew1 | refine below_set ?_ GE126.out) | exact HB.out))) : w.heap.size ≤ gb128)); have n5_ := Aside0.mk ((by rw [hg]; exact Nat.ne_of_lt (blk_lt (g := gb126) (o := .cells #[.int .i64 a0_0, .int .i64 a0_1, .int .i64 a0_2, .int .i64 a0_3, .slice A0_4 l0_4.length c0_4, .slice (some ad127) l0_5.length c0_5] 25 (0, 0)) (by (with_reducible repeat (first | refine blk_drewN ?_ _ | refine blk_drew ?_ | refine blk_alloc ?_ _)); exact BK126.out)) : gb126 ≠ gb128)); have n6_ := Aside0.mk ((by rw [hg]; exact Nat.ne_of_gt (blk_lt (g := gb126) (o := .cells #[.int .i64 a0_0, .int .i64 a0_1, .int .i64 a0_2, .int .i64 a0_3, .slice A0_4 l0_4.length c0_4, .slice (some ad127) l0_5.length c0_5] 25 (0, 0)) (by (with_reducible repeat (first | refine blk_drewN ?_ _ | refine blk_drew ?_ | refine blk_alloc ?_ _)); exact BK126.out)) : gb128 ≠ gb126)); clear BK126; clear HB; have BK126 := n0_; have HB := n1_; have BK128 := n2_; have GW128 := n3_; have GE128 := n4_; have NB126_128 := n5_; have NB128_126 := n6_; clear n0_ n1_ n2_ n3_ n4_ n5_ n6_; clear hb hbox hg; have hnb27 := NB128_126.out; have hnc27 := NB126_128.out; have hcz28_0 : w26.cell? ⟨gb128, 0, none⟩ = some (.int .i64 0) := (blk_cell BK128.out 0).trans rfl; have hcz28_1 : w26.cell? ⟨gb128, 1, none⟩ = some (.int .i64 0) := (blk_cell BK128.out 1).trans rfl; have hcz28_2 : w26.cell? ⟨gb128, 2, none⟩ = some (.int .i64 0) := (blk_cell BK128.out 2).trans rfl; have hcz28_3 : w26.cell? ⟨gb128, 3, none⟩ = some (.int .i64 0) := (blk_cell BK128.out 3).trans rfl; have hcz28_4 : w26.cell? ⟨gb128, 4, none⟩ = some (.slice none 0 0) := (blk_cell BK128.out 4).trans rfl; have hcz28_5 : w26.cell? ⟨gb128, 5, none⟩ = some (.slice none 0 0) := (blk_cell BK128.out 5).trans rfl; have hfz28_0 := blk_frozen BK128.out 0; have hfz28_1 := blk_frozen BK128.out 1; have hfz28_2 := blk_frozen BK128.out 2; have hfz28_3 := blk_frozen BK128.out 3; have hfz28_4 := blk_frozen BK128.out 4; have hfz28_5 := blk_frozen BK128.out 5) | (go_at_call 35; (with_reducible refine (matroid_in.calls ((rd_T25 l0_5 x40_2).f1) 64 false _ A21.out).mono ?_); rintro e w' ⟨rfl, ⟨nd, rfl⟩⟩; (try first | exact ⟨rfl, _, World.drewN_drewN _ _ _⟩ | exact ⟨rfl, _, Eq.trans (World.drewN_drewN _ _ _) (congrArg (World.drewN _) (Nat.add_assoc _ _ _))⟩))); try go_wp2_with (first | ((with_reducible refine gate_dst (N := 5) rfl ?_); (try (refine gate_guard (by rfl) ?_; dsimp only)); refine box_event ?hg (N := 5) ?hd (cs := #[.int .i64 0, .int .i64 0, .int .i64 0, .int .i64 0, .slice none 0 0, .slice none 0 0]) (t := 25) ?hr ?_; (case hd => rfl); (case hg => rfl); (case hr => first | (go_simp; done) | (go_simp; rfl)); intro gb128 hg w26 hbox hb; have n0_ := Aside0.mk (blk_below (g := gb126) (o := .cells #[.int .i64 a0_0, .int .i64 a0_1, .int .i64 a0_2, .int .i64 a0_3, .slice A0_4 l0_4.length c0_4, .slice (some ad127) l0_5.length c0_5] 25 (0, 0)) (by (with_reducible repeat (first | refine blk_drewN ?_ _ | refine blk_drew ?_ | refine blk_alloc ?_ _)); exact BK126.out) hb); have n1_ := Aside0.mk (below_step (by repeat (first | (with_reducible first | exact HB.out | apply below_alloc | apply pw_below_drewN | apply below_drew1 | refine below_set ?_ GE126.out) | exact HB.out)) hb); have n2_ := Aside0.mk (hbox); have n3_ := Aside0.mk ((by rw [hg]; exact (below_size (by repeat (first | (with_reducible first | exact HB.out | apply below_alloc | apply pw_below_drewN | apply below_drew1 | refine below_set ?_ GE126.out) | exact HB.out))) : w.heap.size ≤ gb128)); have n4_ := Aside0.mk ((by rw [hg]; exact (below_size (by repeat (first | (with_reducible first | exact HB.out | apply below_alloc | apply pw_below_drewN | apply below_drew1 | refine below_set ?_ GE126.out) | exact HB.out))) : w.heap.size ≤ gb128)); have n5_ := Aside0.mk ((by rw [hg]; exact Nat.ne_of_lt (blk_lt (g := gb126) (o := .cells #[.int .i64 a0_0, .int .i64 a0_1, .int .i64 a0_2, .int .i64 a0_3, .slice A0_4 l0_4.length c0_4, .slice (some ad127) l0_5.length c0_5] 25 (0, 0)) (by (with_reducible repeat (first | refine blk_drewN ?_ _ | refine blk_drew ?_ | refine blk_alloc ?_ _)); exact BK126.out)) : gb126 ≠ gb128)); have n6_ := Aside0.mk ((by rw [hg]; exact Nat.ne_of_gt (blk_lt (g := gb126) (o := .cells #[.int .i64 a0_0, .int .i64 a0_1, .int .i64 a0_2, .int .i64 a0_3, .slice A0_4 l0_4.length c0_4, .slice (some ad127) l0_5.length c0_5] 25 (0, 0)) (by (with_reducible repeat (first | refine blk_drewN ?_ _ | refine blk_drew ?_ | refine blk_alloc ?_ _)); exact BK126.out)) : gb128 ≠ gb126)); clear BK126; clear HB; have BK126 := n0_; have HB := n1_; have BK128 := n2_; have GW128 := n3_; have GE128 := n4_; have NB126_128 := n5_; have NB128_126 := n6_; clear n0_ n1_ n2_ n3_ n4_ n5_ n6_; clear hb hbox hg; have hnb27 := NB128_126.out; have hnc27 := NB126_128.out; have hcz28_0 : w26.cell? ⟨gb128, 0, none⟩ = some (.int .i64 0) := (blk_cell BK128.out 0).trans rfl; have hcz28_1 : w26.cell? ⟨gb128, 1, none⟩ = some (.int .i64 0) := (blk_cell BK128.out 1).trans rfl; have hcz28_2 : w26.cell? ⟨gb128, 2, none⟩ = some (.int .i64 0) := (blk_cell BK128.out 2).trans rfl; have hcz28_3 : w26.cell? ⟨gb128, 3, none⟩ = some (.int .i64 0) := (blk_cell BK128.out 3).trans rfl; have hcz28_4 : w26.cell? ⟨gb128, 4, none⟩ = some (.slice none 0 0) := (blk_cell BK128.out 4).trans rfl; have hcz28_5 : w26.cell? ⟨gb128, 5, none⟩ = some (.slice none 0 0) := (blk_cell BK128.out 5).trans rfl; have hfz28_0 := blk_frozen BK128.out 0; have hfz28_1 := blk_frozen BK128.out 1; have hfz28_2 := blk_frozen BK128.out 2; have hfz28_3 := blk_frozen BK128.out 3; have hfz28_4 := blk_frozen BK128.out 4; have hfz28_5 := blk_frozen BK128.out 5) | (go_at_call 35; (with_reducible refine (matroid_in.calls ((rd_T25 l0_5 x40_2).f1) 64 false _ A21.out).mono ?_); rintro e w' ⟨rfl, ⟨nd, rfl⟩⟩; (try first | exact ⟨rfl, _, World.drewN_drewN _ _ _⟩ | exact ⟨rfl, _, Eq.trans (World.drewN_drewN _ _ _) (congrArg (World.drewN _) (Nat.add_assoc _ _ _))⟩))))
           go_ret
           exact ⟨by first | rfl | (simp [errW_none, errW_some] <;> rfl) | (simp [*, errW_none, errW_some] <;> rfl), by repeat (first | (with_reducible first | exact HB.out | apply below_alloc | apply pw_below_drewN | apply below_drew1 | refine below_set ?_ GE126.out | refine below_set ?_ GE128.out) | exact HB.out)⟩
         ·rw [if_neg c20] at H
          exact absurd H (by simp)
        ·rw [if_neg c19] at H
         exact absurd H (by simp)
       ·rw [if_neg c18] at H
        have c18b0 : decide (x40_2 < (l0_5.length : Int)) = false := decide_eq_false c18
        clear c18
        by_cases c29 : (l0_5.length : Int) ≥ 1
        ·rw [if_pos c29] at H
         have c29b0 : decide (1 ≤ (l0_5.length : Int)) = true := decide_eq_true c29
         have c29b1 : decide (1 ≤ l0_5.length) = true := decide_eq_true (by omega)
         clear c29
         by_cases c30 : (l0_5.length : Int) ≤ 8
         ·rw [if_pos c30] at H
          have c30b0 : decide ((l0_5.length : Int) ≤ 8) = true := decide_eq_true c30
          have c30b1 : decide (l0_5.length ≤ 8) = true := decide_eq_true (by omega)
          clear c30
          obtain rfl := Option.some.inj H
          have hcz31_0 : wr.cell? ⟨gb126, 0, none⟩ = some (.int .i64 a0_0) := (blk_cell BK126.out 0).trans rfl
          have hcz31_1 : wr.cell? ⟨gb126, 1, none⟩ = some (.int .i64 a0_1) := (blk_cell BK126.out 1).trans rfl
          have hcz31_2 : wr.cell? ⟨gb126, 2, none⟩ = some (.int .i64 a0_2) := (blk_cell BK126.out 2).trans rfl
          have hcz31_3 : wr.cell? ⟨gb126, 3, none⟩ = some (.int .i64 a0_3) := (blk_cell BK126.out 3).trans rfl
          have hcz31_4 : wr.cell? ⟨gb126, 4, none⟩ = some (.slice A0_4 l0_4.length c0_4) := (blk_cell BK126.out 4).trans rfl
          have hcz31_5 : wr.cell? ⟨gb126, 5, none⟩ = some (.slice A0_5 l0_5.length c0_5) := (blk_cell BK126.out 5).trans rfl
          have hfz31_0 := blk_frozen BK126.out 0
          have hfz31_1 := blk_frozen BK126.out 1
          have hfz31_2 := blk_frozen BK126.out 2
          have hfz31_3 := blk_frozen BK126.out 3
          have hfz31_4 := blk_frozen BK126.out 4
          have hfz31_5 := blk_frozen BK126.out 5
          go_wp2
          repeat (go_quiet (fail); try go_wp2)
          go_ret
          exact ⟨by first | rfl | (simp [errW_none, errW_some] <;> rfl) | (simp [*, errW_none, errW_some] <;> rfl), by repeat (first | (with_reducible first | exact HB.out | apply below_alloc | apply pw_below_drewN | apply below_drew1 | refine below_set ?_ GE126.out) | exact HB.out)⟩
         ·rw [if_neg c30] at H
          have c30b0 : decide ((l0_5.length : Int) ≤ 8) = false := decide_eq_false c30
          have c30b1 : decide (l0_5.length ≤ 8) = false := decide_eq_false (by omega)
          clear c30
          obtain rfl := Option.some.inj H
          have hcz32_0 : wr.cell? ⟨gb126, 0, none⟩ = some (.int .i64 a0_0) := (blk_cell BK126.out 0).trans rfl
          have hcz32_1 : wr.cell? ⟨gb126, 1, none⟩ = some (.int .i64 a0_1) := (blk_cell BK126.out 1).trans rfl
          have hcz32_2 : wr.cell? ⟨gb126, 2, none⟩ = some (.int .i64 a0_2) := (blk_cell BK126.out 2).trans rfl
          have hcz32_3 : wr.cell? ⟨gb126, 3, none⟩ = some (.int .i64 a0_3) := (blk_cell BK126.out 3).trans rfl
          have hcz32_4 : wr.cell? ⟨gb126, 4, none⟩ = some (.slice A0_4 l0_4.length c0_4) := (blk_cell BK126.out 4).trans rfl
          have hcz32_5 : wr.cell? ⟨gb126, 5, none⟩ = some (.slice A0_5 l0_5.length c0_5) := (blk_cell BK126.out 5).trans rfl
          have hfz32_0 := blk_frozen BK126.out 0
          have hfz32_1 := blk_frozen BK126.out 1
          have hfz32_2 := blk_frozen BK126.out 2
          have hfz32_3 := blk_frozen BK126.out 3
          have hfz32_4 := blk_frozen BK126.out 4
          have hfz32_5 := blk_frozen BK126.out 5
          go_wp2
          repeat (go_quiet (fail); try go_wp2)
          go_ret
          exact ⟨by first | rfl | (simp [errW_none, errW_some] <;> rfl) | (simp [*, errW_none, errW_some] <;> rfl), by repeat (first | (with_reducible first | exact HB.out | apply below_alloc | apply pw_below_drewN | apply below_drew1 | refine below_set ?_ GE126.out) | exact HB.out)⟩
        ·rw [if_neg c29] at H
         have c29b0 : decide (1 ≤ (l0_5.length : Int)) = false := decide_eq_false c29
         have c29b1 : decide (1 ≤ l0_5.length) = false := decide_eq_false (by omega)
         clear c29
         obtain rfl := Option.some.inj H
         have hcz33_0 : wr.cell? ⟨gb126, 0, none⟩ = some (.int .i64 a0_0) := (blk_cell BK126.out 0).trans rfl
         have hcz33_1 : wr.cell? ⟨gb126, 1, none⟩ = some (.int .i64 a0_1) := (blk_cell BK126.out 1).trans rfl
         have hcz33_2 : wr.cell? ⟨gb126, 2, none⟩ = some (.int .i64 a0_2) := (blk_cell BK126.out 2).trans rfl
         have hcz33_3 : wr.cell? ⟨gb126, 3, none⟩ = some (.int .i64 a0_3) := (blk_cell BK126.out 3).trans rfl
         have hcz33_4 : wr.cell? ⟨gb126, 4, none⟩ = some (.slice A0_4 l0_4.length c0_4) := (blk_cell BK126.out 4).trans rfl
         have hcz33_5 : wr.cell? ⟨gb126, 5, none⟩ = some (.slice A0_5 l0_5.length c0_5) := (blk_cell BK126.out 5).trans rfl
         have hfz33_0 := blk_frozen BK126.out 0
         have hfz33_1 := blk_frozen BK126.out 1
         have hfz33_2 := blk_frozen BK126.out 2
         have hfz33_3 := blk_frozen BK126.out 3
         have hfz33_4 := blk_frozen BK126.out 4
         have hfz33_5 := blk_frozen BK126.out 5
         go_wp2
         repeat (go_quiet (fail); try go_wp2)
         go_ret
         exact ⟨by first | rfl | (simp [errW_none, errW_some] <;> rfl) | (simp [*, errW_none, errW_some] <;> rfl), by repeat (first | (with_reducible first | exact HB.out | apply below_alloc | apply pw_below_drewN | apply below_drew1 | refine below_set ?_ GE126.out) | exact HB.out)⟩
    ·rw [if_neg c16] at H
     have c16b0 : (a0_0 == 9) = false := beq_eq_false_iff_ne.mpr c16
     have c16b1 : (a0_0 != 9) = true := bne_iff_ne.mpr c16
     by_cases c34 : (l0_5.length : Int) = 1
     ·rw [if_pos c34] at H
      have c34b0 : ((l0_5.length : Int) == 1) = true := beq_iff_eq.mpr c34
      have c34b1 : ((l0_5.length : Int) != 1) = false := bne_eq_false_iff_eq.mpr c34
      clear c34
      by_cases c35 : a0_0 = 5
      ·rw [if_pos c35] at H
       have c35b0 : (a0_0 == 5) = true := beq_iff_eq.mpr c35
       have c35b1 : (a0_0 != 5) = false := bne_eq_false_iff_eq.mpr c35
       clear c35
       replace H := Option.bind_eq_some_iff.mp H
       obtain ⟨⟨t130, t133⟩, A360, H⟩ := H
       replace H : (if t133 = true then (some (a0_1 == (t130.length : Int))) else (some false)) = some r := H
       have A36 := Aside0.mk A360
       clear A360
       by_cases c37 : t133 = true
       ·subst c37
        have H1 : (some (a0_1 == (t130.length : Int))) = some r := by rw [if_pos rfl] at H; exact H
        clear H
        have H := H1
        clear H1
        obtain rfl := Option.some.inj H
        have hcz38_0 : wc.cell? ⟨gb126, 0, none⟩ = some (.int .i64 a0_0) := (blk_cell BK126.out 0).trans rfl
        have hcz38_1 : wc.cell? ⟨gb126, 1, none⟩ = some (.int .i64 a0_1) := (blk_cell BK126.out 1).trans rfl
        have hcz38_2 : wc.cell? ⟨gb126, 2, none⟩ = some (.int .i64 a0_2) := (blk_cell BK126.out 2).trans rfl
        have hcz38_3 : wc.cell? ⟨gb126, 3, none⟩ = some (.int .i64 a0_3) := (blk_cell BK126.out 3).trans rfl
        have hcz38_4 : wc.cell? ⟨gb126, 4, none⟩ = some (.slice A0_4 l0_4.length c0_4) := (blk_cell BK126.out 4).trans rfl
        have hcz38_5 : wc.cell? ⟨gb126, 5, none⟩ = some (.slice A0_5 l0_5.length c0_5) := (blk_cell BK126.out 5).trans rfl
        have hfz38_0 := blk_frozen BK126.out 0
        have hfz38_1 := blk_frozen BK126.out 1
        have hfz38_2 := blk_frozen BK126.out 2
        have hfz38_3 := blk_frozen BK126.out 3
        have hfz38_4 := blk_frozen BK126.out 4
        have hfz38_5 := blk_frozen BK126.out 5
        go_wp2_with (first | (go_at_call 53; (with_reducible refine (matroid_part.calls kj1 a0_0 a0_1 a0_2 a0_3 (fun k_ => k_ < w.heap.size) _ _ l0_4 _ _ l0_5 t130 true _ ?side1 ?side2 ?side3 A36.out).mono ?_); (case side1 => exact Kd.V_mk HC0_4.out (Kd.F_below (Kd.C_F (Kd.heap_slice 3 (Kd.heap_int .i64)) HR0_4.out) (by repeat (first | (with_reducible first | exact HB.out | apply below_alloc | apply pw_below_drewN | apply below_drew1 | refine below_set ?_ GE126.out) | exact HB.out)))); (case side2 => repeat (first | exact (Kd.C_below HR0_5.out HB.out) | (with_reducible refine Kd.C_alloc ?_ _) | (with_reducible refine Kd.C_drewN ?_ _) | (with_reducible refine Kd.C_drew ?_))); (case side3 => exact HC0_5.out); rintro e w39 ⟨v131, rfl, ho0, hb⟩; have n0_ := Aside0.mk (Kd.V_lower (Kd.V_mono (ok' := fun k_ => k_ ≠ gb126) ho0 (fun k_ hk_ => Or.elim hk_ (fun hs_ => fun e_ => Nat.not_le.2 hs_ (by rw [e_]; exact GW126.out)) (fun hn_ => (Kd.freshB (g := gb126) (o := .cells #[.int .i64 a0_0, .int .i64 a0_1, .int .i64 a0_2, .int .i64 a0_3, .slice A0_4 l0_4.length c0_4, .slice A0_5 l0_5.length c0_5] 25 (0, 0)) (by (with_reducible repeat (first | refine blk_drewN ?_ _ | refine blk_drew ?_ | refine blk_alloc ?_ _)); exact BK126.out) k_ hn_)))) (below_size (by repeat (first | (with_reducible first | exact HB.out | apply below_alloc | apply pw_below_drewN | apply below_drew1 | refine below_set ?_ GE126.out) | exact HB.out)))); have n1_ := Aside0.mk (blk_below (g := gb126) (o := .cells #[.int .i64 a0_0, .int .i64 a0_1, .int .i64 a0_2, .int .i64 a0_3, .slice A0_4 l0_4.length c0_4, .slice A0_5 l0_5.length c0_5] 25 (0, 0)) (by (with_reducible repeat (first | refine blk_drewN ?_ _ | refine blk_drew ?_ | refine blk_alloc ?_ _)); exact BK126.out) hb); have n2_ := Aside0.mk (below_step (by repeat (first | (with_reducible first | exact HB.out | apply below_alloc | apply pw_below_drewN | apply below_drew1 | refine below_set ?_ GE126.out) | exact HB.out)) hb); clear BK126; clear HB; have HO132 := n0_; have BK126 := n1_; have HB := n2_; clear n0_ n1_ n2_; (try clear hb); (try clear hb2); (try clear hk); (try clear hi); (try clear ho0); have hcz40_0 : w39.cell? ⟨gb126, 0, none⟩ = some (.int .i64 a0_0) := (blk_cell BK126.out 0).trans rfl; have hcz40_1 : w39.cell? ⟨gb126, 1, none⟩ = some (.int .i64 a0_1) := (blk_cell BK126.out 1).trans rfl; have hcz40_2 : w39.cell? ⟨gb126, 2, none⟩ = some (.int .i64 a0_2) := (blk_cell BK126.out 2).trans rfl; have hcz40_3 : w39.cell? ⟨gb126, 3, none⟩ = some (.int .i64 a0_3) := (blk_cell BK126.out 3).trans rfl; have hcz40_4 : w39.cell? ⟨gb126, 4, none⟩ = some (.slice A0_4 l0_4.length c0_4) := (blk_cell BK126.out 4).trans rfl; have hcz40_5 : w39.cell? ⟨gb126, 5, none⟩ = some (.slice A0_5 l0_5.length c0_5) := (blk_cell BK126.out 5).trans rfl; have hfz40_0 := blk_frozen BK126.out 0; have hfz40_1 := blk_frozen BK126.out 1; have hfz40_2 := blk_frozen BK126.out 2; have hfz40_3 := blk_frozen BK126.out 3; have hfz40_4 := blk_frozen BK126.out 4; have hfz40_5 := blk_frozen BK126.out 5; obtain ⟨Ao41, co41, eo41⟩ := Kd.V_slice HO132.out; subst eo41))
        repeat (go_quiet (first | (go_at_call 53; (with_reducible refine (matroid_part.calls kj1 a0_0 a0_1 a0_2 a0_3 (fun k_ => k_ < w.heap.size) _ _ l0_4 _ _ l0_5 t130 true _ ?side1 ?side2 ?side3 A36.out).mono ?_); (case side1 => exact Kd.V_mk HC0_4.out (Kd.F_below (Kd.C_F (Kd.heap_slice 3 (Kd.heap_int .i64)) HR0_4.out) (by repeat (first | (with_reducible first | exact HB.out | apply below_alloc | apply pw_below_drewN | apply below_drew1 | refine below_set ?_ GE126.out) | exact HB.out)))); (case side2 => repeat (first | exact (Kd.C_below HR0_5.out HB.out) | (with_reducible refine Kd.C_alloc ?_ _) | (with_reducible refine Kd.C_drewN ?_ _) | (with_reducible refine Kd.C_drew ?_))); (case side3 => exact HC0_5.out); rintro e w39 ⟨v131, rfl, ho0, hb⟩; have n0_ := Aside0.mk (Kd.V_lower (Kd.V_mono (ok' := fun k_ => k_ ≠ gb126) ho0 (fun k_ hk_ => Or.elim hk_ (fun hs_ => fun e_ => Nat.not_le.2 hs_ (by rw [e_]; exact GW126.out)) (fun hn_ => (Kd.freshB (g := gb126) (o := .cells #[.int .i64 a0_0, .int .i64 a0_1, .int .i64 a0_2, .int .i64 a0_3, .slice A0_4 l0_4.length c0_4, .slice A0_5 l0_5.length c0_5] 25 (0, 0)) (by (with_reducible repeat (first | refine blk_drewN ?_ _ | refine blk_drew ?_ | refine blk_alloc ?_ _)); exact BK126.out) k_ hn_)))) (below_size (by repeat (first | (with_reducible first | exact HB.out | apply below_alloc | apply pw_below_drewN | apply below_drew1 | refine below_set ?_ GE126.out) | exact HB.out)))); have n1_ := Aside0.mk (blk_below (g := gb126) (o := .cells #[.int .i64 a0_0, .int .i64 a0_1, .int .i64 a0_2, .int .i64 a0_3, .slice A0_4 l0_4.length c0_4, .slice A0_5 l0_5.length c0_5] 25 (0, 0)) (by (with_reducible repeat (first | refine blk_drewN ?_ _ | refine blk_drew ?_ | refine blk_alloc ?_ _)); exact BK126.out) hb); have n2_ := Aside0.mk (below_step (by repeat (first | (with_reducible first | exact HB.out | apply below_alloc | apply pw_below_drewN | apply below_drew1 | refine below_set ?_ GE126.out) | exact HB.out)) hb); clear BK126; clear HB; have HO132 := n0_; have BK126 := n1_; have HB := n2_; clear n0_ n1_ n2_; (try clear hb); (try clear hb2); (try clear hk); (try clear hi); (try clear ho0); have hcz40_0 : w39.cell? ⟨gb126, 0, none⟩ = some (.int .i64 a0_0) := (blk_cell BK126.out 0).trans rfl; have hcz40_1 : w39.cell? ⟨gb126, 1, none⟩ = some (.int .i64 a0_1) := (blk_cell BK126.out 1).trans rfl; have hcz40_2 : w39.cell? ⟨gb126, 2, none⟩ = some (.int .i64 a0_2) := (blk_cell BK126.out 2).trans rfl; have hcz40_3 : w39.cell? ⟨gb126, 3, none⟩ = some (.int .i64 a0_3) := (blk_cell BK126.out 3).trans rfl; have hcz40_4 : w39.cell? ⟨gb126, 4, none⟩ = some (.slice A0_4 l0_4.length c0_4) := (blk_cell BK126.out 4).trans rfl; have hcz40_5 : w39.cell? ⟨gb126, 5, none⟩ = some (.slice A0_5 l0_5.length c0_5) := (blk_cell BK126.out 5).trans rfl; have hfz40_0 := blk_frozen BK126.out 0; have hfz40_1 := blk_frozen BK126.out 1; have hfz40_2 := blk_frozen BK126.out 2; have hfz40_3 := blk_frozen BK126.out 3; have hfz40_4 := blk_frozen BK126.out 4; have hfz40_5 := blk_frozen BK126.out 5; obtain ⟨Ao41, co41, eo41⟩ := Kd.V_slice HO132.out; subst eo41)); try go_wp2_with (first | (go_at_call 53; (with_reducible refine (matroid_part.calls kj1 a0_0 a0_1 a0_2 a0_3 (fun k_ => k_ < w.heap.size) _ _ l0_4 _ _ l0_5 t130 true _ ?side1 ?side2 ?side3 A36.out).mono ?_); (case side1 => exact Kd.V_mk HC0_4.out (Kd.F_below (Kd.C_F (Kd.heap_slice 3 (Kd.heap_int .i64)) HR0_4.out) (by repeat (first | (with_reducible first | exact HB.out | apply below_alloc | apply pw_below_drewN | apply below_drew1 | refine below_set ?_ GE126.out) | exact HB.out)))); (case side2 => repeat (first | exact (Kd.C_below HR0_5.out HB.out) | (with_reducible refine Kd.C_alloc ?_ _) | (with_reducible refine Kd.C_drewN ?_ _) | (with_reducible refine Kd.C_drew ?_))); (case side3 => exact HC0_5.out); rintro e w39 ⟨v131, rfl, ho0, hb⟩; have n0_ := Aside0.mk (Kd.V_lower (Kd.V_mono (ok' := fun k_ => k_ ≠ gb126) ho0 (fun k_ hk_ => Or.elim hk_ (fun hs_ => fun e_ => Nat.not_le.2 hs_ (by rw [e_]; exact GW126.out)) (fun hn_ => (Kd.freshB (g := gb126) (o := .cells #[.int .i64 a0_0, .int .i64 a0_1, .int .i64 a0_2, .int .i64 a0_3, .slice A0_4 l0_4.length c0_4, .slice A0_5 l0_5.length c0_5] 25 (0, 0)) (by (with_reducible repeat (first | refine blk_drewN ?_ _ | refine blk_drew ?_ | refine blk_alloc ?_ _)); exact BK126.out) k_ hn_)))) (below_size (by repeat (first | (with_reducible first | exact HB.out | apply below_alloc | apply pw_below_drewN | apply below_drew1 | refine below_set ?_ GE126.out) | exact HB.out)))); have n1_ := Aside0.mk (blk_below (g := gb126) (o := .cells #[.int .i64 a0_0, .int .i64 a0_1, .int .i64 a0_2, .int .i64 a0_3, .slice A0_4 l0_4.length c0_4, .slice A0_5 l0_5.length c0_5] 25 (0, 0)) (by (with_reducible repeat (first | refine blk_drewN ?_ _ | refine blk_drew ?_ | refine blk_alloc ?_ _)); exact BK126.out) hb); have n2_ := Aside0.mk (below_step (by repeat (first | (with_reducible first | exact HB.out | apply below_alloc | apply pw_below_drewN | apply below_drew1 | refine below_set ?_ GE126.out) | exact HB.out)) hb); clear BK126; clear HB; have HO132 := n0_; have BK126 := n1_; have HB := n2_; clear n0_ n1_ n2_; (try clear hb); (try clear hb2); (try clear hk); (try clear hi); (try clear ho0); have hcz40_0 : w39.cell? ⟨gb126, 0, none⟩ = some (.int .i64 a0_0) := (blk_cell BK126.out 0).trans rfl; have hcz40_1 : w39.cell? ⟨gb126, 1, none⟩ = some (.int .i64 a0_1) := (blk_cell BK126.out 1).trans rfl; have hcz40_2 : w39.cell? ⟨gb126, 2, none⟩ = some (.int .i64 a0_2) := (blk_cell BK126.out 2).trans rfl; have hcz40_3 : w39.cell? ⟨gb126, 3, none⟩ = some (.int .i64 a0_3) := (blk_cell BK126.out 3).trans rfl; have hcz40_4 : w39.cell? ⟨gb126, 4, none⟩ = some (.slice A0_4 l0_4.length c0_4) := (blk_cell BK126.out 4).trans rfl; have hcz40_5 : w39.cell? ⟨gb126, 5, none⟩ = some (.slice A0_5 l0_5.length c0_5) := (blk_cell BK126.out 5).trans rfl; have hfz40_0 := blk_frozen BK126.out 0; have hfz40_1 := blk_frozen BK126.out 1; have hfz40_2 := blk_frozen BK126.out 2; have hfz40_3 := blk_frozen BK126.out 3; have hfz40_4 := blk_frozen BK126.out 4; have hfz40_5 := blk_frozen BK126.out 5; obtain ⟨Ao41, co41, eo41⟩ := Kd.V_slice HO132.out; subst eo41)))
        go_ret
        exact ⟨by first | rfl | (simp [errW_none, errW_some] <;> rfl) | (simp [*, errW_none, errW_some] <;> rfl), by repeat (first | (with_reducible first | exact HB.out | apply below_alloc | apply pw_below_drewN | apply below_drew1 | refine below_set ?_ GE126.out) | exact HB.out)⟩
       ·replace c37 := Bool.eq_false_iff.mpr c37
        subst c37
        have H1 : (some false) = some r := by rw [if_neg (show ¬ (false = true) by decide)] at H; exact H
        clear H
        have H := H1
        clear H1
        obtain rfl := Option.some.inj H
        have hcz42_0 : wc.cell? ⟨gb126, 0, none⟩ = some (.int .i64 a0_0) := (blk_cell BK126.out 0).trans rfl
        have hcz42_1 : wc.cell? ⟨gb126, 1, none⟩ = some (.int .i64 a0_1) := (blk_cell BK126.out 1).trans rfl
        have hcz42_2 : wc.cell? ⟨gb126, 2, none⟩ = some (.int .i64 a0_2) := (blk_cell BK126.out 2).trans rfl
        have hcz42_3 : wc.cell? ⟨gb126, 3, none⟩ = some (.int .i64 a0_3) := (blk_cell BK126.out 3).trans rfl
        have hcz42_4 : wc.cell? ⟨gb126, 4, none⟩ = some (.slice A0_4 l0_4.length c0_4) := (blk_cell BK126.out 4).trans rfl
        have hcz42_5 : wc.cell? ⟨gb126, 5, none⟩ = some (.slice A0_5 l0_5.length c0_5) := (blk_cell BK126.out 5).trans rfl
        have hfz42_0 := blk_frozen BK126.out 0
        have hfz42_1 := blk_frozen BK126.out 1
        have hfz42_2 := blk_frozen BK126.out 2
        have hfz42_3 := blk_frozen BK126.out 3
        have hfz42_4 := blk_frozen BK126.out 4
        have hfz42_5 := blk_frozen BK126.out 5
        go_wp2_with (first | (go_at_call 53; (with_reducible refine (matroid_part.calls kj1 a0_0 a0_1 a0_2 a0_3 (fun k_ => k_ < w.heap.size) _ _ l0_4 _ _ l0_5 t130 false _ ?side1 ?side2 ?side3 A36.out).mono ?_); (case side1 => exact Kd.V_mk HC0_4.out (Kd.F_below (Kd.C_F (Kd.heap_slice 3 (Kd.heap_int .i64)) HR0_4.out) (by repeat (first | (with_reducible first | exact HB.out | apply below_alloc | apply pw_below_drewN | apply below_drew1 | refine below_set ?_ GE126.out) | exact HB.out)))); (case side2 => repeat (first | exact (Kd.C_below HR0_5.out HB.out) | (with_reducible refine Kd.C_alloc ?_ _) | (with_reducible refine Kd.C_drewN ?_ _) | (with_reducible refine Kd.C_drew ?_))); (case side3 => exact HC0_5.out); rintro e w43 ⟨v131, rfl, ho0, hb⟩; have n0_ := Aside0.mk (Kd.V_lower (Kd.V_mono (ok' := fun k_ => k_ ≠ gb126) ho0 (fun k_ hk_ => Or.elim hk_ (fun hs_ => fun e_ => Nat.not_le.2 hs_ (by rw [e_]; exact GW126.out)) (fun hn_ => (Kd.freshB (g := gb126) (o := .cells #[.int .i64 a0_0, .int .i64 a0_1, .int .i64 a0_2, .int .i64 a0_3, .slice A0_4 l0_4.length c0_4, .slice A0_5 l0_5.length c0_5] 25 (0, 0)) (by (with_reducible repeat (first | refine blk_drewN ?_ _ | refine blk_drew ?_ | refine blk_alloc ?_ _)); exact BK126.out) k_ hn_)))) (below_size (by repeat (first | (with_reducible first | exact HB.out | apply below_alloc | apply pw_below_drewN | apply below_drew1 | refine below_set ?_ GE126.out) | exact HB.out)))); have n1_ := Aside0.mk (blk_below (g := gb126) (o := .cells #[.int .i64 a0_0, .int .i64 a0_1, .int .i64 a0_2, .int .i64 a0_3, .slice A0_4 l0_4.length c0_4, .slice A0_5 l0_5.length c0_5] 25 (0, 0)) (by (with_reducible repeat (first | refine blk_drewN ?_ _ | refine blk_drew ?_ | refine blk_alloc ?_ _)); exact BK126.out) hb); have n2_ := Aside0.mk (below_step (by repeat (first | (with_reducible first | exact HB.out | apply below_alloc | apply pw_below_drewN | apply below_drew1 | refine below_set ?_ GE126.out) | exact HB.out)) hb); clear BK126; clear HB; have HO132 := n0_; have BK126 := n1_; have HB := n2_; clear n0_ n1_ n2_; (try clear hb); (try clear hb2); (try clear hk); (try clear hi); (try clear ho0)))
        repeat (go_quiet (first | (go_at_call 53; (with_reducible refine (matroid_part.calls kj1 a0_0 a0_1 a0_2 a0_3 (fun k_ => k_ < w.heap.size) _ _ l0_4 _ _ l0_5 t130 false _ ?side1 ?side2 ?side3 A36.out).mono ?_); (case side1 => exact Kd.V_mk HC0_4.out (Kd.F_below (Kd.C_F (Kd.heap_slice 3 (Kd.heap_int .i64)) HR0_4.out) (by repeat (first | (with_reducible first | exact HB.out | apply below_alloc | apply pw_below_drewN | apply below_drew1 | refine below_set ?_ GE126.out) | exact HB.out)))); (case side2 => repeat (first | exact (Kd.C_below HR0_5.out HB.out) | (with_reducible refine Kd.C_alloc ?_ _) | (with_reducible refine Kd.C_drewN ?_ _) | (with_reducible refine Kd.C_drew ?_))); (case side3 => exact HC0_5.out); rintro e w43 ⟨v131, rfl, ho0, hb⟩; have n0_ := Aside0.mk (Kd.V_lower (Kd.V_mono (ok' := fun k_ => k_ ≠ gb126) ho0 (fun k_ hk_ => Or.elim hk_ (fun hs_ => fun e_ => Nat.not_le.2 hs_ (by rw [e_]; exact GW126.out)) (fun hn_ => (Kd.freshB (g := gb126) (o := .cells #[.int .i64 a0_0, .int .i64 a0_1, .int .i64 a0_2, .int .i64 a0_3, .slice A0_4 l0_4.length c0_4, .slice A0_5 l0_5.length c0_5] 25 (0, 0)) (by (with_reducible repeat (first | refine blk_drewN ?_ _ | refine blk_drew ?_ | refine blk_alloc ?_ _)); exact BK126.out) k_ hn_)))) (below_size (by repeat (first | (with_reducible first | exact HB.out | apply below_alloc | apply pw_below_drewN | apply below_drew1 | refine below_set ?_ GE126.out) | exact HB.out)))); have n1_ := Aside0.mk (blk_below (g := gb126) (o := .cells #[.int .i64 a0_0, .int .i64 a0_1, .int .i64 a0_2, .int .i64 a0_3, .slice A0_4 l0_4.length c0_4, .slice A0_5 l0_5.length c0_5] 25 (0, 0)) (by (with_reducible repeat (first | refine blk_drewN ?_ _ | refine blk_drew ?_ | refine blk_alloc ?_ _)); exact BK126.out) hb); have n2_ := Aside0.mk (below_step (by repeat (first | (with_reducible first | exact HB.out | apply below_alloc | apply pw_below_drewN | apply below_drew1 | refine below_set ?_ GE126.out) | exact HB.out)) hb); clear BK126; clear HB; have HO132 := n0_; have BK126 := n1_; have HB := n2_; clear n0_ n1_ n2_; (try clear hb); (try clear hb2); (try clear hk); (try clear hi); (try clear ho0))); try go_wp2_with (first | (go_at_call 53; (with_reducible refine (matroid_part.calls kj1 a0_0 a0_1 a0_2 a0_3 (fun k_ => k_ < w.heap.size) _ _ l0_4 _ _ l0_5 t130 false _ ?side1 ?side2 ?side3 A36.out).mono ?_); (case side1 => exact Kd.V_mk HC0_4.out (Kd.F_below (Kd.C_F (Kd.heap_slice 3 (Kd.heap_int .i64)) HR0_4.out) (by repeat (first | (with_reducible first | exact HB.out | apply below_alloc | apply pw_below_drewN | apply below_drew1 | refine below_set ?_ GE126.out) | exact HB.out)))); (case side2 => repeat (first | exact (Kd.C_below HR0_5.out HB.out) | (with_reducible refine Kd.C_alloc ?_ _) | (with_reducible refine Kd.C_drewN ?_ _) | (with_reducible refine Kd.C_drew ?_))); (case side3 => exact HC0_5.out); rintro e w43 ⟨v131, rfl, ho0, hb⟩; have n0_ := Aside0.mk (Kd.V_lower (Kd.V_mono (ok' := fun k_ => k_ ≠ gb126) ho0 (fun k_ hk_ => Or.elim hk_ (fun hs_ => fun e_ => Nat.not_le.2 hs_ (by rw [e_]; exact GW126.out)) (fun hn_ => (Kd.freshB (g := gb126) (o := .cells #[.int .i64 a0_0, .int .i64 a0_1, .int .i64 a0_2, .int .i64 a0_3, .slice A0_4 l0_4.length c0_4, .slice A0_5 l0_5.length c0_5] 25 (0, 0)) (by (with_reducible repeat (first | refine blk_drewN ?_ _ | refine blk_drew ?_ | refine blk_alloc ?_ _)); exact BK126.out) k_ hn_)))) (below_size (by repeat (first | (with_reducible first | exact HB.out | apply below_alloc | apply pw_below_drewN | apply below_drew1 | refine below_set ?_ GE126.out) | exact HB.out)))); have n1_ := Aside0.mk (blk_below (g := gb126) (o := .cells #[.int .i64 a0_0, .int .i64 a0_1, .int .i64 a0_2, .int .i64 a0_3, .slice A0_4 l0_4.length c0_4, .slice A0_5 l0_5.length c0_5] 25 (0, 0)) (by (with_reducible repeat (first | refine blk_drewN ?_ _ | refine blk_drew ?_ | refine blk_alloc ?_ _)); exact BK126.out) hb); have n2_ := Aside0.mk (below_step (by repeat (first | (with_reducible first | exact HB.out | apply below_alloc | apply pw_below_drewN | apply below_drew1 | refine below_set ?_ GE126.out) | exact HB.out)) hb); clear BK126; clear HB; have HO132 := n0_; have BK126 := n1_; have HB := n2_; clear n0_ n1_ n2_; (try clear hb); (try clear hb2); (try clear hk); (try clear hi); (try clear ho0))))
        go_ret
        exact ⟨by first | rfl | (simp [errW_none, errW_some] <;> rfl) | (simp [*, errW_none, errW_some] <;> rfl), by repeat (first | (with_reducible first | exact HB.out | apply below_alloc | apply pw_below_drewN | apply below_drew1 | refine below_set ?_ GE126.out) | exact HB.out)⟩
      ·rw [if_neg c35] at H
       have c35b0 : (a0_0 == 5) = false := beq_eq_false_iff_ne.mpr c35
       have c35b1 : (a0_0 != 5) = true := bne_iff_ne.mpr c35
       by_cases c44 : a0_0 = 6
       ·rw [if_pos c44] at H
        have c44b0 : (a0_0 == 6) = true := beq_iff_eq.mpr c44
        have c44b1 : (a0_0 != 6) = false := bne_eq_false_iff_eq.mpr c44
        clear c44
        replace H := Option.bind_eq_some_iff.mp H
        obtain ⟨⟨t134, t137⟩, A450, H⟩ := H
        replace H : (if t137 = true then (if 0 < (l0_5.length : Int) then (some (a0_1 == (wrap64 (((rd_T25 l0_5 0).f1) - (t134.length : Int))))) else (none)) else (some false)) = some r := H
        have A45 := Aside0.mk A450
        clear A450
        by_cases c46 : t137 = true
        ·subst c46
         have H1 : (if 0 < (l0_5.length : Int) then (some (a0_1 == (wrap64 (((rd_T25 l0_5 0).f1) - (t134.length : Int))))) else (none)) = some r := by rw [if_pos rfl] at H; exact H
         clear H
         have H := H1
         clear H1
         by_cases c47 : 0 < (l0_5.length : Int)
         ·rw [if_pos c47] at H
          have c47b0 : decide (0 < (l0_5.length : Int)) = true := decide_eq_true c47
          have c47b1 : decide (0 < l0_5.length) = true := decide_eq_true (by omega)
          clear c47
          obtain rfl := Option.some.inj H
          have hcz48_0 : wc.cell? ⟨gb126, 0, none⟩ = some (.int .i64 a0_0) := (blk_cell BK126.out 0).trans rfl
          have hcz48_1 : wc.cell? ⟨gb126, 1, none⟩ = some (.int .i64 a0_1) := (blk_cell BK126.out 1).trans rfl
          have hcz48_2 : wc.cell? ⟨gb126, 2, none⟩ = some (.int .i64 a0_2) := (blk_cell BK126.out 2).trans rfl
          have hcz48_3 : wc.cell? ⟨gb126, 3, none⟩ = some (.int .i64 a0_3) := (blk_cell BK126.out 3).trans rfl
          have hcz48_4 : wc.cell? ⟨gb126, 4, none⟩ = some (.slice A0_4 l0_4.length c0_4) := (blk_cell BK126.out 4).trans rfl
          have hcz48_5 : wc.cell? ⟨gb126, 5, none⟩ = some (.slice A0_5 l0_5.length c0_5) := (blk_cell BK126.out 5).trans rfl
          have hfz48_0 := blk_frozen BK126.out 0
          have hfz48_1 := blk_frozen BK126.out 1
          have hfz48_2 := blk_frozen BK126.out 2
          have hfz48_3 := blk_frozen BK126.out 3
          have hfz48_4 := blk_frozen BK126.out 4
          have hfz48_5 := blk_frozen BK126.out 5
          go_wp2_with (first | (go_at_call 53; (with_reducible refine (matroid_part.calls kj1 a0_0 a0_1 a0_2 a0_3 (fun k_ => k_ < w.heap.size) _ _ l0_4 _ _ l0_5 t134 true _ ?side1 ?side2 ?side3 A45.out).mono ?_); (case side1 => exact Kd.V_mk HC0_4.out (Kd.F_below (Kd.C_F (Kd.heap_slice 3 (Kd.heap_int .i64)) HR0_4.out) (by repeat (first | (with_reducible first | exact HB.out | apply below_alloc | apply pw_below_drewN | apply below_drew1 | refine below_set ?_ GE126.out) | exact HB.out)))); (case side2 => repeat (first | exact (Kd.C_below HR0_5.out HB.out) | (with_reducible refine Kd.C_alloc ?_ _) | (with_reducible refine Kd.C_drewN ?_ _) | (with_reducible refine Kd.C_drew ?_))); (case side3 => exact HC0_5.out); rintro e w49 ⟨v135, rfl, ho0, hb⟩; have n0_ := Aside0.mk (Kd.V_lower (Kd.V_mono (ok' := fun k_ => k_ ≠ gb126) ho0 (fun k_ hk_ => Or.elim hk_ (fun hs_ => fun e_ => Nat.not_le.2 hs_ (by rw [e_]; exact GW126.out)) (fun hn_ => (Kd.freshB (g := gb126) (o := .cells #[.int .i64 a0_0, .int .i64 a0_1, .int .i64 a0_2, .int .i64 a0_3, .slice A0_4 l0_4.length c0_4, .slice A0_5 l0_5.length c0_5] 25 (0, 0)) (by (with_reducible repeat (first | refine blk_drewN ?_ _ | refine blk_drew ?_ | refine blk_alloc ?_ _)); exact BK126.out) k_ hn_)))) (below_size (by repeat (first | (with_reducible first | exact HB.out | apply below_alloc | apply pw_below_drewN | apply below_drew1 | refine below_set ?_ GE126.out) | exact HB.out)))); have n1_ := Aside0.mk (blk_below (g := gb126) (o := .cells #[.int .i64 a0_0, .int .i64 a0_1, .int .i64 a0_2, .int .i64 a0_3, .slice A0_4 l0_4.length c0_4, .slice A0_5 l0_5.length c0_5] 25 (0, 0)) (by (with_reducible repeat (first | refine blk_drewN ?_ _ | refine blk_drew ?_ | refine blk_alloc ?_ _)); exact BK126.out) hb); have n2_ := Aside0.mk (below_step (by repeat (first | (with_reducible first | exact HB.out | apply below_alloc | apply pw_below_drewN | apply below_drew1 | refine below_set ?_ GE126.out) | exact HB.out)) hb); clear BK126; clear HB; have HO136 := n0_; have BK126 := n1_; have HB := n2_; clear n0_ n1_ n2_; (try clear hb); (try clear hb2); (try clear hk); (try clear hi); (try clear ho0); have hcz50_0 : w49.cell? ⟨gb126, 0, none⟩ = some (.int .i64 a0_0) := (blk_cell BK126.out 0).trans rfl; have hcz50_1 : w49.cell? ⟨gb126, 1, none⟩ = some (.int .i64 a0_1) := (blk_cell BK126.out 1).trans rfl; have hcz50_2 : w49.cell? ⟨gb126, 2, none⟩ = some (.int .i64 a0_2) := (blk_cell BK126.out 2).trans rfl; have hcz50_3 : w49.cell? ⟨gb126, 3, none⟩ = some (.int .i64 a0_3) := (blk_cell BK126.out 3).trans rfl; have hcz50_4 : w49.cell? ⟨gb126, 4, none⟩ = some (.slice A0_4 l0_4.length c0_4) := (blk_cell BK126.out 4).trans rfl; have hcz50_5 : w49.cell? ⟨gb126, 5, none⟩ = some (.slice A0_5 l0_5.length c0_5) := (blk_cell BK126.out 5).trans rfl; have hfz50_0 := blk_frozen BK126.out 0; have hfz50_1 := blk_frozen BK126.out 1; have hfz50_2 := blk_frozen BK126.out 2; have hfz50_3 := blk_frozen BK126.out 3; have hfz50_4 := blk_frozen BK126.out 4; have hfz50_5 := blk_frozen BK126.out 5; have p138 : 0 ≤ (0 : Int) := (by omega); have q138 : 0 < (l0_5.length : Int) := of_decide_eq_true (by first | (with_reducible assumption) | assumption); obtain ⟨ad138, A138_4, c138_4, A138_5, c138_5, e138, hx138_0, hx138_1, hx138_2, hx138_3, hx138_4, hx138_5, hl138_4, hi138_4, hl138_5, hi138_5⟩ := at_T25 HR0_5.out 0 p138 q138; cases e138; have qi138 : (0 < l0_5.length) = True := eq_true (by omega); (try rw [show ((0 : Int)).toNat = 0 from rfl] at hx138_0); (try rw [show 0 * 6 = 0 from rfl] at hx138_0); (try rw [Addr.add_zero'] at hx138_0); (try rw [show ((0 : Int)).toNat = 0 from rfl] at hx138_1); (try rw [show 0 * 6 = 0 from rfl] at hx138_1); (try rw [Addr.add_zero'] at hx138_1); (try rw [show ((0 : Int)).toNat = 0 from rfl] at hx138_2); (try rw [show 0 * 6 = 0 from rfl] at hx138_2); (try rw [Addr.add_zero'] at hx138_2); (try rw [show ((0 : Int)).toNat = 0 from rfl] at hx138_3); (try rw [show 0 * 6 = 0 from rfl] at hx138_3); (try rw [Addr.add_zero'] at hx138_3); (try rw [show ((0 : Int)).toNat = 0 from rfl] at hx138_4); (try rw [show 0 * 6 = 0 from rfl] at hx138_4); (try rw [Addr.add_zero'] at hx138_4); (try rw [show ((0 : Int)).toNat = 0 from rfl] at hx138_5); (try rw [show 0 * 6 = 0 from rfl] at hx138_5); (try rw [Addr.add_zero'] at hx138_5); replace hx138_0 := (HB.out.cell (World.block_lt_of_cell? w _ hx138_0)).trans hx138_0; replace hx138_1 := (HB.out.cell (World.block_lt_of_cell? w _ hx138_1)).trans hx138_1; replace hx138_2 := (HB.out.cell (World.block_lt_of_cell? w _ hx138_2)).trans hx138_2; replace hx138_3 := (HB.out.cell (World.block_lt_of_cell? w _ hx138_3)).trans hx138_3; replace hx138_4 := (HB.out.cell (World.block_lt_of_cell? w _ hx138_4)).trans hx138_4; replace hx138_5 := (HB.out.cell (World.block_lt_of_cell? w _ hx138_5)).trans hx138_5; have HR138_4 := Aside0.mk hi138_4; have HC138_4 := Aside0.mk hl138_4; clear hi138_4 hl138_4; have HR138_5 := Aside0.mk hi138_5; have HC138_5 := Aside0.mk hl138_5; clear hi138_5 hl138_5; replace p138 := eq_true p138; replace q138 := eq_true q138; obtain ⟨Ao51, co51, eo51⟩ := Kd.V_slice HO136.out; subst eo51))
          repeat (go_quiet (first | (go_at_call 53; (with_reducible refine (matroid_part.calls kj1 a0_0 a0_1 a0_2 a0_3 (fun k_ => k_ < w.heap.size) _ _ l0_4 _ _ l0_5 t134 true _ ?side1 ?side2 ?side3 A45.out).mono ?_); (case side1 => exact Kd.V_mk HC0_4.out (Kd.F_below (Kd.C_F (Kd.heap_slice 3 (Kd.heap_int .i64)) HR0_4.out) (by repeat (first | (with_reducible first | exact HB.out | apply below_alloc | apply pw_below_drewN | apply below_drew1 | refine below_set ?_ GE126.out) | exact HB.out)))); (case side2 => repeat (first | exact (Kd.C_below HR0_5.out HB.out) | (with_reducible refine Kd.C_alloc ?_ _) | (with_reducible refine Kd.C_drewN ?_ _) | (with_reducible refine Kd.C_drew ?_))); (case side3 => exact HC0_5.out); rintro e w49 ⟨v135, rfl, ho0, hb⟩; have n0_ := Aside0.mk (Kd.V_lower (Kd.V_mono (ok' := fun k_ => k_ ≠ gb126) ho0 (fun k_ hk_ => Or.elim hk_ (fun hs_ => fun e_ => Nat.not_le.2 hs_ (by rw [e_]; exact GW126.out)) (fun hn_ => (Kd.freshB (g := gb126) (o := .cells #[.int .i64 a0_0, .int .i64 a0_1, .int .i64 a0_2, .int .i64 a0_3, .slice A0_4 l0_4.length c0_4, .slice A0_5 l0_5.length c0_5] 25 (0, 0)) (by (with_reducible repeat (first | refine blk_drewN ?_ _ | refine blk_drew ?_ | refine blk_alloc ?_ _)); exact BK126.out) k_ hn_)))) (below_size (by repeat (first | (with_reducible first | exact HB.out | apply below_alloc | apply pw_below_drewN | apply below_drew1 | refine below_set ?_ GE126.out) | exact HB.out)))); have n1_ := Aside0.mk (blk_below (g := gb126) (o := .cells #[.int .i64 a0_0, .int .i64 a0_1, .int .i64 a0_2, .int .i64 a0_3, .slice A0_4 l0_4.length c0_4, .slice A0_5 l0_5.length c0_5] 25 (0, 0)) (by (with_reducible repeat (first | refine blk_drewN ?_ _ | refine blk_drew ?_ | refine blk_alloc ?_ _)); exact BK126.out) hb); have n2_ := Aside0.mk (below_step (by repeat (first | (with_reducible first | exact HB.out | apply below_alloc | apply pw_below_drewN | apply below_drew1 | refine below_set ?_ GE126.out) | exact HB.out)) hb); clear BK126; clear HB; have HO136 := n0_; have BK126 := n1_; have HB := n2_; clear n0_ n1_ n2_; (try clear hb); (try clear hb2); (try clear hk); (try clear hi); (try clear ho0); have hcz50_0 : w49.cell? ⟨gb126, 0, none⟩ = some (.int .i64 a0_0) := (blk_cell BK126.out 0).trans rfl; have hcz50_1 : w49.cell? ⟨gb126, 1, none⟩ = some (.int .i64 a0_1) := (blk_cell BK126.out 1).trans rfl; have hcz50_2 : w49.cell? ⟨gb126, 2, none⟩ = some (.int .i64 a0_2) := (blk_cell BK126.out 2).trans rfl; have hcz50_3 : w49.cell? ⟨gb126, 3, none⟩ = some (.int .i64 a0_3) := (blk_cell BK126.out 3).trans rfl; have hcz50_4 : w49.cell? ⟨gb126, 4, none⟩ = some (.slice A0_4 l0_4.length c0_4) := (blk_cell BK126.out 4).trans rfl; have hcz50_5 : w49.cell? ⟨gb126, 5, none⟩ = some (.slice A0_5 l0_5.length c0_5) := (blk_cell BK126.out 5).trans rfl; have hfz50_0 := blk_frozen BK126.out 0; have hfz50_1 := blk_frozen BK126.out 1; have hfz50_2 := blk_frozen BK126.out 2; have hfz50_3 := blk_frozen BK126.out 3; have hfz50_4 := blk_frozen BK126.out 4; have hfz50_5 := blk_frozen BK126.out 5; have p138 : 0 ≤ (0 : Int) := (by omega); have q138 : 0 < (l0_5.length : Int) := of_decide_eq_true (by first | (with_reducible assumption) | assumption); obtain ⟨ad138, A138_4, c138_4, A138_5, c138_5, e138, hx138_0, hx138_1, hx138_2, hx138_3, hx138_4, hx138_5, hl138_4, hi138_4, hl138_5, hi138_5⟩ := at_T25 HR0_5.out 0 p138 q138; cases e138; have qi138 : (0 < l0_5.length) = True := eq_true (by omega); (try rw [show ((0 : Int)).toNat = 0 from rfl] at hx138_0); (try rw [show 0 * 6 = 0 from rfl] at hx138_0); (try rw [Addr.add_zero'] at hx138_0); (try rw [show ((0 : Int)).toNat = 0 from rfl] at hx138_1); (try rw [show 0 * 6 = 0 from rfl] at hx138_1); (try rw [Addr.add_zero'] at hx138_1); (try rw [show ((0 : Int)).toNat = 0 from rfl] at hx138_2); (try rw [show 0 * 6 = 0 from rfl] at hx138_2); (try rw [Addr.add_zero'] at hx138_2); (try rw [show ((0 : Int)).toNat = 0 from rfl] at hx138_3); (try rw [show 0 * 6 = 0 from rfl] at hx138_3); (try rw [Addr.add_zero'] at hx138_3); (try rw [show ((0 : Int)).toNat = 0 from rfl] at hx138_4); (try rw [show 0 * 6 = 0 from rfl] at hx138_4); (try rw [Addr.add_zero'] at hx138_4); (try rw [show ((0 : Int)).toNat = 0 from rfl] at hx138_5); (try rw [show 0 * 6 = 0 from rfl] at hx138_5); (try rw [Addr.add_zero'] at hx138_5); replace hx138_0 := (HB.out.cell (World.block_lt_of_cell? w _ hx138_0)).trans hx138_0; replace hx138_1 := (HB.out.cell (World.block_lt_of_cell? w _ hx138_1)).trans hx138_1; replace hx138_2 := (HB.out.cell (World.block_lt_of_cell? w _ hx138_2)).trans hx138_2; replace hx138_3 := (HB.out.cell (World.block_lt_of_cell? w _ hx138_3)).trans hx138_3; replace hx138_4 := (HB.out.cell (World.block_lt_of_cell? w _ hx138_4)).trans hx138_4; replace hx138_5 := (HB.out.cell (World.block_lt_of_cell? w _ hx138_5)).trans hx138_5; have HR138_4 := Aside0.mk hi138_4; have HC138_4 := Aside0.mk hl138_4; clear hi138_4 hl138_4; have HR138_5 := Aside0.mk hi138_5; have HC138_5 := Aside0.mk hl138_5; clear hi138_5 hl138_5; replace p138 := eq_true p138; replace q138 := eq_true q138; obtain ⟨Ao51, co51, eo51⟩ := Kd.V_slice HO136.out; subst eo51)); try go_wp2_with (first | (go_at_call 53; (with_reducible refine (matroid_part.calls kj1 a0_0 a0_1 a0_2 a0_3 (fun k_ => k_ < w.heap.size) _ _ l0_4 _ _ l0_5 t134 true _ ?side1 ?side2 ?side3 A45.out).mono ?_); (case side1 => exact Kd.V_mk HC0_4.out (Kd.F_below (Kd.C_F (Kd.heap_slice 3 (Kd.heap_int .i64)) HR0_4.out) (by repeat (first | (with_reducible first | exact HB.out | apply below_alloc | apply pw_below_drewN | apply below_drew1 | refine below_set ?_ GE126.out) | exact HB.out)))); (case side2 => repeat (first | exact (Kd.C_below HR0_5.out HB.out) | (with_reducible refine Kd.C_alloc ?_ _) | (with_reducible refine Kd.C_drewN ?_ _) | (with_reducible refine Kd.C_drew ?_))); (case side3 => exact HC0_5.out); rintro e w49 ⟨v135, rfl, ho0, hb⟩; have n0_ := Aside0.mk (Kd.V_lower (Kd.V_mono (ok' := fun k_ => k_ ≠ gb126) ho0 (fun k_ hk_ => Or.elim hk_ (fun hs_ => fun e_ => Nat.not_le.2 hs_ (by rw [e_]; exact GW126.out)) (fun hn_ => (Kd.freshB (g := gb126) (o := .cells #[.int .i64 a0_0, .int .i64 a0_1, .int .i64 a0_2, .int .i64 a0_3, .slice A0_4 l0_4.length c0_4, .slice A0_5 l0_5.length c0_5] 25 (0, 0)) (by (with_reducible repeat (first | refine blk_drewN ?_ _ | refine blk_drew ?_ | refine blk_alloc ?_ _)); exact BK126.out) k_ hn_)))) (below_size (by repeat (first | (with_reducible first | exact HB.out | apply below_alloc | apply pw_below_drewN | apply below_drew1 | refine below_set ?_ GE126.out) | exact HB.out)))); have n1_ := Aside0.mk (blk_below (g := gb126) (o := .cells #[.int .i64 a0_0, .int .i64 a0_1, .int .i64 a0_2, .int .i64 a0_3, .slice A0_4 l0_4.length c0_4, .slice A0_5 l0_5.length c0_5] 25 (0, 0)) (by (with_reducible repeat (first | refine blk_drewN ?_ _ | refine blk_drew ?_ | refine blk_alloc ?_ _)); exact BK126.out) hb); have n2_ := Aside0.mk (below_step (by repeat (first | (with_reducible first | exact HB.out | apply below_alloc | apply pw_below_drewN | apply below_drew1 | refine below_set ?_ GE126.out) | exact HB.out)) hb); clear BK126; clear HB; have HO136 := n0_; have BK126 := n1_; have HB := n2_; clear n0_ n1_ n2_; (try clear hb); (try clear hb2); (try clear hk); (try clear hi); (try clear ho0); have hcz50_0 : w49.cell? ⟨gb126, 0, none⟩ = some (.int .i64 a0_0) := (blk_cell BK126.out 0).trans rfl; have hcz50_1 : w49.cell? ⟨gb126, 1, none⟩ = some (.int .i64 a0_1) := (blk_cell BK126.out 1).trans rfl; have hcz50_2 : w49.cell? ⟨gb126, 2, none⟩ = some (.int .i64 a0_2) := (blk_cell BK126.out 2).trans rfl; have hcz50_3 : w49.cell? ⟨gb126, 3, none⟩ = some (.int .i64 a0_3) := (blk_cell BK126.out 3).trans rfl; have hcz50_4 : w49.cell? ⟨gb126, 4, none⟩ = some (.slice A0_4 l0_4.length c0_4) := (blk_cell BK126.out 4).trans rfl; have hcz50_5 : w49.cell? ⟨gb126, 5, none⟩ = some (.slice A0_5 l0_5.length c0_5) := (blk_cell BK126.out 5).trans rfl; have hfz50_0 := blk_frozen BK126.out 0; have hfz50_1 := blk_frozen BK126.out 1; have hfz50_2 := blk_frozen BK126.out 2; have hfz50_3 := blk_frozen BK126.out 3; have hfz50_4 := blk_frozen BK126.out 4; have hfz50_5 := blk_frozen BK126.out 5; have p138 : 0 ≤ (0 : Int) := (by omega); have q138 : 0 < (l0_5.length : Int) := of_decide_eq_true (by first | (with_reducible assumption) | assumption); obtain ⟨ad138, A138_4, c138_4, A138_5, c138_5, e138, hx138_0, hx138_1, hx138_2, hx138_3, hx138_4, hx138_5, hl138_4, hi138_4, hl138_5, hi138_5⟩ := at_T25 HR0_5.out 0 p138 q138; cases e138; have qi138 : (0 < l0_5.length) = True := eq_true (by omega); (try rw [show ((0 : Int)).toNat = 0 from rfl] at hx138_0); (try rw [show 0 * 6 = 0 from rfl] at hx138_0); (try rw [Addr.add_zero'] at hx138_0); (try rw [show ((0 : Int)).toNat = 0 from rfl] at hx138_1); (try rw [show 0 * 6 = 0 from rfl] at hx138_1); (try rw [Addr.add_zero'] at hx138_1); (try rw [show ((0 : Int)).toNat = 0 from rfl] at hx138_2); (try rw [show 0 * 6 = 0 from rfl] at hx138_2); (try rw [Addr.add_zero'] at hx138_2); (try rw [show ((0 : Int)).toNat = 0 from rfl] at hx138_3); (try rw [show 0 * 6 = 0 from rfl] at hx138_3); (try rw [Addr.add_zero'] at hx138_3); (try rw [show ((0 : Int)).toNat = 0 from rfl] at hx138_4); (try rw [show 0 * 6 = 0 from rfl] at hx138_4); (try rw [Addr.add_zero'] at hx138_4); (try rw [show ((0 : Int)).toNat = 0 from rfl] at hx138_5); (try rw [show 0 * 6 = 0 from rfl] at hx138_5); (try rw [Addr.add_zero'] at hx138_5); replace hx138_0 := (HB.out.cell (World.block_lt_of_cell? w _ hx138_0)).trans hx138_0; replace hx138_1 := (HB.out.cell (World.block_lt_of_cell? w _ hx138_1)).trans hx138_1; replace hx138_2 := (HB.out.cell (World.block_lt_of_cell? w _ hx138_2)).trans hx138_2; replace hx138_3 := (HB.out.cell (World.block_lt_of_cell? w _ hx138_3)).trans hx138_3; replace hx138_4 := (HB.out.cell (World.block_lt_of_cell? w _ hx138_4)).trans hx138_4; replace hx138_5 := (HB.out.cell (World.block_lt_of_cell? w _ hx138_5)).trans hx138_5; have HR138_4 := Aside0.mk hi138_4; have HC138_4 := Aside0.mk hl138_4; clear hi138_4 hl138_4; have HR138_5 := Aside0.mk hi138_5; have HC138_5 := Aside0.mk hl138_5; clear hi138_5 hl138_5; replace p138 := eq_true p138; replace q138 := eq_true q138; obtain ⟨Ao51, co51, eo51⟩ := Kd.V_slice HO136.out; subst eo51)))
          go_ret
          exact ⟨by first | rfl | (simp [errW_none, errW_some] <;> rfl) | (simp [*, errW_none, errW_some] <;> rfl), by repeat (first | (with_reducible first | exact HB.out | apply below_alloc | apply pw_below_drewN | apply below_drew1 | refine below_set ?_ GE126.out) | exact HB.out)⟩
         ·rw [if_neg c47] at H
          exact absurd H (by simp)
        ·replace c46 := Bool.eq_false_iff.mpr c46
         subst c46
         have H1 : (some false) = some r := by rw [if_neg (show ¬ (false = true) by decide)] at H; exact H
         clear H
         have H := H1
         clear H1
         obtain rfl := Option.some.inj H
         have hcz52_0 : wc.cell? ⟨gb126, 0, none⟩ = some (.int .i64 a0_0) := (blk_cell BK126.out 0).trans rfl
         have hcz52_1 : wc.cell? ⟨gb126, 1, none⟩ = some (.int .i64 a0_1) := (blk_cell BK126.out 1).trans rfl
         have hcz52_2 : wc.cell? ⟨gb126, 2, none⟩ = some (.int .i64 a0_2) := (blk_cell BK126.out 2).trans rfl
         have hcz52_3 : wc.cell? ⟨gb126, 3, none⟩ = some (.int .i64 a0_3) := (blk_cell BK126.out 3).trans rfl
         have hcz52_4 : wc.cell? ⟨gb126, 4, none⟩ = some (.slice A0_4 l0_4.length c0_4) := (blk_cell BK126.out 4).trans rfl
         have hcz52_5 : wc.cell? ⟨gb126, 5, none⟩ = some (.slice A0_5 l0_5.length c0_5) := (blk_cell BK126.out 5).trans rfl
         have hfz52_0 := blk_frozen BK126.out 0
         have hfz52_1 := blk_frozen BK126.out 1
         have hfz52_2 := blk_frozen BK126.out 2
         have hfz52_3 := blk_frozen BK126.out 3
         have hfz52_4 := blk_frozen BK126.out 4
         have hfz52_5 := blk_frozen BK126.out 5
         go_wp2_with (first | (go_at_call 53; (with_reducible refine (matroid_part.calls kj1 a0_0 a0_1 a0_2 a0_3 (fun k_ => k_ < w.heap.size) _ _ l0_4 _ _ l0_5 t134 false _ ?side1 ?side2 ?side3 A45.out).mono ?_); (case side1 => exact Kd.V_mk HC0_4.out (Kd.F_below (Kd.C_F (Kd.heap_slice 3 (Kd.heap_int .i64)) HR0_4.out) (by repeat (first | (with_reducible first | exact HB.out | apply below_alloc | apply pw_below_drewN | apply below_drew1 | refine below_set ?_ GE126.out) | exact HB.out)))); (case side2 => repeat (first | exact (Kd.C_below HR0_5.out HB.out) | (with_reducible refine Kd.C_alloc ?_ _) | (with_reducible refine Kd.C_drewN ?_ _) | (with_reducible refine Kd.C_drew ?_))); (case side3 => exact HC0_5.out); rintro e w53 ⟨v135, rfl, ho0, hb⟩; have n0_ := Aside0.mk (Kd.V_lower (Kd.V_mono (ok' := fun k_ => k_ ≠ gb126) ho0 (fun k_ hk_ => Or.elim hk_ (fun hs_ => fun e_ => Nat.not_le.2 hs_ (by rw [e_]; exact GW126.out)) (fun hn_ => (Kd.freshB (g := gb126) (o := .cells #[.int .i64 a0_0, .int .i64 a0_1, .int .i64 a0_2, .int .i64 a0_3, .slice A0_4 l0_4.length c0_4, .slice A0_5 l0_5.length c0_5] 25 (0, 0)) (by (with_reducible repeat (first | refine blk_drewN ?_ _ | refine blk_drew ?_ | refine blk_alloc ?_ _)); exact BK126.out) k_ hn_)))) (below_size (by repeat (first | (with_reducible first | exact HB.out | apply below_alloc | apply pw_below_drewN | apply below_drew1 | refine below_set ?_ GE126.out) | exact HB.out)))); have n1_ := Aside0.mk (blk_below (g := gb126) (o := .cells #[.int .i64 a0_0, .int .i64 a0_1, .int .i64 a0_2, .int .i64 a0_3, .slice A0_4 l0_4.length c0_4, .slice A0_5 l0_5.length c0_5] 25 (0, 0)) (by (with_reducible repeat (first | refine blk_drewN ?_ _ | refine blk_drew ?_ | refine blk_alloc ?_ _)); exact BK126.out) hb); have n2_ := Aside0.mk (below_step (by repeat (first | (with_reducible first | exact HB.out | apply below_alloc | apply pw_below_drewN | apply below_drew1 | refine below_set ?_ GE126.out) | exact HB.out)) hb); clear BK126; clear HB; have HO136 := n0_; have BK126 := n1_; have HB := n2_; clear n0_ n1_ n2_; (try clear hb); (try clear hb2); (try clear hk); (try clear hi); (try clear ho0)))
         repeat (go_quiet (first | (go_at_call 53; (with_reducible refine (matroid_part.calls kj1 a0_0 a0_1 a0_2 a0_3 (fun k_ => k_ < w.heap.size) _ _ l0_4 _ _ l0_5 t134 false _ ?side1 ?side2 ?side3 A45.out).mono ?_); (case side1 => exact Kd.V_mk HC0_4.out (Kd.F_below (Kd.C_F (Kd.heap_slice 3 (Kd.heap_int .i64)) HR0_4.out) (by repeat (first | (with_reducible first | exact HB.out | apply below_alloc | apply pw_below_drewN | apply below_drew1 | refine below_set ?_ GE126.out) | exact HB.out)))); (case side2 => repeat (first | exact (Kd.C_below HR0_5.out HB.out) | (with_reducible refine Kd.C_alloc ?_ _) | (with_reducible refine Kd.C_drewN ?_ _) | (with_reducible refine Kd.C_drew ?_))); (case side3 => exact HC0_5.out); rintro e w53 ⟨v135, rfl, ho0, hb⟩; have n0_ := Aside0.mk (Kd.V_lower (Kd.V_mono (ok' := fun k_ => k_ ≠ gb126) ho0 (fun k_ hk_ => Or.elim hk_ (fun hs_ => fun e_ => Nat.not_le.2 hs_ (by rw [e_]; exact GW126.out)) (fun hn_ => (Kd.freshB (g := gb126) (o := .cells #[.int .i64 a0_0, .int .i64 a0_1, .int .i64 a0_2, .int .i64 a0_3, .slice A0_4 l0_4.length c0_4, .slice A0_5 l0_5.length c0_5] 25 (0, 0)) (by (with_reducible repeat (first | refine blk_drewN ?_ _ | refine blk_drew ?_ | refine blk_alloc ?_ _)); exact BK126.out) k_ hn_)))) (below_size (by repeat (first | (with_reducible first | exact HB.out | apply below_alloc | apply pw_below_drewN | apply below_drew1 | refine below_set ?_ GE126.out) | exact HB.out)))); have n1_ := Aside0.mk (blk_below (g := gb126) (o := .cells #[.int .i64 a0_0, .int .i64 a0_1, .int .i64 a0_2, .int .i64 a0_3, .slice A0_4 l0_4.length c0_4, .slice A0_5 l0_5.length c0_5] 25 (0, 0)) (by (with_reducible repeat (first | refine blk_drewN ?_ _ | refine blk_drew ?_ | refine blk_alloc ?_ _)); exact BK126.out) hb); have n2_ := Aside0.mk (below_step (by repeat (first | (with_reducible first | exact HB.out | apply below_alloc | apply pw_below_drewN | apply below_drew1 | refine below_set ?_ GE126.out) | exact HB.out)) hb); clear BK126; clear HB; have HO136 := n0_; have BK126 := n1_; have HB := n2_; clear n0_ n1_ n2_; (try clear hb); (try clear hb2); (try clear hk); (try clear hi); (try clear ho0))); try go_wp2_with (first | (go_at_call 53; (with_reducible refine (matroid_part.calls kj1 a0_0 a0_1 a0_2 a0_3 (fun k_ => k_ < w.heap.size) _ _ l0_4 _ _ l0_5 t134 false _ ?side1 ?side2 ?side3 A45.out).mono ?_); (case side1 => exact Kd.V_mk HC0_4.out (Kd.F_below (Kd.C_F (Kd.heap_slice 3 (Kd.heap_int .i64)) HR0_4.out) (by repeat (first | (with_reducible first | exact HB.out | apply below_alloc | apply pw_below_drewN | apply below_drew1 | refine below_set ?_ GE126.out) | exact HB.out)))); (case side2 => repeat (first | exact (Kd.C_below HR0_5.out HB.out) | (with_reducible refine Kd.C_alloc ?_ _) | (with_reducible refine Kd.C_drewN ?_ _) | (with_reducible refine Kd.C_drew ?_))); (case side3 => exact HC0_5.out); rintro e w53 ⟨v135, rfl, ho0, hb⟩; have n0_ := Aside0.mk (Kd.V_lower (Kd.V_mono (ok' := fun k_ => k_ ≠ gb126) ho0 (fun k_ hk_ => Or.elim hk_ (fun hs_ => fun e_ => Nat.not_le.2 hs_ (by rw [e_]; exact GW126.out)) (fun hn_ => (Kd.freshB (g := gb126) (o := .cells #[.int .i64 a0_0, .int .i64 a0_1, .int .i64 a0_2, .int .i64 a0_3, .slice A0_4 l0_4.length c0_4, .slice A0_5 l0_5.length c0_5] 25 (0, 0)) (by (with_reducible repeat (first | refine blk_drewN ?_ _ | refine blk_drew ?_ | refine blk_alloc ?_ _)); exact BK126.out) k_ hn_)))) (below_size (by repeat (first | (with_reducible first | exact HB.out | apply below_alloc | apply pw_below_drewN | apply below_drew1 | refine below_set ?_ GE126.out) | exact HB.out)))); have n1_ := Aside0.mk (blk_below (g := gb126) (o := .cells #[.int .i64 a0_0, .int .i64 a0_1, .int .i64 a0_2, .int .i64 a0_3, .slice A0_4 l0_4.length c0_4, .slice A0_5 l0_5.length c0_5] 25 (0, 0)) (by (with_reducible repeat (first | refine blk_drewN ?_ _ | refine blk_drew ?_ | refine blk_alloc ?_ _)); exact BK126.out) hb); have n2_ := Aside0.mk (below_step (by repeat (first | (with_reducible first | exact HB.out | apply below_alloc | apply pw_below_drewN | apply below_drew1 | refine below_set ?_ GE126.out) | exact HB.out)) hb); clear BK126; clear HB; have HO136 := n0_; have BK126 := n1_; have HB := n2_; clear n0_ n1_ n2_; (try clear hb); (try clear hb2); (try clear hk); (try clear hi); (try clear ho0))))
         go_ret
         exact ⟨by first | rfl | (simp [errW_none, errW_some] <;> rfl) | (simp [*, errW_none, errW_some] <;> rfl), by repeat (first | (with_reducible first | exact HB.out | apply below_alloc | apply pw_below_drewN | apply below_drew1 | refine below_set ?_ GE126.out) | exact HB.out)⟩
       ·rw [if_neg c44] at H
        have c44b0 : (a0_0 == 6) = false := beq_eq_false_iff_ne.mpr c44
        have c44b1 : (a0_0 != 6) = true := bne_iff_ne.mpr c44
        by_cases c54 : 0 < (l0_5.length : Int)
        ·rw [if_pos c54] at H
         have c54b0 : decide (0 < (l0_5.length : Int)) = true := decide_eq_true c54
         have c54b1 : decide (0 < l0_5.length) = true := decide_eq_true (by omega)
         clear c54
         obtain rfl := Option.some.inj H
         have hcz55_0 : wc.cell? ⟨gb126, 0, none⟩ = some (.int .i64 a0_0) := (blk_cell BK126.out 0).trans rfl
         have hcz55_1 : wc.cell? ⟨gb126, 1, none⟩ = some (.int .i64 a0_1) := (blk_cell BK126.out 1).trans rfl
         have hcz55_2 : wc.cell? ⟨gb126, 2, none⟩ = some (.int .i64 a0_2) := (blk_cell BK126.out 2).trans rfl
         have hcz55_3 : wc.cell? ⟨gb126, 3, none⟩ = some (.int .i64 a0_3) := (blk_cell BK126.out 3).trans rfl
         have hcz55_4 : wc.cell? ⟨gb126, 4, none⟩ = some (.slice A0_4 l0_4.length c0_4) := (blk_cell BK126.out 4).trans rfl
         have hcz55_5 : wc.cell? ⟨gb126, 5, none⟩ = some (.slice A0_5 l0_5.length c0_5) := (blk_cell BK126.out 5).trans rfl
         have hfz55_0 := blk_frozen BK126.out 0
         have hfz55_1 := blk_frozen BK126.out 1
         have hfz55_2 := blk_frozen BK126.out 2
         have hfz55_3 := blk_frozen BK126.out 3
         have hfz55_4 := blk_frozen BK126.out 4
         have hfz55_5 := blk_frozen BK126.out 5
         have p139 : 0 ≤ (0 : Int) := (by omega)
         have q139 : 0 < (l0_5.length : Int) := of_decide_eq_true (by first | (with_reducible assumption) | assumption)
         obtain ⟨ad139, A139_4, c139_4, A139_5, c139_5, e139, hx139_0, hx139_1, hx139_2, hx139_3, hx139_4, hx139_5, hl139_4, hi139_4, hl139_5, hi139_5⟩ := at_T25 HR0_5.out 0 p139 q139
         cases e139
         have qi139 : (0 < l0_5.length) = True := eq_true (by omega)
         (try rw [show ((0 : Int)).toNat = 0 from rfl] at hx139_0)
         (try rw [show 0 * 6 = 0 from rfl] at hx139_0)
         (try rw [Addr.add_zero'] at hx139_0)
         (try rw [show ((0 : Int)).toNat = 0 from rfl] at hx139_1)
         (try rw [show 0 * 6 = 0 from rfl] at hx139_1)
         (try rw [Addr.add_zero'] at hx139_1)
         (try rw [show ((0 : Int)).toNat = 0 from rfl] at hx139_2)
         (try rw [show 0 * 6 = 0 from rfl] at hx139_2)
         (try rw [Addr.add_zero'] at hx139_2)
         (try rw [show ((0 : Int)).toNat = 0 from rfl] at hx139_3)
         (try rw [show 0 * 6 = 0 from rfl] at hx139_3)
         (try rw [Addr.add_zero'] at hx139_3)
         (try rw [show ((0 : Int)).toNat = 0 from rfl] at hx139_4)
         (try rw [show 0 * 6 = 0 from rfl] at hx139_4)
         (try rw [Addr.add_zero'] at hx139_4)
         (try rw [show ((0 : Int)).toNat = 0 from rfl] at hx139_5)
         (try rw [show 0 * 6 = 0 from rfl] at hx139_5)
         (try rw [Addr.add_zero'] at hx139_5)
         replace hx139_0 := (HB.out.cell (World.block_lt_of_cell? w _ hx139_0)).trans hx139_0
         replace hx139_1 := (HB.out.cell (World.block_lt_of_cell? w _ hx139_1)).trans hx139_1
         replace hx139_2 := (HB.out.cell (World.block_lt_of_cell? w _ hx139_2)).trans hx139_2
         replace hx139_3 := (HB.out.cell (World.block_lt_of_cell? w _ hx139_3)).trans hx139_3
         replace hx139_4 := (HB.out.cell (World.block_lt_of_cell? w _ hx139_4)).trans hx139_4
         replace hx139_5 := (HB.out.cell (World.block_lt_of_cell? w _ hx139_5)).trans hx139_5
         have HR139_4 := Aside0.mk hi139_4
         have HC139_4 := Aside0.mk hl139_4
         clear hi139_4 hl139_4
         have HR139_5 := Aside0.mk hi139_5
         have HC139_5 := Aside0.mk hl139_5
         clear hi139_5 hl139_5
         replace p139 := eq_true p139
         replace q139 := eq_true q139
         go_wp2
         repeat (go_quiet (fail); try go_wp2)
         go_ret
         exact ⟨by first | rfl | (simp [errW_none, errW_some] <;> rfl) | (simp [*, errW_none, errW_some] <;> rfl), by repeat (first | (with_reducible first | exact HB.out | apply below_alloc | apply pw_below_drewN | apply below_drew1 | refine below_set ?_ GE126.out) | exact HB.out)⟩
        ·rw [if_neg c54] at H
         exact absurd H (by simp)
     ·rw [if_neg c34] at H
      have c34b0 : ((l0_5.length : Int) == 1) = false := beq_eq_false_iff_ne.mpr c34
      have c34b1 : ((l0_5.length : Int) != 1) = true := bne_iff_ne.mpr c34
      obtain rfl := Option.some.inj H
      have hcz56_0 : wc.cell? ⟨gb126, 0, none⟩ = some (.int .i64 a0_0) := (blk_cell BK126.out 0).trans rfl
      have hcz56_1 : wc.cell? ⟨gb126, 1, none⟩ = some (.int .i64 a0_1) := (blk_cell BK126.out 1).trans rfl
      have hcz56_2 : wc.cell? ⟨gb126, 2, none⟩ = some (.int .i64 a0_2) := (blk_cell BK126.out 2).trans rfl
      have hcz56_3 : wc.cell? ⟨gb126, 3, none⟩ = some (.int .i64 a0_3) := (blk_cell BK126.out 3).trans rfl
      have hcz56_4 : wc.cell? ⟨gb126, 4, none⟩ = some (.slice A0_4 l0_4.length c0_4) := (blk_cell BK126.out 4).trans rfl
      have hcz56_5 : wc.cell? ⟨gb126, 5, none⟩ = some (.slice A0_5 l0_5.length c0_5) := (blk_cell BK126.out 5).trans rfl
      have hfz56_0 := blk_frozen BK126.out 0
      have hfz56_1 := blk_frozen BK126.out 1
      have hfz56_2 := blk_frozen BK126.out 2
      have hfz56_3 := blk_frozen BK126.out 3
      have hfz56_4 := blk_frozen BK126.out 4
      have hfz56_5 := blk_frozen BK126.out 5
      go_wp2
      repeat (go_quiet (fail); try go_wp2)
      go_ret
      exact ⟨by first | rfl | (simp [errW_none, errW_some] <;> rfl) | (simp [*, errW_none, errW_some] <;> rfl), by repeat (first | (with_reducible first | exact HB.out | apply below_alloc | apply pw_below_drewN | apply below_drew1 | refine below_set ?_ GE126.out) | exact HB.out)⟩












/-! ### matroid_Check: function 12 -/
end Go.Proofs.YtgbmlkmkfigolaaDoor.P
namespace NumTh

def Pr (p : Nat) : Prop := 2 ≤ p ∧ ∀ d, d ∣ p → d = 1 ∨ d = p

theorem exists_pr : ∀ n, 2 ≤ n → ∃ p, Pr p ∧ p ∣ n := by
 intro n
 induction n using Nat.strongRecOn with
 | ind n ih =>
  intro h
  by_cases hp : Pr n
  ·exact ⟨n, hp, Nat.dvd_refl n⟩
  ·have : ∃ d, d ∣ n ∧ d ≠ 1 ∧ d ≠ n := by
    apply Classical.byContradiction
    intro hc
    apply hp
    refine ⟨h, fun d hd => ?_⟩
    by_cases h1 : d = 1
    ·exact Or.inl h1
    ·by_cases h2 : d = n
     ·exact Or.inr h2
     ·exact absurd ⟨d, hd, h1, h2⟩ hc
   obtain ⟨d, hd, h1, h2⟩ := this
   have hle := Nat.le_of_dvd (by omega) hd
   have hpos : 0 < d := Nat.pos_of_dvd_of_pos hd (by omega)
   obtain ⟨p, hp1, hp2⟩ := ih d (by omega) (by omega)
   exact ⟨p, hp1, Nat.dvd_trans hp2 hd⟩

/-- a composite number has a prime factor whose square is not above it -/
theorem exists_small_pr (n : Nat) (h : 2 ≤ n) (hn : ¬ Pr n) : ∃ p, Pr p ∧ p ∣ n ∧ p * p ≤ n := by
 have : ∃ d, d ∣ n ∧ d ≠ 1 ∧ d ≠ n := by
  apply Classical.byContradiction
  intro hc
  apply hn
  refine ⟨h, fun d hd => ?_⟩
  by_cases h1 : d = 1
  ·exact Or.inl h1
  ·by_cases h2 : d = n
   ·exact Or.inr h2
   ·exact absurd ⟨d, hd, h1, h2⟩ hc
 obtain ⟨d, ⟨e, he⟩, h1, h2⟩ := this
 have hd0 : d ≠ 0 := by intro h0; subst h0; simp at he; omega
 have he0 : e ≠ 0 := by intro h0; subst h0; simp at he; omega
 have he1 : e ≠ 1 := by intro h0; subst h0; simp at he; omega
 by_cases hle : d ≤ e
 ·obtain ⟨p, hp, hpd⟩ := exists_pr d (by omega)
  have hpl := Nat.le_of_dvd (by omega) hpd
  refine ⟨p, hp, Nat.dvd_trans hpd ⟨e, he⟩, ?_⟩
  rw [he]; exact Nat.mul_le_mul hpl (by omega)
 ·obtain ⟨p, hp, hpd⟩ := exists_pr e (by omega)
  have hpl := Nat.le_of_dvd (by omega) hpd
  refine ⟨p, hp, Nat.dvd_trans hpd ⟨d, by rw [he, Nat.mul_comm]⟩, ?_⟩
  rw [he]; exact Nat.mul_le_mul (by omega) hpl

theorem pr_coprime {p a : Nat} (hp : Pr p) (h : ¬ p ∣ a) : Nat.Coprime p a := by
 rcases hp.2 _ (Nat.gcd_dvd_left p a) with h1 | h1
 ·exact h1
 ·exact absurd (h1 ▸ Nat.gcd_dvd_right p a) h

theorem pr_dvd_mul {p a b : Nat} (hp : Pr p) (h : p ∣ a * b) : p ∣ a ∨ p ∣ b := by
 by_cases ha : p ∣ a
 ·exact Or.inl ha
 ·exact Or.inr ((pr_coprime hp ha).dvd_of_dvd_mul_left h)

theorem pr_dvd_pow {p a n : Nat} (hp : Pr p) (h : p ∣ a ^ n) : p ∣ a := by
 induction n with
 | zero => have h1 := Nat.le_of_dvd (by simp) h; have h2 := hp.1; simp at h1; omega
 | succ n ih =>
  rw [Nat.pow_succ] at h
  rcases pr_dvd_mul hp h with h | h
  ·exact ih h
  ·exact h

/-! binomials, Fermat -/
def ch : Nat → Nat → Nat
 | _, 0 => 1
 | 0, _ + 1 => 0
 | n + 1, k + 1 => ch n k + ch n (k + 1)

theorem ch_zero (n : Nat) : ch n 0 = 1 := by cases n <;> rfl
theorem ch_gt : ∀ n k, n < k → ch n k = 0 := by
 intro n
 induction n with
 | zero => intro k hk; cases k with
  | zero => omega
  | succ k => rfl
 | succ n ih => intro k hk; cases k with
  | zero => omega
  | succ k => simp only [ch]; rw [ih k (by omega), ih (k + 1) (by omega)]
theorem ch_self (n : Nat) : ch n n = 1 := by
 induction n with
 | zero => rfl
 | succ n ih => simp only [ch]; rw [ih, ch_gt n (n + 1) (by omega)]
theorem ch_mul : ∀ n k, (k + 1) * ch (n + 1) (k + 1) = (n + 1) * ch n k := by
 intro n
 induction n with
 | zero => intro k; cases k with
  | zero => rfl
  | succ k => simp [ch]
 | succ n ih => intro k; cases k with
  | zero =>
   have h := ih 0
   simp only [ch_zero] at h ⊢
   have e : ch (n + 1 + 1) (0 + 1) = ch (n + 1) 0 + ch (n + 1) (0 + 1) := rfl
   rw [e, ch_zero]; omega
  | succ k =>
   have h1 := ih k
   have h2 := ih (k + 1)
   have e : ch (n + 1 + 1) (k + 1 + 1) = ch (n + 1) (k + 1) + ch (n + 1) (k + 1 + 1) := rfl
   have e2 : ch (n + 1) (k + 1) = ch n k + ch n (k + 1) := rfl
   rw [e, Nat.mul_add, h2]
   have e3 : (k + 1 + 1) * ch (n + 1) (k + 1) = (k + 1) * ch (n + 1) (k + 1) + ch (n + 1) (k + 1) := by
    rw [Nat.add_mul (k + 1) 1, Nat.one_mul]
   rw [e3, h1]
   have e4 : (n + 1 + 1) * ch (n + 1) (k + 1) = (n + 1) * ch (n + 1) (k + 1) + ch (n + 1) (k + 1) := by
    rw [Nat.add_mul (n + 1) 1, Nat.one_mul]
   rw [e4]
   have e5 : (n + 1) * ch (n + 1) (k + 1) = (n + 1) * ch n k + (n + 1) * ch n (k + 1) := by rw [e2, Nat.mul_add]
   omega

/-- the sum of the first m terms of (1 + a)^n -/
def bs (n a : Nat) : Nat → Nat
 | 0 => 0
 | m + 1 => bs n a m + ch n m * a ^ m

theorem bs_step (n a m : Nat) : bs (n + 1) a (m + 1) = bs n a (m + 1) + a * bs n a m := by
 induction m with
 | zero => simp [bs, ch_zero]
 | succ m ih =>
  rw [bs, ih]
  have e2 : bs n a (m + 1 + 1) = bs n a (m + 1) + ch n (m + 1) * a ^ (m + 1) := rfl
  have e3 : bs n a (m + 1) = bs n a m + ch n m * a ^ m := rfl
  have e4 : ch (n + 1) (m + 1) = ch n m + ch n (m + 1) := rfl
  have e5 : a * bs n a (m + 1) = a * bs n a m + a * (ch n m * a ^ m) := by rw [e3, Nat.mul_add]
  have e6 : a * (ch n m * a ^ m) = ch n m * a ^ (m + 1) := by
   rw [Nat.pow_succ, Nat.mul_left_comm, Nat.mul_comm a]
  rw [e2, e4, e5, Nat.add_mul, e6]
  omega
theorem bs_all (n a : Nat) : bs n a (n + 1) = (a + 1) ^ n := by
 induction n with
 | zero => simp [bs, ch]
 | succ n ih =>
  rw [bs_step]
  have : bs n a (n + 1 + 1) = bs n a (n + 1) := by
   rw [bs, ch_gt n (n + 1) (by omega)]; simp
  rw [this, ih, Nat.pow_succ, Nat.mul_add, Nat.mul_one, Nat.mul_comm a]
  omega

theorem pr_dvd_ch {p k : Nat} (hp : Pr p) (h0 : 0 < k) (hk : k < p) : p ∣ ch p k := by
 have hp2 := hp.1
 obtain ⟨k, rfl⟩ : ∃ j, k = j + 1 := ⟨k - 1, by omega⟩
 obtain ⟨m, rfl⟩ : ∃ j, p = j + 1 := ⟨p - 1, by omega⟩
 have h := ch_mul m k
 have hd : (m + 1) ∣ (k + 1) * ch (m + 1) (k + 1) := ⟨ch m k, h⟩
 rcases pr_dvd_mul hp hd with h1 | h1
 ·have := Nat.le_of_dvd (by omega) h1; omega
 ·exact h1

theorem bs_mod {p : Nat} (hp : Pr p) (a m : Nat) (hm : m < p) : bs p a (m + 1) % p = 1 := by
 induction m with
 | zero =>
  have h2 := hp.1
  simp only [bs, ch_zero, Nat.pow_zero]
  exact Nat.mod_eq_of_lt (by omega)
 | succ m ih =>
  rw [bs]
  obtain ⟨c, hc⟩ := pr_dvd_ch hp (k := m + 1) (by omega) hm
  rw [hc, Nat.mul_assoc, Nat.add_mul_mod_self_left]
  exact ih (by omega)

theorem fermat' {p : Nat} (hp : Pr p) (a : Nat) : a ^ p % p = a % p := by
 have hp2 := hp.1
 induction a with
 | zero => rw [Nat.zero_pow (by omega)]
 | succ a ih =>
  rw [← bs_all, bs, ch_self, Nat.one_mul]
  obtain ⟨m, rfl⟩ : ∃ j, p = j + 1 := ⟨p - 1, by omega⟩
  rw [Nat.add_mod, bs_mod hp a m (by omega), ih]
  rw [Nat.add_mod a 1, Nat.add_comm, Nat.mod_eq_of_lt (show 1 < m + 1 by omega)]

theorem mod_sub_dvd {a b p : Nat} (h : a % p = b % p) : p ∣ a - b :=
 Nat.dvd_of_mod_eq_zero (Nat.sub_mod_eq_zero_of_mod_eq h)

/-- the little theorem -/
theorem fermat {p a : Nat} (hp : Pr p) (h : ¬ p ∣ a) : a ^ (p - 1) % p = 1 := by
 have hp2 := hp.1
 have h1 := mod_sub_dvd (fermat' hp a)
 obtain ⟨m, rfl⟩ : ∃ j, p = j + 1 := ⟨p - 1, by omega⟩
 have ha : 0 < a := Nat.pos_of_ne_zero (fun h0 => h (h0 ▸ Nat.dvd_zero _))
 have e : a ^ (m + 1) - a = a * (a ^ m - 1) := by
  rw [Nat.pow_succ, Nat.mul_sub, Nat.mul_one, Nat.mul_comm]
 rw [e] at h1
 rcases pr_dvd_mul hp h1 with h1 | h1
 ·exact absurd h1 h
 ·obtain ⟨c, hc⟩ := h1
  have hpos : 0 < a ^ m := Nat.pow_pos ha
  have e2 : a ^ m = 1 + (m + 1) * c := by omega
  rw [Nat.add_sub_cancel, e2, Nat.add_mul_mod_self_left, Nat.mod_eq_of_lt (by omega)]

theorem pow_one_mul {n x a b : Nat} (hn : 1 < n) (h : x ^ a % n = 1) : x ^ (a * b) % n = 1 := by
 rw [Nat.pow_mul, Nat.pow_mod, h, Nat.one_pow, Nat.mod_eq_of_lt hn]

theorem pow_one_dvd {n x a b : Nat} (hn : 1 < n) (h : x ^ a % n = 1) (hd : a ∣ b) : x ^ b % n = 1 := by
 obtain ⟨c, rfl⟩ := hd
 exact pow_one_mul hn h

theorem pow_one_mod {n x a b : Nat} (hn : 1 < n) (ha : x ^ a % n = 1) (hb : x ^ b % n = 1) : x ^ (b % a) % n = 1 := by
 have e : x ^ b = x ^ (a * (b / a)) * x ^ (b % a) := by rw [← Nat.pow_add, Nat.div_add_mod]
 rw [e, Nat.mul_mod, pow_one_mul hn ha, Nat.one_mul, Nat.mod_mod] at hb
 exact hb

theorem pow_one_gcd {n x : Nat} (hn : 1 < n) : ∀ a b, x ^ a % n = 1 → x ^ b % n = 1 → x ^ (Nat.gcd a b) % n = 1 := by
 intro a b
 induction a, b using Nat.gcd.induction with
 | H0 b => intro _ hb; rw [Nat.gcd_zero_left]; exact hb
 | H1 a b hpos ih =>
  intro ha hb
  rw [Nat.gcd_rec]
  exact ih (pow_one_mod hn ha hb) ha

/-- the square roots of 1 -/
theorem sqrt_one {p x : Nat} (hp : Pr p) (h : x * x % p = 1) : x % p = 1 ∨ x % p = p - 1 := by
 have hp2 := hp.1
 by_cases h0 : x = 0
 ·subst h0; simp at h
 have h1 : p ∣ x * x - 1 := mod_sub_dvd (by rw [h, Nat.mod_eq_of_lt (by omega)])
 have e : x * x - 1 = (x - 1) * (x + 1) := by
  obtain ⟨y, rfl⟩ : ∃ y, x = y + 1 := ⟨x - 1, by omega⟩
  rw [Nat.add_sub_cancel]; simp only [Nat.add_mul, Nat.mul_add, Nat.mul_one, Nat.one_mul]; omega
 rw [e] at h1
 rcases pr_dvd_mul hp h1 with ⟨c, hc⟩ | ⟨c, hc⟩
 ·left
  have : x = 1 + p * c := by omega
  rw [this, Nat.add_mul_mod_self_left, Nat.mod_eq_of_lt (by omega)]
 ·right
  obtain ⟨c, rfl⟩ : ∃ d, c = d + 1 := ⟨c - 1, by
   have : c ≠ 0 := by intro hz; subst hz; simp at hc
   omega⟩
  have : x = (p - 1) + p * c := by rw [Nat.mul_add] at hc; omega
  rw [this, Nat.add_mul_mod_self_left, Nat.mod_eq_of_lt (by omega)]

theorem sq_mod {p x : Nat} (hp : 1 < p) (h : x % p = p - 1) : x * x % p = 1 := by
 rw [Nat.mul_mod, h]
 obtain ⟨m, rfl⟩ : ∃ j, p = j + 1 := ⟨p - 1, by omega⟩
 rw [Nat.add_sub_cancel]
 by_cases hm : m = 1
 ·subst hm; rfl
 have : m * m = 1 + (m + 1) * (m - 1) := by
  obtain ⟨y, rfl⟩ : ∃ y, m = y + 1 := ⟨m - 1, by omega⟩
  rw [Nat.add_sub_cancel]; simp only [Nat.add_mul, Nat.mul_add]; omega
 rw [this, Nat.add_mul_mod_self_left, Nat.mod_eq_of_lt (by omega)]

theorem neg_odd_pow {p x d : Nat} (hp : 2 < p) (h : x % p = p - 1) (hd : d % 2 = 1) : x ^ d % p = p - 1 := by
 have e : d = 2 * (d / 2) + 1 := by omega
 rw [e, Nat.pow_succ, Nat.pow_mul, Nat.mul_mod, Nat.pow_mod, Nat.pow_two, sq_mod (by omega) h, Nat.one_pow, Nat.mod_eq_of_lt (by omega : 1 < p), Nat.one_mul, Nat.mod_mod, h]

/-- Pass: what the test by one witness tells -/
def Pass (n d s a : Nat) : Prop := a ^ d % n = 1 ∨ ∃ i, i < s ∧ a ^ (2 ^ i * d) % n = n - 1

/-- a prime passes -/
theorem prime_pass {p d s a : Nat} (hp : Pr p) (hp2 : 2 < p) (hs : p - 1 = 2 ^ s * d) (ha : ¬ p ∣ a) : Pass p d s a := by
 have hf := fermat hp ha
 rw [hs] at hf
 clear hs
 induction s with
 | zero => left; simpa using hf
 | succ s ih =>
  have e : 2 ^ (s + 1) * d = 2 ^ s * d * 2 := by rw [Nat.pow_succ, Nat.mul_right_comm]
  rw [e, Nat.pow_mul, Nat.pow_two] at hf
  rcases sqrt_one hp hf with h | h
  ·rcases ih h with h | ⟨i, hi, h⟩
   ·exact Or.inl h
   ·exact Or.inr ⟨i, by omega, h⟩
  ·exact Or.inr ⟨s, by omega, h⟩

theorem pass_fermat {n d s a : Nat} (hn : 1 < n) (hs : n - 1 = 2 ^ s * d) (h : Pass n d s a) : a ^ (n - 1) % n = 1 := by
 rw [hs]
 rcases h with h | ⟨i, hi, h⟩
 ·rw [Nat.mul_comm]; exact pow_one_mul hn h
 ·have h2 := sq_mod hn h
  rw [← Nat.pow_two, ← Nat.pow_mul] at h2
  refine pow_one_dvd hn h2 ?_
  obtain ⟨j, rfl⟩ : ∃ j, s = i + 1 + j := ⟨s - (i + 1), by omega⟩
  refine ⟨2 ^ j, ?_⟩
  rw [Nat.pow_add, Nat.pow_succ, Nat.mul_right_comm, Nat.mul_right_comm (2 ^ i) 2 d]

theorem mod_of_dvd {q n x r : Nat} (hd : q ∣ n) (h : x % n = r % n) : x % q = r % q := by
 obtain ⟨c, rfl⟩ := hd
 rw [← Nat.mod_mul_right_mod x q c, h, Nat.mod_mul_right_mod]

/-- how often y is squared until it is 1 -/
def lev : Nat → Nat → Nat → Nat
 | 0, _, _ => 0
 | k + 1, q, y => cond (Nat.beq y 1) 0 (Nat.succ (lev k q (Nat.mod (Nat.mul y y) q)))

theorem lev_eq (q : Nat) (hq : 1 < q) : ∀ (k i y : Nat), i < k → y < q → (∀ j, j < i → y ^ (2 ^ j) % q ≠ 1) → y ^ (2 ^ i) % q = 1 → lev k q y = i := by
 intro k
 induction k with
 | zero => intro i y h; omega
 | succ k ih =>
  intro i y hik hy hne he
  cases i with
  | zero =>
   rw [Nat.pow_zero, Nat.pow_one, Nat.mod_eq_of_lt hy] at he
   subst he; simp [lev]
  | succ i =>
   have h0 := hne 0 (by omega)
   rw [Nat.pow_zero, Nat.pow_one, Nat.mod_eq_of_lt hy] at h0
   have hb : Nat.beq y 1 = false := by
    cases hb : Nat.beq y 1 with
    | false => rfl
    | true => exact absurd (Nat.eq_of_beq_eq_true hb) h0
   simp only [lev, hb, cond_false]
   have e : ∀ j, (y * y % q) ^ (2 ^ j) % q = y ^ (2 ^ (j + 1)) % q := by
    intro j
    rw [← Nat.pow_mod, ← Nat.pow_two, ← Nat.pow_mul, Nat.pow_succ, Nat.mul_comm 2]
   have := ih i (y * y % q) (by omega) (Nat.mod_lt _ (by omega)) (fun j hj => by rw [e]; exact hne (j + 1) (by omega)) (by rw [e]; exact he)
   show Nat.succ (lev k q (y * y % q)) = i + 1
   rw [this]
end NumTh
namespace NumTh

def NMax : Nat := 2147483647

/-- what is supposed of a number that passes all four -/
structure Liar (n : Nat) : Prop where
 big : 1 < n
 le : n ≤ NMax
 cop : Nat.gcd n 210 = 1
 comp : ¬ Pr n
 pass : ∀ d s, n - 1 = 2 ^ s * d → d % 2 = 1 → ∀ a, a = 2 ∨ a = 3 ∨ a = 5 ∨ a = 7 → Pass n d s a

theorem odd_part (n : Nat) (h : 0 < n) : ∃ s d, n = 2 ^ s * d ∧ d % 2 = 1 := by
 induction n using Nat.strongRecOn with
 | ind n ih =>
  by_cases ho : n % 2 = 1
  ·exact ⟨0, n, by simp, ho⟩
  ·obtain ⟨s, d, h1, h2⟩ := ih (n / 2) (by omega) (by omega)
   exact ⟨s + 1, d, by rw [Nat.pow_succ, Nat.mul_right_comm, ← h1]; omega, h2⟩

theorem Liar.fermat {n a : Nat} (h : Liar n) (ha : a = 2 ∨ a = 3 ∨ a = 5 ∨ a = 7) : a ^ (n - 1) % n = 1 := by
 have hb := h.big
 obtain ⟨s, d, h1, h2⟩ := odd_part (n - 1) (by omega)
 exact pass_fermat h.big h1 (h.pass d s h1 h2 a ha)

theorem mod_one_of_dvd {q n x : Nat} (hq : 1 < q) (hn : 1 < n) (hd : q ∣ n) (h : x % n = 1) : x % q = 1 := by
 have := mod_of_dvd (r := 1) hd (by rw [h, Nat.mod_eq_of_lt hn])
 rw [this, Nat.mod_eq_of_lt hq]

theorem Liar.fermat_at {n a q : Nat} (h : Liar n) (hq : 1 < q) (hd : q ∣ n) (ha : a = 2 ∨ a = 3 ∨ a = 5 ∨ a = 7) : a ^ (n - 1) % q = 1 :=
 mod_one_of_dvd hq h.big hd (h.fermat ha)

theorem Liar.odd {n : Nat} (h : Liar n) : n % 2 = 1 := by
 have hc := h.cop
 apply Classical.byContradiction
 intro ho
 have : 2 ∣ Nat.gcd n 210 := Nat.dvd_gcd (Nat.dvd_of_mod_eq_zero (by omega)) (by decide)
 rw [hc] at this
 have := Nat.le_of_dvd (by decide) this
 omega

theorem Liar.not_dvd {n a q : Nat} (h : Liar n) (hq : Pr q) (hd : q ∣ n) (ha : a = 2 ∨ a = 3 ∨ a = 5 ∨ a = 7) : ¬ q ∣ a := by
 intro hqa
 have h210 : q ∣ 210 := Nat.dvd_trans hqa (by rcases ha with rfl | rfl | rfl | rfl <;> decide)
 have : q ∣ Nat.gcd n 210 := Nat.dvd_gcd hd h210
 rw [h.cop] at this
 have := Nat.le_of_dvd (by decide) this
 have := hq.1
 omega

/-- a prime factor is 11 at least -/
theorem Liar.ge11 {n q : Nat} (h : Liar n) (hq : Pr q) (hd : q ∣ n) : 11 ≤ q := by
 apply Classical.byContradiction
 intro hlt
 have h2 := h.not_dvd hq hd (a := 2) (by simp)
 have h3 := h.not_dvd hq hd (a := 3) (by simp)
 have h5 := h.not_dvd hq hd (a := 5) (by simp)
 have h7 := h.not_dvd hq hd (a := 7) (by simp)
 have hq1 := hq.1
 have hp : ∀ d, d ∣ q → d = 1 ∨ d = q := hq.2
 have h22 := hp 2
 have h33 := hp 3
 have : q = 2 ∨ q = 3 ∨ q = 4 ∨ q = 5 ∨ q = 6 ∨ q = 7 ∨ q = 8 ∨ q = 9 ∨ q = 10 := by omega
 rcases this with rfl | rfl | rfl | rfl | rfl | rfl | rfl | rfl | rfl <;> revert h2 h3 h5 h7 h22 h33 <;> decide

/-! the signs -/
theorem odd_gcd_two_pow (d t : Nat) (hd : d % 2 = 1) : Nat.gcd d (2 ^ t) = 1 := by
 induction t with
 | zero => simp
 | succ t ih =>
  rw [Nat.pow_succ]
  have h2 : Nat.Coprime d 2 := by
   show Nat.gcd d 2 = 1
   rw [Nat.gcd_comm, Nat.gcd_rec, hd]; decide
  exact Nat.Coprime.mul_right ih h2

/-- of a prime factor: how often a's odd power is squared until it is 1 -/
theorem lev_same {n d a q t u : Nat} (hn : 1 < n) (hodd : n % 2 = 1) (hd : d % 2 = 1) (hq : Pr q) (hqn : q ∣ n) (hqa : ¬ q ∣ a) (hu : q - 1 = 2 ^ t * u) (huo : u % 2 = 1) (i : Nat) (v : Nat)
 (h : (v = 0 ∧ a ^ d % n = 1) ∨ (v = i + 1 ∧ a ^ (2 ^ i * d) % n = n - 1)) (k : Nat) (hk : v < k) :
 lev k q (a ^ u % q) = v := by
 have hq2 := hq.1
 have hqo : q % 2 = 1 := by
  obtain ⟨c, hc⟩ := hqn
  apply Classical.byContradiction
  intro hx
  have : q = 2 * (q / 2) := by omega
  rw [this, Nat.mul_assoc] at hc
  omega
 have hf : (a ^ u) ^ (2 ^ t) % q = 1 := by
  rw [← Nat.pow_mul, Nat.mul_comm, ← hu]; exact NumTh.fermat hq hqa
 have hpm : ∀ j, (a ^ u % q) ^ (2 ^ j) % q = (a ^ u) ^ (2 ^ j) % q := fun j => by rw [← Nat.pow_mod]
 rcases h with ⟨rfl, h⟩ | ⟨rfl, h⟩
 ·apply lev_eq q (by omega) k 0 _ hk (Nat.mod_lt _ (by omega)) (fun j hj => absurd hj (by omega))
  rw [hpm, Nat.pow_zero, Nat.pow_one]
  have h1 : (a ^ u) ^ d % q = 1 := by
   rw [← Nat.pow_mul, Nat.mul_comm]
   exact pow_one_mul (by omega) (mod_one_of_dvd (by omega) hn hqn h)
  have := pow_one_gcd (by omega : 1 < q) d (2 ^ t) h1 hf
  rwa [odd_gcd_two_pow d t hd, Nat.pow_one] at this
 ·have hqm : a ^ (2 ^ i * d) % q = q - 1 := by
   obtain ⟨c, hc⟩ := hqn
   have hc0 : c ≠ 0 := by intro h0; subst h0; simp at hc; omega
   have h1 := mod_of_dvd (r := n - 1) ⟨c, hc⟩ (by rw [h, Nat.mod_eq_of_lt (by omega)])
   rw [h1]
   obtain ⟨e, rfl⟩ : ∃ e, c = e + 1 := ⟨c - 1, by omega⟩
   have : n - 1 = (q - 1) + q * e := by rw [hc, Nat.mul_add]; omega
   rw [this, Nat.add_mul_mod_self_left, Nat.mod_eq_of_lt (by omega)]
  have hz1 : ((a ^ u) ^ (2 ^ i)) ^ d % q = q - 1 := by
   rw [← Nat.pow_mul, ← Nat.pow_mul, Nat.mul_comm u (2 ^ i * d), Nat.pow_mul]
   exact neg_odd_pow (by omega) hqm huo
  have hz2 : ((a ^ u) ^ (2 ^ i)) ^ (2 * d) % q = 1 := by
   rw [Nat.mul_comm, Nat.pow_mul, Nat.pow_two]
   exact sq_mod (by omega) hz1
  have hz3 : ((a ^ u) ^ (2 ^ i)) ^ (2 ^ t) % q = 1 := by
   rw [← Nat.pow_mul, Nat.mul_comm, Nat.pow_mul]
   rw [Nat.pow_mod, hf, Nat.one_pow, Nat.mod_eq_of_lt (by omega)]
  have hz4 := pow_one_gcd (by omega : 1 < q) _ _ hz2 hz3
  have hg : Nat.gcd (2 * d) (2 ^ t) ∣ 2 := by
   have : Nat.gcd (2 * d) (2 ^ t) ∣ Nat.gcd (2 * d) (2 * 2 ^ t) := Nat.gcd_dvd_gcd_mul_left_right _ _ _
   rw [Nat.gcd_mul_left, odd_gcd_two_pow d t hd] at this
   exact this
  have hz5 := pow_one_dvd (by omega : 1 < q) hz4 hg
  rw [Nat.pow_two] at hz5
  have hz6 : (a ^ u) ^ (2 ^ i) % q = q - 1 := by
   rcases sqrt_one hq hz5 with h1 | h1
   ·exfalso
    have : ((a ^ u) ^ (2 ^ i)) ^ d % q = 1 := by rw [Nat.pow_mod, h1, Nat.one_pow, Nat.mod_eq_of_lt (by omega)]
    omega
   ·exact h1
  apply lev_eq q (by omega) k (i + 1) _ hk (Nat.mod_lt _ (by omega))
  ·intro j hj h1
   rw [hpm] at h1
   have : (a ^ u) ^ (2 ^ i) % q = 1 := by
    refine pow_one_dvd (by omega) h1 ?_
    exact Nat.pow_dvd_pow 2 (by omega)
   omega
  ·rw [hpm, Nat.pow_succ, Nat.pow_mul, Nat.pow_two]
   exact sq_mod (by omega) hz6

/-- the odd part of what is less by one, below 65537 -/
def oddp (q : Nat) : Nat := Nat.div (Nat.pred q) (Nat.gcd (Nat.pred q) 65536)
def sig1 (a q : Nat) : Nat := lev 40 q (Nat.mod (Nat.pow a (oddp q)) q)

theorem oddp_spec (q : Nat) (h1 : 1 < q) (h2 : q < 65537) : ∃ t, q - 1 = 2 ^ t * oddp q ∧ oddp q % 2 = 1 := by
 obtain ⟨t, u, hu, huo⟩ := odd_part (q - 1) (by omega)
 have ht : t ≤ 16 := by
  apply Classical.byContradiction
  intro h
  have : 2 ^ 17 ≤ 2 ^ t := Nat.pow_le_pow_right (by decide) (by omega)
  have hu1 : 1 ≤ u := by omega
  have : 2 ^ 17 * 1 ≤ 2 ^ t * u := Nat.mul_le_mul this hu1
  omega
 have hg : Nat.gcd (q - 1) 65536 = 2 ^ t := by
  rw [hu]
  have e : (65536 : Nat) = 2 ^ t * 2 ^ (16 - t) := by rw [← Nat.pow_add, show t + (16 - t) = 16 by omega]
  rw [e, Nat.gcd_mul_left, odd_gcd_two_pow u _ huo, Nat.mul_one]
 refine ⟨t, ?_, ?_⟩
 ·show q - 1 = 2 ^ t * ((q - 1) / Nat.gcd (q - 1) 65536)
  rw [hg, hu, Nat.mul_div_cancel_left _ (Nat.two_pow_pos t)]
 ·show (q - 1) / Nat.gcd (q - 1) 65536 % 2 = 1
  rw [hg, hu, Nat.mul_div_cancel_left _ (Nat.two_pow_pos t)]; exact huo

theorem Liar.sig {n a q r : Nat} (h : Liar n) (ha : a = 2 ∨ a = 3 ∨ a = 5 ∨ a = 7) (hq : Pr q) (hqn : q ∣ n) (hr : Pr r) (hrn : r ∣ n) (hql : q < 65537) (hrl : r < 65537) : sig1 a q = sig1 a r := by
 have hb := h.big
 obtain ⟨s, d, h1, h2⟩ := odd_part (n - 1) (by omega)
 have hs : s < 31 := by
  apply Classical.byContradiction
  intro hx
  have : 2 ^ 31 ≤ 2 ^ s := Nat.pow_le_pow_right (by decide) (by omega)
  have hu1 : 1 ≤ d := by omega
  have : 2 ^ 31 * 1 ≤ 2 ^ s * d := Nat.mul_le_mul this hu1
  have := h.le
  unfold NMax at this
  omega
 obtain ⟨tq, q1, q2⟩ := oddp_spec q hq.1 hql
 obtain ⟨tr, r1, r2⟩ := oddp_spec r hr.1 hrl
 rcases h.pass d s h1 h2 a ha with hp | ⟨i, hi, hp⟩
 ·have e1 := lev_same h.big h.odd h2 hq hqn (h.not_dvd hq hqn ha) q1 q2 0 0 (Or.inl ⟨rfl, hp⟩) 40 (by omega)
  have e2 := lev_same h.big h.odd h2 hr hrn (h.not_dvd hr hrn ha) r1 r2 0 0 (Or.inl ⟨rfl, hp⟩) 40 (by omega)
  exact e1.trans e2.symm
 ·have e1 := lev_same h.big h.odd h2 hq hqn (h.not_dvd hq hqn ha) q1 q2 i (i + 1) (Or.inr ⟨rfl, hp⟩) 40 (by omega)
  have e2 := lev_same h.big h.odd h2 hr hrn (h.not_dvd hr hrn ha) r1 r2 i (i + 1) (Or.inr ⟨rfl, hp⟩) 40 (by omega)
  exact e1.trans e2.symm

/-- the square of a prime -/
theorem pow_near (p t : Nat) : ∀ j, (1 + p * t) ^ j % (p * p) = (1 + j * (p * t)) % (p * p) := by
 intro j
 induction j with
 | zero => simp
 | succ j ih =>
  rw [Nat.pow_succ, Nat.mul_mod, ih, ← Nat.mul_mod]
  have : (1 + j * (p * t)) * (1 + p * t) = (1 + (j + 1) * (p * t)) + (p * p) * (j * t * t) := by
   simp only [Nat.add_mul, Nat.mul_add, Nat.one_mul, Nat.mul_one]
   have : j * (p * t) * (p * t) = p * p * (j * t * t) := by
    simp only [Nat.mul_left_comm, Nat.mul_comm]
   omega
  rw [this, Nat.add_mul_mod_self_left]

theorem wieferich {n a p : Nat} (hn : 1 < n) (hp : Pr p) (hd : p * p ∣ n) (ha : ¬ p ∣ a) (h : a ^ (n - 1) % n = 1) : a ^ (p - 1) % (p * p) = 1 := by
 have hp2 := hp.1
 have hpp : 1 < p * p := by have := Nat.mul_le_mul hp2 hp2; omega
 have h1 : a ^ (n - 1) % (p * p) = 1 := mod_one_of_dvd hpp hn hd h
 have hf := NumTh.fermat hp ha
 have e : a ^ (p - 1) = 1 + p * (a ^ (p - 1) / p) := by
  have := Nat.div_add_mod (a ^ (p - 1)) p
  omega
 have h2 : (a ^ (p - 1)) ^ (n - 1) % (p * p) = 1 := by
  rw [← Nat.pow_mul, Nat.mul_comm]; exact pow_one_mul hpp h1
 generalize a ^ (p - 1) / p = t at e
 rw [e] at h2 ⊢
 rw [pow_near] at h2
 have h3 : p * p ∣ (n - 1) * (p * t) := by
  have := mod_sub_dvd (a := 1 + (n - 1) * (p * t)) (b := 1) (p := p * p) (by rw [h2, Nat.mod_eq_of_lt hpp])
  rwa [Nat.add_sub_cancel_left] at this
 have h4 : p ∣ (n - 1) * t := by
  obtain ⟨c, hc⟩ := h3
  refine ⟨c, Nat.eq_of_mul_eq_mul_left (show 0 < p by omega) ?_⟩
  rw [← Nat.mul_assoc p p c, ← hc, Nat.mul_left_comm]
 have h5 : p ∣ t := by
  rcases pr_dvd_mul hp h4 with h5 | h5
  ·exfalso
   have hpn : p ∣ n := Nat.dvd_trans ⟨p, rfl⟩ hd
   have : p ∣ n - (n - 1) := Nat.dvd_sub hpn h5
   rw [show n - (n - 1) = 1 by omega] at this
   have := Nat.le_of_dvd (by decide) this
   omega
  ·exact h5
 obtain ⟨c, rfl⟩ := h5
 rw [← Nat.mul_assoc, Nat.add_mul_mod_self_left, Nat.mod_eq_of_lt hpp]
end NumTh
