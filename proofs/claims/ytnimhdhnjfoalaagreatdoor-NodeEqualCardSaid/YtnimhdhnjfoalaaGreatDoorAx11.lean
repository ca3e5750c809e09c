/- Made for this claim by a program of the session: the Go functions' plain twins and their contracts. Lean checks it. -/
import Derived.Test.YtnimhdhnjfoalaaGreatDoorAx0
import Derived.Test.YtnimhdhnjfoalaaGreatDoorAx2
import Derived.Test.YtnimhdhnjfoalaaGreatDoorAx9
import Derived.Test.YtnimhdhnjfoalaaGreatDoorAx10
namespace Go.Proofs.YtnimhdhnjfoalaaGreatDoor.A
open Go.RowKit Go.Proofs.YtnimhdhnjfoalaaGreatDoorW.PrintWords Go.Proofs.YtnimhdhnjfoalaaGreatDoorW.PrintLast Go.Proofs.YtnimhdhnjfoalaaGreatDoorW.PrintMore
attribute [local go_sem] max2_int min2_int max_two min_two max_three min_three max_four min_four   -- for this text's walks alone
set_option linter.unusedVariables false
set_option linter.unusedSimpArgs false

/-! ### vinculumlaw09_NodeEqual: function 7 -/
def vinculumlaw09_NodeEqual.j0 : Nat → Bool → Int → ByteArray → Int → List (S26) → Int → ByteArray → Int → List (S26) → Option (Bool)
  | 0, _, _, _, _, _, _, _, _, _ => none
  | k + 1, x17, x245000, x245001, x245002, x245003, x246000, x246001, x246002, x246003 => if x17 = true then ((vinculumlaw09_awake.f k).bind fun t249 => (some t249)) else ((node_Equal.f k x245000 x245001 x245002 x245003 x246000 x246001 x246002 x246003).bind fun t250 => ((vinculumref09_Equal.f k x245000 x245001 x245002 x245003 x246000 x246001 x246002 x246003).bind fun t251 => (if (t250 == t251) = true then ((node_Equal.f k x246000 x246001 x246002 x246003 x245000 x245001 x245002 x245003).bind fun t252 => (if (t250 == t252) = true then ((node_Equal.f k x245000 x245001 x245002 x245003 x245000 x245001 x245002 x245003).bind fun t253 => (some t253)) else (some false))) else (some false))))
def vinculumlaw09_NodeEqual.f (k : Nat) (a0_0 : Int) (a0_1 : ByteArray) (a0_2 : Int) (l0_3 : List (S26)) (a1_0 : Int) (a1_1 : ByteArray) (a1_2 : Int) (l1_3 : List (S26)) : Option (Bool) := (vinculumlaw09_awake.f k).bind fun t246 => (if t246 = true then ((vinculumlaw09_few.f k a0_0 a0_1 a0_2 l0_3).bind fun t247 => (if t247 = true then ((vinculumlaw09_few.f k a1_0 a1_1 a1_2 l1_3).bind fun t248 => (vinculumlaw09_NodeEqual.j0 k (!t248) a0_0 a0_1 a0_2 l0_3 a1_0 a1_1 a1_2 l1_3)) else (vinculumlaw09_NodeEqual.j0 k true a0_0 a0_1 a0_2 l0_3 a1_0 a1_1 a1_2 l1_3))) else (vinculumlaw09_NodeEqual.j0 k true a0_0 a0_1 a0_2 l0_3 a1_0 a1_1 a1_2 l1_3))
theorem vinculumlaw09_NodeEqual.mono_l : ∀ k, (∀ y0 y1 y2 y3 y4 y5 y6 y7 y8, LeO (vinculumlaw09_NodeEqual.j0 k y0 y1 y2 y3 y4 y5 y6 y7 y8) (vinculumlaw09_NodeEqual.j0 (k + 1) y0 y1 y2 y3 y4 y5 y6 y7 y8))
  | 0 => fun _ _ _ _ _ _ _ _ _ r h => by simp [vinculumlaw09_NodeEqual.j0] at h
  | k + 1 => by
    have ih0 := vinculumlaw09_NodeEqual.mono_l k
    · intro y0 y1 y2 y3 y4 y5 y6 y7 y8
      unfold vinculumlaw09_NodeEqual.j0
      repeat' first
      | (with_reducible exact ih0 _ _ _ _ _ _ _ _ _)
      | (with_reducible exact node_Equal.mono _ _ _ _ _ _ _ _ _)
      | (with_reducible exact vinculumlaw09_awake.mono _)
      | (with_reducible exact vinculumlaw09_few.mono _ _ _ _ _)
      | (with_reducible exact vinculumref09_Equal.mono _ _ _ _ _ _ _ _ _)
      | (with_reducible exact LeO.refl _)
      | (with_reducible exact LeO.none _)
      | (with_reducible refine LeO.ite ?_ ?_)
      | (with_reducible refine LeO.bind ?_ (fun _ => ?_))
      | exact ih0 _ _ _ _ _ _ _ _ _
      | exact node_Equal.mono _ _ _ _ _ _ _ _ _
      | exact vinculumlaw09_awake.mono _
      | exact vinculumlaw09_few.mono _ _ _ _ _
      | exact vinculumref09_Equal.mono _ _ _ _ _ _ _ _ _
      | exact LeO.none _
      | refine LeO.ite ?_ ?_
      | refine LeO.bind ?_ (fun _ => ?_)
theorem vinculumlaw09_NodeEqual.mono : ∀ a0 a1 a2 a3 a4 a5 a6 a7 k, LeO (vinculumlaw09_NodeEqual.f k a0 a1 a2 a3 a4 a5 a6 a7) (vinculumlaw09_NodeEqual.f (k + 1) a0 a1 a2 a3 a4 a5 a6 a7) := by
  intro a0 a1 a2 a3 a4 a5 a6 a7 k
  have ih0 := vinculumlaw09_NodeEqual.mono_l k
  unfold vinculumlaw09_NodeEqual.f
  repeat' first
      | (with_reducible exact ih0 _ _ _ _ _ _ _ _ _)
      | (with_reducible exact node_Equal.mono _ _ _ _ _ _ _ _ _)
      | (with_reducible exact vinculumlaw09_awake.mono _)
      | (with_reducible exact vinculumlaw09_few.mono _ _ _ _ _)
      | (with_reducible exact vinculumref09_Equal.mono _ _ _ _ _ _ _ _ _)
      | (with_reducible exact LeO.refl _)
      | (with_reducible exact LeO.none _)
      | (with_reducible refine LeO.ite ?_ ?_)
      | (with_reducible refine LeO.bind ?_ (fun _ => ?_))
      | exact ih0 _ _ _ _ _ _ _ _ _
      | exact node_Equal.mono _ _ _ _ _ _ _ _ _
      | exact vinculumlaw09_awake.mono _
      | exact vinculumlaw09_few.mono _ _ _ _ _
      | exact vinculumref09_Equal.mono _ _ _ _ _ _ _ _ _
      | exact LeO.none _
      | refine LeO.ite ?_ ?_
      | refine LeO.bind ?_ (fun _ => ?_)
set_option maxHeartbeats 8000000 in
set_option maxRecDepth 100000 in
theorem vinculumlaw09_NodeEqual.calls (k : Nat) (a0_0 : Int) (a0_1 : ByteArray) (a0_2 : Int) (A0_3 : Option Addr) (c0_3 : Nat) (l0_3 : List (S26)) (a1_0 : Int) (a1_1 : ByteArray) (a1_2 : Int) (A1_3 : Option Addr) (c1_3 : Nat) (l1_3 : List (S26)) (r : Bool) (w : World) (hr0_3 : Kd.C k26 w A0_3 l0_3.length l0_3) (hc0_3 : l0_3.length ≤ c0_3) (hr1_3 : Kd.C k26 w A1_3 l1_3.length l1_3) (hc1_3 : l1_3.length ≤ c1_3) (h : vinculumlaw09_NodeEqual.f k a0_0 a0_1 a0_2 l0_3 a1_0 a1_1 a1_2 l1_3 = some r) :
    Calls Tryz.prog 7 #[.agg #[.int .i64 a0_0, .string a0_1, .int .i64 a0_2, .slice A0_3 l0_3.length c0_3], .agg #[.int .i64 a1_0, .string a1_1, .int .i64 a1_2, .slice A1_3 l1_3.length c1_3]] w fun e w' => e = .returned (.bool r) ∧ Below w.heap.size w w' := by
  have hu26 := Tryz.underlying26
  have HR0_3 := Aside0.mk hr0_3
  have HC0_3 := Aside0.mk hc0_3
  clear hr0_3 hc0_3
  have HR1_3 := Aside0.mk hr1_3
  have HC1_3 := Aside0.mk hc1_3
  clear hr1_3 hc1_3
  have HB := Aside0.mk (Below.refl w.heap.size w)
  have H : ((vinculumlaw09_awake.f k).bind fun t246 => (if t246 = true then ((vinculumlaw09_few.f k a0_0 a0_1 a0_2 l0_3).bind fun t247 => (if t247 = true then ((vinculumlaw09_few.f k a1_0 a1_1 a1_2 l1_3).bind fun t248 => (vinculumlaw09_NodeEqual.j0 k (!t248) a0_0 a0_1 a0_2 l0_3 a1_0 a1_1 a1_2 l1_3)) else (vinculumlaw09_NodeEqual.j0 k true a0_0 a0_1 a0_2 l0_3 a1_0 a1_1 a1_2 l1_3))) else (vinculumlaw09_NodeEqual.j0 k true a0_0 a0_1 a0_2 l0_3 a1_0 a1_1 a1_2 l1_3))) = some r := h
  clear h
  have HC3 := Aside0.mk H
  clear H
  go_enter Tryz.func7, Tryz.ntmps7
  go_upto_region 1 with (first | ((with_reducible refine gate_dst (N := 2) rfl ?_); refine box_event ?hg (N := 2) ?hd (cs := #[.int .i64 a0_0, .string a0_1, .int .i64 a0_2, .slice A0_3 l0_3.length c0_3]) (t := 26) ?hr ?_; (case hd => rfl); (case hg => rfl); (case hr => first | (go_simp; done) | (go_simp; rfl)); intro gb244 hg w4 hbox hb; have n0_ := Aside0.mk (below_step (by repeat (first | (with_reducible first | exact HB.out | apply below_alloc | apply pw_below_drewN | apply below_drew1) | exact HB.out)) hb); have n1_ := Aside0.mk (hbox); have n2_ := Aside0.mk ((by rw [hg]; exact (below_size (by repeat (first | (with_reducible first | exact HB.out | apply below_alloc | apply pw_below_drewN | apply below_drew1) | exact HB.out))) : w.heap.size ≤ gb244)); have n3_ := Aside0.mk ((by rw [hg]; exact (below_size (by repeat (first | (with_reducible first | exact HB.out | apply below_alloc | apply pw_below_drewN | apply below_drew1) | exact HB.out))) : w.heap.size ≤ gb244)); clear HB; have HB := n0_; have BK244 := n1_; have GW244 := n2_; have GE244 := n3_; clear n0_ n1_ n2_ n3_; clear hb hbox hg) | ((with_reducible refine gate_dst (N := 3) rfl ?_); refine box_event ?hg (N := 3) ?hd (cs := #[.int .i64 a1_0, .string a1_1, .int .i64 a1_2, .slice A1_3 l1_3.length c1_3]) (t := 26) ?hr ?_; (case hd => rfl); (case hg => rfl); (case hr => first | (go_simp; done) | (go_simp; rfl)); intro gb245 hg w5 hbox hb; have n0_ := Aside0.mk (blk_below (g := gb244) (o := .cells #[.int .i64 a0_0, .string a0_1, .int .i64 a0_2, .slice A0_3 l0_3.length c0_3] 26 (0, 0)) (by (with_reducible repeat (first | refine blk_drewN ?_ _ | refine blk_drew ?_ | refine blk_alloc ?_ _)); exact BK244.out) hb); have n1_ := Aside0.mk (below_step (by repeat (first | (with_reducible first | exact HB.out | apply below_alloc | apply pw_below_drewN | apply below_drew1 | refine below_set ?_ GE244.out) | exact HB.out)) hb); have n2_ := Aside0.mk (hbox); have n3_ := Aside0.mk ((by rw [hg]; exact (below_size (by repeat (first | (with_reducible first | exact HB.out | apply below_alloc | apply pw_below_drewN | apply below_drew1 | refine below_set ?_ GE244.out) | exact HB.out))) : w.heap.size ≤ gb245)); have n4_ := Aside0.mk ((by rw [hg]; exact (below_size (by repeat (first | (with_reducible first | exact HB.out | apply below_alloc | apply pw_below_drewN | apply below_drew1 | refine below_set ?_ GE244.out) | exact HB.out))) : w.heap.size ≤ gb245)); have n5_ := Aside0.mk ((by rw [hg]; exact Nat.ne_of_lt (blk_lt (g := gb244) (o := .cells #[.int .i64 a0_0, .string a0_1, .int .i64 a0_2, .slice A0_3 l0_3.length c0_3] 26 (0, 0)) (by (with_reducible repeat (first | refine blk_drewN ?_ _ | refine blk_drew ?_ | refine blk_alloc ?_ _)); exact BK244.out)) : gb244 ≠ gb245)); have n6_ := Aside0.mk ((by rw [hg]; exact Nat.ne_of_gt (blk_lt (g := gb244) (o := .cells #[.int .i64 a0_0, .string a0_1, .int .i64 a0_2, .slice A0_3 l0_3.length c0_3] 26 (0, 0)) (by (with_reducible repeat (first | refine blk_drewN ?_ _ | refine blk_drew ?_ | refine blk_alloc ?_ _)); exact BK244.out)) : gb245 ≠ gb244)); clear BK244; clear HB; have BK244 := n0_; have HB := n1_; have BK245 := n2_; have GW245 := n3_; have GE245 := n4_; have NB244_245 := n5_; have NB245_244 := n6_; clear n0_ n1_ n2_ n3_ n4_ n5_ n6_; clear hb hbox hg))
  (try simp only [Act.put, List.setIfInBounds_toArray, List.set_cons_zero, List.set_cons_succ])
  go_cut [17] (fun v17 wc => ∃ (kq : Nat) (x17_2 : Bool), v17 = .bool x17_2 ∧ Aside0 (vinculumlaw09_NodeEqual.j0 kq x17_2 a0_0 a0_1 a0_2 l0_3 a1_0 a1_1 a1_2 l1_3 = some r) ∧ Aside0 (kq ≤ k) ∧ Aside0 (wc.heap[gb244]? = some (.cells #[.int .i64 a0_0, .string a0_1, .int .i64 a0_2, (.slice A0_3 l0_3.length c0_3)] 26 (0, 0))) ∧ Aside0 (wc.heap[gb245]? = some (.cells #[.int .i64 a1_0, .string a1_1, .int .i64 a1_2, (.slice A1_3 l1_3.length c1_3)] 26 (0, 0))) ∧ Aside0 (Below w.heap.size w wc))
  case first =>
    have H := HC3.out
    clear HC3
    replace H := Option.bind_eq_some_iff.mp H
    obtain ⟨t246, A60, H⟩ := H
    replace H : (if t246 = true then ((vinculumlaw09_few.f k a0_0 a0_1 a0_2 l0_3).bind fun t247 => (if t247 = true then ((vinculumlaw09_few.f k a1_0 a1_1 a1_2 l1_3).bind fun t248 => (vinculumlaw09_NodeEqual.j0 k (!t248) a0_0 a0_1 a0_2 l0_3 a1_0 a1_1 a1_2 l1_3)) else (vinculumlaw09_NodeEqual.j0 k true a0_0 a0_1 a0_2 l0_3 a1_0 a1_1 a1_2 l1_3))) else (vinculumlaw09_NodeEqual.j0 k true a0_0 a0_1 a0_2 l0_3 a1_0 a1_1 a1_2 l1_3)) = some r := H
    have A6 := Aside0.mk A60
    clear A60
    by_cases c7 : t246 = true
    · subst c7
      have H1 : ((vinculumlaw09_few.f k a0_0 a0_1 a0_2 l0_3).bind fun t247 => (if t247 = true then ((vinculumlaw09_few.f k a1_0 a1_1 a1_2 l1_3).bind fun t248 => (vinculumlaw09_NodeEqual.j0 k (!t248) a0_0 a0_1 a0_2 l0_3 a1_0 a1_1 a1_2 l1_3)) else (vinculumlaw09_NodeEqual.j0 k true a0_0 a0_1 a0_2 l0_3 a1_0 a1_1 a1_2 l1_3))) = some r := by rw [if_pos rfl] at H; exact H
      clear H
      have H := H1
      clear H1
      replace H := Option.bind_eq_some_iff.mp H
      obtain ⟨t247, A80, H⟩ := H
      replace H : (if t247 = true then ((vinculumlaw09_few.f k a1_0 a1_1 a1_2 l1_3).bind fun t248 => (vinculumlaw09_NodeEqual.j0 k (!t248) a0_0 a0_1 a0_2 l0_3 a1_0 a1_1 a1_2 l1_3)) else (vinculumlaw09_NodeEqual.j0 k true a0_0 a0_1 a0_2 l0_3 a1_0 a1_1 a1_2 l1_3)) = some r := H
      have A8 := Aside0.mk A80
      clear A80
      by_cases c9 : t247 = true
      · subst c9
        have H1 : ((vinculumlaw09_few.f k a1_0 a1_1 a1_2 l1_3).bind fun t248 => (vinculumlaw09_NodeEqual.j0 k (!t248) a0_0 a0_1 a0_2 l0_3 a1_0 a1_1 a1_2 l1_3)) = some r := by rw [if_pos rfl] at H; exact H
        clear H
        have H := H1
        clear H1
        replace H := Option.bind_eq_some_iff.mp H
        obtain ⟨t248, A100, H⟩ := H
        replace H : (vinculumlaw09_NodeEqual.j0 k (!t248) a0_0 a0_1 a0_2 l0_3 a1_0 a1_1 a1_2 l1_3) = some r := H
        have A10 := Aside0.mk A100
        clear A100
        have H' := Aside0.mk H
        clear H
        go_wp2_with (first | ((with_reducible refine gate_callee (f := 11) rfl ?_); refine goesL_ (some 6) rfl rfl Tryz.func11 (by kernel_rfl) rfl #[] rfl (by (try simp only [List.map_toArray, List.map_cons, List.map_nil]); first | done | rfl | (simp only [List.length_drop, List.length_take]; rfl)) ?_; (with_reducible refine (vinculumlaw09_awake.calls k  true _ A6.out).mono ?_); rintro e w11 ⟨rfl, hb⟩; refine ⟨_, rfl, ?_⟩; have n0_ := Aside0.mk (blk_below (g := gb244) (o := .cells #[.int .i64 a0_0, .string a0_1, .int .i64 a0_2, .slice A0_3 l0_3.length c0_3] 26 (0, 0)) (by (with_reducible repeat (first | refine blk_drewN ?_ _ | refine blk_drew ?_ | refine blk_alloc ?_ _)); exact BK244.out) hb); have n1_ := Aside0.mk (blk_below (g := gb245) (o := .cells #[.int .i64 a1_0, .string a1_1, .int .i64 a1_2, .slice A1_3 l1_3.length c1_3] 26 (0, 0)) (by (with_reducible repeat (first | refine blk_drewN ?_ _ | refine blk_drew ?_ | refine blk_alloc ?_ _)); exact BK245.out) hb); have n2_ := Aside0.mk (below_step (by repeat (first | (with_reducible first | exact HB.out | apply below_alloc | apply pw_below_drewN | apply below_drew1 | refine below_set ?_ GE244.out | refine below_set ?_ GE245.out) | exact HB.out)) hb); clear BK244; clear BK245; clear HB; have BK244 := n0_; have BK245 := n1_; have HB := n2_; clear n0_ n1_ n2_; (try clear hb); (try clear hb2); (try clear hk); (try clear hi); have hnb12 := NB244_245.out; have hnc12 := NB245_244.out; have hcz13_0 : w11.cell? ⟨gb244, 0, none⟩ = some (.int .i64 a0_0) := (blk_cell BK244.out 0).trans rfl; have hcz13_1 : w11.cell? ⟨gb244, 1, none⟩ = some (.string a0_1) := (blk_cell BK244.out 1).trans rfl; have hcz13_2 : w11.cell? ⟨gb244, 2, none⟩ = some (.int .i64 a0_2) := (blk_cell BK244.out 2).trans rfl; have hcz13_3 : w11.cell? ⟨gb244, 3, none⟩ = some (.slice A0_3 l0_3.length c0_3) := (blk_cell BK244.out 3).trans rfl; have hfz13_0 := blk_frozen BK244.out 0; have hfz13_1 := blk_frozen BK244.out 1; have hfz13_2 := blk_frozen BK244.out 2; have hfz13_3 := blk_frozen BK244.out 3) | (go_at_call 16; (with_reducible refine (vinculumlaw09_few.calls k a0_0 a0_1 a0_2 _ _ l0_3 true _ ?side1 ?side2 A8.out).mono ?_); (case side1 => repeat (first | exact (Kd.C_below HR0_3.out HB.out) | (with_reducible refine Kd.C_alloc ?_ _) | (with_reducible refine Kd.C_drewN ?_ _) | (with_reducible refine Kd.C_drew ?_))); (case side2 => exact HC0_3.out); rintro e w14 ⟨rfl, hb⟩; have n0_ := Aside0.mk (blk_below (g := gb244) (o := .cells #[.int .i64 a0_0, .string a0_1, .int .i64 a0_2, .slice A0_3 l0_3.length c0_3] 26 (0, 0)) (by (with_reducible repeat (first | refine blk_drewN ?_ _ | refine blk_drew ?_ | refine blk_alloc ?_ _)); exact BK244.out) hb); have n1_ := Aside0.mk (blk_below (g := gb245) (o := .cells #[.int .i64 a1_0, .string a1_1, .int .i64 a1_2, .slice A1_3 l1_3.length c1_3] 26 (0, 0)) (by (with_reducible repeat (first | refine blk_drewN ?_ _ | refine blk_drew ?_ | refine blk_alloc ?_ _)); exact BK245.out) hb); have n2_ := Aside0.mk (below_step (by repeat (first | (with_reducible first | exact HB.out | apply below_alloc | apply pw_below_drewN | apply below_drew1 | refine below_set ?_ GE244.out | refine below_set ?_ GE245.out) | exact HB.out)) hb); clear BK244; clear BK245; clear HB; have BK244 := n0_; have BK245 := n1_; have HB := n2_; clear n0_ n1_ n2_; (try clear hb); (try clear hb2); (try clear hk); (try clear hi); have hcz15_0 : w14.cell? ⟨gb245, 0, none⟩ = some (.int .i64 a1_0) := (blk_cell BK245.out 0).trans rfl; have hcz15_1 : w14.cell? ⟨gb245, 1, none⟩ = some (.string a1_1) := (blk_cell BK245.out 1).trans rfl; have hcz15_2 : w14.cell? ⟨gb245, 2, none⟩ = some (.int .i64 a1_2) := (blk_cell BK245.out 2).trans rfl; have hcz15_3 : w14.cell? ⟨gb245, 3, none⟩ = some (.slice A1_3 l1_3.length c1_3) := (blk_cell BK245.out 3).trans rfl; have hfz15_0 := blk_frozen BK245.out 0; have hfz15_1 := blk_frozen BK245.out 1; have hfz15_2 := blk_frozen BK245.out 2; have hfz15_3 := blk_frozen BK245.out 3) | (go_at_call 16; (with_reducible refine (vinculumlaw09_few.calls k a1_0 a1_1 a1_2 _ _ l1_3 t248 _ ?side1 ?side2 A10.out).mono ?_); (case side1 => repeat (first | exact (Kd.C_below HR1_3.out HB.out) | (with_reducible refine Kd.C_alloc ?_ _) | (with_reducible refine Kd.C_drewN ?_ _) | (with_reducible refine Kd.C_drew ?_))); (case side2 => exact HC1_3.out); rintro e w16 ⟨rfl, hb⟩; have n0_ := Aside0.mk (blk_below (g := gb244) (o := .cells #[.int .i64 a0_0, .string a0_1, .int .i64 a0_2, .slice A0_3 l0_3.length c0_3] 26 (0, 0)) (by (with_reducible repeat (first | refine blk_drewN ?_ _ | refine blk_drew ?_ | refine blk_alloc ?_ _)); exact BK244.out) hb); have n1_ := Aside0.mk (blk_below (g := gb245) (o := .cells #[.int .i64 a1_0, .string a1_1, .int .i64 a1_2, .slice A1_3 l1_3.length c1_3] 26 (0, 0)) (by (with_reducible repeat (first | refine blk_drewN ?_ _ | refine blk_drew ?_ | refine blk_alloc ?_ _)); exact BK245.out) hb); have n2_ := Aside0.mk (below_step (by repeat (first | (with_reducible first | exact HB.out | apply below_alloc | apply pw_below_drewN | apply below_drew1 | refine below_set ?_ GE244.out | refine below_set ?_ GE245.out) | exact HB.out)) hb); clear BK244; clear BK245; clear HB; have BK244 := n0_; have BK245 := n1_; have HB := n2_; clear n0_ n1_ n2_; (try clear hb); (try clear hb2); (try clear hk); (try clear hi)))
        go_meet
        case rel => exact ⟨_, (!t248), (by first | rfl | (simp; done) | (simp [*]; done)), H', ⟨by first | omega | exact Nat.le_refl _⟩, ⟨by (with_reducible repeat (first | refine blk_drewN ?_ _ | refine blk_drew ?_ | refine blk_alloc ?_ _)); exact BK244.out⟩, ⟨by (with_reducible repeat (first | refine blk_drewN ?_ _ | refine blk_drew ?_ | refine blk_alloc ?_ _)); exact BK245.out⟩, ⟨by repeat (first | (with_reducible first | exact HB.out | apply below_alloc | apply pw_below_drewN | apply below_drew1 | refine below_set ?_ GE244.out | refine below_set ?_ GE245.out) | exact HB.out)⟩⟩
      · replace c9 := Bool.eq_false_iff.mpr c9
        subst c9
        have H1 : (vinculumlaw09_NodeEqual.j0 k true a0_0 a0_1 a0_2 l0_3 a1_0 a1_1 a1_2 l1_3) = some r := by rw [if_neg (show ¬ (false = true) by decide)] at H; exact H
        clear H
        have H := H1
        clear H1
        have H' := Aside0.mk H
        clear H
        go_wp2_with (first | ((with_reducible refine gate_callee (f := 11) rfl ?_); refine goesL_ (some 6) rfl rfl Tryz.func11 (by kernel_rfl) rfl #[] rfl (by (try simp only [List.map_toArray, List.map_cons, List.map_nil]); first | done | rfl | (simp only [List.length_drop, List.length_take]; rfl)) ?_; (with_reducible refine (vinculumlaw09_awake.calls k  true _ A6.out).mono ?_); rintro e w17 ⟨rfl, hb⟩; refine ⟨_, rfl, ?_⟩; have n0_ := Aside0.mk (blk_below (g := gb244) (o := .cells #[.int .i64 a0_0, .string a0_1, .int .i64 a0_2, .slice A0_3 l0_3.length c0_3] 26 (0, 0)) (by (with_reducible repeat (first | refine blk_drewN ?_ _ | refine blk_drew ?_ | refine blk_alloc ?_ _)); exact BK244.out) hb); have n1_ := Aside0.mk (blk_below (g := gb245) (o := .cells #[.int .i64 a1_0, .string a1_1, .int .i64 a1_2, .slice A1_3 l1_3.length c1_3] 26 (0, 0)) (by (with_reducible repeat (first | refine blk_drewN ?_ _ | refine blk_drew ?_ | refine blk_alloc ?_ _)); exact BK245.out) hb); have n2_ := Aside0.mk (below_step (by repeat (first | (with_reducible first | exact HB.out | apply below_alloc | apply pw_below_drewN | apply below_drew1 | refine below_set ?_ GE244.out | refine below_set ?_ GE245.out) | exact HB.out)) hb); clear BK244; clear BK245; clear HB; have BK244 := n0_; have BK245 := n1_; have HB := n2_; clear n0_ n1_ n2_; (try clear hb); (try clear hb2); (try clear hk); (try clear hi); have hnb18 := NB244_245.out; have hnc18 := NB245_244.out; have hcz19_0 : w17.cell? ⟨gb244, 0, none⟩ = some (.int .i64 a0_0) := (blk_cell BK244.out 0).trans rfl; have hcz19_1 : w17.cell? ⟨gb244, 1, none⟩ = some (.string a0_1) := (blk_cell BK244.out 1).trans rfl; have hcz19_2 : w17.cell? ⟨gb244, 2, none⟩ = some (.int .i64 a0_2) := (blk_cell BK244.out 2).trans rfl; have hcz19_3 : w17.cell? ⟨gb244, 3, none⟩ = some (.slice A0_3 l0_3.length c0_3) := (blk_cell BK244.out 3).trans rfl; have hfz19_0 := blk_frozen BK244.out 0; have hfz19_1 := blk_frozen BK244.out 1; have hfz19_2 := blk_frozen BK244.out 2; have hfz19_3 := blk_frozen BK244.out 3) | (go_at_call 16; (with_reducible refine (vinculumlaw09_few.calls k a0_0 a0_1 a0_2 _ _ l0_3 false _ ?side1 ?side2 A8.out).mono ?_); (case side1 => repeat (first | exact (Kd.C_below HR0_3.out HB.out) | (with_reducible refine Kd.C_alloc ?_ _) | (with_reducible refine Kd.C_drewN ?_ _) | (with_reducible refine Kd.C_drew ?_))); (case side2 => exact HC0_3.out); rintro e w20 ⟨rfl, hb⟩; have n0_ := Aside0.mk (blk_below (g := gb244) (o := .cells #[.int .i64 a0_0, .string a0_1, .int .i64 a0_2, .slice A0_3 l0_3.length c0_3] 26 (0, 0)) (by (with_reducible repeat (first | refine blk_drewN ?_ _ | refine blk_drew ?_ | refine blk_alloc ?_ _)); exact BK244.out) hb); have n1_ := Aside0.mk (blk_below (g := gb245) (o := .cells #[.int .i64 a1_0, .string a1_1, .int .i64 a1_2, .slice A1_3 l1_3.length c1_3] 26 (0, 0)) (by (with_reducible repeat (first | refine blk_drewN ?_ _ | refine blk_drew ?_ | refine blk_alloc ?_ _)); exact BK245.out) hb); have n2_ := Aside0.mk (below_step (by repeat (first | (with_reducible first | exact HB.out | apply below_alloc | apply pw_below_drewN | apply below_drew1 | refine below_set ?_ GE244.out | refine below_set ?_ GE245.out) | exact HB.out)) hb); clear BK244; clear BK245; clear HB; have BK244 := n0_; have BK245 := n1_; have HB := n2_; clear n0_ n1_ n2_; (try clear hb); (try clear hb2); (try clear hk); (try clear hi)))
        go_meet
        case rel => exact ⟨_, (true), (by first | rfl | (simp; done) | (simp [*]; done)), H', ⟨by first | omega | exact Nat.le_refl _⟩, ⟨by (with_reducible repeat (first | refine blk_drewN ?_ _ | refine blk_drew ?_ | refine blk_alloc ?_ _)); exact BK244.out⟩, ⟨by (with_reducible repeat (first | refine blk_drewN ?_ _ | refine blk_drew ?_ | refine blk_alloc ?_ _)); exact BK245.out⟩, ⟨by repeat (first | (with_reducible first | exact HB.out | apply below_alloc | apply pw_below_drewN | apply below_drew1 | refine below_set ?_ GE244.out | refine below_set ?_ GE245.out) | exact HB.out)⟩⟩
    · replace c7 := Bool.eq_false_iff.mpr c7
      subst c7
      have H1 : (vinculumlaw09_NodeEqual.j0 k true a0_0 a0_1 a0_2 l0_3 a1_0 a1_1 a1_2 l1_3) = some r := by rw [if_neg (show ¬ (false = true) by decide)] at H; exact H
      clear H
      have H := H1
      clear H1
      have H' := Aside0.mk H
      clear H
      go_wp2_with (first | ((with_reducible refine gate_callee (f := 11) rfl ?_); refine goesL_ (some 6) rfl rfl Tryz.func11 (by kernel_rfl) rfl #[] rfl (by (try simp only [List.map_toArray, List.map_cons, List.map_nil]); first | done | rfl | (simp only [List.length_drop, List.length_take]; rfl)) ?_; (with_reducible refine (vinculumlaw09_awake.calls k  false _ A6.out).mono ?_); rintro e w21 ⟨rfl, hb⟩; refine ⟨_, rfl, ?_⟩; have n0_ := Aside0.mk (blk_below (g := gb244) (o := .cells #[.int .i64 a0_0, .string a0_1, .int .i64 a0_2, .slice A0_3 l0_3.length c0_3] 26 (0, 0)) (by (with_reducible repeat (first | refine blk_drewN ?_ _ | refine blk_drew ?_ | refine blk_alloc ?_ _)); exact BK244.out) hb); have n1_ := Aside0.mk (blk_below (g := gb245) (o := .cells #[.int .i64 a1_0, .string a1_1, .int .i64 a1_2, .slice A1_3 l1_3.length c1_3] 26 (0, 0)) (by (with_reducible repeat (first | refine blk_drewN ?_ _ | refine blk_drew ?_ | refine blk_alloc ?_ _)); exact BK245.out) hb); have n2_ := Aside0.mk (below_step (by repeat (first | (with_reducible first | exact HB.out | apply below_alloc | apply pw_below_drewN | apply below_drew1 | refine below_set ?_ GE244.out | refine below_set ?_ GE245.out) | exact HB.out)) hb); clear BK244; clear BK245; clear HB; have BK244 := n0_; have BK245 := n1_; have HB := n2_; clear n0_ n1_ n2_; (try clear hb); (try clear hb2); (try clear hk); (try clear hi)))
      go_meet
      case rel => exact ⟨_, (true), (by first | rfl | (simp; done) | (simp [*]; done)), H', ⟨by first | omega | exact Nat.le_refl _⟩, ⟨by (with_reducible repeat (first | refine blk_drewN ?_ _ | refine blk_drew ?_ | refine blk_alloc ?_ _)); exact BK244.out⟩, ⟨by (with_reducible repeat (first | refine blk_drewN ?_ _ | refine blk_drew ?_ | refine blk_alloc ?_ _)); exact BK245.out⟩, ⟨by repeat (first | (with_reducible first | exact HB.out | apply below_alloc | apply pw_below_drewN | apply below_drew1 | refine below_set ?_ GE244.out | refine below_set ?_ GE245.out) | exact HB.out)⟩⟩
  case rest =>
    clear HC3
    try clear c1
    try clear p2
    try clear c7
    try clear c9
    try clear c11
    try clear c12
    try clear c18
    try clear hcz13_0
    try clear hcz13_1
    try clear hcz13_2
    try clear hcz13_3
    try clear hcz15_0
    try clear hcz15_1
    try clear hcz15_2
    try clear hcz15_3
    try clear hcz19_0
    try clear hcz19_1
    try clear hcz19_2
    try clear hcz19_3
    try clear hfz13_0
    try clear hfz13_1
    try clear hfz13_2
    try clear hfz13_3
    try clear hfz15_0
    try clear hfz15_1
    try clear hfz15_2
    try clear hfz15_3
    try clear hfz19_0
    try clear hfz19_1
    try clear hfz19_2
    try clear hfz19_3
    obtain ⟨kq, x17_2, rfl, HA, HJ2, BK244, BK245, HB⟩ := hcut
    cases kq with
    | zero => exact absurd HA.out (by simp [vinculumlaw09_NodeEqual.j0])
    | succ kj2 =>
      have H := HA.out
      clear HA
      simp only [vinculumlaw09_NodeEqual.j0] at H
      by_cases c22 : x17_2 = true
      · subst c22
        have H1 : ((vinculumlaw09_awake.f kj2).bind fun t249 => (some t249)) = some r := by rw [if_pos rfl] at H; exact H
        clear H
        have H := H1
        clear H1
        replace H := Option.bind_eq_some_iff.mp H
        obtain ⟨t249, A230, H⟩ := H
        replace H : (some t249) = some r := H
        have A23 := Aside0.mk A230
        clear A230
        obtain rfl := Option.some.inj H
        go_wp2_with (first | ((with_reducible refine gate_callee (f := 11) rfl ?_); refine goesL_ (some 18) rfl rfl Tryz.func11 (by kernel_rfl) rfl #[] rfl (by (try simp only [List.map_toArray, List.map_cons, List.map_nil]); first | done | rfl | (simp only [List.length_drop, List.length_take]; rfl)) ?_; (with_reducible refine (vinculumlaw09_awake.calls kj2  t249 _ A23.out).mono ?_); rintro e w24 ⟨rfl, hb⟩; refine ⟨_, rfl, ?_⟩; have n0_ := Aside0.mk (blk_below (g := gb244) (o := .cells #[.int .i64 a0_0, .string a0_1, .int .i64 a0_2, .slice A0_3 l0_3.length c0_3] 26 (0, 0)) (by (with_reducible repeat (first | refine blk_drewN ?_ _ | refine blk_drew ?_ | refine blk_alloc ?_ _)); exact BK244.out) hb); have n1_ := Aside0.mk (blk_below (g := gb245) (o := .cells #[.int .i64 a1_0, .string a1_1, .int .i64 a1_2, .slice A1_3 l1_3.length c1_3] 26 (0, 0)) (by (with_reducible repeat (first | refine blk_drewN ?_ _ | refine blk_drew ?_ | refine blk_alloc ?_ _)); exact BK245.out) hb); have n2_ := Aside0.mk (below_step (by repeat (first | (with_reducible first | exact HB.out | apply below_alloc | apply pw_below_drewN | apply below_drew1 | refine below_set ?_ GE244.out | refine below_set ?_ GE245.out) | exact HB.out)) hb); clear BK244; clear BK245; clear HB; have BK244 := n0_; have BK245 := n1_; have HB := n2_; clear n0_ n1_ n2_; (try clear hb); (try clear hb2); (try clear hk); (try clear hi)))
        go_ret
        exact ⟨by first | rfl | (simp [errW_none, errW_some] <;> rfl) | (simp [*, errW_none, errW_some] <;> rfl), by repeat (first | (with_reducible first | exact HB.out | apply below_alloc | apply pw_below_drewN | apply below_drew1 | refine below_set ?_ GE244.out | refine below_set ?_ GE245.out) | exact HB.out)⟩
      · replace c22 := Bool.eq_false_iff.mpr c22
        subst c22
        have H1 : ((node_Equal.f kj2 a0_0 a0_1 a0_2 l0_3 a1_0 a1_1 a1_2 l1_3).bind fun t250 => ((vinculumref09_Equal.f kj2 a0_0 a0_1 a0_2 l0_3 a1_0 a1_1 a1_2 l1_3).bind fun t251 => (if (t250 == t251) = true then ((node_Equal.f kj2 a1_0 a1_1 a1_2 l1_3 a0_0 a0_1 a0_2 l0_3).bind fun t252 => (if (t250 == t252) = true then ((node_Equal.f kj2 a0_0 a0_1 a0_2 l0_3 a0_0 a0_1 a0_2 l0_3).bind fun t253 => (some t253)) else (some false))) else (some false)))) = some r := by rw [if_neg (show ¬ (false = true) by decide)] at H; exact H
        clear H
        have H := H1
        clear H1
        replace H := Option.bind_eq_some_iff.mp H
        obtain ⟨t250, A250, H⟩ := H
        replace H : ((vinculumref09_Equal.f kj2 a0_0 a0_1 a0_2 l0_3 a1_0 a1_1 a1_2 l1_3).bind fun t251 => (if (t250 == t251) = true then ((node_Equal.f kj2 a1_0 a1_1 a1_2 l1_3 a0_0 a0_1 a0_2 l0_3).bind fun t252 => (if (t250 == t252) = true then ((node_Equal.f kj2 a0_0 a0_1 a0_2 l0_3 a0_0 a0_1 a0_2 l0_3).bind fun t253 => (some t253)) else (some false))) else (some false))) = some r := H
        have A25 := Aside0.mk A250
        clear A250
        replace H := Option.bind_eq_some_iff.mp H
        obtain ⟨t251, A260, H⟩ := H
        replace H : (if (t250 == t251) = true then ((node_Equal.f kj2 a1_0 a1_1 a1_2 l1_3 a0_0 a0_1 a0_2 l0_3).bind fun t252 => (if (t250 == t252) = true then ((node_Equal.f kj2 a0_0 a0_1 a0_2 l0_3 a0_0 a0_1 a0_2 l0_3).bind fun t253 => (some t253)) else (some false))) else (some false)) = some r := H
        have A26 := Aside0.mk A260
        clear A260
        by_cases c27 : (t250 == t251) = true
        · rw [if_pos c27] at H
          have c27b0 : (t250 == t251) = true := c27
          (try (have c27b1 : decide (t250 = t251) = true := by simpa using c27))
          (try (have c27b2 : (t250 == t251) = true := by simpa using c27))
          clear c27
          replace H := Option.bind_eq_some_iff.mp H
          obtain ⟨t252, A280, H⟩ := H
          replace H : (if (t250 == t252) = true then ((node_Equal.f kj2 a0_0 a0_1 a0_2 l0_3 a0_0 a0_1 a0_2 l0_3).bind fun t253 => (some t253)) else (some false)) = some r := H
          have A28 := Aside0.mk A280
          clear A280
          by_cases c29 : (t250 == t252) = true
          · rw [if_pos c29] at H
            have c29b0 : (t250 == t252) = true := c29
            (try (have c29b1 : decide (t250 = t252) = true := by simpa using c29))
            (try (have c29b2 : (t250 == t252) = true := by simpa using c29))
            clear c29
            replace H := Option.bind_eq_some_iff.mp H
            obtain ⟨t253, A300, H⟩ := H
            replace H : (some t253) = some r := H
            have A30 := Aside0.mk A300
            clear A300
            obtain rfl := Option.some.inj H
            have hnb31 := NB244_245.out
            have hnc31 := NB245_244.out
            have hcz32_0 : wc.cell? ⟨gb244, 0, none⟩ = some (.int .i64 a0_0) := (blk_cell BK244.out 0).trans rfl
            have hcz32_1 : wc.cell? ⟨gb244, 1, none⟩ = some (.string a0_1) := (blk_cell BK244.out 1).trans rfl
            have hcz32_2 : wc.cell? ⟨gb244, 2, none⟩ = some (.int .i64 a0_2) := (blk_cell BK244.out 2).trans rfl
            have hcz32_3 : wc.cell? ⟨gb244, 3, none⟩ = some (.slice A0_3 l0_3.length c0_3) := (blk_cell BK244.out 3).trans rfl
            have hfz32_0 := blk_frozen BK244.out 0
            have hfz32_1 := blk_frozen BK244.out 1
            have hfz32_2 := blk_frozen BK244.out 2
            have hfz32_3 := blk_frozen BK244.out 3
            have hcz33_0 : wc.cell? ⟨gb245, 0, none⟩ = some (.int .i64 a1_0) := (blk_cell BK245.out 0).trans rfl
            have hcz33_1 : wc.cell? ⟨gb245, 1, none⟩ = some (.string a1_1) := (blk_cell BK245.out 1).trans rfl
            have hcz33_2 : wc.cell? ⟨gb245, 2, none⟩ = some (.int .i64 a1_2) := (blk_cell BK245.out 2).trans rfl
            have hcz33_3 : wc.cell? ⟨gb245, 3, none⟩ = some (.slice A1_3 l1_3.length c1_3) := (blk_cell BK245.out 3).trans rfl
            have hfz33_0 := blk_frozen BK245.out 0
            have hfz33_1 := blk_frozen BK245.out 1
            have hfz33_2 := blk_frozen BK245.out 2
            have hfz33_3 := blk_frozen BK245.out 3
            go_wp2_with (first | ((with_reducible refine gate_callee (f := 31) rfl ?_); refine goesL_ (some 21) rfl rfl Tryz.func31 (by kernel_rfl) rfl #[.agg #[.int .i64 a0_0, .string a0_1, .int .i64 a0_2, .slice A0_3 l0_3.length c0_3], .agg #[.int .i64 a1_0, .string a1_1, .int .i64 a1_2, .slice A1_3 l1_3.length c1_3]] rfl (by (try simp only [List.map_toArray, List.map_cons, List.map_nil]); first | done | rfl | (simp only [List.length_drop, List.length_take]; rfl)) ?_; (with_reducible refine (node_Equal.calls kj2 a0_0 a0_1 a0_2 _ _ l0_3 a1_0 a1_1 a1_2 _ _ l1_3 t250 _ ?side1 ?side2 ?side3 ?side4 A25.out).mono ?_); (case side1 => repeat (first | exact (Kd.C_below HR0_3.out HB.out) | (with_reducible refine Kd.C_alloc ?_ _) | (with_reducible refine Kd.C_drewN ?_ _) | (with_reducible refine Kd.C_drew ?_))); (case side2 => exact HC0_3.out); (case side3 => repeat (first | exact (Kd.C_below HR1_3.out HB.out) | (with_reducible refine Kd.C_alloc ?_ _) | (with_reducible refine Kd.C_drewN ?_ _) | (with_reducible refine Kd.C_drew ?_))); (case side4 => exact HC1_3.out); rintro e w34 ⟨rfl, hb⟩; refine ⟨_, rfl, ?_⟩; have n0_ := Aside0.mk (blk_below (g := gb244) (o := .cells #[.int .i64 a0_0, .string a0_1, .int .i64 a0_2, .slice A0_3 l0_3.length c0_3] 26 (0, 0)) (by (with_reducible repeat (first | refine blk_drewN ?_ _ | refine blk_drew ?_ | refine blk_alloc ?_ _)); exact BK244.out) hb); have n1_ := Aside0.mk (blk_below (g := gb245) (o := .cells #[.int .i64 a1_0, .string a1_1, .int .i64 a1_2, .slice A1_3 l1_3.length c1_3] 26 (0, 0)) (by (with_reducible repeat (first | refine blk_drewN ?_ _ | refine blk_drew ?_ | refine blk_alloc ?_ _)); exact BK245.out) hb); have n2_ := Aside0.mk (below_step (by repeat (first | (with_reducible first | exact HB.out | apply below_alloc | apply pw_below_drewN | apply below_drew1 | refine below_set ?_ GE244.out | refine below_set ?_ GE245.out) | exact HB.out)) hb); clear BK244; clear BK245; clear HB; have BK244 := n0_; have BK245 := n1_; have HB := n2_; clear n0_ n1_ n2_; (try clear hb); (try clear hb2); (try clear hk); (try clear hi); have hcz35_0 : w34.cell? ⟨gb244, 0, none⟩ = some (.int .i64 a0_0) := (blk_cell BK244.out 0).trans rfl; have hcz35_1 : w34.cell? ⟨gb244, 1, none⟩ = some (.string a0_1) := (blk_cell BK244.out 1).trans rfl; have hcz35_2 : w34.cell? ⟨gb244, 2, none⟩ = some (.int .i64 a0_2) := (blk_cell BK244.out 2).trans rfl; have hcz35_3 : w34.cell? ⟨gb244, 3, none⟩ = some (.slice A0_3 l0_3.length c0_3) := (blk_cell BK244.out 3).trans rfl; have hfz35_0 := blk_frozen BK244.out 0; have hfz35_1 := blk_frozen BK244.out 1; have hfz35_2 := blk_frozen BK244.out 2; have hfz35_3 := blk_frozen BK244.out 3; have hcz36_0 : w34.cell? ⟨gb245, 0, none⟩ = some (.int .i64 a1_0) := (blk_cell BK245.out 0).trans rfl; have hcz36_1 : w34.cell? ⟨gb245, 1, none⟩ = some (.string a1_1) := (blk_cell BK245.out 1).trans rfl; have hcz36_2 : w34.cell? ⟨gb245, 2, none⟩ = some (.int .i64 a1_2) := (blk_cell BK245.out 2).trans rfl; have hcz36_3 : w34.cell? ⟨gb245, 3, none⟩ = some (.slice A1_3 l1_3.length c1_3) := (blk_cell BK245.out 3).trans rfl; have hfz36_0 := blk_frozen BK245.out 0; have hfz36_1 := blk_frozen BK245.out 1; have hfz36_2 := blk_frozen BK245.out 2; have hfz36_3 := blk_frozen BK245.out 3) | ((with_reducible refine gate_callee (f := 19) rfl ?_); refine goesL_ (some 25) rfl rfl Tryz.func19 (by kernel_rfl) rfl #[.agg #[.int .i64 a0_0, .string a0_1, .int .i64 a0_2, .slice A0_3 l0_3.length c0_3], .agg #[.int .i64 a1_0, .string a1_1, .int .i64 a1_2, .slice A1_3 l1_3.length c1_3]] rfl (by (try simp only [List.map_toArray, List.map_cons, List.map_nil]); first | done | rfl | (simp only [List.length_drop, List.length_take]; rfl)) ?_; (with_reducible refine (vinculumref09_Equal.calls kj2 a0_0 a0_1 a0_2 _ _ l0_3 a1_0 a1_1 a1_2 _ _ l1_3 t251 _ ?side1 ?side2 ?side3 ?side4 A26.out).mono ?_); (case side1 => repeat (first | exact (Kd.C_below HR0_3.out HB.out) | (with_reducible refine Kd.C_alloc ?_ _) | (with_reducible refine Kd.C_drewN ?_ _) | (with_reducible refine Kd.C_drew ?_))); (case side2 => exact HC0_3.out); (case side3 => repeat (first | exact (Kd.C_below HR1_3.out HB.out) | (with_reducible refine Kd.C_alloc ?_ _) | (with_reducible refine Kd.C_drewN ?_ _) | (with_reducible refine Kd.C_drew ?_))); (case side4 => exact HC1_3.out); rintro e w37 ⟨rfl, hb⟩; refine ⟨_, rfl, ?_⟩; have n0_ := Aside0.mk (blk_below (g := gb244) (o := .cells #[.int .i64 a0_0, .string a0_1, .int .i64 a0_2, .slice A0_3 l0_3.length c0_3] 26 (0, 0)) (by (with_reducible repeat (first | refine blk_drewN ?_ _ | refine blk_drew ?_ | refine blk_alloc ?_ _)); exact BK244.out) hb); have n1_ := Aside0.mk (blk_below (g := gb245) (o := .cells #[.int .i64 a1_0, .string a1_1, .int .i64 a1_2, .slice A1_3 l1_3.length c1_3] 26 (0, 0)) (by (with_reducible repeat (first | refine blk_drewN ?_ _ | refine blk_drew ?_ | refine blk_alloc ?_ _)); exact BK245.out) hb); have n2_ := Aside0.mk (below_step (by repeat (first | (with_reducible first | exact HB.out | apply below_alloc | apply pw_below_drewN | apply below_drew1 | refine below_set ?_ GE244.out | refine below_set ?_ GE245.out) | exact HB.out)) hb); clear BK244; clear BK245; clear HB; have BK244 := n0_; have BK245 := n1_; have HB := n2_; clear n0_ n1_ n2_; (try clear hb); (try clear hb2); (try clear hk); (try clear hi); have hcz38_0 : w37.cell? ⟨gb245, 0, none⟩ = some (.int .i64 a1_0) := (blk_cell BK245.out 0).trans rfl; have hcz38_1 : w37.cell? ⟨gb245, 1, none⟩ = some (.string a1_1) := (blk_cell BK245.out 1).trans rfl; have hcz38_2 : w37.cell? ⟨gb245, 2, none⟩ = some (.int .i64 a1_2) := (blk_cell BK245.out 2).trans rfl; have hcz38_3 : w37.cell? ⟨gb245, 3, none⟩ = some (.slice A1_3 l1_3.length c1_3) := (blk_cell BK245.out 3).trans rfl; have hfz38_0 := blk_frozen BK245.out 0; have hfz38_1 := blk_frozen BK245.out 1; have hfz38_2 := blk_frozen BK245.out 2; have hfz38_3 := blk_frozen BK245.out 3; have hcz39_0 : w37.cell? ⟨gb244, 0, none⟩ = some (.int .i64 a0_0) := (blk_cell BK244.out 0).trans rfl; have hcz39_1 : w37.cell? ⟨gb244, 1, none⟩ = some (.string a0_1) := (blk_cell BK244.out 1).trans rfl; have hcz39_2 : w37.cell? ⟨gb244, 2, none⟩ = some (.int .i64 a0_2) := (blk_cell BK244.out 2).trans rfl; have hcz39_3 : w37.cell? ⟨gb244, 3, none⟩ = some (.slice A0_3 l0_3.length c0_3) := (blk_cell BK244.out 3).trans rfl; have hfz39_0 := blk_frozen BK244.out 0; have hfz39_1 := blk_frozen BK244.out 1; have hfz39_2 := blk_frozen BK244.out 2; have hfz39_3 := blk_frozen BK244.out 3) | (go_at_call 31; (with_reducible refine (node_Equal.calls kj2 a1_0 a1_1 a1_2 _ _ l1_3 a0_0 a0_1 a0_2 _ _ l0_3 t252 _ ?side1 ?side2 ?side3 ?side4 A28.out).mono ?_); (case side1 => repeat (first | exact (Kd.C_below HR1_3.out HB.out) | (with_reducible refine Kd.C_alloc ?_ _) | (with_reducible refine Kd.C_drewN ?_ _) | (with_reducible refine Kd.C_drew ?_))); (case side2 => exact HC1_3.out); (case side3 => repeat (first | exact (Kd.C_below HR0_3.out HB.out) | (with_reducible refine Kd.C_alloc ?_ _) | (with_reducible refine Kd.C_drewN ?_ _) | (with_reducible refine Kd.C_drew ?_))); (case side4 => exact HC0_3.out); rintro e w40 ⟨rfl, hb⟩; have n0_ := Aside0.mk (blk_below (g := gb244) (o := .cells #[.int .i64 a0_0, .string a0_1, .int .i64 a0_2, .slice A0_3 l0_3.length c0_3] 26 (0, 0)) (by (with_reducible repeat (first | refine blk_drewN ?_ _ | refine blk_drew ?_ | refine blk_alloc ?_ _)); exact BK244.out) hb); have n1_ := Aside0.mk (blk_below (g := gb245) (o := .cells #[.int .i64 a1_0, .string a1_1, .int .i64 a1_2, .slice A1_3 l1_3.length c1_3] 26 (0, 0)) (by (with_reducible repeat (first | refine blk_drewN ?_ _ | refine blk_drew ?_ | refine blk_alloc ?_ _)); exact BK245.out) hb); have n2_ := Aside0.mk (below_step (by repeat (first | (with_reducible first | exact HB.out | apply below_alloc | apply pw_below_drewN | apply below_drew1 | refine below_set ?_ GE244.out | refine below_set ?_ GE245.out) | exact HB.out)) hb); clear BK244; clear BK245; clear HB; have BK244 := n0_; have BK245 := n1_; have HB := n2_; clear n0_ n1_ n2_; (try clear hb); (try clear hb2); (try clear hk); (try clear hi); have hcz41_0 : w40.cell? ⟨gb244, 0, none⟩ = some (.int .i64 a0_0) := (blk_cell BK244.out 0).trans rfl; have hcz41_1 : w40.cell? ⟨gb244, 1, none⟩ = some (.string a0_1) := (blk_cell BK244.out 1).trans rfl; have hcz41_2 : w40.cell? ⟨gb244, 2, none⟩ = some (.int .i64 a0_2) := (blk_cell BK244.out 2).trans rfl; have hcz41_3 : w40.cell? ⟨gb244, 3, none⟩ = some (.slice A0_3 l0_3.length c0_3) := (blk_cell BK244.out 3).trans rfl; have hfz41_0 := blk_frozen BK244.out 0; have hfz41_1 := blk_frozen BK244.out 1; have hfz41_2 := blk_frozen BK244.out 2; have hfz41_3 := blk_frozen BK244.out 3) | (go_at_call 31; (with_reducible refine (node_Equal.calls kj2 a0_0 a0_1 a0_2 _ _ l0_3 a0_0 a0_1 a0_2 _ _ l0_3 t253 _ ?side1 ?side2 ?side3 ?side4 A30.out).mono ?_); (case side1 => repeat (first | exact (Kd.C_below HR0_3.out HB.out) | (with_reducible refine Kd.C_alloc ?_ _) | (with_reducible refine Kd.C_drewN ?_ _) | (with_reducible refine Kd.C_drew ?_))); (case side2 => exact HC0_3.out); (case side3 => repeat (first | exact (Kd.C_below HR0_3.out HB.out) | (with_reducible refine Kd.C_alloc ?_ _) | (with_reducible refine Kd.C_drewN ?_ _) | (with_reducible refine Kd.C_drew ?_))); (case side4 => exact HC0_3.out); rintro e w42 ⟨rfl, hb⟩; have n0_ := Aside0.mk (blk_below (g := gb244) (o := .cells #[.int .i64 a0_0, .string a0_1, .int .i64 a0_2, .slice A0_3 l0_3.length c0_3] 26 (0, 0)) (by (with_reducible repeat (first | refine blk_drewN ?_ _ | refine blk_drew ?_ | refine blk_alloc ?_ _)); exact BK244.out) hb); have n1_ := Aside0.mk (blk_below (g := gb245) (o := .cells #[.int .i64 a1_0, .string a1_1, .int .i64 a1_2, .slice A1_3 l1_3.length c1_3] 26 (0, 0)) (by (with_reducible repeat (first | refine blk_drewN ?_ _ | refine blk_drew ?_ | refine blk_alloc ?_ _)); exact BK245.out) hb); have n2_ := Aside0.mk (below_step (by repeat (first | (with_reducible first | exact HB.out | apply below_alloc | apply pw_below_drewN | apply below_drew1 | refine below_set ?_ GE244.out | refine below_set ?_ GE245.out) | exact HB.out)) hb); clear BK244; clear BK245; clear HB; have BK244 := n0_; have BK245 := n1_; have HB := n2_; clear n0_ n1_ n2_; (try clear hb); (try clear hb2); (try clear hk); (try clear hi)))
            go_ret
            exact ⟨by first | rfl | (simp [errW_none, errW_some] <;> rfl) | (simp [*, errW_none, errW_some] <;> rfl), by repeat (first | (with_reducible first | exact HB.out | apply below_alloc | apply pw_below_drewN | apply below_drew1 | refine below_set ?_ GE244.out | refine below_set ?_ GE245.out) | exact HB.out)⟩
          · rw [if_neg c29] at H
            have c29b0 : (t250 == t252) = false := by simpa using c29
            (try (have c29b1 : decide (t250 = t252) = false := by simpa using c29))
            (try (have c29b2 : (t250 == t252) = false := by simpa using c29))
            (try (have c29b3 : ¬ (t250 = t252) := by simpa using c29))
            clear c29
            obtain rfl := Option.some.inj H
            have hnb43 := NB244_245.out
            have hnc43 := NB245_244.out
            have hcz44_0 : wc.cell? ⟨gb244, 0, none⟩ = some (.int .i64 a0_0) := (blk_cell BK244.out 0).trans rfl
            have hcz44_1 : wc.cell? ⟨gb244, 1, none⟩ = some (.string a0_1) := (blk_cell BK244.out 1).trans rfl
            have hcz44_2 : wc.cell? ⟨gb244, 2, none⟩ = some (.int .i64 a0_2) := (blk_cell BK244.out 2).trans rfl
            have hcz44_3 : wc.cell? ⟨gb244, 3, none⟩ = some (.slice A0_3 l0_3.length c0_3) := (blk_cell BK244.out 3).trans rfl
            have hfz44_0 := blk_frozen BK244.out 0
            have hfz44_1 := blk_frozen BK244.out 1
            have hfz44_2 := blk_frozen BK244.out 2
            have hfz44_3 := blk_frozen BK244.out 3
            have hcz45_0 : wc.cell? ⟨gb245, 0, none⟩ = some (.int .i64 a1_0) := (blk_cell BK245.out 0).trans rfl
            have hcz45_1 : wc.cell? ⟨gb245, 1, none⟩ = some (.string a1_1) := (blk_cell BK245.out 1).trans rfl
            have hcz45_2 : wc.cell? ⟨gb245, 2, none⟩ = some (.int .i64 a1_2) := (blk_cell BK245.out 2).trans rfl
            have hcz45_3 : wc.cell? ⟨gb245, 3, none⟩ = some (.slice A1_3 l1_3.length c1_3) := (blk_cell BK245.out 3).trans rfl
            have hfz45_0 := blk_frozen BK245.out 0
            have hfz45_1 := blk_frozen BK245.out 1
            have hfz45_2 := blk_frozen BK245.out 2
            have hfz45_3 := blk_frozen BK245.out 3
            go_wp2_with (first | ((with_reducible refine gate_callee (f := 31) rfl ?_); refine goesL_ (some 21) rfl rfl Tryz.func31 (by kernel_rfl) rfl #[.agg #[.int .i64 a0_0, .string a0_1, .int .i64 a0_2, .slice A0_3 l0_3.length c0_3], .agg #[.int .i64 a1_0, .string a1_1, .int .i64 a1_2, .slice A1_3 l1_3.length c1_3]] rfl (by (try simp only [List.map_toArray, List.map_cons, List.map_nil]); first | done | rfl | (simp only [List.length_drop, List.length_take]; rfl)) ?_; (with_reducible refine (node_Equal.calls kj2 a0_0 a0_1 a0_2 _ _ l0_3 a1_0 a1_1 a1_2 _ _ l1_3 t250 _ ?side1 ?side2 ?side3 ?side4 A25.out).mono ?_); (case side1 => repeat (first | exact (Kd.C_below HR0_3.out HB.out) | (with_reducible refine Kd.C_alloc ?_ _) | (with_reducible refine Kd.C_drewN ?_ _) | (with_reducible refine Kd.C_drew ?_))); (case side2 => exact HC0_3.out); (case side3 => repeat (first | exact (Kd.C_below HR1_3.out HB.out) | (with_reducible refine Kd.C_alloc ?_ _) | (with_reducible refine Kd.C_drewN ?_ _) | (with_reducible refine Kd.C_drew ?_))); (case side4 => exact HC1_3.out); rintro e w46 ⟨rfl, hb⟩; refine ⟨_, rfl, ?_⟩; have n0_ := Aside0.mk (blk_below (g := gb244) (o := .cells #[.int .i64 a0_0, .string a0_1, .int .i64 a0_2, .slice A0_3 l0_3.length c0_3] 26 (0, 0)) (by (with_reducible repeat (first | refine blk_drewN ?_ _ | refine blk_drew ?_ | refine blk_alloc ?_ _)); exact BK244.out) hb); have n1_ := Aside0.mk (blk_below (g := gb245) (o := .cells #[.int .i64 a1_0, .string a1_1, .int .i64 a1_2, .slice A1_3 l1_3.length c1_3] 26 (0, 0)) (by (with_reducible repeat (first | refine blk_drewN ?_ _ | refine blk_drew ?_ | refine blk_alloc ?_ _)); exact BK245.out) hb); have n2_ := Aside0.mk (below_step (by repeat (first | (with_reducible first | exact HB.out | apply below_alloc | apply pw_below_drewN | apply below_drew1 | refine below_set ?_ GE244.out | refine below_set ?_ GE245.out) | exact HB.out)) hb); clear BK244; clear BK245; clear HB; have BK244 := n0_; have BK245 := n1_; have HB := n2_; clear n0_ n1_ n2_; (try clear hb); (try clear hb2); (try clear hk); (try clear hi); have hcz47_0 : w46.cell? ⟨gb244, 0, none⟩ = some (.int .i64 a0_0) := (blk_cell BK244.out 0).trans rfl; have hcz47_1 : w46.cell? ⟨gb244, 1, none⟩ = some (.string a0_1) := (blk_cell BK244.out 1).trans rfl; have hcz47_2 : w46.cell? ⟨gb244, 2, none⟩ = some (.int .i64 a0_2) := (blk_cell BK244.out 2).trans rfl; have hcz47_3 : w46.cell? ⟨gb244, 3, none⟩ = some (.slice A0_3 l0_3.length c0_3) := (blk_cell BK244.out 3).trans rfl; have hfz47_0 := blk_frozen BK244.out 0; have hfz47_1 := blk_frozen BK244.out 1; have hfz47_2 := blk_frozen BK244.out 2; have hfz47_3 := blk_frozen BK244.out 3; have hcz48_0 : w46.cell? ⟨gb245, 0, none⟩ = some (.int .i64 a1_0) := (blk_cell BK245.out 0).trans rfl; have hcz48_1 : w46.cell? ⟨gb245, 1, none⟩ = some (.string a1_1) := (blk_cell BK245.out 1).trans rfl; have hcz48_2 : w46.cell? ⟨gb245, 2, none⟩ = some (.int .i64 a1_2) := (blk_cell BK245.out 2).trans rfl; have hcz48_3 : w46.cell? ⟨gb245, 3, none⟩ = some (.slice A1_3 l1_3.length c1_3) := (blk_cell BK245.out 3).trans rfl; have hfz48_0 := blk_frozen BK245.out 0; have hfz48_1 := blk_frozen BK245.out 1; have hfz48_2 := blk_frozen BK245.out 2; have hfz48_3 := blk_frozen BK245.out 3) | ((with_reducible refine gate_callee (f := 19) rfl ?_); refine goesL_ (some 25) rfl rfl Tryz.func19 (by kernel_rfl) rfl #[.agg #[.int .i64 a0_0, .string a0_1, .int .i64 a0_2, .slice A0_3 l0_3.length c0_3], .agg #[.int .i64 a1_0, .string a1_1, .int .i64 a1_2, .slice A1_3 l1_3.length c1_3]] rfl (by (try simp only [List.map_toArray, List.map_cons, List.map_nil]); first | done | rfl | (simp only [List.length_drop, List.length_take]; rfl)) ?_; (with_reducible refine (vinculumref09_Equal.calls kj2 a0_0 a0_1 a0_2 _ _ l0_3 a1_0 a1_1 a1_2 _ _ l1_3 t251 _ ?side1 ?side2 ?side3 ?side4 A26.out).mono ?_); (case side1 => repeat (first | exact (Kd.C_below HR0_3.out HB.out) | (with_reducible refine Kd.C_alloc ?_ _) | (with_reducible refine Kd.C_drewN ?_ _) | (with_reducible refine Kd.C_drew ?_))); (case side2 => exact HC0_3.out); (case side3 => repeat (first | exact (Kd.C_below HR1_3.out HB.out) | (with_reducible refine Kd.C_alloc ?_ _) | (with_reducible refine Kd.C_drewN ?_ _) | (with_reducible refine Kd.C_drew ?_))); (case side4 => exact HC1_3.out); rintro e w49 ⟨rfl, hb⟩; refine ⟨_, rfl, ?_⟩; have n0_ := Aside0.mk (blk_below (g := gb244) (o := .cells #[.int .i64 a0_0, .string a0_1, .int .i64 a0_2, .slice A0_3 l0_3.length c0_3] 26 (0, 0)) (by (with_reducible repeat (first | refine blk_drewN ?_ _ | refine blk_drew ?_ | refine blk_alloc ?_ _)); exact BK244.out) hb); have n1_ := Aside0.mk (blk_below (g := gb245) (o := .cells #[.int .i64 a1_0, .string a1_1, .int .i64 a1_2, .slice A1_3 l1_3.length c1_3] 26 (0, 0)) (by (with_reducible repeat (first | refine blk_drewN ?_ _ | refine blk_drew ?_ | refine blk_alloc ?_ _)); exact BK245.out) hb); have n2_ := Aside0.mk (below_step (by repeat (first | (with_reducible first | exact HB.out | apply below_alloc | apply pw_below_drewN | apply below_drew1 | refine below_set ?_ GE244.out | refine below_set ?_ GE245.out) | exact HB.out)) hb); clear BK244; clear BK245; clear HB; have BK244 := n0_; have BK245 := n1_; have HB := n2_; clear n0_ n1_ n2_; (try clear hb); (try clear hb2); (try clear hk); (try clear hi); have hcz50_0 : w49.cell? ⟨gb245, 0, none⟩ = some (.int .i64 a1_0) := (blk_cell BK245.out 0).trans rfl; have hcz50_1 : w49.cell? ⟨gb245, 1, none⟩ = some (.string a1_1) := (blk_cell BK245.out 1).trans rfl; have hcz50_2 : w49.cell? ⟨gb245, 2, none⟩ = some (.int .i64 a1_2) := (blk_cell BK245.out 2).trans rfl; have hcz50_3 : w49.cell? ⟨gb245, 3, none⟩ = some (.slice A1_3 l1_3.length c1_3) := (blk_cell BK245.out 3).trans rfl; have hfz50_0 := blk_frozen BK245.out 0; have hfz50_1 := blk_frozen BK245.out 1; have hfz50_2 := blk_frozen BK245.out 2; have hfz50_3 := blk_frozen BK245.out 3; have hcz51_0 : w49.cell? ⟨gb244, 0, none⟩ = some (.int .i64 a0_0) := (blk_cell BK244.out 0).trans rfl; have hcz51_1 : w49.cell? ⟨gb244, 1, none⟩ = some (.string a0_1) := (blk_cell BK244.out 1).trans rfl; have hcz51_2 : w49.cell? ⟨gb244, 2, none⟩ = some (.int .i64 a0_2) := (blk_cell BK244.out 2).trans rfl; have hcz51_3 : w49.cell? ⟨gb244, 3, none⟩ = some (.slice A0_3 l0_3.length c0_3) := (blk_cell BK244.out 3).trans rfl; have hfz51_0 := blk_frozen BK244.out 0; have hfz51_1 := blk_frozen BK244.out 1; have hfz51_2 := blk_frozen BK244.out 2; have hfz51_3 := blk_frozen BK244.out 3) | (go_at_call 31; (with_reducible refine (node_Equal.calls kj2 a1_0 a1_1 a1_2 _ _ l1_3 a0_0 a0_1 a0_2 _ _ l0_3 t252 _ ?side1 ?side2 ?side3 ?side4 A28.out).mono ?_); (case side1 => repeat (first | exact (Kd.C_below HR1_3.out HB.out) | (with_reducible refine Kd.C_alloc ?_ _) | (with_reducible refine Kd.C_drewN ?_ _) | (with_reducible refine Kd.C_drew ?_))); (case side2 => exact HC1_3.out); (case side3 => repeat (first | exact (Kd.C_below HR0_3.out HB.out) | (with_reducible refine Kd.C_alloc ?_ _) | (with_reducible refine Kd.C_drewN ?_ _) | (with_reducible refine Kd.C_drew ?_))); (case side4 => exact HC0_3.out); rintro e w52 ⟨rfl, hb⟩; have n0_ := Aside0.mk (blk_below (g := gb244) (o := .cells #[.int .i64 a0_0, .string a0_1, .int .i64 a0_2, .slice A0_3 l0_3.length c0_3] 26 (0, 0)) (by (with_reducible repeat (first | refine blk_drewN ?_ _ | refine blk_drew ?_ | refine blk_alloc ?_ _)); exact BK244.out) hb); have n1_ := Aside0.mk (blk_below (g := gb245) (o := .cells #[.int .i64 a1_0, .string a1_1, .int .i64 a1_2, .slice A1_3 l1_3.length c1_3] 26 (0, 0)) (by (with_reducible repeat (first | refine blk_drewN ?_ _ | refine blk_drew ?_ | refine blk_alloc ?_ _)); exact BK245.out) hb); have n2_ := Aside0.mk (below_step (by repeat (first | (with_reducible first | exact HB.out | apply below_alloc | apply pw_below_drewN | apply below_drew1 | refine below_set ?_ GE244.out | refine below_set ?_ GE245.out) | exact HB.out)) hb); clear BK244; clear BK245; clear HB; have BK244 := n0_; have BK245 := n1_; have HB := n2_; clear n0_ n1_ n2_; (try clear hb); (try clear hb2); (try clear hk); (try clear hi)))
            go_ret
            exact ⟨by first | rfl | (simp [errW_none, errW_some] <;> rfl) | (simp [*, errW_none, errW_some] <;> rfl), by repeat (first | (with_reducible first | exact HB.out | apply below_alloc | apply pw_below_drewN | apply below_drew1 | refine below_set ?_ GE244.out | refine below_set ?_ GE245.out) | exact HB.out)⟩
        · rw [if_neg c27] at H
          have c27b0 : (t250 == t251) = false := by simpa using c27
          (try (have c27b1 : decide (t250 = t251) = false := by simpa using c27))
          (try (have c27b2 : (t250 == t251) = false := by simpa using c27))
          (try (have c27b3 : ¬ (t250 = t251) := by simpa using c27))
          clear c27
          obtain rfl := Option.some.inj H
          have hnb53 := NB244_245.out
          have hnc53 := NB245_244.out
          have hcz54_0 : wc.cell? ⟨gb244, 0, none⟩ = some (.int .i64 a0_0) := (blk_cell BK244.out 0).trans rfl
          have hcz54_1 : wc.cell? ⟨gb244, 1, none⟩ = some (.string a0_1) := (blk_cell BK244.out 1).trans rfl
          have hcz54_2 : wc.cell? ⟨gb244, 2, none⟩ = some (.int .i64 a0_2) := (blk_cell BK244.out 2).trans rfl
          have hcz54_3 : wc.cell? ⟨gb244, 3, none⟩ = some (.slice A0_3 l0_3.length c0_3) := (blk_cell BK244.out 3).trans rfl
          have hfz54_0 := blk_frozen BK244.out 0
          have hfz54_1 := blk_frozen BK244.out 1
          have hfz54_2 := blk_frozen BK244.out 2
          have hfz54_3 := blk_frozen BK244.out 3
          have hcz55_0 : wc.cell? ⟨gb245, 0, none⟩ = some (.int .i64 a1_0) := (blk_cell BK245.out 0).trans rfl
          have hcz55_1 : wc.cell? ⟨gb245, 1, none⟩ = some (.string a1_1) := (blk_cell BK245.out 1).trans rfl
          have hcz55_2 : wc.cell? ⟨gb245, 2, none⟩ = some (.int .i64 a1_2) := (blk_cell BK245.out 2).trans rfl
          have hcz55_3 : wc.cell? ⟨gb245, 3, none⟩ = some (.slice A1_3 l1_3.length c1_3) := (blk_cell BK245.out 3).trans rfl
          have hfz55_0 := blk_frozen BK245.out 0
          have hfz55_1 := blk_frozen BK245.out 1
          have hfz55_2 := blk_frozen BK245.out 2
          have hfz55_3 := blk_frozen BK245.out 3
          go_wp2_with (first | ((with_reducible refine gate_callee (f := 31) rfl ?_); refine goesL_ (some 21) rfl rfl Tryz.func31 (by kernel_rfl) rfl #[.agg #[.int .i64 a0_0, .string a0_1, .int .i64 a0_2, .slice A0_3 l0_3.length c0_3], .agg #[.int .i64 a1_0, .string a1_1, .int .i64 a1_2, .slice A1_3 l1_3.length c1_3]] rfl (by (try simp only [List.map_toArray, List.map_cons, List.map_nil]); first | done | rfl | (simp only [List.length_drop, List.length_take]; rfl)) ?_; (with_reducible refine (node_Equal.calls kj2 a0_0 a0_1 a0_2 _ _ l0_3 a1_0 a1_1 a1_2 _ _ l1_3 t250 _ ?side1 ?side2 ?side3 ?side4 A25.out).mono ?_); (case side1 => repeat (first | exact (Kd.C_below HR0_3.out HB.out) | (with_reducible refine Kd.C_alloc ?_ _) | (with_reducible refine Kd.C_drewN ?_ _) | (with_reducible refine Kd.C_drew ?_))); (case side2 => exact HC0_3.out); (case side3 => repeat (first | exact (Kd.C_below HR1_3.out HB.out) | (with_reducible refine Kd.C_alloc ?_ _) | (with_reducible refine Kd.C_drewN ?_ _) | (with_reducible refine Kd.C_drew ?_))); (case side4 => exact HC1_3.out); rintro e w56 ⟨rfl, hb⟩; refine ⟨_, rfl, ?_⟩; have n0_ := Aside0.mk (blk_below (g := gb244) (o := .cells #[.int .i64 a0_0, .string a0_1, .int .i64 a0_2, .slice A0_3 l0_3.length c0_3] 26 (0, 0)) (by (with_reducible repeat (first | refine blk_drewN ?_ _ | refine blk_drew ?_ | refine blk_alloc ?_ _)); exact BK244.out) hb); have n1_ := Aside0.mk (blk_below (g := gb245) (o := .cells #[.int .i64 a1_0, .string a1_1, .int .i64 a1_2, .slice A1_3 l1_3.length c1_3] 26 (0, 0)) (by (with_reducible repeat (first | refine blk_drewN ?_ _ | refine blk_drew ?_ | refine blk_alloc ?_ _)); exact BK245.out) hb); have n2_ := Aside0.mk (below_step (by repeat (first | (with_reducible first | exact HB.out | apply below_alloc | apply pw_below_drewN | apply below_drew1 | refine below_set ?_ GE244.out | refine below_set ?_ GE245.out) | exact HB.out)) hb); clear BK244; clear BK245; clear HB; have BK244 := n0_; have BK245 := n1_; have HB := n2_; clear n0_ n1_ n2_; (try clear hb); (try clear hb2); (try clear hk); (try clear hi); have hcz57_0 : w56.cell? ⟨gb244, 0, none⟩ = some (.int .i64 a0_0) := (blk_cell BK244.out 0).trans rfl; have hcz57_1 : w56.cell? ⟨gb244, 1, none⟩ = some (.string a0_1) := (blk_cell BK244.out 1).trans rfl; have hcz57_2 : w56.cell? ⟨gb244, 2, none⟩ = some (.int .i64 a0_2) := (blk_cell BK244.out 2).trans rfl; have hcz57_3 : w56.cell? ⟨gb244, 3, none⟩ = some (.slice A0_3 l0_3.length c0_3) := (blk_cell BK244.out 3).trans rfl; have hfz57_0 := blk_frozen BK244.out 0; have hfz57_1 := blk_frozen BK244.out 1; have hfz57_2 := blk_frozen BK244.out 2; have hfz57_3 := blk_frozen BK244.out 3; have hcz58_0 : w56.cell? ⟨gb245, 0, none⟩ = some (.int .i64 a1_0) := (blk_cell BK245.out 0).trans rfl; have hcz58_1 : w56.cell? ⟨gb245, 1, none⟩ = some (.string a1_1) := (blk_cell BK245.out 1).trans rfl; have hcz58_2 : w56.cell? ⟨gb245, 2, none⟩ = some (.int .i64 a1_2) := (blk_cell BK245.out 2).trans rfl; have hcz58_3 : w56.cell? ⟨gb245, 3, none⟩ = some (.slice A1_3 l1_3.length c1_3) := (blk_cell BK245.out 3).trans rfl; have hfz58_0 := blk_frozen BK245.out 0; have hfz58_1 := blk_frozen BK245.out 1; have hfz58_2 := blk_frozen BK245.out 2; have hfz58_3 := blk_frozen BK245.out 3) | ((with_reducible refine gate_callee (f := 19) rfl ?_); refine goesL_ (some 25) rfl rfl Tryz.func19 (by kernel_rfl) rfl #[.agg #[.int .i64 a0_0, .string a0_1, .int .i64 a0_2, .slice A0_3 l0_3.length c0_3], .agg #[.int .i64 a1_0, .string a1_1, .int .i64 a1_2, .slice A1_3 l1_3.length c1_3]] rfl (by (try simp only [List.map_toArray, List.map_cons, List.map_nil]); first | done | rfl | (simp only [List.length_drop, List.length_take]; rfl)) ?_; (with_reducible refine (vinculumref09_Equal.calls kj2 a0_0 a0_1 a0_2 _ _ l0_3 a1_0 a1_1 a1_2 _ _ l1_3 t251 _ ?side1 ?side2 ?side3 ?side4 A26.out).mono ?_); (case side1 => repeat (first | exact (Kd.C_below HR0_3.out HB.out) | (with_reducible refine Kd.C_alloc ?_ _) | (with_reducible refine Kd.C_drewN ?_ _) | (with_reducible refine Kd.C_drew ?_))); (case side2 => exact HC0_3.out); (case side3 => repeat (first | exact (Kd.C_below HR1_3.out HB.out) | (with_reducible refine Kd.C_alloc ?_ _) | (with_reducible refine Kd.C_drewN ?_ _) | (with_reducible refine Kd.C_drew ?_))); (case side4 => exact HC1_3.out); rintro e w59 ⟨rfl, hb⟩; refine ⟨_, rfl, ?_⟩; have n0_ := Aside0.mk (blk_below (g := gb244) (o := .cells #[.int .i64 a0_0, .string a0_1, .int .i64 a0_2, .slice A0_3 l0_3.length c0_3] 26 (0, 0)) (by (with_reducible repeat (first | refine blk_drewN ?_ _ | refine blk_drew ?_ | refine blk_alloc ?_ _)); exact BK244.out) hb); have n1_ := Aside0.mk (blk_below (g := gb245) (o := .cells #[.int .i64 a1_0, .string a1_1, .int .i64 a1_2, .slice A1_3 l1_3.length c1_3] 26 (0, 0)) (by (with_reducible repeat (first | refine blk_drewN ?_ _ | refine blk_drew ?_ | refine blk_alloc ?_ _)); exact BK245.out) hb); have n2_ := Aside0.mk (below_step (by repeat (first | (with_reducible first | exact HB.out | apply below_alloc | apply pw_below_drewN | apply below_drew1 | refine below_set ?_ GE244.out | refine below_set ?_ GE245.out) | exact HB.out)) hb); clear BK244; clear BK245; clear HB; have BK244 := n0_; have BK245 := n1_; have HB := n2_; clear n0_ n1_ n2_; (try clear hb); (try clear hb2); (try clear hk); (try clear hi)))
          go_ret
          exact ⟨by first | rfl | (simp [errW_none, errW_some] <;> rfl) | (simp [*, errW_none, errW_some] <;> rfl), by repeat (first | (with_reducible first | exact HB.out | apply below_alloc | apply pw_below_drewN | apply below_drew1 | refine below_set ?_ GE244.out | refine below_set ?_ GE245.out) | exact HB.out)⟩

end Go.Proofs.YtnimhdhnjfoalaaGreatDoor.A
