/- Made for this claim by a program of the session: the Go functions' plain twins and their contracts. Lean checks it. -/
import Derived.Test.YtihchehmkhnhaaaDoorAx0
import Derived.Test.YtihchehmkhnhaaaDoorAx2
import Derived.Test.YtihchehmkhnhaaaDoorAx5
import Derived.Test.YtihchehmkhnhaaaDoorAx6
import Derived.Test.YtihchehmkhnhaaaDoorAq
namespace Go.Proofs.YtihchehmkhnhaaaDoor.A
open Go.RowKit Go.Proofs.YtihchehmkhnhaaaDoorW.PrintWords Go.Proofs.YtihchehmkhnhaaaDoorW.PrintLast Go.Proofs.YtihchehmkhnhaaaDoorW.PrintMore
attribute [local go_sem] max2_int min2_int max_two min_two max_three min_three max_four min_four   -- for this text's walks alone
set_option linter.unusedVariables false
set_option linter.unusedSimpArgs false

/-! ### diff_Weight: function 18 -/
mutual
def diff_Weight.l0 : Nat → Int → List (S37) → Int → Int → Option (Int × Int)
 | 0, _, _, _, _ => none
 | k + 1, x4, x9, x10, x11 => if x11 < x10 then (if 0 ≤ x11 then (if x11 < (x9.length : Int) then (if ((rd_T37 x9 x11).f0) = 1 then (diff_Weight.j1 k x4 x9 x10 x11 ((rd_T37 x9 x11).f0) (((rd_T37 x9 x11).f0) == 1) ((rd_T37 x9 x11).f0) ((rd_T37 x9 x11).f1) ((rd_T37 x9 x11).f2) ((rd_T37 x9 x11).f3) ((rd_T37 x9 x11).f4) ((rd_T37 x9 x11).f5) ((rd_T37 x9 x11).f6) ((rd_T37 x9 x11).f7)) else (diff_Weight.j1 k x4 x9 x10 x11 ((rd_T37 x9 x11).f0) (((rd_T37 x9 x11).f0) == 2) ((rd_T37 x9 x11).f0) ((rd_T37 x9 x11).f1) ((rd_T37 x9 x11).f2) ((rd_T37 x9 x11).f3) ((rd_T37 x9 x11).f4) ((rd_T37 x9 x11).f5) ((rd_T37 x9 x11).f6) ((rd_T37 x9 x11).f7))) else (none)) else (none)) else (some (x4, 0))
def diff_Weight.j1 : Nat → Int → List (S37) → Int → Int → Int → Bool → Int → List Int → Int → Int → List (S24) → Int → ByteArray → ByteArray → Option (Int × Int)
 | 0, _, _, _, _, _, _, _, _, _, _, _, _, _, _ => none
 | k + 1, x4, x9, x10, x11, x16, x17, x230000, x230001, x230002, x230003, x230004, x230005, x230006, x230007 => if x17 = true then (diff_Weight.l1 k x4 x9 x10 x11 x230004 (x230004.length : Int) 0) else (if x16 = 5 then (diff_Weight.l0 k (wrap64 (x4 + 1)) x9 x10 (wrap64 (x11 + 1))) else (some (0, 1)))
def diff_Weight.l1 : Nat → Int → List (S37) → Int → Int → List (S24) → Int → Int → Option (Int × Int)
 | 0, _, _, _, _, _, _, _ => none
 | k + 1, x4, x9, x10, x11, x21, x22, x23 => if x23 < x22 then (if 0 ≤ x23 then (if x23 < (x21.length : Int) then ((node_Count.f k ((rd_T24 x21 x23).f0) ((rd_T24 x21 x23).f1) ((rd_T24 x21 x23).f2) ((rd_T24 x21 x23).f3)).bind fun t232 => (diff_Weight.l1 k (wrap64 (x4 + t232)) x9 x10 x11 x21 x22 (wrap64 (x23 + 1)))) else (none)) else (none)) else (diff_Weight.l0 k x4 x9 x10 (wrap64 (x11 + 1)))
end
def diff_Weight.f (k : Nat) (l0 : List (S37)) : Option (Int × Int) := diff_Weight.l0 k 0 l0 (l0.length : Int) 0
theorem diff_Weight.mono_l : ∀ k, (∀ y0 y1 y2 y3, LeO (diff_Weight.l0 k y0 y1 y2 y3) (diff_Weight.l0 (k + 1) y0 y1 y2 y3)) ∧ (∀ y0 y1 y2 y3 y4 y5 y6 y7 y8 y9 y10 y11 y12 y13, LeO (diff_Weight.j1 k y0 y1 y2 y3 y4 y5 y6 y7 y8 y9 y10 y11 y12 y13) (diff_Weight.j1 (k + 1) y0 y1 y2 y3 y4 y5 y6 y7 y8 y9 y10 y11 y12 y13)) ∧ (∀ y0 y1 y2 y3 y4 y5 y6, LeO (diff_Weight.l1 k y0 y1 y2 y3 y4 y5 y6) (diff_Weight.l1 (k + 1) y0 y1 y2 y3 y4 y5 y6))
 | 0 => ⟨fun _ _ _ _ r h => by simp [diff_Weight.l0] at h, fun _ _ _ _ _ _ _ _ _ _ _ _ _ _ r h => by simp [diff_Weight.j1] at h, fun _ _ _ _ _ _ _ r h => by simp [diff_Weight.l1] at h⟩
 | k + 1 => by
  obtain ⟨ih0, ih1, ih2⟩ := diff_Weight.mono_l k
  refine ⟨?_, ?_, ?_⟩
  ·intro y0 y1 y2 y3
   unfold diff_Weight.l0
   repeat' first
   | (with_reducible exact ih0 _ _ _ _)
   | (with_reducible exact ih1 _ _ _ _ _ _ _ _ _ _ _ _ _ _)
   | (with_reducible exact ih2 _ _ _ _ _ _ _)
   | (with_reducible exact node_Count.mono _ _ _ _ _)
   | (with_reducible exact LeO.refl _)
   | (with_reducible exact LeO.none _)
   | (with_reducible refine LeO.ite ?_ ?_)
   | (with_reducible refine LeO.bind ?_ (fun _ => ?_))
   | exact ih0 _ _ _ _
   | exact ih1 _ _ _ _ _ _ _ _ _ _ _ _ _ _
   | exact ih2 _ _ _ _ _ _ _
   | exact node_Count.mono _ _ _ _ _
   | exact LeO.none _
   | refine LeO.ite ?_ ?_
   | refine LeO.bind ?_ (fun _ => ?_)
  ·intro y0 y1 y2 y3 y4 y5 y6 y7 y8 y9 y10 y11 y12 y13
   unfold diff_Weight.j1
   repeat' first
   | (with_reducible exact ih0 _ _ _ _)
   | (with_reducible exact ih1 _ _ _ _ _ _ _ _ _ _ _ _ _ _)
   | (with_reducible exact ih2 _ _ _ _ _ _ _)
   | (with_reducible exact node_Count.mono _ _ _ _ _)
   | (with_reducible exact LeO.refl _)
   | (with_reducible exact LeO.none _)
   | (with_reducible refine LeO.ite ?_ ?_)
   | (with_reducible refine LeO.bind ?_ (fun _ => ?_))
   | exact ih0 _ _ _ _
   | exact ih1 _ _ _ _ _ _ _ _ _ _ _ _ _ _
   | exact ih2 _ _ _ _ _ _ _
   | exact node_Count.mono _ _ _ _ _
   | exact LeO.none _
   | refine LeO.ite ?_ ?_
   | refine LeO.bind ?_ (fun _ => ?_)
  ·intro y0 y1 y2 y3 y4 y5 y6
   unfold diff_Weight.l1
   repeat' first
   | (with_reducible exact ih0 _ _ _ _)
   | (with_reducible exact ih1 _ _ _ _ _ _ _ _ _ _ _ _ _ _)
   | (with_reducible exact ih2 _ _ _ _ _ _ _)
   | (with_reducible exact node_Count.mono _ _ _ _ _)
   | (with_reducible exact LeO.refl _)
   | (with_reducible exact LeO.none _)
   | (with_reducible refine LeO.ite ?_ ?_)
   | (with_reducible refine LeO.bind ?_ (fun _ => ?_))
   | exact ih0 _ _ _ _
   | exact ih1 _ _ _ _ _ _ _ _ _ _ _ _ _ _
   | exact ih2 _ _ _ _ _ _ _
   | exact node_Count.mono _ _ _ _ _
   | exact LeO.none _
   | refine LeO.ite ?_ ?_
   | refine LeO.bind ?_ (fun _ => ?_)
theorem diff_Weight.mono : ∀ a0 k, LeO (diff_Weight.f k a0) (diff_Weight.f (k + 1) a0) := by
 intro a0 k
 obtain ⟨ih0, ih1, ih2⟩ := diff_Weight.mono_l k
 unfold diff_Weight.f
 repeat' first
   | (with_reducible exact ih0 _ _ _ _)
   | (with_reducible exact ih1 _ _ _ _ _ _ _ _ _ _ _ _ _ _)
   | (with_reducible exact ih2 _ _ _ _ _ _ _)
   | (with_reducible exact node_Count.mono _ _ _ _ _)
   | (with_reducible exact LeO.refl _)
   | (with_reducible exact LeO.none _)
   | (with_reducible refine LeO.ite ?_ ?_)
   | (with_reducible refine LeO.bind ?_ (fun _ => ?_))
   | exact ih0 _ _ _ _
   | exact ih1 _ _ _ _ _ _ _ _ _ _ _ _ _ _
   | exact ih2 _ _ _ _ _ _ _
   | exact node_Count.mono _ _ _ _ _
   | exact LeO.none _
   | refine LeO.ite ?_ ?_
   | refine LeO.bind ?_ (fun _ => ?_)
set_option maxHeartbeats 8000000 in
set_option maxRecDepth 100000 in
theorem diff_Weight.calls (k : Nat) (A0 : Option Addr) (c0 : Nat) (l0 : List (S37)) (r1 : Int) (r2 : Int) (w : World) (hr0 : Kd.C k37 w A0 l0.length l0) (hc0 : l0.length ≤ c0) (h : diff_Weight.f k l0 = some (r1, r2)) :
  Calls Tryd.prog 18 #[.slice A0 l0.length c0] w fun e w' => e = .returned (.tuple #[.int .i64 r1, .int .i64 r2]) ∧ Below w.heap.size w w' := by
 have hu37 := Tryd.underlying37
 have hu24 := Tryd.underlying24
 have HR0 := Aside0.mk hr0
 have HC0 := Aside0.mk hc0
 clear hr0 hc0
 have HB := Aside0.mk (Below.refl w.heap.size w)
 have H : (diff_Weight.l0 k 0 l0 (l0.length : Int) 0) = some (r1, r2) := h
 clear h
 have H' := Aside0.mk H
 clear H
 go_enter Tryd.func18, Tryd.ntmps18
 go_wp2
 go_loopg [4, 11] k (fun kq v4 v11 w' => ∃ (x4_1 : Int) (x11_1 : Int), v4 = .int .i64 x4_1 ∧ v11 = .int .i64 x11_1 ∧ Aside0 (diff_Weight.l0 kq x4_1 l0 (l0.length : Int) x11_1 = some (r1, r2)) ∧ Aside0 (kq ≤ k) ∧ Aside0 (Below w.heap.size w w'))
 case atStart => exact ⟨(0), (0), (by first | rfl | (simp; done) | (simp [*]; done)), (by first | rfl | (simp; done) | (simp [*]; done)), H', ⟨Nat.le_refl _⟩, ⟨bs0_ HB.out⟩⟩
 case round =>
  clear H'; (try clear c1)
  obtain ⟨x4_1, x11_1, rfl, rfl, HA, HK1, HB⟩ := hrel
  cases gk with
  | zero => exact absurd HA.out (by simp [diff_Weight.l0])
  | succ k1 =>
   have H := HA.out
   clear HA
   simp only [diff_Weight.l0] at H
   by_cases c2 : x11_1 < (l0.length : Int)
   ·rw [if_pos c2] at H
    have c2b0 : decide (x11_1 < (l0.length : Int)) = true := decide_eq_true c2
    clear c2
    by_cases c3 : 0 ≤ x11_1
    ·rw [if_pos c3] at H
     have c3b0 : decide (0 ≤ x11_1) = true := decide_eq_true c3
     clear c3
     by_cases c4 : x11_1 < (l0.length : Int)
     ·rw [if_pos c4] at H
      have c4b0 : decide (x11_1 < (l0.length : Int)) = true := decide_eq_true c4
      clear c4
      have HC5 := Aside0.mk H
      clear H
      have p228 : 0 ≤ (x11_1 : Int) := of_decide_eq_true (by first | (with_reducible assumption) | assumption)
      have q228 : x11_1 < (l0.length : Int) := of_decide_eq_true (by first | (with_reducible assumption) | assumption)
      obtain ⟨ad228, A228_1, c228_1, A228_4, c228_4, e228, hx228_0, hx228_1, hx228_2, hx228_3, hx228_4, hx228_5, hx228_6, hx228_7, hl228_1, hi228_1, hl228_4, hi228_4⟩ := at_T37 HR0.out x11_1 p228 q228
      cases e228
      replace hx228_0 := (cl_ HB.out hx228_0).trans hx228_0
      replace hx228_1 := (cl_ HB.out hx228_1).trans hx228_1
      replace hx228_2 := (cl_ HB.out hx228_2).trans hx228_2
      replace hx228_3 := (cl_ HB.out hx228_3).trans hx228_3
      replace hx228_4 := (cl_ HB.out hx228_4).trans hx228_4
      replace hx228_5 := (cl_ HB.out hx228_5).trans hx228_5
      replace hx228_6 := (cl_ HB.out hx228_6).trans hx228_6
      replace hx228_7 := (cl_ HB.out hx228_7).trans hx228_7
      have HR228_1 := Aside0.mk hi228_1
      have HC228_1 := Aside0.mk hl228_1
      clear hi228_1 hl228_1
      have HR228_4 := Aside0.mk hi228_4
      have HC228_4 := Aside0.mk hl228_4
      clear hi228_4 hl228_4
      replace p228 := eq_true p228
      replace q228 := eq_true q228
      go_upto_if 17 with (first | ((with_reducible refine gate_dst (N := 6) rfl ?_); refine box_event ?hg (N := 6) ?hd (cs := #[.int .i64 0, .slice none 0 0, .int .i64 0, .int .i64 0, .slice none 0 0, .int .i64 0, .string (⟨#[]⟩ : ByteArray), .string (⟨#[]⟩ : ByteArray)]) (t := 37) ?hr ?_; (case hd => rfl); (case hg => rfl); (case hr => first | (go_simp; done) | (go_simp; rfl)); intro gb229 hg w6 hbox hb; have n0_ := Aside0.mk (below_step (bs0_ HB.out) hb); have n1_ := Aside0.mk (hbox); have n2_ := Aside0.mk ((by rw [hg]; exact (below_size (bs0_ HB.out)) : w.heap.size ≤ gb229)); have n3_ := Aside0.mk ((by rw [hg]; exact (below_size (bs0_ HB.out)) : w.heap.size ≤ gb229)); clear HB; have HB := n0_; have BK229 := n1_; have GW229 := n2_; have GE229 := n3_; clear n0_ n1_ n2_ n3_; clear hb hbox hg; have hcz7_0 : w6.cell? ⟨gb229, 0, none⟩ = some (.int .i64 0) := (blk_cell BK229.out 0).trans rfl; have hcz7_1 : w6.cell? ⟨gb229, 1, none⟩ = some (.slice none 0 0) := (blk_cell BK229.out 1).trans rfl; have hcz7_2 : w6.cell? ⟨gb229, 2, none⟩ = some (.int .i64 0) := (blk_cell BK229.out 2).trans rfl; have hcz7_3 : w6.cell? ⟨gb229, 3, none⟩ = some (.int .i64 0) := (blk_cell BK229.out 3).trans rfl; have hcz7_4 : w6.cell? ⟨gb229, 4, none⟩ = some (.slice none 0 0) := (blk_cell BK229.out 4).trans rfl; have hcz7_5 : w6.cell? ⟨gb229, 5, none⟩ = some (.int .i64 0) := (blk_cell BK229.out 5).trans rfl; have hcz7_6 : w6.cell? ⟨gb229, 6, none⟩ = some (.string (⟨#[]⟩ : ByteArray)) := (blk_cell BK229.out 6).trans rfl; have hcz7_7 : w6.cell? ⟨gb229, 7, none⟩ = some (.string (⟨#[]⟩ : ByteArray)) := (blk_cell BK229.out 7).trans rfl; have hfz7_0 := blk_frozen BK229.out 0; have hfz7_1 := blk_frozen BK229.out 1; have hfz7_2 := blk_frozen BK229.out 2; have hfz7_3 := blk_frozen BK229.out 3; have hfz7_4 := blk_frozen BK229.out 4; have hfz7_5 := blk_frozen BK229.out 5; have hfz7_6 := blk_frozen BK229.out 6; have hfz7_7 := blk_frozen BK229.out 7))
      (try simp only [Act.put, List.setIfInBounds_toArray, List.set_cons_zero, List.set_cons_succ])
      go_cut [17] (fun v17 wc => ∃ (kq : Nat) (x17_4 : Bool), v17 = .bool x17_4 ∧ Aside0 (diff_Weight.j1 kq x4_1 l0 (l0.length : Int) x11_1 ((rd_T37 l0 x11_1).f0) x17_4 ((rd_T37 l0 x11_1).f0) ((rd_T37 l0 x11_1).f1) ((rd_T37 l0 x11_1).f2) ((rd_T37 l0 x11_1).f3) ((rd_T37 l0 x11_1).f4) ((rd_T37 l0 x11_1).f5) ((rd_T37 l0 x11_1).f6) ((rd_T37 l0 x11_1).f7) = some (r1, r2)) ∧ Aside0 (kq ≤ k1) ∧ Aside0 (wc.heap[gb229]? = some (.cells #[.int .i64 ((rd_T37 l0 x11_1).f0), (.slice A228_1 ((rd_T37 l0 x11_1).f1).length c228_1), .int .i64 ((rd_T37 l0 x11_1).f2), .int .i64 ((rd_T37 l0 x11_1).f3), (.slice A228_4 ((rd_T37 l0 x11_1).f4).length c228_4), .int .i64 ((rd_T37 l0 x11_1).f5), .string ((rd_T37 l0 x11_1).f6), .string ((rd_T37 l0 x11_1).f7)] 37 (0, 0))) ∧ Aside0 (Below w.heap.size w wc))
      case first =>
       have H := HC5.out
       clear HC5
       by_cases c8 : ((rd_T37 l0 x11_1).f0) = 1
       ·rw [if_pos c8] at H
        have c8b0 : (((rd_T37 l0 x11_1).f0) == 1) = true := beq_iff_eq.mpr c8
        have c8b1 : (((rd_T37 l0 x11_1).f0) != 1) = false := bne_eq_false_iff_eq.mpr c8
        clear c8
        (first | rw [c8b0] | (simp only [i64_w, i32_w]; rw [c8b0]) | skip)
        have H' := Aside0.mk H
        clear H
        go_wp2
        go_meet
        case rel => exact ⟨_, ((((rd_T37 l0 x11_1).f0) == 1)), (by first | rfl | (simp; done) | (simp [*]; done)), H', ⟨by have := HK1.out; first | omega | exact Nat.le_refl _⟩, ⟨by (with_reducible repeat (first | refine blk_drewN ?_ _ | refine blk_drew ?_ | refine blk_alloc ?_ _)); refine blk_put (cs := #[.int .i64 ((rd_T37 l0 x11_1).f0), .slice A228_1 ((rd_T37 l0 x11_1).f1).length c228_1, .int .i64 ((rd_T37 l0 x11_1).f2), .int .i64 ((rd_T37 l0 x11_1).f3), .slice A228_4 ((rd_T37 l0 x11_1).f4).length c228_4, .int .i64 ((rd_T37 l0 x11_1).f5), .string ((rd_T37 l0 x11_1).f6), .string (⟨#[]⟩ : ByteArray)]) ?_ 7 _ rfl; (with_reducible repeat (first | refine blk_drewN ?_ _ | refine blk_drew ?_ | refine blk_alloc ?_ _)); refine blk_put (cs := #[.int .i64 ((rd_T37 l0 x11_1).f0), .slice A228_1 ((rd_T37 l0 x11_1).f1).length c228_1, .int .i64 ((rd_T37 l0 x11_1).f2), .int .i64 ((rd_T37 l0 x11_1).f3), .slice A228_4 ((rd_T37 l0 x11_1).f4).length c228_4, .int .i64 ((rd_T37 l0 x11_1).f5), .string (⟨#[]⟩ : ByteArray), .string (⟨#[]⟩ : ByteArray)]) ?_ 6 _ rfl; (with_reducible repeat (first | refine blk_drewN ?_ _ | refine blk_drew ?_ | refine blk_alloc ?_ _)); refine blk_put (cs := #[.int .i64 ((rd_T37 l0 x11_1).f0), .slice A228_1 ((rd_T37 l0 x11_1).f1).length c228_1, .int .i64 ((rd_T37 l0 x11_1).f2), .int .i64 ((rd_T37 l0 x11_1).f3), .slice A228_4 ((rd_T37 l0 x11_1).f4).length c228_4, .int .i64 0, .string (⟨#[]⟩ : ByteArray), .string (⟨#[]⟩ : ByteArray)]) ?_ 5 _ rfl; (with_reducible repeat (first | refine blk_drewN ?_ _ | refine blk_drew ?_ | refine blk_alloc ?_ _)); refine blk_put (cs := #[.int .i64 ((rd_T37 l0 x11_1).f0), .slice A228_1 ((rd_T37 l0 x11_1).f1).length c228_1, .int .i64 ((rd_T37 l0 x11_1).f2), .int .i64 ((rd_T37 l0 x11_1).f3), .slice none 0 0, .int .i64 0, .string (⟨#[]⟩ : ByteArray), .string (⟨#[]⟩ : ByteArray)]) ?_ 4 _ rfl; (with_reducible repeat (first | refine blk_drewN ?_ _ | refine blk_drew ?_ | refine blk_alloc ?_ _)); refine blk_put (cs := #[.int .i64 ((rd_T37 l0 x11_1).f0), .slice A228_1 ((rd_T37 l0 x11_1).f1).length c228_1, .int .i64 ((rd_T37 l0 x11_1).f2), .int .i64 0, .slice none 0 0, .int .i64 0, .string (⟨#[]⟩ : ByteArray), .string (⟨#[]⟩ : ByteArray)]) ?_ 3 _ rfl; (with_reducible repeat (first | refine blk_drewN ?_ _ | refine blk_drew ?_ | refine blk_alloc ?_ _)); refine blk_put (cs := #[.int .i64 ((rd_T37 l0 x11_1).f0), .slice A228_1 ((rd_T37 l0 x11_1).f1).length c228_1, .int .i64 0, .int .i64 0, .slice none 0 0, .int .i64 0, .string (⟨#[]⟩ : ByteArray), .string (⟨#[]⟩ : ByteArray)]) ?_ 2 _ rfl; (with_reducible repeat (first | refine blk_drewN ?_ _ | refine blk_drew ?_ | refine blk_alloc ?_ _)); refine blk_put (cs := #[.int .i64 ((rd_T37 l0 x11_1).f0), .slice none 0 0, .int .i64 0, .int .i64 0, .slice none 0 0, .int .i64 0, .string (⟨#[]⟩ : ByteArray), .string (⟨#[]⟩ : ByteArray)]) ?_ 1 _ rfl; (with_reducible repeat (first | refine blk_drewN ?_ _ | refine blk_drew ?_ | refine blk_alloc ?_ _)); refine blk_put (cs := #[.int .i64 0, .slice none 0 0, .int .i64 0, .int .i64 0, .slice none 0 0, .int .i64 0, .string (⟨#[]⟩ : ByteArray), .string (⟨#[]⟩ : ByteArray)]) ?_ 0 _ rfl; (with_reducible repeat (first | refine blk_drewN ?_ _ | refine blk_drew ?_ | refine blk_alloc ?_ _)); exact BK229.out⟩, ⟨bs1_ HB.out GE229.out⟩⟩
       ·rw [if_neg c8] at H
        have c8b0 : (((rd_T37 l0 x11_1).f0) == 1) = false := beq_eq_false_iff_ne.mpr c8
        have c8b1 : (((rd_T37 l0 x11_1).f0) != 1) = true := bne_iff_ne.mpr c8
        (first | rw [c8b0] | (simp only [i64_w, i32_w]; rw [c8b0]) | skip)
        have H' := Aside0.mk H
        clear H
        go_wp2
        go_meet
        case rel => exact ⟨_, ((((rd_T37 l0 x11_1).f0) == 2)), (by first | rfl | (simp; done) | (simp [*]; done)), H', ⟨by have := HK1.out; first | omega | exact Nat.le_refl _⟩, ⟨by (with_reducible repeat (first | refine blk_drewN ?_ _ | refine blk_drew ?_ | refine blk_alloc ?_ _)); refine blk_put (cs := #[.int .i64 ((rd_T37 l0 x11_1).f0), .slice A228_1 ((rd_T37 l0 x11_1).f1).length c228_1, .int .i64 ((rd_T37 l0 x11_1).f2), .int .i64 ((rd_T37 l0 x11_1).f3), .slice A228_4 ((rd_T37 l0 x11_1).f4).length c228_4, .int .i64 ((rd_T37 l0 x11_1).f5), .string ((rd_T37 l0 x11_1).f6), .string (⟨#[]⟩ : ByteArray)]) ?_ 7 _ rfl; (with_reducible repeat (first | refine blk_drewN ?_ _ | refine blk_drew ?_ | refine blk_alloc ?_ _)); refine blk_put (cs := #[.int .i64 ((rd_T37 l0 x11_1).f0), .slice A228_1 ((rd_T37 l0 x11_1).f1).length c228_1, .int .i64 ((rd_T37 l0 x11_1).f2), .int .i64 ((rd_T37 l0 x11_1).f3), .slice A228_4 ((rd_T37 l0 x11_1).f4).length c228_4, .int .i64 ((rd_T37 l0 x11_1).f5), .string (⟨#[]⟩ : ByteArray), .string (⟨#[]⟩ : ByteArray)]) ?_ 6 _ rfl; (with_reducible repeat (first | refine blk_drewN ?_ _ | refine blk_drew ?_ | refine blk_alloc ?_ _)); refine blk_put (cs := #[.int .i64 ((rd_T37 l0 x11_1).f0), .slice A228_1 ((rd_T37 l0 x11_1).f1).length c228_1, .int .i64 ((rd_T37 l0 x11_1).f2), .int .i64 ((rd_T37 l0 x11_1).f3), .slice A228_4 ((rd_T37 l0 x11_1).f4).length c228_4, .int .i64 0, .string (⟨#[]⟩ : ByteArray), .string (⟨#[]⟩ : ByteArray)]) ?_ 5 _ rfl; (with_reducible repeat (first | refine blk_drewN ?_ _ | refine blk_drew ?_ | refine blk_alloc ?_ _)); refine blk_put (cs := #[.int .i64 ((rd_T37 l0 x11_1).f0), .slice A228_1 ((rd_T37 l0 x11_1).f1).length c228_1, .int .i64 ((rd_T37 l0 x11_1).f2), .int .i64 ((rd_T37 l0 x11_1).f3), .slice none 0 0, .int .i64 0, .string (⟨#[]⟩ : ByteArray), .string (⟨#[]⟩ : ByteArray)]) ?_ 4 _ rfl; (with_reducible repeat (first | refine blk_drewN ?_ _ | refine blk_drew ?_ | refine blk_alloc ?_ _)); refine blk_put (cs := #[.int .i64 ((rd_T37 l0 x11_1).f0), .slice A228_1 ((rd_T37 l0 x11_1).f1).length c228_1, .int .i64 ((rd_T37 l0 x11_1).f2), .int .i64 0, .slice none 0 0, .int .i64 0, .string (⟨#[]⟩ : ByteArray), .string (⟨#[]⟩ : ByteArray)]) ?_ 3 _ rfl; (with_reducible repeat (first | refine blk_drewN ?_ _ | refine blk_drew ?_ | refine blk_alloc ?_ _)); refine blk_put (cs := #[.int .i64 ((rd_T37 l0 x11_1).f0), .slice A228_1 ((rd_T37 l0 x11_1).f1).length c228_1, .int .i64 0, .int .i64 0, .slice none 0 0, .int .i64 0, .string (⟨#[]⟩ : ByteArray), .string (⟨#[]⟩ : ByteArray)]) ?_ 2 _ rfl; (with_reducible repeat (first | refine blk_drewN ?_ _ | refine blk_drew ?_ | refine blk_alloc ?_ _)); refine blk_put (cs := #[.int .i64 ((rd_T37 l0 x11_1).f0), .slice none 0 0, .int .i64 0, .int .i64 0, .slice none 0 0, .int .i64 0, .string (⟨#[]⟩ : ByteArray), .string (⟨#[]⟩ : ByteArray)]) ?_ 1 _ rfl; (with_reducible repeat (first | refine blk_drewN ?_ _ | refine blk_drew ?_ | refine blk_alloc ?_ _)); refine blk_put (cs := #[.int .i64 0, .slice none 0 0, .int .i64 0, .int .i64 0, .slice none 0 0, .int .i64 0, .string (⟨#[]⟩ : ByteArray), .string (⟨#[]⟩ : ByteArray)]) ?_ 0 _ rfl; (with_reducible repeat (first | refine blk_drewN ?_ _ | refine blk_drew ?_ | refine blk_alloc ?_ _)); exact BK229.out⟩, ⟨bs1_ HB.out GE229.out⟩⟩
      case rest =>
       clear HC5; (try clear c1); (try clear c2); (try clear c2b0); (try clear p2); (try clear q2); (try clear hx2); (try clear c3); (try clear c3b0); (try clear c4); (try clear c4b0); (try clear c8); (try clear c8b0); (try clear c8b1); (try clear hcz7_0); (try clear hcz7_1); (try clear hcz7_2); (try clear hcz7_3); (try clear hcz7_4); (try clear hcz7_5); (try clear hcz7_6); (try clear hcz7_7); (try clear hfz7_0); (try clear hfz7_1); (try clear hfz7_2); (try clear hfz7_3); (try clear hfz7_4); (try clear hfz7_5); (try clear hfz7_6); (try clear hfz7_7); (try clear hx228_0); (try clear hx228_1); (try clear hx228_2); (try clear hx228_3); (try clear hx228_4); (try clear hx228_5); (try clear hx228_6); (try clear hx228_7); (try clear p228); (try clear q228)
       obtain ⟨kq, x17_4, rfl, HA, HJ4, BK229, HB⟩ := hcut
       cases kq with
       | zero => exact absurd HA.out (by simp [diff_Weight.j1])
       | succ kj4 =>
        have H := HA.out
        clear HA
        simp only [diff_Weight.j1] at H
        by_cases c9 : x17_4 = true
        ·subst c9
         have H1 : (diff_Weight.l1 kj4 x4_1 l0 (l0.length : Int) x11_1 ((rd_T37 l0 x11_1).f4) (((rd_T37 l0 x11_1).f4).length : Int) 0) = some (r1, r2) := by rw [if_pos rfl] at H; exact H
         clear H
         have H := H1
         clear H1
         have H' := Aside0.mk H
         clear H
         have hcz10_0 : wc.cell? ⟨gb229, 0, none⟩ = some (.int .i64 ((rd_T37 l0 x11_1).f0)) := (blk_cell BK229.out 0).trans rfl
         have hcz10_1 : wc.cell? ⟨gb229, 1, none⟩ = some (.slice A228_1 ((rd_T37 l0 x11_1).f1).length c228_1) := (blk_cell BK229.out 1).trans rfl
         have hcz10_2 : wc.cell? ⟨gb229, 2, none⟩ = some (.int .i64 ((rd_T37 l0 x11_1).f2)) := (blk_cell BK229.out 2).trans rfl
         have hcz10_3 : wc.cell? ⟨gb229, 3, none⟩ = some (.int .i64 ((rd_T37 l0 x11_1).f3)) := (blk_cell BK229.out 3).trans rfl
         have hcz10_4 : wc.cell? ⟨gb229, 4, none⟩ = some (.slice A228_4 ((rd_T37 l0 x11_1).f4).length c228_4) := (blk_cell BK229.out 4).trans rfl
         have hcz10_5 : wc.cell? ⟨gb229, 5, none⟩ = some (.int .i64 ((rd_T37 l0 x11_1).f5)) := (blk_cell BK229.out 5).trans rfl
         have hcz10_6 : wc.cell? ⟨gb229, 6, none⟩ = some (.string ((rd_T37 l0 x11_1).f6)) := (blk_cell BK229.out 6).trans rfl
         have hcz10_7 : wc.cell? ⟨gb229, 7, none⟩ = some (.string ((rd_T37 l0 x11_1).f7)) := (blk_cell BK229.out 7).trans rfl
         have hfz10_0 := blk_frozen BK229.out 0
         have hfz10_1 := blk_frozen BK229.out 1
         have hfz10_2 := blk_frozen BK229.out 2
         have hfz10_3 := blk_frozen BK229.out 3
         have hfz10_4 := blk_frozen BK229.out 4
         have hfz10_5 := blk_frozen BK229.out 5
         have hfz10_6 := blk_frozen BK229.out 6
         have hfz10_7 := blk_frozen BK229.out 7
         go_wp2
         go_loopg [4, 23] kj4 (fun kq v4 v23 w' => ∃ (x4_3 : Int) (x23_3 : Int), v4 = .int .i64 x4_3 ∧ v23 = .int .i64 x23_3 ∧ Aside0 (diff_Weight.l1 kq x4_3 l0 (l0.length : Int) x11_1 ((rd_T37 l0 x11_1).f4) (((rd_T37 l0 x11_1).f4).length : Int) x23_3 = some (r1, r2)) ∧ Aside0 (kq ≤ kj4) ∧ Aside0 (w'.heap[gb229]? = some (.cells #[.int .i64 ((rd_T37 l0 x11_1).f0), (.slice A228_1 ((rd_T37 l0 x11_1).f1).length c228_1), .int .i64 ((rd_T37 l0 x11_1).f2), .int .i64 ((rd_T37 l0 x11_1).f3), (.slice A228_4 ((rd_T37 l0 x11_1).f4).length c228_4), .int .i64 ((rd_T37 l0 x11_1).f5), .string ((rd_T37 l0 x11_1).f6), .string ((rd_T37 l0 x11_1).f7)] 37 (0, 0))) ∧ Aside0 (Below w.heap.size w w'))
         case atStart => exact ⟨(x4_1), (0), (by first | rfl | (simp; done) | (simp [*]; done)), (by first | rfl | (simp; done) | (simp [*]; done)), H', ⟨Nat.le_refl _⟩, ⟨bk_ BK229.out⟩, ⟨bs1_ HB.out GE229.out⟩⟩
         case round =>
          clear H'; (try clear c1); (try clear c2); (try clear c2b0); (try clear p2); (try clear q2); (try clear hx2); (try clear c3); (try clear c3b0); (try clear c4); (try clear c4b0); (try clear c8); (try clear c8b0); (try clear c8b1); (try clear c9); (try clear hcz10_0); (try clear hcz10_1); (try clear hcz10_2); (try clear hcz10_3); (try clear hcz10_4); (try clear hcz10_5); (try clear hcz10_6); (try clear hcz10_7); (try clear hcz7_0); (try clear hcz7_1); (try clear hcz7_2); (try clear hcz7_3); (try clear hcz7_4); (try clear hcz7_5); (try clear hcz7_6); (try clear hcz7_7); (try clear hfz10_0); (try clear hfz10_1); (try clear hfz10_2); (try clear hfz10_3); (try clear hfz10_4); (try clear hfz10_5); (try clear hfz10_6); (try clear hfz10_7); (try clear hfz7_0); (try clear hfz7_1); (try clear hfz7_2); (try clear hfz7_3); (try clear hfz7_4); (try clear hfz7_5); (try clear hfz7_6); (try clear hfz7_7); (try clear hx228_0); (try clear hx228_1); (try clear hx228_2); (try clear hx228_3); (try clear hx228_4); (try clear hx228_5); (try clear hx228_6); (try clear hx228_7); (try clear p2); (try clear p228); (try clear q2); (try clear q228)
          obtain ⟨x4_3, x23_3, rfl, rfl, HA, HK3, BK229, HB⟩ := hrel
          cases gk with
          | zero => exact absurd HA.out (by simp [diff_Weight.l1])
          | succ k3 =>
           have H := HA.out
           clear HA
           simp only [diff_Weight.l1] at H
           by_cases c11 : x23_3 < (((rd_T37 l0 x11_1).f4).length : Int)
           ·rw [if_pos c11] at H
            have c11b0 : decide (x23_3 < (((rd_T37 l0 x11_1).f4).length : Int)) = true := decide_eq_true c11
            clear c11
            by_cases c12 : 0 ≤ x23_3
            ·rw [if_pos c12] at H
             have c12b0 : decide (0 ≤ x23_3) = true := decide_eq_true c12
             clear c12
             by_cases c13 : x23_3 < (((rd_T37 l0 x11_1).f4).length : Int)
             ·rw [if_pos c13] at H
              have c13b0 : decide (x23_3 < (((rd_T37 l0 x11_1).f4).length : Int)) = true := decide_eq_true c13
              clear c13
              replace H := Option.bind_eq_some_iff.mp H
              obtain ⟨t232, A140, H⟩ := H
              replace H : (diff_Weight.l1 k3 (wrap64 (x4_3 + t232)) l0 (l0.length : Int) x11_1 ((rd_T37 l0 x11_1).f4) (((rd_T37 l0 x11_1).f4).length : Int) (wrap64 (x23_3 + 1))) = some (r1, r2) := H
              have A14 := Aside0.mk A140
              clear A140
              have H' := Aside0.mk H
              clear H
              have p230 : 0 ≤ (x23_3 : Int) := of_decide_eq_true (by first | (with_reducible assumption) | assumption)
              have q230 : x23_3 < (((rd_T37 l0 x11_1).f4).length : Int) := of_decide_eq_true (by first | (with_reducible assumption) | assumption)
              obtain ⟨ad230, A230_3, c230_3, e230, hx230_0, hx230_1, hx230_2, hx230_3, hl230_3, hi230_3⟩ := at_T24 HR228_4.out x23_3 p230 q230
              cases e230
              replace hx230_0 := (cl_ HB.out hx230_0).trans hx230_0
              replace hx230_1 := (cl_ HB.out hx230_1).trans hx230_1
              replace hx230_2 := (cl_ HB.out hx230_2).trans hx230_2
              replace hx230_3 := (cl_ HB.out hx230_3).trans hx230_3
              have HR230_3 := Aside0.mk hi230_3
              have HC230_3 := Aside0.mk hl230_3
              clear hi230_3 hl230_3
              replace p230 := eq_true p230
              replace q230 := eq_true q230
              go_wp2_with (first | ((with_reducible refine gate_dst (N := 8) rfl ?_); refine box_event ?hg (N := 8) ?hd (cs := #[.int .i64 0, .string (⟨#[]⟩ : ByteArray), .int .i64 0, .slice none 0 0]) (t := 24) ?hr ?_; (case hd => rfl); (case hg => rfl); (case hr => first | (go_simp; done) | (go_simp; rfl)); intro gb231 hg w15 hbox hb; have n0_ := Aside0.mk (blk_below (g := gb229) (o := .cells #[.int .i64 ((rd_T37 l0 x11_1).f0), .slice A228_1 ((rd_T37 l0 x11_1).f1).length c228_1, .int .i64 ((rd_T37 l0 x11_1).f2), .int .i64 ((rd_T37 l0 x11_1).f3), .slice (some ad230) ((rd_T37 l0 x11_1).f4).length c228_4, .int .i64 ((rd_T37 l0 x11_1).f5), .string ((rd_T37 l0 x11_1).f6), .string ((rd_T37 l0 x11_1).f7)] 37 (0, 0)) (bk_ BK229.out) hb); have n1_ := Aside0.mk (below_step (bs1_ HB.out GE229.out) hb); have n2_ := Aside0.mk (hbox); have n3_ := Aside0.mk ((by rw [hg]; exact (below_size (bs1_ HB.out GE229.out)) : w.heap.size ≤ gb231)); have n4_ := Aside0.mk ((by rw [hg]; exact (below_size (bs1_ HB.out GE229.out)) : w.heap.size ≤ gb231)); have n5_ := Aside0.mk ((by rw [hg]; exact Nat.ne_of_lt (blk_lt (g := gb229) (o := .cells #[.int .i64 ((rd_T37 l0 x11_1).f0), .slice A228_1 ((rd_T37 l0 x11_1).f1).length c228_1, .int .i64 ((rd_T37 l0 x11_1).f2), .int .i64 ((rd_T37 l0 x11_1).f3), .slice (some ad230) ((rd_T37 l0 x11_1).f4).length c228_4, .int .i64 ((rd_T37 l0 x11_1).f5), .string ((rd_T37 l0 x11_1).f6), .string ((rd_T37 l0 x11_1).f7)] 37 (0, 0)) (bk_ BK229.out)) : gb229 ≠ gb231)); have n6_ := Aside0.mk ((by rw [hg]; exact Nat.ne_of_gt (blk_lt (g := gb229) (o := .cells #[.int .i64 ((rd_T37 l0 x11_1).f0), .slice A228_1 ((rd_T37 l0 x11_1).f1).length c228_1, .int .i64 ((rd_T37 l0 x11_1).f2), .int .i64 ((rd_T37 l0 x11_1).f3), .slice (some ad230) ((rd_T37 l0 x11_1).f4).length c228_4, .int .i64 ((rd_T37 l0 x11_1).f5), .string ((rd_T37 l0 x11_1).f6), .string ((rd_T37 l0 x11_1).f7)] 37 (0, 0)) (bk_ BK229.out)) : gb231 ≠ gb229)); clear BK229; clear HB; have BK229 := n0_; have HB := n1_; have BK231 := n2_; have GW231 := n3_; have GE231 := n4_; have NB229_231 := n5_; have NB231_229 := n6_; clear n0_ n1_ n2_ n3_ n4_ n5_ n6_; clear hb hbox hg; have hnb16 := NB231_229.out; have hnc16 := NB229_231.out; have hcz17_0 : w15.cell? ⟨gb231, 0, none⟩ = some (.int .i64 0) := (blk_cell BK231.out 0).trans rfl; have hcz17_1 : w15.cell? ⟨gb231, 1, none⟩ = some (.string (⟨#[]⟩ : ByteArray)) := (blk_cell BK231.out 1).trans rfl; have hcz17_2 : w15.cell? ⟨gb231, 2, none⟩ = some (.int .i64 0) := (blk_cell BK231.out 2).trans rfl; have hcz17_3 : w15.cell? ⟨gb231, 3, none⟩ = some (.slice none 0 0) := (blk_cell BK231.out 3).trans rfl; have hfz17_0 := blk_frozen BK231.out 0; have hfz17_1 := blk_frozen BK231.out 1; have hfz17_2 := blk_frozen BK231.out 2; have hfz17_3 := blk_frozen BK231.out 3) | ((with_reducible refine gate_callee (f := 29) rfl ?_); refine goesL_ (some 29) rfl rfl Tryd.func29 (by kernel_rfl) rfl #[.agg #[.int .i64 ((rd_T24 ((rd_T37 l0 x11_1).f4) x23_3).f0), .string ((rd_T24 ((rd_T37 l0 x11_1).f4) x23_3).f1), .int .i64 ((rd_T24 ((rd_T37 l0 x11_1).f4) x23_3).f2), .slice A230_3 ((rd_T24 ((rd_T37 l0 x11_1).f4) x23_3).f3).length c230_3]] rfl (by (try simp only [List.map_toArray, List.map_cons, List.map_nil]); first | done | rfl | (simp only [List.length_drop, List.length_take]; rfl)) ?_; (with_reducible refine (node_Count.calls k3 ((rd_T24 ((rd_T37 l0 x11_1).f4) x23_3).f0) ((rd_T24 ((rd_T37 l0 x11_1).f4) x23_3).f1) ((rd_T24 ((rd_T37 l0 x11_1).f4) x23_3).f2) _ _ ((rd_T24 ((rd_T37 l0 x11_1).f4) x23_3).f3) t232 _ ?side1 ?side2 A14.out).mono ?_); (case side1 => exact Kd.C_below HR230_3.out (bs2_ HB.out GE229.out GE231.out)); (case side2 => exact HC230_3.out); rintro e w18 ⟨rfl, hb⟩; refine ⟨_, rfl, ?_⟩; have n0_ := Aside0.mk (blk_below (g := gb229) (o := .cells #[.int .i64 ((rd_T37 l0 x11_1).f0), .slice A228_1 ((rd_T37 l0 x11_1).f1).length c228_1, .int .i64 ((rd_T37 l0 x11_1).f2), .int .i64 ((rd_T37 l0 x11_1).f3), .slice (some ad230) ((rd_T37 l0 x11_1).f4).length c228_4, .int .i64 ((rd_T37 l0 x11_1).f5), .string ((rd_T37 l0 x11_1).f6), .string ((rd_T37 l0 x11_1).f7)] 37 (0, 0)) (by (with_reducible repeat (first | refine blk_drewN ?_ _ | refine blk_drew ?_ | refine blk_alloc ?_ _)); refine blk_far ?_ NB229_231.out _; (with_reducible repeat (first | refine blk_drewN ?_ _ | refine blk_drew ?_ | refine blk_alloc ?_ _)); refine blk_far ?_ NB229_231.out _; (with_reducible repeat (first | refine blk_drewN ?_ _ | refine blk_drew ?_ | refine blk_alloc ?_ _)); refine blk_far ?_ NB229_231.out _; (with_reducible repeat (first | refine blk_drewN ?_ _ | refine blk_drew ?_ | refine blk_alloc ?_ _)); refine blk_far ?_ NB229_231.out _; (with_reducible repeat (first | refine blk_drewN ?_ _ | refine blk_drew ?_ | refine blk_alloc ?_ _)); exact BK229.out) hb); have n1_ := Aside0.mk (blk_below (g := gb231) (o := .cells #[.int .i64 ((rd_T24 ((rd_T37 l0 x11_1).f4) x23_3).f0), .string ((rd_T24 ((rd_T37 l0 x11_1).f4) x23_3).f1), .int .i64 ((rd_T24 ((rd_T37 l0 x11_1).f4) x23_3).f2), .slice A230_3 ((rd_T24 ((rd_T37 l0 x11_1).f4) x23_3).f3).length c230_3] 24 (0, 0)) (by (with_reducible repeat (first | refine blk_drewN ?_ _ | refine blk_drew ?_ | refine blk_alloc ?_ _)); refine blk_put (cs := #[.int .i64 ((rd_T24 ((rd_T37 l0 x11_1).f4) x23_3).f0), .string ((rd_T24 ((rd_T37 l0 x11_1).f4) x23_3).f1), .int .i64 ((rd_T24 ((rd_T37 l0 x11_1).f4) x23_3).f2), .slice none 0 0]) ?_ 3 _ rfl; (with_reducible repeat (first | refine blk_drewN ?_ _ | refine blk_drew ?_ | refine blk_alloc ?_ _)); refine blk_put (cs := #[.int .i64 ((rd_T24 ((rd_T37 l0 x11_1).f4) x23_3).f0), .string ((rd_T24 ((rd_T37 l0 x11_1).f4) x23_3).f1), .int .i64 0, .slice none 0 0]) ?_ 2 _ rfl; (with_reducible repeat (first | refine blk_drewN ?_ _ | refine blk_drew ?_ | refine blk_alloc ?_ _)); refine blk_put (cs := #[.int .i64 ((rd_T24 ((rd_T37 l0 x11_1).f4) x23_3).f0), .string (⟨#[]⟩ : ByteArray), .int .i64 0, .slice none 0 0]) ?_ 1 _ rfl; (with_reducible repeat (first | refine blk_drewN ?_ _ | refine blk_drew ?_ | refine blk_alloc ?_ _)); refine blk_put (cs := #[.int .i64 0, .string (⟨#[]⟩ : ByteArray), .int .i64 0, .slice none 0 0]) ?_ 0 _ rfl; (with_reducible repeat (first | refine blk_drewN ?_ _ | refine blk_drew ?_ | refine blk_alloc ?_ _)); exact BK231.out) hb); have n2_ := Aside0.mk (below_step (bs2_ HB.out GE229.out GE231.out) hb); clear BK229; clear BK231; clear HB; have BK229 := n0_; have BK231 := n1_; have HB := n2_; clear n0_ n1_ n2_; (try clear hb); (try clear hb2); (try clear hk); (try clear hi)))
              go_roundg k3
              case measure => have := HK1.out; have := HJ4.out; have := HK3.out; omega
              case rel => exact ⟨(wrap64 (x4_3 + t232)), (wrap64 (x23_3 + 1)), (by first | rfl | (simp; done) | (simp [*]; done)), (by first | rfl | (simp; done) | (simp [*]; done)), H', ⟨by have := HK1.out; have := HJ4.out; have := HK3.out; omega⟩, ⟨bk_ BK229.out⟩, ⟨bs2_ HB.out GE229.out GE231.out⟩⟩
             ·rw [if_neg c13] at H
              exact absurd H (by simp)
            ·rw [if_neg c12] at H
             exact absurd H (by simp)
           ·rw [if_neg c11] at H
            have c11b0 : decide (x23_3 < (((rd_T37 l0 x11_1).f4).length : Int)) = false := decide_eq_false c11
            clear c11
            have H' := Aside0.mk H
            clear H
            go_wp2
            go_roundg k3
            case measure => have := HK1.out; have := HJ4.out; have := HK3.out; omega
            case rel => exact ⟨(x4_3), (wrap64 (x11_1 + 1)), (by first | rfl | (simp; done) | (simp [*]; done)), (by first | rfl | (simp; done) | (simp [*]; done)), H', ⟨by have := HK1.out; have := HJ4.out; have := HK3.out; omega⟩, ⟨bs1_ HB.out GE229.out⟩⟩
        ·replace c9 := Bool.eq_false_iff.mpr c9
         subst c9
         have H1 : (if ((rd_T37 l0 x11_1).f0) = 5 then (diff_Weight.l0 kj4 (wrap64 (x4_1 + 1)) l0 (l0.length : Int) (wrap64 (x11_1 + 1))) else (some (0, 1))) = some (r1, r2) := by rw [if_neg (show ¬ (false = true) by decide)] at H; exact H
         clear H
         have H := H1
         clear H1
         by_cases c19 : ((rd_T37 l0 x11_1).f0) = 5
         ·rw [if_pos c19] at H
          have c19b0 : (((rd_T37 l0 x11_1).f0) == 5) = true := beq_iff_eq.mpr c19
          have c19b1 : (((rd_T37 l0 x11_1).f0) != 5) = false := bne_eq_false_iff_eq.mpr c19
          clear c19
          have H' := Aside0.mk H
          clear H
          go_wp2
          go_roundg kj4
          case measure => have := HK1.out; have := HJ4.out; omega
          case rel => exact ⟨(wrap64 (x4_1 + 1)), (wrap64 (x11_1 + 1)), (by first | rfl | (simp; done) | (simp [*]; done)), (by first | rfl | (simp; done) | (simp [*]; done)), H', ⟨by have := HK1.out; have := HJ4.out; omega⟩, ⟨bs1_ HB.out GE229.out⟩⟩
         ·rw [if_neg c19] at H
          have c19b0 : (((rd_T37 l0 x11_1).f0) == 5) = false := beq_eq_false_iff_ne.mpr c19
          have c19b1 : (((rd_T37 l0 x11_1).f0) != 5) = true := bne_iff_ne.mpr c19
          simp only [Option.some.injEq, Prod.mk.injEq] at H
          obtain ⟨rfl, rfl⟩ := H
          go_wp2
          go_ret2
          exact ⟨by first | rfl | (simp [errW_none, errW_some] <;> rfl) | (simp [*, errW_none, errW_some] <;> rfl), bs1_ HB.out GE229.out⟩
     ·rw [if_neg c4] at H
      exact absurd H (by simp)
    ·rw [if_neg c3] at H
     exact absurd H (by simp)
   ·rw [if_neg c2] at H
    have c2b0 : decide (x11_1 < (l0.length : Int)) = false := decide_eq_false c2
    clear c2
    simp only [Option.some.injEq, Prod.mk.injEq] at H
    obtain ⟨rfl, rfl⟩ := H
    go_wp2
    go_ret2
    exact ⟨by first | rfl | (simp [errW_none, errW_some] <;> rfl) | (simp [*, errW_none, errW_some] <;> rfl), bs0_ HB.out⟩

/-! ### vinculumlaw16_DiffWeight: function 6 -/
def vinculumlaw16_DiffWeight.l0 : Nat → List (S37) → Int → Option (Bool)
 | 0, _, _ => none
 | k + 1, x0, x3 => if x3 < (x0.length : Int) then (if 0 ≤ x3 then ((vinculumref09_ToRow.f ((rd_T37 x0 x3).f4)).bind fun bt239 => ((vinculumref09_Few.f k bt239.1 bt239.2.1 bt239.2.2.1 bt239.2.2.2 200).bind fun t245 => (if t245 = true then (vinculumlaw16_DiffWeight.l0 k x0 (wrap64 (x3 + 1))) else (some true)))) else (none)) else ((diff_Weight.f k x0).bind fun bt234 => ((vinculumref16_Weight.f k x0).bind fun bt236 => (if bt234.1 = bt236.1 then (some (bt234.2 == bt236.2)) else (some false))))
def vinculumlaw16_DiffWeight.f (k : Nat) (l0 : List (S37)) : Option (Bool) := (vinculumlaw16_awake.f k).bind fun t233 => (if t233 = true then (if (l0.length : Int) > 30 then (some true) else (vinculumlaw16_DiffWeight.l0 k l0 0)) else (some false))
theorem vinculumlaw16_DiffWeight.mono_l : ∀ k, (∀ y0 y1, LeO (vinculumlaw16_DiffWeight.l0 k y0 y1) (vinculumlaw16_DiffWeight.l0 (k + 1) y0 y1))
 | 0 => fun _ _ r h => by simp [vinculumlaw16_DiffWeight.l0] at h
 | k + 1 => by
  have ih0 := vinculumlaw16_DiffWeight.mono_l k
  ·intro y0 y1
   unfold vinculumlaw16_DiffWeight.l0
   repeat' first
   | (with_reducible exact ih0 _ _)
   | (with_reducible exact diff_Weight.mono _ _)
   | (with_reducible exact vinculumlaw16_awake.mono _)
   | (with_reducible exact vinculumref09_Few.mono _ _ _ _ _ _)
   | (with_reducible exact vinculumref16_Weight.mono _ _)
   | (with_reducible exact LeO.refl _)
   | (with_reducible exact LeO.none _)
   | (with_reducible refine LeO.ite ?_ ?_)
   | (with_reducible refine LeO.bind ?_ (fun _ => ?_))
   | exact ih0 _ _
   | exact diff_Weight.mono _ _
   | exact vinculumlaw16_awake.mono _
   | exact vinculumref09_Few.mono _ _ _ _ _ _
   | exact vinculumref16_Weight.mono _ _
   | exact LeO.none _
   | refine LeO.ite ?_ ?_
   | refine LeO.bind ?_ (fun _ => ?_)
theorem vinculumlaw16_DiffWeight.mono : ∀ a0 k, LeO (vinculumlaw16_DiffWeight.f k a0) (vinculumlaw16_DiffWeight.f (k + 1) a0) := by
 intro a0 k
 have ih0 := vinculumlaw16_DiffWeight.mono_l k
 unfold vinculumlaw16_DiffWeight.f
 repeat' first
   | (with_reducible exact ih0 _ _)
   | (with_reducible exact diff_Weight.mono _ _)
   | (with_reducible exact vinculumlaw16_awake.mono _)
   | (with_reducible exact vinculumref09_Few.mono _ _ _ _ _ _)
   | (with_reducible exact vinculumref16_Weight.mono _ _)
   | (with_reducible exact LeO.refl _)
   | (with_reducible exact LeO.none _)
   | (with_reducible refine LeO.ite ?_ ?_)
   | (with_reducible refine LeO.bind ?_ (fun _ => ?_))
   | exact ih0 _ _
   | exact diff_Weight.mono _ _
   | exact vinculumlaw16_awake.mono _
   | exact vinculumref09_Few.mono _ _ _ _ _ _
   | exact vinculumref16_Weight.mono _ _
   | exact LeO.none _
   | refine LeO.ite ?_ ?_
   | refine LeO.bind ?_ (fun _ => ?_)
set_option maxHeartbeats 8000000 in
set_option maxRecDepth 100000 in
theorem vinculumlaw16_DiffWeight.calls (k : Nat) (A0 : Option Addr) (c0 : Nat) (l0 : List (S37)) (r : Bool) (w : World) (hr0 : Kd.C k37 w A0 l0.length l0) (hc0 : l0.length ≤ c0) (h : vinculumlaw16_DiffWeight.f k l0 = some r) :
  Calls Tryd.prog 6 #[.slice A0 l0.length c0] w fun e w' => e = .returned (.bool r) ∧ Below w.heap.size w w' := by
 have HR0 := Aside0.mk hr0
 have HC0 := Aside0.mk hc0
 clear hr0 hc0
 have HB := Aside0.mk (Below.refl w.heap.size w)
 have H : ((vinculumlaw16_awake.f k).bind fun t233 => (if t233 = true then (if (l0.length : Int) > 30 then (some true) else (vinculumlaw16_DiffWeight.l0 k l0 0)) else (some false))) = some r := h
 clear h
 replace H := Option.bind_eq_some_iff.mp H
 obtain ⟨t233, A20, H⟩ := H
 replace H : (if t233 = true then (if (l0.length : Int) > 30 then (some true) else (vinculumlaw16_DiffWeight.l0 k l0 0)) else (some false)) = some r := H
 have A2 := Aside0.mk A20
 clear A20
 by_cases c3 : t233 = true
 ·subst c3
  have H1 : (if (l0.length : Int) > 30 then (some true) else (vinculumlaw16_DiffWeight.l0 k l0 0)) = some r := by rw [if_pos rfl] at H; exact H
  clear H
  have H := H1
  clear H1
  by_cases c4 : (l0.length : Int) > 30
  ·rw [if_pos c4] at H
   have c4b0 : decide (30 < (l0.length : Int)) = true := decide_eq_true c4
   have c4b1 : decide (30 < l0.length) = true := decide_eq_true (by omega)
   clear c4
   obtain rfl := Option.some.inj H
   go_enter Tryd.func6, Tryd.ntmps6
   go_wp2_with (first | ((with_reducible refine gate_callee (f := 7) rfl ?_); refine goesL_ (some 8) rfl rfl Tryd.func7 (by kernel_rfl) rfl #[] rfl (by (try simp only [List.map_toArray, List.map_cons, List.map_nil]); first | done | rfl | (simp only [List.length_drop, List.length_take]; rfl)) ?_; (with_reducible refine (vinculumlaw16_awake.calls k  true _ A2.out).mono ?_); rintro e w5 ⟨rfl, hb⟩; refine ⟨_, rfl, ?_⟩; have n0_ := Aside0.mk (below_step (bs0_ HB.out) hb); clear HB; have HB := n0_; clear n0_; (try clear hb); (try clear hb2); (try clear hk); (try clear hi)))
   go_ret
   exact ⟨by first | rfl | (simp [errW_none, errW_some] <;> rfl) | (simp [*, errW_none, errW_some] <;> rfl), bs0_ HB.out⟩
  ·rw [if_neg c4] at H
   have c4b0 : decide (30 < (l0.length : Int)) = false := decide_eq_false c4
   have c4b1 : decide (30 < l0.length) = false := decide_eq_false (by omega)
   clear c4
   have H' := Aside0.mk H
   clear H
   go_enter Tryd.func6, Tryd.ntmps6
   go_wp2_with (first | ((with_reducible refine gate_callee (f := 7) rfl ?_); refine goesL_ (some 8) rfl rfl Tryd.func7 (by kernel_rfl) rfl #[] rfl (by (try simp only [List.map_toArray, List.map_cons, List.map_nil]); first | done | rfl | (simp only [List.length_drop, List.length_take]; rfl)) ?_; (with_reducible refine (vinculumlaw16_awake.calls k  true _ A2.out).mono ?_); rintro e w6 ⟨rfl, hb⟩; refine ⟨_, rfl, ?_⟩; have n0_ := Aside0.mk (below_step (bs0_ HB.out) hb); clear HB; have HB := n0_; clear n0_; (try clear hb); (try clear hb2); (try clear hk); (try clear hi)))
   go_loopg [3] k (fun kq v3 w' => ∃ (x3_1 : Int), v3 = .int .i64 x3_1 ∧ Aside0 (vinculumlaw16_DiffWeight.l0 kq l0 x3_1 = some r) ∧ Aside0 (kq ≤ k) ∧ Aside0 (Below w.heap.size w w'))
   case atStart => exact ⟨(0), (by first | rfl | (simp; done) | (simp [*]; done)), H', ⟨Nat.le_refl _⟩, ⟨bs0_ HB.out⟩⟩
   case round =>
    clear H'; (try clear p2); (try clear c3); (try clear c4); (try clear c4b0); (try clear c4b1); (try clear c6)
    obtain ⟨x3_1, rfl, HA, HK1, HB⟩ := hrel
    cases gk with
    | zero => exact absurd HA.out (by simp [vinculumlaw16_DiffWeight.l0])
    | succ k1 =>
     have H := HA.out
     clear HA
     simp only [vinculumlaw16_DiffWeight.l0] at H
     by_cases c7 : x3_1 < (l0.length : Int)
     ·rw [if_pos c7] at H
      have c7b0 : decide (x3_1 < (l0.length : Int)) = true := decide_eq_true c7
      clear c7
      by_cases c8 : 0 ≤ x3_1
      ·rw [if_pos c8] at H
       have c8b0 : decide (0 ≤ x3_1) = true := decide_eq_true c8
       clear c8
       replace H := Option.bind_eq_some_iff.mp H
       obtain ⟨⟨t239, t240, t241, t242⟩, A90, H⟩ := H
       replace H : ((vinculumref09_Few.f k1 t239 t240 t241 t242 200).bind fun t245 => (if t245 = true then (vinculumlaw16_DiffWeight.l0 k1 l0 (wrap64 (x3_1 + 1))) else (some true))) = some r := H
       have A9 := Aside0.mk A90
       clear A90
       replace H := Option.bind_eq_some_iff.mp H
       obtain ⟨t245, A100, H⟩ := H
       replace H : (if t245 = true then (vinculumlaw16_DiffWeight.l0 k1 l0 (wrap64 (x3_1 + 1))) else (some true)) = some r := H
       have A10 := Aside0.mk A100
       clear A100
       by_cases c11 : t245 = true
       ·subst c11
        have H1 : (vinculumlaw16_DiffWeight.l0 k1 l0 (wrap64 (x3_1 + 1))) = some r := by rw [if_pos rfl] at H; exact H
        clear H
        have H := H1
        clear H1
        have H' := Aside0.mk H
        clear H
        have p238 : 0 ≤ (x3_1 : Int) := of_decide_eq_true (by first | (with_reducible assumption) | assumption)
        have q238 : x3_1 < (l0.length : Int) := of_decide_eq_true (by first | (with_reducible assumption) | assumption)
        obtain ⟨ad238, A238_1, c238_1, A238_4, c238_4, e238, hx238_0, hx238_1, hx238_2, hx238_3, hx238_4, hx238_5, hx238_6, hx238_7, hl238_1, hi238_1, hl238_4, hi238_4⟩ := at_T37 HR0.out x3_1 p238 q238
        cases e238
        replace hx238_0 := (cl_ HB.out hx238_0).trans hx238_0
        replace hx238_1 := (cl_ HB.out hx238_1).trans hx238_1
        replace hx238_2 := (cl_ HB.out hx238_2).trans hx238_2
        replace hx238_3 := (cl_ HB.out hx238_3).trans hx238_3
        replace hx238_4 := (cl_ HB.out hx238_4).trans hx238_4
        replace hx238_5 := (cl_ HB.out hx238_5).trans hx238_5
        replace hx238_6 := (cl_ HB.out hx238_6).trans hx238_6
        replace hx238_7 := (cl_ HB.out hx238_7).trans hx238_7
        have HR238_1 := Aside0.mk hi238_1
        have HC238_1 := Aside0.mk hl238_1
        clear hi238_1 hl238_1
        have HR238_4 := Aside0.mk hi238_4
        have HC238_4 := Aside0.mk hl238_4
        clear hi238_4 hl238_4
        replace p238 := eq_true p238
        replace q238 := eq_true q238
        go_wp2_with (first | ((with_reducible refine gate_callee (f := 17) rfl ?_); refine goesL_ (some 24) rfl rfl Tryd.func17 (by kernel_rfl) rfl #[.slice A238_4 ((rd_T37 l0 x3_1).f4).length c238_4] rfl (by (try simp only [List.map_toArray, List.map_cons, List.map_nil]); first | done | rfl | (simp only [List.length_drop, List.length_take]; rfl)) ?_; (with_reducible refine (vinculumref09_ToRow.calls (fun k_ => k_ < w.heap.size) _ _ ((rd_T37 l0 x3_1).f4) t239 t240 t241 t242 _ ?side1 A9.out).mono ?_); (case side1 => exact Kd.V_mk HC238_4.out (Kd.F_below (Kd.C_F k24_heap HR238_4.out) (bs0_ HB.out))); rintro e w12 ⟨v243, rfl, ho0, hb⟩; refine ⟨_, rfl, ?_⟩; have n0_ := Aside0.mk (Kd.V_lower (Kd.V_mono (ok' := fun k_ => True) ho0 (fun k_ hk_ => trivial)) (below_size (bs0_ HB.out))); have n1_ := Aside0.mk (below_step (bs0_ HB.out) hb); clear HB; have HO244 := n0_; have HB := n1_; clear n0_ n1_; (try clear hb); (try clear hb2); (try clear hk); (try clear hi); (try clear ho0); obtain ⟨Ao13, co13, eo13⟩ := Kd.V_slice HO244.out; subst eo13) | ((with_reducible refine gate_callee (f := 12) rfl ?_); refine goesL_ (some 25) rfl rfl Tryd.func12 (by kernel_rfl) rfl #[.agg #[.int .i64 t239, .string t240, .int .i64 t241, .slice Ao13 t242.length co13], .int .i64 200] rfl (by (try simp only [List.map_toArray, List.map_cons, List.map_nil]); first | done | rfl | (simp only [List.length_drop, List.length_take]; rfl)) ?_; (with_reducible refine (vinculumref09_Few.calls k1 t239 t240 t241 _ _ t242 200 true _ ?side1 ?side2 A10.out).mono ?_); (case side1 => repeat (first | exact (Kd.V_reads' HO244.out).2.2 | (with_reducible refine Kd.C_alloc ?_ _) | (with_reducible refine Kd.C_drewN ?_ _) | (with_reducible refine Kd.C_drew ?_))); (case side2 => exact (Kd.V_reads' HO244.out).2.1); rintro e w14 ⟨rfl, hb⟩; refine ⟨_, rfl, ?_⟩; have n0_ := Aside0.mk (Kd.V_below (by (with_reducible repeat (first | apply Kd.V_alloc | apply Kd.V_drewN | apply Kd.V_drew)); exact HO244.out) hb); have n1_ := Aside0.mk (below_step (bs0_ HB.out) hb); clear HO244; clear HB; have HO244 := n0_; have HB := n1_; clear n0_ n1_; (try clear hb); (try clear hb2); (try clear hk); (try clear hi)))
        go_roundg k1
        case measure => have := HK1.out; omega
        case rel => exact ⟨(wrap64 (x3_1 + 1)), (by first | rfl | (simp; done) | (simp [*]; done)), H', ⟨by have := HK1.out; omega⟩, ⟨bs0_ HB.out⟩⟩
       ·replace c11 := Bool.eq_false_iff.mpr c11
        subst c11
        have H1 : (some true) = some r := by rw [if_neg (show ¬ (false = true) by decide)] at H; exact H
        clear H
        have H := H1
        clear H1
        obtain rfl := Option.some.inj H
        have p238 : 0 ≤ (x3_1 : Int) := of_decide_eq_true (by first | (with_reducible assumption) | assumption)
        have q238 : x3_1 < (l0.length : Int) := of_decide_eq_true (by first | (with_reducible assumption) | assumption)
        obtain ⟨ad238, A238_1, c238_1, A238_4, c238_4, e238, hx238_0, hx238_1, hx238_2, hx238_3, hx238_4, hx238_5, hx238_6, hx238_7, hl238_1, hi238_1, hl238_4, hi238_4⟩ := at_T37 HR0.out x3_1 p238 q238
        cases e238
        replace hx238_0 := (cl_ HB.out hx238_0).trans hx238_0
        replace hx238_1 := (cl_ HB.out hx238_1).trans hx238_1
        replace hx238_2 := (cl_ HB.out hx238_2).trans hx238_2
        replace hx238_3 := (cl_ HB.out hx238_3).trans hx238_3
        replace hx238_4 := (cl_ HB.out hx238_4).trans hx238_4
        replace hx238_5 := (cl_ HB.out hx238_5).trans hx238_5
        replace hx238_6 := (cl_ HB.out hx238_6).trans hx238_6
        replace hx238_7 := (cl_ HB.out hx238_7).trans hx238_7
        have HR238_1 := Aside0.mk hi238_1
        have HC238_1 := Aside0.mk hl238_1
        clear hi238_1 hl238_1
        have HR238_4 := Aside0.mk hi238_4
        have HC238_4 := Aside0.mk hl238_4
        clear hi238_4 hl238_4
        replace p238 := eq_true p238
        replace q238 := eq_true q238
        go_wp2_with (first | ((with_reducible refine gate_callee (f := 17) rfl ?_); refine goesL_ (some 24) rfl rfl Tryd.func17 (by kernel_rfl) rfl #[.slice A238_4 ((rd_T37 l0 x3_1).f4).length c238_4] rfl (by (try simp only [List.map_toArray, List.map_cons, List.map_nil]); first | done | rfl | (simp only [List.length_drop, List.length_take]; rfl)) ?_; (with_reducible refine (vinculumref09_ToRow.calls (fun k_ => k_ < w.heap.size) _ _ ((rd_T37 l0 x3_1).f4) t239 t240 t241 t242 _ ?side1 A9.out).mono ?_); (case side1 => exact Kd.V_mk HC238_4.out (Kd.F_below (Kd.C_F k24_heap HR238_4.out) (bs0_ HB.out))); rintro e w15 ⟨v243, rfl, ho0, hb⟩; refine ⟨_, rfl, ?_⟩; have n0_ := Aside0.mk (Kd.V_lower (Kd.V_mono (ok' := fun k_ => True) ho0 (fun k_ hk_ => trivial)) (below_size (bs0_ HB.out))); have n1_ := Aside0.mk (below_step (bs0_ HB.out) hb); clear HB; have HO244 := n0_; have HB := n1_; clear n0_ n1_; (try clear hb); (try clear hb2); (try clear hk); (try clear hi); (try clear ho0); obtain ⟨Ao16, co16, eo16⟩ := Kd.V_slice HO244.out; subst eo16) | ((with_reducible refine gate_callee (f := 12) rfl ?_); refine goesL_ (some 25) rfl rfl Tryd.func12 (by kernel_rfl) rfl #[.agg #[.int .i64 t239, .string t240, .int .i64 t241, .slice Ao16 t242.length co16], .int .i64 200] rfl (by (try simp only [List.map_toArray, List.map_cons, List.map_nil]); first | done | rfl | (simp only [List.length_drop, List.length_take]; rfl)) ?_; (with_reducible refine (vinculumref09_Few.calls k1 t239 t240 t241 _ _ t242 200 false _ ?side1 ?side2 A10.out).mono ?_); (case side1 => repeat (first | exact (Kd.V_reads' HO244.out).2.2 | (with_reducible refine Kd.C_alloc ?_ _) | (with_reducible refine Kd.C_drewN ?_ _) | (with_reducible refine Kd.C_drew ?_))); (case side2 => exact (Kd.V_reads' HO244.out).2.1); rintro e w17 ⟨rfl, hb⟩; refine ⟨_, rfl, ?_⟩; have n0_ := Aside0.mk (Kd.V_below (by (with_reducible repeat (first | apply Kd.V_alloc | apply Kd.V_drewN | apply Kd.V_drew)); exact HO244.out) hb); have n1_ := Aside0.mk (below_step (bs0_ HB.out) hb); clear HO244; clear HB; have HO244 := n0_; have HB := n1_; clear n0_ n1_; (try clear hb); (try clear hb2); (try clear hk); (try clear hi)))
        go_ret
        exact ⟨by first | rfl | (simp [errW_none, errW_some] <;> rfl) | (simp [*, errW_none, errW_some] <;> rfl), bs0_ HB.out⟩
      ·rw [if_neg c8] at H
       exact absurd H (by simp)
     ·rw [if_neg c7] at H
      have c7b0 : decide (x3_1 < (l0.length : Int)) = false := decide_eq_false c7
      clear c7
      replace H := Option.bind_eq_some_iff.mp H
      obtain ⟨⟨t234, t235⟩, A180, H⟩ := H
      replace H : ((vinculumref16_Weight.f k1 l0).bind fun bt236 => (if t234 = bt236.1 then (some (t235 == bt236.2)) else (some false))) = some r := H
      have A18 := Aside0.mk A180
      clear A180
      replace H := Option.bind_eq_some_iff.mp H
      obtain ⟨⟨t236, t237⟩, A190, H⟩ := H
      replace H : (if t234 = t236 then (some (t235 == t237)) else (some false)) = some r := H
      have A19 := Aside0.mk A190
      clear A190
      by_cases c20 : t234 = t236
      ·rw [if_pos c20] at H
       have c20b0 : (t234 == t236) = true := beq_iff_eq.mpr c20
       have c20b1 : (t234 != t236) = false := bne_eq_false_iff_eq.mpr c20
       clear c20
       obtain rfl := Option.some.inj H
       go_wp2_with (first | ((with_reducible refine gate_callee (f := 18) rfl ?_); refine goesL_ (some 29) rfl rfl Tryd.func18 (by kernel_rfl) rfl #[.slice A0 l0.length c0] rfl (by (try simp only [List.map_toArray, List.map_cons, List.map_nil]); first | done | rfl | (simp only [List.length_drop, List.length_take]; rfl)) ?_; (with_reducible refine (diff_Weight.calls k1 _ _ l0 t234 t235 _ ?side1 ?side2 A18.out).mono ?_); (case side1 => exact kc_ HR0.out HB.out); (case side2 => exact HC0.out); rintro e w21 ⟨rfl, hb⟩; refine ⟨_, rfl, ?_⟩; have n0_ := Aside0.mk (below_step (bs0_ HB.out) hb); clear HB; have HB := n0_; clear n0_; (try clear hb); (try clear hb2); (try clear hk); (try clear hi)) | ((with_reducible refine gate_callee (f := 15) rfl ?_); refine goesL_ (some 34) rfl rfl Tryd.func15 (by kernel_rfl) rfl #[.slice A0 l0.length c0] rfl (by (try simp only [List.map_toArray, List.map_cons, List.map_nil]); first | done | rfl | (simp only [List.length_drop, List.length_take]; rfl)) ?_; (with_reducible refine (vinculumref16_Weight.calls k1 _ _ l0 t236 t237 _ ?side1 ?side2 A19.out).mono ?_); (case side1 => exact kc_ HR0.out HB.out); (case side2 => exact HC0.out); rintro e w22 ⟨rfl, hb⟩; refine ⟨_, rfl, ?_⟩; have n0_ := Aside0.mk (below_step (bs0_ HB.out) hb); clear HB; have HB := n0_; clear n0_; (try clear hb); (try clear hb2); (try clear hk); (try clear hi)))
       go_ret
       exact ⟨by first | rfl | (simp [errW_none, errW_some] <;> rfl) | (simp [*, errW_none, errW_some] <;> rfl), bs0_ HB.out⟩
      ·rw [if_neg c20] at H
       have c20b0 : (t234 == t236) = false := beq_eq_false_iff_ne.mpr c20
       have c20b1 : (t234 != t236) = true := bne_iff_ne.mpr c20
       obtain rfl := Option.some.inj H
       go_wp2_with (first | ((with_reducible refine gate_callee (f := 18) rfl ?_); refine goesL_ (some 29) rfl rfl Tryd.func18 (by kernel_rfl) rfl #[.slice A0 l0.length c0] rfl (by (try simp only [List.map_toArray, List.map_cons, List.map_nil]); first | done | rfl | (simp only [List.length_drop, List.length_take]; rfl)) ?_; (with_reducible refine (diff_Weight.calls k1 _ _ l0 t234 t235 _ ?side1 ?side2 A18.out).mono ?_); (case side1 => exact kc_ HR0.out HB.out); (case side2 => exact HC0.out); rintro e w23 ⟨rfl, hb⟩; refine ⟨_, rfl, ?_⟩; have n0_ := Aside0.mk (below_step (bs0_ HB.out) hb); clear HB; have HB := n0_; clear n0_; (try clear hb); (try clear hb2); (try clear hk); (try clear hi)) | ((with_reducible refine gate_callee (f := 15) rfl ?_); refine goesL_ (some 34) rfl rfl Tryd.func15 (by kernel_rfl) rfl #[.slice A0 l0.length c0] rfl (by (try simp only [List.map_toArray, List.map_cons, List.map_nil]); first | done | rfl | (simp only [List.length_drop, List.length_take]; rfl)) ?_; (with_reducible refine (vinculumref16_Weight.calls k1 _ _ l0 t236 t237 _ ?side1 ?side2 A19.out).mono ?_); (case side1 => exact kc_ HR0.out HB.out); (case side2 => exact HC0.out); rintro e w24 ⟨rfl, hb⟩; refine ⟨_, rfl, ?_⟩; have n0_ := Aside0.mk (below_step (bs0_ HB.out) hb); clear HB; have HB := n0_; clear n0_; (try clear hb); (try clear hb2); (try clear hk); (try clear hi)))
       go_ret
       exact ⟨by first | rfl | (simp [errW_none, errW_some] <;> rfl) | (simp [*, errW_none, errW_some] <;> rfl), bs0_ HB.out⟩
 ·replace c3 := Bool.eq_false_iff.mpr c3
  subst c3
  have H1 : (some false) = some r := by rw [if_neg (show ¬ (false = true) by decide)] at H; exact H
  clear H
  have H := H1
  clear H1
  obtain rfl := Option.some.inj H
  go_enter Tryd.func6, Tryd.ntmps6
  go_wp2_with (first | ((with_reducible refine gate_callee (f := 7) rfl ?_); refine goesL_ (some 8) rfl rfl Tryd.func7 (by kernel_rfl) rfl #[] rfl (by (try simp only [List.map_toArray, List.map_cons, List.map_nil]); first | done | rfl | (simp only [List.length_drop, List.length_take]; rfl)) ?_; (with_reducible refine (vinculumlaw16_awake.calls k  false _ A2.out).mono ?_); rintro e w25 ⟨rfl, hb⟩; refine ⟨_, rfl, ?_⟩; have n0_ := Aside0.mk (below_step (bs0_ HB.out) hb); clear HB; have HB := n0_; clear n0_; (try clear hb); (try clear hb2); (try clear hk); (try clear hi)))
  go_ret
  exact ⟨by first | rfl | (simp [errW_none, errW_some] <;> rfl) | (simp [*, errW_none, errW_some] <;> rfl), bs0_ HB.out⟩

/-! ### vinculumlaw16_few: function 8 -/
def vinculumlaw16_few.f (k : Nat) (a0_0 : Int) (a0_1 : ByteArray) (a0_2 : Int) (l0_3 : List (S24)) (a1_0 : Int) (a1_1 : ByteArray) (a1_2 : Int) (l1_3 : List (S24)) : Option (Bool) := (vinculumref09_Few.f k a0_0 a0_1 a0_2 l0_3 120).bind fun t248 => (if t248 = true then ((vinculumref09_Few.f k a1_0 a1_1 a1_2 l1_3 120).bind fun t249 => (some t249)) else (some false))
theorem vinculumlaw16_few.mono : ∀ a0 a1 a2 a3 a4 a5 a6 a7 k, LeO (vinculumlaw16_few.f k a0 a1 a2 a3 a4 a5 a6 a7) (vinculumlaw16_few.f (k + 1) a0 a1 a2 a3 a4 a5 a6 a7) := by
 intro a0 a1 a2 a3 a4 a5 a6 a7 k
 unfold vinculumlaw16_few.f
 repeat' first
   | (with_reducible exact vinculumref09_Few.mono _ _ _ _ _ _)
   | (with_reducible exact LeO.refl _)
   | (with_reducible exact LeO.none _)
   | (with_reducible refine LeO.ite ?_ ?_)
   | (with_reducible refine LeO.bind ?_ (fun _ => ?_))
   | exact vinculumref09_Few.mono _ _ _ _ _ _
   | exact LeO.none _
   | refine LeO.ite ?_ ?_
   | refine LeO.bind ?_ (fun _ => ?_)
set_option maxHeartbeats 8000000 in
set_option maxRecDepth 100000 in
theorem vinculumlaw16_few.calls (k : Nat) (a0_0 : Int) (a0_1 : ByteArray) (a0_2 : Int) (A0_3 : Option Addr) (c0_3 : Nat) (l0_3 : List (S24)) (a1_0 : Int) (a1_1 : ByteArray) (a1_2 : Int) (A1_3 : Option Addr) (c1_3 : Nat) (l1_3 : List (S24)) (r : Bool) (w : World) (hr0_3 : Kd.C k24 w A0_3 l0_3.length l0_3) (hc0_3 : l0_3.length ≤ c0_3) (hr1_3 : Kd.C k24 w A1_3 l1_3.length l1_3) (hc1_3 : l1_3.length ≤ c1_3) (h : vinculumlaw16_few.f k a0_0 a0_1 a0_2 l0_3 a1_0 a1_1 a1_2 l1_3 = some r) :
  Calls Tryd.prog 8 #[.agg #[.int .i64 a0_0, .string a0_1, .int .i64 a0_2, .slice A0_3 l0_3.length c0_3], .agg #[.int .i64 a1_0, .string a1_1, .int .i64 a1_2, .slice A1_3 l1_3.length c1_3]] w fun e w' => e = .returned (.bool r) ∧ Below w.heap.size w w' := by
 have hu24 := Tryd.underlying24
 have HR0_3 := Aside0.mk hr0_3
 have HC0_3 := Aside0.mk hc0_3
 clear hr0_3 hc0_3
 have HR1_3 := Aside0.mk hr1_3
 have HC1_3 := Aside0.mk hc1_3
 clear hr1_3 hc1_3
 have HB := Aside0.mk (Below.refl w.heap.size w)
 have H : ((vinculumref09_Few.f k a0_0 a0_1 a0_2 l0_3 120).bind fun t248 => (if t248 = true then ((vinculumref09_Few.f k a1_0 a1_1 a1_2 l1_3 120).bind fun t249 => (some t249)) else (some false))) = some r := h
 clear h
 replace H := Option.bind_eq_some_iff.mp H
 obtain ⟨t248, A30, H⟩ := H
 replace H : (if t248 = true then ((vinculumref09_Few.f k a1_0 a1_1 a1_2 l1_3 120).bind fun t249 => (some t249)) else (some false)) = some r := H
 have A3 := Aside0.mk A30
 clear A30
 by_cases c4 : t248 = true
 ·subst c4
  have H1 : ((vinculumref09_Few.f k a1_0 a1_1 a1_2 l1_3 120).bind fun t249 => (some t249)) = some r := by rw [if_pos rfl] at H; exact H
  clear H
  have H := H1
  clear H1
  replace H := Option.bind_eq_some_iff.mp H
  obtain ⟨t249, A50, H⟩ := H
  replace H : (some t249) = some r := H
  have A5 := Aside0.mk A50
  clear A50
  obtain rfl := Option.some.inj H
  go_enter Tryd.func8, Tryd.ntmps8
  go_wp2_with (first | ((with_reducible refine gate_dst (N := 2) rfl ?_); refine box_event ?hg (N := 2) ?hd (cs := #[.int .i64 a0_0, .string a0_1, .int .i64 a0_2, .slice A0_3 l0_3.length c0_3]) (t := 24) ?hr ?_; (case hd => rfl); (case hg => rfl); (case hr => first | (go_simp; done) | (go_simp; rfl)); intro gb246 hg w6 hbox hb; have n0_ := Aside0.mk (below_step (bs0_ HB.out) hb); have n1_ := Aside0.mk (hbox); have n2_ := Aside0.mk ((by rw [hg]; exact (below_size (bs0_ HB.out)) : w.heap.size ≤ gb246)); have n3_ := Aside0.mk ((by rw [hg]; exact (below_size (bs0_ HB.out)) : w.heap.size ≤ gb246)); clear HB; have HB := n0_; have BK246 := n1_; have GW246 := n2_; have GE246 := n3_; clear n0_ n1_ n2_ n3_; clear hb hbox hg) | ((with_reducible refine gate_dst (N := 3) rfl ?_); refine box_event ?hg (N := 3) ?hd (cs := #[.int .i64 a1_0, .string a1_1, .int .i64 a1_2, .slice A1_3 l1_3.length c1_3]) (t := 24) ?hr ?_; (case hd => rfl); (case hg => rfl); (case hr => first | (go_simp; done) | (go_simp; rfl)); intro gb247 hg w7 hbox hb; have n0_ := Aside0.mk (blk_below (g := gb246) (o := .cells #[.int .i64 a0_0, .string a0_1, .int .i64 a0_2, .slice A0_3 l0_3.length c0_3] 24 (0, 0)) (bk_ BK246.out) hb); have n1_ := Aside0.mk (below_step (bs1_ HB.out GE246.out) hb); have n2_ := Aside0.mk (hbox); have n3_ := Aside0.mk ((by rw [hg]; exact (below_size (bs1_ HB.out GE246.out)) : w.heap.size ≤ gb247)); have n4_ := Aside0.mk ((by rw [hg]; exact (below_size (bs1_ HB.out GE246.out)) : w.heap.size ≤ gb247)); have n5_ := Aside0.mk ((by rw [hg]; exact Nat.ne_of_lt (blk_lt (g := gb246) (o := .cells #[.int .i64 a0_0, .string a0_1, .int .i64 a0_2, .slice A0_3 l0_3.length c0_3] 24 (0, 0)) (bk_ BK246.out)) : gb246 ≠ gb247)); have n6_ := Aside0.mk ((by rw [hg]; exact Nat.ne_of_gt (blk_lt (g := gb246) (o := .cells #[.int .i64 a0_0, .string a0_1, .int .i64 a0_2, .slice A0_3 l0_3.length c0_3] 24 (0, 0)) (bk_ BK246.out)) : gb247 ≠ gb246)); clear BK246; clear HB; have BK246 := n0_; have HB := n1_; have BK247 := n2_; have GW247 := n3_; have GE247 := n4_; have NB246_247 := n5_; have NB247_246 := n6_; clear n0_ n1_ n2_ n3_ n4_ n5_ n6_; clear hb hbox hg; have hnb8 := NB246_247.out; have hnc8 := NB247_246.out; have hcz9_0 : w7.cell? ⟨gb246, 0, none⟩ = some (.int .i64 a0_0) := (blk_cell BK246.out 0).trans rfl; have hcz9_1 : w7.cell? ⟨gb246, 1, none⟩ = some (.string a0_1) := (blk_cell BK246.out 1).trans rfl; have hcz9_2 : w7.cell? ⟨gb246, 2, none⟩ = some (.int .i64 a0_2) := (blk_cell BK246.out 2).trans rfl; have hcz9_3 : w7.cell? ⟨gb246, 3, none⟩ = some (.slice A0_3 l0_3.length c0_3) := (blk_cell BK246.out 3).trans rfl; have hfz9_0 := blk_frozen BK246.out 0; have hfz9_1 := blk_frozen BK246.out 1; have hfz9_2 := blk_frozen BK246.out 2; have hfz9_3 := blk_frozen BK246.out 3) | ((with_reducible refine gate_callee (f := 12) rfl ?_); refine goesL_ (some 6) rfl rfl Tryd.func12 (by kernel_rfl) rfl #[.agg #[.int .i64 a0_0, .string a0_1, .int .i64 a0_2, .slice A0_3 l0_3.length c0_3], .int .i64 120] rfl (by (try simp only [List.map_toArray, List.map_cons, List.map_nil]); first | done | rfl | (simp only [List.length_drop, List.length_take]; rfl)) ?_; (with_reducible refine (vinculumref09_Few.calls k a0_0 a0_1 a0_2 _ _ l0_3 120 true _ ?side1 ?side2 A3.out).mono ?_); (case side1 => exact kc_ HR0_3.out HB.out); (case side2 => exact HC0_3.out); rintro e w10 ⟨rfl, hb⟩; refine ⟨_, rfl, ?_⟩; have n0_ := Aside0.mk (blk_below (g := gb246) (o := .cells #[.int .i64 a0_0, .string a0_1, .int .i64 a0_2, .slice A0_3 l0_3.length c0_3] 24 (0, 0)) (bk_ BK246.out) hb); have n1_ := Aside0.mk (blk_below (g := gb247) (o := .cells #[.int .i64 a1_0, .string a1_1, .int .i64 a1_2, .slice A1_3 l1_3.length c1_3] 24 (0, 0)) (bk_ BK247.out) hb); have n2_ := Aside0.mk (below_step (bs2_ HB.out GE246.out GE247.out) hb); clear BK246; clear BK247; clear HB; have BK246 := n0_; have BK247 := n1_; have HB := n2_; clear n0_ n1_ n2_; (try clear hb); (try clear hb2); (try clear hk); (try clear hi); have hcz11_0 : w10.cell? ⟨gb247, 0, none⟩ = some (.int .i64 a1_0) := (blk_cell BK247.out 0).trans rfl; have hcz11_1 : w10.cell? ⟨gb247, 1, none⟩ = some (.string a1_1) := (blk_cell BK247.out 1).trans rfl; have hcz11_2 : w10.cell? ⟨gb247, 2, none⟩ = some (.int .i64 a1_2) := (blk_cell BK247.out 2).trans rfl; have hcz11_3 : w10.cell? ⟨gb247, 3, none⟩ = some (.slice A1_3 l1_3.length c1_3) := (blk_cell BK247.out 3).trans rfl; have hfz11_0 := blk_frozen BK247.out 0; have hfz11_1 := blk_frozen BK247.out 1; have hfz11_2 := blk_frozen BK247.out 2; have hfz11_3 := blk_frozen BK247.out 3) | (go_at_call 12; (with_reducible refine (vinculumref09_Few.calls k a1_0 a1_1 a1_2 _ _ l1_3 120 t249 _ ?side1 ?side2 A5.out).mono ?_); (case side1 => exact kc_ HR1_3.out HB.out); (case side2 => exact HC1_3.out); rintro e w12 ⟨rfl, hb⟩; have n0_ := Aside0.mk (blk_below (g := gb246) (o := .cells #[.int .i64 a0_0, .string a0_1, .int .i64 a0_2, .slice A0_3 l0_3.length c0_3] 24 (0, 0)) (bk_ BK246.out) hb); have n1_ := Aside0.mk (blk_below (g := gb247) (o := .cells #[.int .i64 a1_0, .string a1_1, .int .i64 a1_2, .slice A1_3 l1_3.length c1_3] 24 (0, 0)) (bk_ BK247.out) hb); have n2_ := Aside0.mk (below_step (bs2_ HB.out GE246.out GE247.out) hb); clear BK246; clear BK247; clear HB; have BK246 := n0_; have BK247 := n1_; have HB := n2_; clear n0_ n1_ n2_; (try clear hb); (try clear hb2); (try clear hk); (try clear hi)))
  go_ret
  exact ⟨by first | rfl | (simp [errW_none, errW_some] <;> rfl) | (simp [*, errW_none, errW_some] <;> rfl), bs2_ HB.out GE246.out GE247.out⟩
 ·replace c4 := Bool.eq_false_iff.mpr c4
  subst c4
  have H1 : (some false) = some r := by rw [if_neg (show ¬ (false = true) by decide)] at H; exact H
  clear H
  have H := H1
  clear H1
  obtain rfl := Option.some.inj H
  go_enter Tryd.func8, Tryd.ntmps8
  go_wp2_with (first | ((with_reducible refine gate_dst (N := 2) rfl ?_); refine box_event ?hg (N := 2) ?hd (cs := #[.int .i64 a0_0, .string a0_1, .int .i64 a0_2, .slice A0_3 l0_3.length c0_3]) (t := 24) ?hr ?_; (case hd => rfl); (case hg => rfl); (case hr => first | (go_simp; done) | (go_simp; rfl)); intro gb246 hg w13 hbox hb; have n0_ := Aside0.mk (below_step (bs0_ HB.out) hb); have n1_ := Aside0.mk (hbox); have n2_ := Aside0.mk ((by rw [hg]; exact (below_size (bs0_ HB.out)) : w.heap.size ≤ gb246)); have n3_ := Aside0.mk ((by rw [hg]; exact (below_size (bs0_ HB.out)) : w.heap.size ≤ gb246)); clear HB; have HB := n0_; have BK246 := n1_; have GW246 := n2_; have GE246 := n3_; clear n0_ n1_ n2_ n3_; clear hb hbox hg) | ((with_reducible refine gate_dst (N := 3) rfl ?_); refine box_event ?hg (N := 3) ?hd (cs := #[.int .i64 a1_0, .string a1_1, .int .i64 a1_2, .slice A1_3 l1_3.length c1_3]) (t := 24) ?hr ?_; (case hd => rfl); (case hg => rfl); (case hr => first | (go_simp; done) | (go_simp; rfl)); intro gb247 hg w14 hbox hb; have n0_ := Aside0.mk (blk_below (g := gb246) (o := .cells #[.int .i64 a0_0, .string a0_1, .int .i64 a0_2, .slice A0_3 l0_3.length c0_3] 24 (0, 0)) (bk_ BK246.out) hb); have n1_ := Aside0.mk (below_step (bs1_ HB.out GE246.out) hb); have n2_ := Aside0.mk (hbox); have n3_ := Aside0.mk ((by rw [hg]; exact (below_size (bs1_ HB.out GE246.out)) : w.heap.size ≤ gb247)); have n4_ := Aside0.mk ((by rw [hg]; exact (below_size (bs1_ HB.out GE246.out)) : w.heap.size ≤ gb247)); have n5_ := Aside0.mk ((by rw [hg]; exact Nat.ne_of_lt (blk_lt (g := gb246) (o := .cells #[.int .i64 a0_0, .string a0_1, .int .i64 a0_2, .slice A0_3 l0_3.length c0_3] 24 (0, 0)) (bk_ BK246.out)) : gb246 ≠ gb247)); have n6_ := Aside0.mk ((by rw [hg]; exact Nat.ne_of_gt (blk_lt (g := gb246) (o := .cells #[.int .i64 a0_0, .string a0_1, .int .i64 a0_2, .slice A0_3 l0_3.length c0_3] 24 (0, 0)) (bk_ BK246.out)) : gb247 ≠ gb246)); clear BK246; clear HB; have BK246 := n0_; have HB := n1_; have BK247 := n2_; have GW247 := n3_; have GE247 := n4_; have NB246_247 := n5_; have NB247_246 := n6_; clear n0_ n1_ n2_ n3_ n4_ n5_ n6_; clear hb hbox hg; have hnb15 := NB246_247.out; have hnc15 := NB247_246.out; have hcz16_0 : w14.cell? ⟨gb246, 0, none⟩ = some (.int .i64 a0_0) := (blk_cell BK246.out 0).trans rfl; have hcz16_1 : w14.cell? ⟨gb246, 1, none⟩ = some (.string a0_1) := (blk_cell BK246.out 1).trans rfl; have hcz16_2 : w14.cell? ⟨gb246, 2, none⟩ = some (.int .i64 a0_2) := (blk_cell BK246.out 2).trans rfl; have hcz16_3 : w14.cell? ⟨gb246, 3, none⟩ = some (.slice A0_3 l0_3.length c0_3) := (blk_cell BK246.out 3).trans rfl; have hfz16_0 := blk_frozen BK246.out 0; have hfz16_1 := blk_frozen BK246.out 1; have hfz16_2 := blk_frozen BK246.out 2; have hfz16_3 := blk_frozen BK246.out 3) | ((with_reducible refine gate_callee (f := 12) rfl ?_); refine goesL_ (some 6) rfl rfl Tryd.func12 (by kernel_rfl) rfl #[.agg #[.int .i64 a0_0, .string a0_1, .int .i64 a0_2, .slice A0_3 l0_3.length c0_3], .int .i64 120] rfl (by (try simp only [List.map_toArray, List.map_cons, List.map_nil]); first | done | rfl | (simp only [List.length_drop, List.length_take]; rfl)) ?_; (with_reducible refine (vinculumref09_Few.calls k a0_0 a0_1 a0_2 _ _ l0_3 120 false _ ?side1 ?side2 A3.out).mono ?_); (case side1 => exact kc_ HR0_3.out HB.out); (case side2 => exact HC0_3.out); rintro e w17 ⟨rfl, hb⟩; refine ⟨_, rfl, ?_⟩; have n0_ := Aside0.mk (blk_below (g := gb246) (o := .cells #[.int .i64 a0_0, .string a0_1, .int .i64 a0_2, .slice A0_3 l0_3.length c0_3] 24 (0, 0)) (bk_ BK246.out) hb); have n1_ := Aside0.mk (blk_below (g := gb247) (o := .cells #[.int .i64 a1_0, .string a1_1, .int .i64 a1_2, .slice A1_3 l1_3.length c1_3] 24 (0, 0)) (bk_ BK247.out) hb); have n2_ := Aside0.mk (below_step (bs2_ HB.out GE246.out GE247.out) hb); clear BK246; clear BK247; clear HB; have BK246 := n0_; have BK247 := n1_; have HB := n2_; clear n0_ n1_ n2_; (try clear hb); (try clear hb2); (try clear hk); (try clear hi)))
  go_ret
  exact ⟨by first | rfl | (simp [errW_none, errW_some] <;> rfl) | (simp [*, errW_none, errW_some] <;> rfl), bs2_ HB.out GE246.out GE247.out⟩

/-! ### vinculumref09_In: function 47 -/
def vinculumref09_In.l0 : Nat → List ByteArray → ByteArray → Int → Option (Bool)
 | 0, _, _, _ => none
 | k + 1, x0, x1, x5 => if x5 < (x0.length : Int) then (if 0 ≤ x5 then (if (rdOf ByteArray.empty x0 x5).toList = x1.toList then (some true) else (vinculumref09_In.l0 k x0 x1 (wrap64 (x5 + 1)))) else (none)) else (some false)
def vinculumref09_In.f (k : Nat) (l0 : List ByteArray) (a1 : ByteArray) : Option (Bool) := vinculumref09_In.l0 k l0 a1 0
theorem vinculumref09_In.mono_l : ∀ k, (∀ y0 y1 y2, LeO (vinculumref09_In.l0 k y0 y1 y2) (vinculumref09_In.l0 (k + 1) y0 y1 y2))
 | 0 => fun _ _ _ r h => by simp [vinculumref09_In.l0] at h
 | k + 1 => by
  have ih0 := vinculumref09_In.mono_l k
  ·intro y0 y1 y2
   unfold vinculumref09_In.l0
   repeat' first
   | (with_reducible exact ih0 _ _ _)
   | (with_reducible exact LeO.refl _)
   | (with_reducible exact LeO.none _)
   | (with_reducible refine LeO.ite ?_ ?_)
   | (with_reducible refine LeO.bind ?_ (fun _ => ?_))
   | exact ih0 _ _ _
   | exact LeO.none _
   | refine LeO.ite ?_ ?_
   | refine LeO.bind ?_ (fun _ => ?_)
theorem vinculumref09_In.mono : ∀ a0 a1 k, LeO (vinculumref09_In.f k a0 a1) (vinculumref09_In.f (k + 1) a0 a1) := by
 intro a0 a1 k
 have ih0 := vinculumref09_In.mono_l k
 unfold vinculumref09_In.f
 repeat' first
   | (with_reducible exact ih0 _ _ _)
   | (with_reducible exact LeO.refl _)
   | (with_reducible exact LeO.none _)
   | (with_reducible refine LeO.ite ?_ ?_)
   | (with_reducible refine LeO.bind ?_ (fun _ => ?_))
   | exact ih0 _ _ _
   | exact LeO.none _
   | refine LeO.ite ?_ ?_
   | refine LeO.bind ?_ (fun _ => ?_)
set_option maxHeartbeats 8000000 in
set_option maxRecDepth 100000 in
theorem vinculumref09_In.calls (k : Nat) (A0 : Option Addr) (c0 : Nat) (l0 : List ByteArray) (a1 : ByteArray) (r : Bool) (w : World) (hr0 : Kd.C Kd.string w A0 l0.length l0) (hc0 : l0.length ≤ c0) (h : vinculumref09_In.f k l0 a1 = some r) :
  Calls Tryd.prog 47 #[.slice A0 l0.length c0, .string a1] w fun e w' => e = .returned (.bool r) ∧ Drawn0 w w' := by
 have HR0 := Aside0.mk hr0
 have HC0 := Aside0.mk hc0
 clear hr0 hc0
 have H : (vinculumref09_In.l0 k l0 a1 0) = some r := h
 clear h
 have H' := Aside0.mk H
 clear H
 go_enter Tryd.func47, Tryd.ntmps47
 go_wp2
 go_loopg [5] k (fun kq v5 w' => ∃ (x5_1 : Int), v5 = .int .i64 x5_1 ∧ Aside0 (vinculumref09_In.l0 kq l0 a1 x5_1 = some r) ∧ Aside0 (kq ≤ k) ∧ Drawn0 w w')
 case atStart => exact ⟨(0), (by first | rfl | (simp; done) | (simp [*]; done)), H', ⟨Nat.le_refl _⟩, by repeat (first | exact Drawn0.refl _ | apply Drawn0.step)⟩
 case round =>
  clear H'; (try clear p2)
  obtain ⟨x5_1, rfl, HA, HK1, ⟨m1, rfl⟩⟩ := hrel
  cases gk with
  | zero => exact absurd HA.out (by simp [vinculumref09_In.l0])
  | succ k1 =>
   have H := HA.out
   clear HA
   simp only [vinculumref09_In.l0] at H
   by_cases c3 : x5_1 < (l0.length : Int)
   ·rw [if_pos c3] at H
    have c3b0 : decide (x5_1 < (l0.length : Int)) = true := decide_eq_true c3
    clear c3
    by_cases c4 : 0 ≤ x5_1
    ·rw [if_pos c4] at H
     have c4b0 : decide (0 ≤ x5_1) = true := decide_eq_true c4
     clear c4
     by_cases c5 : (rdOf ByteArray.empty l0 x5_1).toList = a1.toList
     ·rw [if_pos c5] at H
      have c5b0 : ((rdOf ByteArray.empty l0 x5_1).toList == a1.toList) = true := beq_iff_eq.mpr c5
      have c5b1 : ((rdOf ByteArray.empty l0 x5_1).toList != a1.toList) = false := bne_eq_false_iff_eq.mpr c5
      clear c5
      obtain rfl := Option.some.inj H
      have p250 : 0 ≤ (x5_1 : Int) := of_decide_eq_true (by first | (with_reducible assumption) | assumption)
      have q250 : x5_1 < (l0.length : Int) := of_decide_eq_true (by first | (with_reducible assumption) | assumption)
      obtain ⟨ad250, e250, hx250_0⟩ := Kd.at_string HR0.out x5_1 p250 q250
      cases e250
      replace p250 := eq_true p250
      replace q250 := eq_true q250
      go_wp2
      go_ret
      exact ⟨by first | rfl | (simp; done) | (simp [*]; done), by repeat (first | exact Drawn0.refl _ | apply Drawn0.step)⟩
     ·rw [if_neg c5] at H
      have c5b0 : ((rdOf ByteArray.empty l0 x5_1).toList == a1.toList) = false := beq_eq_false_iff_ne.mpr c5
      have c5b1 : ((rdOf ByteArray.empty l0 x5_1).toList != a1.toList) = true := bne_iff_ne.mpr c5
      have H' := Aside0.mk H
      clear H
      have p250 : 0 ≤ (x5_1 : Int) := of_decide_eq_true (by first | (with_reducible assumption) | assumption)
      have q250 : x5_1 < (l0.length : Int) := of_decide_eq_true (by first | (with_reducible assumption) | assumption)
      obtain ⟨ad250, e250, hx250_0⟩ := Kd.at_string HR0.out x5_1 p250 q250
      cases e250
      replace p250 := eq_true p250
      replace q250 := eq_true q250
      go_wp2
      go_roundg k1
      case measure => have := HK1.out; omega
      case rel => exact ⟨(wrap64 (x5_1 + 1)), (by first | rfl | (simp; done) | (simp [*]; done)), H', ⟨by have := HK1.out; omega⟩, by repeat (first | exact Drawn0.refl _ | apply Drawn0.step)⟩
    ·rw [if_neg c4] at H
     exact absurd H (by simp)
   ·rw [if_neg c3] at H
    have c3b0 : decide (x5_1 < (l0.length : Int)) = false := decide_eq_false c3
    clear c3
    obtain rfl := Option.some.inj H
    go_wp2
    go_ret
    exact ⟨by first | rfl | (simp; done) | (simp [*]; done), by repeat (first | exact Drawn0.refl _ | apply Drawn0.step)⟩

/-! ### vinculumref09_Accents: function 48 -/
def vinculumref09_Accents.f  : Option (List ByteArray) := some (([(⟨#[104, 97, 116]⟩ : ByteArray), (⟨#[98, 97, 114]⟩ : ByteArray), (⟨#[118, 101, 99]⟩ : ByteArray), (⟨#[100, 111, 116]⟩ : ByteArray), (⟨#[116, 105, 108, 100, 101]⟩ : ByteArray), (⟨#[99, 104, 101, 99, 107]⟩ : ByteArray)] : List ByteArray))
set_option maxHeartbeats 8000000 in
set_option maxRecDepth 100000 in
theorem vinculumref09_Accents.calls  (r : List ByteArray) (w : World) (h : vinculumref09_Accents.f  = some r) :
  Calls Tryd.prog 48 #[] w fun e w' => ∃ v0_ : Value, e = .returned (v0_) ∧ Kd.R Kd.string 9 w' w.heap.size (fun _ => True) v0_ r ∧ Below w.heap.size w w' := by
 have HB := Aside0.mk (Below.refl w.heap.size w)
 have H : (some (([(⟨#[104, 97, 116]⟩ : ByteArray), (⟨#[98, 97, 114]⟩ : ByteArray), (⟨#[118, 101, 99]⟩ : ByteArray), (⟨#[100, 111, 116]⟩ : ByteArray), (⟨#[116, 105, 108, 100, 101]⟩ : ByteArray), (⟨#[99, 104, 101, 99, 107]⟩ : ByteArray)] : List ByteArray))) = some r := h
 clear h
 obtain ⟨y251, hy251⟩ : ∃ y_ : List ByteArray, y_ = (([(⟨#[104, 97, 116]⟩ : ByteArray), (⟨#[98, 97, 114]⟩ : ByteArray), (⟨#[118, 101, 99]⟩ : ByteArray), (⟨#[100, 111, 116]⟩ : ByteArray), (⟨#[116, 105, 108, 100, 101]⟩ : ByteArray), (⟨#[99, 104, 101, 99, 107]⟩ : ByteArray)] : List ByteArray)) := ⟨_, rfl⟩
 replace H : (some y251) = some r := by first | (rw [hy251]; with_reducible exact H) | (have H2_ := (Option.bind_some _ _).symm.trans H; rw [hy251]; with_reducible exact H2_) | (have H2_ := (Option.bind_some _ _).symm.trans H; with_reducible exact H2_) | with_reducible exact H | (rw [hy251]; exact H) | exact H
 have Ny251 := Aside0.mk hy251
 clear hy251
 obtain rfl := Option.some.inj H
 go_enter Tryd.func48, Tryd.ntmps48
 go_wp2_with (first | ((with_reducible refine gate_dst (N := 1) rfl ?_); refine Kd.R_lit Kd.string _ 9 ?hg (N := 1) ?hd (xs := ([(⟨#[104, 97, 116]⟩ : ByteArray), (⟨#[98, 97, 114]⟩ : ByteArray), (⟨#[118, 101, 99]⟩ : ByteArray), (⟨#[100, 111, 116]⟩ : ByteArray), (⟨#[116, 105, 108, 100, 101]⟩ : ByteArray), (⟨#[99, 104, 101, 99, 107]⟩ : ByteArray)] : List ByteArray)) (inner := [.string (⟨#[104, 97, 116]⟩ : ByteArray), .string (⟨#[98, 97, 114]⟩ : ByteArray), .string (⟨#[118, 101, 99]⟩ : ByteArray), .string (⟨#[100, 111, 116]⟩ : ByteArray), .string (⟨#[116, 105, 108, 100, 101]⟩ : ByteArray), .string (⟨#[99, 104, 101, 99, 107]⟩ : ByteArray)]) (ok := fun _ => True) (okp := fun _ => True) ?hr ?hp (fun _ hk => hk) trivial (Below.refl _ _) (Nat.le_refl _) (by simp) ?_; (case hd => rfl); (case hg => rfl); (case hr => first | (go_simp; done) | (go_simp; rfl)); (case hp => exact (Reps.one (show Kd.M Kd.string _ _ _ (⟨#[104, 97, 116]⟩ : ByteArray) [.string (⟨#[104, 97, 116]⟩ : ByteArray)] from rfl) (Reps.one (show Kd.M Kd.string _ _ _ (⟨#[98, 97, 114]⟩ : ByteArray) [.string (⟨#[98, 97, 114]⟩ : ByteArray)] from rfl) (Reps.one (show Kd.M Kd.string _ _ _ (⟨#[118, 101, 99]⟩ : ByteArray) [.string (⟨#[118, 101, 99]⟩ : ByteArray)] from rfl) (Reps.one (show Kd.M Kd.string _ _ _ (⟨#[100, 111, 116]⟩ : ByteArray) [.string (⟨#[100, 111, 116]⟩ : ByteArray)] from rfl) (Reps.one (show Kd.M Kd.string _ _ _ (⟨#[116, 105, 108, 100, 101]⟩ : ByteArray) [.string (⟨#[116, 105, 108, 100, 101]⟩ : ByteArray)] from rfl) (Reps.one (show Kd.M Kd.string _ _ _ (⟨#[99, 104, 101, 99, 107]⟩ : ByteArray) [.string (⟨#[99, 104, 101, 99, 107]⟩ : ByteArray)] from rfl) (Reps.none _ _)))))))); intro v252 w1 ho2 hb hg_ hnew_; clear hg_ hnew_; (first | rw [← Ny251.out] at ho2 | (simp only [Int.reduceToNat] at ho2; rw [← Ny251.out] at ho2)); have n0_ := Aside0.mk (Kd.R_lower ho2 (below_size (bs0_ HB.out))); have n1_ := Aside0.mk (below_step (bs0_ HB.out) hb); clear HB; have HO253 := n0_; have HB := n1_; clear n0_ n1_; clear hb ho2))
 go_ret
 exact ⟨_, by first | rfl | (simp [errW_none, errW_some] <;> rfl) | (simp [*, errW_none, errW_some] <;> rfl), by (with_reducible repeat (first | apply Kd.R_alloc | apply Kd.R_drewN | apply Kd.R_drew)); exact HO253.out, bs0_ HB.out⟩

end Go.Proofs.YtihchehmkhnhaaaDoor.A
