/- Made for this claim by a program of the session: the Go functions' plain twins and their contracts. Lean checks it. -/
import Derived.Test.YtihchehmkhnhaaaDoorAx0
import Derived.Test.YtihchehmkhnhaaaDoorAq
namespace Go.Proofs.YtihchehmkhnhaaaDoor.A
open Go.RowKit Go.Proofs.YtihchehmkhnhaaaDoorW.PrintWords Go.Proofs.YtihchehmkhnhaaaDoorW.PrintLast Go.Proofs.YtihchehmkhnhaaaDoorW.PrintMore
attribute [local go_sem] max2_int min2_int max_two min_two max_three min_three max_four min_four   -- for this text's walks alone
set_option linter.unusedVariables false
set_option linter.unusedSimpArgs false

/-! ### vinculumref09_left: function 26 -/
mutual
def vinculumref09_left.l0 : Nat → Int → Int → Int → ByteArray → Int → List (S24) → Option (Int)
 | 0, _, _, _, _, _, _ => none
 | k + 1, x1, x5, x215000, x215001, x215002, x215003 => if x5 < (x215003.length : Int) then (if x1 ≥ 0 then (if 0 ≤ x5 then ((vinculumref09_left.f k ((rd_T24 x215003 x5).f0) ((rd_T24 x215003 x5).f1) ((rd_T24 x215003 x5).f2) ((rd_T24 x215003 x5).f3) x1).bind fun t216 => (vinculumref09_left.l0 k t216 (wrap64 (x5 + 1)) x215000 x215001 x215002 x215003)) else (none)) else (some x1)) else (some x1)
def vinculumref09_left.f : Nat → Int → ByteArray → Int → List (S24) → Int → Option (Int)
 | 0, _, _, _, _, _ => none
 | k + 1, a0_0, a0_1, a0_2, l0_3, a1 => vinculumref09_left.l0 k (wrap64 (a1 - 1)) 0 a0_0 a0_1 a0_2 l0_3
end
theorem vinculumref09_left.mono_l : ∀ k, (∀ y0 y1 y2 y3 y4, LeO (vinculumref09_left.f k y0 y1 y2 y3 y4) (vinculumref09_left.f (k + 1) y0 y1 y2 y3 y4)) ∧ (∀ y0 y1 y2 y3 y4 y5, LeO (vinculumref09_left.l0 k y0 y1 y2 y3 y4 y5) (vinculumref09_left.l0 (k + 1) y0 y1 y2 y3 y4 y5))
 | 0 => ⟨fun _ _ _ _ _ r h => by simp [vinculumref09_left.f] at h, fun _ _ _ _ _ _ r h => by simp [vinculumref09_left.l0] at h⟩
 | k + 1 => by
  obtain ⟨ih0, ih1⟩ := vinculumref09_left.mono_l k
  refine ⟨?_, ?_⟩
  ·intro y0 y1 y2 y3 y4
   unfold vinculumref09_left.f
   repeat' first
   | (with_reducible exact ih0 _ _ _ _ _)
   | (with_reducible exact ih1 _ _ _ _ _ _)
   | (with_reducible exact LeO.refl _)
   | (with_reducible exact LeO.none _)
   | (with_reducible refine LeO.ite ?_ ?_)
   | (with_reducible refine LeO.bind ?_ (fun _ => ?_))
   | exact ih0 _ _ _ _ _
   | exact ih1 _ _ _ _ _ _
   | exact LeO.none _
   | refine LeO.ite ?_ ?_
   | refine LeO.bind ?_ (fun _ => ?_)
  ·intro y0 y1 y2 y3 y4 y5
   unfold vinculumref09_left.l0
   repeat' first
   | (with_reducible exact ih0 _ _ _ _ _)
   | (with_reducible exact ih1 _ _ _ _ _ _)
   | (with_reducible exact LeO.refl _)
   | (with_reducible exact LeO.none _)
   | (with_reducible refine LeO.ite ?_ ?_)
   | (with_reducible refine LeO.bind ?_ (fun _ => ?_))
   | exact ih0 _ _ _ _ _
   | exact ih1 _ _ _ _ _ _
   | exact LeO.none _
   | refine LeO.ite ?_ ?_
   | refine LeO.bind ?_ (fun _ => ?_)
theorem vinculumref09_left.mono : ∀ a0 a1 a2 a3 a4 k, LeO (vinculumref09_left.f k a0 a1 a2 a3 a4) (vinculumref09_left.f (k + 1) a0 a1 a2 a3 a4) := by
 intro a0 a1 a2 a3 a4 k
 obtain ⟨ih0, ih1⟩ := vinculumref09_left.mono_l k
 exact ih0 a0 a1 a2 a3 a4
set_option maxHeartbeats 8000000 in
set_option maxRecDepth 100000 in
theorem vinculumref09_left.calls (k : Nat) : ∀ (a0_0 : Int) (a0_1 : ByteArray) (a0_2 : Int) (A0_3 : Option Addr) (c0_3 : Nat) (l0_3 : List (S24)) (a1 : Int) (r : Int) (w : World) (hr0_3 : Kd.C k24 w A0_3 l0_3.length l0_3) (hc0_3 : l0_3.length ≤ c0_3) (h : vinculumref09_left.f k a0_0 a0_1 a0_2 l0_3 a1 = some r),
  Calls Tryd.prog 26 #[.agg #[.int .i64 a0_0, .string a0_1, .int .i64 a0_2, .slice A0_3 l0_3.length c0_3], .int .i64 a1] w fun e w' => e = .returned (.int .i64 r) ∧ Below w.heap.size w w' := by
 induction k using Nat.strongRecOn with
 | _ k ih =>
 intro a0_0 a0_1 a0_2 A0_3 c0_3 l0_3 a1 r w hr0_3 hc0_3 h
 cases k with
 | zero => exact absurd h (by simp [vinculumref09_left.f])
 | succ k =>
 simp only [vinculumref09_left.f] at h
 have hu24 := Tryd.underlying24
 have HR0_3 := Aside0.mk hr0_3
 have HC0_3 := Aside0.mk hc0_3
 clear hr0_3 hc0_3
 have HB := Aside0.mk (Below.refl w.heap.size w)
 have H : (vinculumref09_left.l0 k (wrap64 (a1 - 1)) 0 a0_0 a0_1 a0_2 l0_3) = some r := h
 clear h
 have H' := Aside0.mk H
 clear H
 go_enter Tryd.func26, Tryd.ntmps26
 go_wp2_with (first | ((with_reducible refine gate_dst (N := 2) rfl ?_); refine box_event ?hg (N := 2) ?hd (cs := #[.int .i64 a0_0, .string a0_1, .int .i64 a0_2, .slice A0_3 l0_3.length c0_3]) (t := 24) ?hr ?_; (case hd => rfl); (case hg => rfl); (case hr => first | (go_simp; done) | (go_simp; rfl)); intro gb214 hg w3 hbox hb; have n0_ := Aside0.mk (below_step (bs0_ HB.out) hb); have n1_ := Aside0.mk (hbox); have n2_ := Aside0.mk ((by rw [hg]; exact (below_size (bs0_ HB.out)) : w.heap.size ≤ gb214)); have n3_ := Aside0.mk ((by rw [hg]; exact (below_size (bs0_ HB.out)) : w.heap.size ≤ gb214)); clear HB; have HB := n0_; have BK214 := n1_; have GW214 := n2_; have GE214 := n3_; clear n0_ n1_ n2_ n3_; clear hb hbox hg))
 go_loopg [1, 5] k (fun kq v1 v5 w' => ∃ (x1_1 : Int) (x5_1 : Int), v1 = .int .i64 x1_1 ∧ v5 = .int .i64 x5_1 ∧ Aside0 (vinculumref09_left.l0 kq x1_1 x5_1 a0_0 a0_1 a0_2 l0_3 = some r) ∧ Aside0 (kq ≤ k) ∧ Aside0 (w'.heap[gb214]? = some (.cells #[.int .i64 a0_0, .string a0_1, .int .i64 a0_2, (.slice A0_3 l0_3.length c0_3)] 24 (0, 0))) ∧ Aside0 (Below w.heap.size w w'))
 case atStart => exact ⟨(wrap64 (a1 - 1)), (0), (by first | rfl | (simp; done) | (simp [*]; done)), (by first | rfl | (simp; done) | (simp [*]; done)), H', ⟨Nat.le_refl _⟩, ⟨bk_ BK214.out⟩, ⟨bs1_ HB.out GE214.out⟩⟩
 case round =>
  clear H'; (try clear c2); (try clear p2)
  obtain ⟨x1_1, x5_1, rfl, rfl, HA, HK1, BK214, HB⟩ := hrel
  cases gk with
  | zero => exact absurd HA.out (by simp [vinculumref09_left.l0])
  | succ k1 =>
   have H := HA.out
   clear HA
   simp only [vinculumref09_left.l0] at H
   by_cases c4 : x5_1 < (l0_3.length : Int)
   ·rw [if_pos c4] at H
    have c4b0 : decide (x5_1 < (l0_3.length : Int)) = true := decide_eq_true c4
    clear c4
    by_cases c5 : x1_1 ≥ 0
    ·rw [if_pos c5] at H
     have c5b0 : decide (0 ≤ x1_1) = true := decide_eq_true c5
     clear c5
     by_cases c6 : 0 ≤ x5_1
     ·rw [if_pos c6] at H
      have c6b0 : decide (0 ≤ x5_1) = true := decide_eq_true c6
      clear c6
      replace H := Option.bind_eq_some_iff.mp H
      obtain ⟨t216, A70, H⟩ := H
      replace H : (vinculumref09_left.l0 k1 t216 (wrap64 (x5_1 + 1)) a0_0 a0_1 a0_2 l0_3) = some r := H
      have A7 := Aside0.mk A70
      clear A70
      have H' := Aside0.mk H
      clear H
      have hcz8_0 : wr.cell? ⟨gb214, 0, none⟩ = some (.int .i64 a0_0) := (blk_cell BK214.out 0).trans rfl
      have hcz8_1 : wr.cell? ⟨gb214, 1, none⟩ = some (.string a0_1) := (blk_cell BK214.out 1).trans rfl
      have hcz8_2 : wr.cell? ⟨gb214, 2, none⟩ = some (.int .i64 a0_2) := (blk_cell BK214.out 2).trans rfl
      have hcz8_3 : wr.cell? ⟨gb214, 3, none⟩ = some (.slice A0_3 l0_3.length c0_3) := (blk_cell BK214.out 3).trans rfl
      have hfz8_0 := blk_frozen BK214.out 0
      have hfz8_1 := blk_frozen BK214.out 1
      have hfz8_2 := blk_frozen BK214.out 2
      have hfz8_3 := blk_frozen BK214.out 3
      have p215 : 0 ≤ (x5_1 : Int) := of_decide_eq_true (by first | (with_reducible assumption) | assumption)
      have q215 : x5_1 < (l0_3.length : Int) := of_decide_eq_true (by first | (with_reducible assumption) | assumption)
      obtain ⟨ad215, A215_3, c215_3, e215, hx215_0, hx215_1, hx215_2, hx215_3, hl215_3, hi215_3⟩ := at_T24 HR0_3.out x5_1 p215 q215
      cases e215
      replace hx215_0 := (cl_ HB.out hx215_0).trans hx215_0
      replace hx215_1 := (cl_ HB.out hx215_1).trans hx215_1
      replace hx215_2 := (cl_ HB.out hx215_2).trans hx215_2
      replace hx215_3 := (cl_ HB.out hx215_3).trans hx215_3
      have HR215_3 := Aside0.mk hi215_3
      have HC215_3 := Aside0.mk hl215_3
      clear hi215_3 hl215_3
      replace p215 := eq_true p215
      replace q215 := eq_true q215
      go_wp2_with (first | ((with_reducible refine gate_callee (f := 26) rfl ?_); refine goesL_ (some 25) rfl rfl Tryd.func26 (by kernel_rfl) rfl #[.agg #[.int .i64 ((rd_T24 l0_3 x5_1).f0), .string ((rd_T24 l0_3 x5_1).f1), .int .i64 ((rd_T24 l0_3 x5_1).f2), .slice A215_3 ((rd_T24 l0_3 x5_1).f3).length c215_3], .int .i64 x1_1] rfl (by (try simp only [List.map_toArray, List.map_cons, List.map_nil]); first | done | rfl | (simp only [List.length_drop, List.length_take]; rfl)) ?_; (with_reducible refine (ih k1 (by have := HK1.out; omega) ((rd_T24 l0_3 x5_1).f0) ((rd_T24 l0_3 x5_1).f1) ((rd_T24 l0_3 x5_1).f2) _ _ ((rd_T24 l0_3 x5_1).f3) x1_1 t216 _ ?side1 ?side2 A7.out).mono ?_); (case side1 => exact kc_ HR215_3.out HB.out); (case side2 => exact HC215_3.out); rintro e w9 ⟨rfl, hb⟩; refine ⟨_, rfl, ?_⟩; have n0_ := Aside0.mk (blk_below (g := gb214) (o := .cells #[.int .i64 a0_0, .string a0_1, .int .i64 a0_2, .slice (some ad215) l0_3.length c0_3] 24 (0, 0)) (bk_ BK214.out) hb); have n1_ := Aside0.mk (below_step (bs1_ HB.out GE214.out) hb); clear BK214; clear HB; have BK214 := n0_; have HB := n1_; clear n0_ n1_; (try clear hb); (try clear hb2); (try clear hk); (try clear hi)))
      go_roundg k1
      case measure => have := HK1.out; omega
      case rel => exact ⟨(t216), (wrap64 (x5_1 + 1)), (by first | rfl | (simp; done) | (simp [*]; done)), (by first | rfl | (simp; done) | (simp [*]; done)), H', ⟨by have := HK1.out; omega⟩, ⟨bk_ BK214.out⟩, ⟨bs1_ HB.out GE214.out⟩⟩
     ·rw [if_neg c6] at H
      exact absurd H (by simp)
    ·rw [if_neg c5] at H
     have c5b0 : decide (0 ≤ x1_1) = false := decide_eq_false c5
     clear c5
     obtain rfl := Option.some.inj H
     have hcz10_0 : wr.cell? ⟨gb214, 0, none⟩ = some (.int .i64 a0_0) := (blk_cell BK214.out 0).trans rfl
     have hcz10_1 : wr.cell? ⟨gb214, 1, none⟩ = some (.string a0_1) := (blk_cell BK214.out 1).trans rfl
     have hcz10_2 : wr.cell? ⟨gb214, 2, none⟩ = some (.int .i64 a0_2) := (blk_cell BK214.out 2).trans rfl
     have hcz10_3 : wr.cell? ⟨gb214, 3, none⟩ = some (.slice A0_3 l0_3.length c0_3) := (blk_cell BK214.out 3).trans rfl
     have hfz10_0 := blk_frozen BK214.out 0
     have hfz10_1 := blk_frozen BK214.out 1
     have hfz10_2 := blk_frozen BK214.out 2
     have hfz10_3 := blk_frozen BK214.out 3
     go_wp2
     go_ret
     exact ⟨by first | rfl | (simp [errW_none, errW_some] <;> rfl) | (simp [*, errW_none, errW_some] <;> rfl), bs1_ HB.out GE214.out⟩
   ·rw [if_neg c4] at H
    have c4b0 : decide (x5_1 < (l0_3.length : Int)) = false := decide_eq_false c4
    clear c4
    obtain rfl := Option.some.inj H
    have hcz11_0 : wr.cell? ⟨gb214, 0, none⟩ = some (.int .i64 a0_0) := (blk_cell BK214.out 0).trans rfl
    have hcz11_1 : wr.cell? ⟨gb214, 1, none⟩ = some (.string a0_1) := (blk_cell BK214.out 1).trans rfl
    have hcz11_2 : wr.cell? ⟨gb214, 2, none⟩ = some (.int .i64 a0_2) := (blk_cell BK214.out 2).trans rfl
    have hcz11_3 : wr.cell? ⟨gb214, 3, none⟩ = some (.slice A0_3 l0_3.length c0_3) := (blk_cell BK214.out 3).trans rfl
    have hfz11_0 := blk_frozen BK214.out 0
    have hfz11_1 := blk_frozen BK214.out 1
    have hfz11_2 := blk_frozen BK214.out 2
    have hfz11_3 := blk_frozen BK214.out 3
    go_wp2
    go_ret
    exact ⟨by first | rfl | (simp [errW_none, errW_some] <;> rfl) | (simp [*, errW_none, errW_some] <;> rfl), bs1_ HB.out GE214.out⟩

/-! ### vinculumref09_Few: function 12 -/
def vinculumref09_Few.f (k : Nat) (a0_0 : Int) (a0_1 : ByteArray) (a0_2 : Int) (l0_3 : List (S24)) (a1 : Int) : Option (Bool) := (vinculumref09_left.f k a0_0 a0_1 a0_2 l0_3 a1).bind fun t218 => (some (decide (t218 ≥ 0)))
theorem vinculumref09_Few.mono : ∀ a0 a1 a2 a3 a4 k, LeO (vinculumref09_Few.f k a0 a1 a2 a3 a4) (vinculumref09_Few.f (k + 1) a0 a1 a2 a3 a4) := by
 intro a0 a1 a2 a3 a4 k
 unfold vinculumref09_Few.f
 repeat' first
   | (with_reducible exact vinculumref09_left.mono _ _ _ _ _ _)
   | (with_reducible exact LeO.refl _)
   | (with_reducible exact LeO.none _)
   | (with_reducible refine LeO.ite ?_ ?_)
   | (with_reducible refine LeO.bind ?_ (fun _ => ?_))
   | exact vinculumref09_left.mono _ _ _ _ _ _
   | exact LeO.none _
   | refine LeO.ite ?_ ?_
   | refine LeO.bind ?_ (fun _ => ?_)
set_option maxHeartbeats 8000000 in
set_option maxRecDepth 100000 in
theorem vinculumref09_Few.calls (k : Nat) (a0_0 : Int) (a0_1 : ByteArray) (a0_2 : Int) (A0_3 : Option Addr) (c0_3 : Nat) (l0_3 : List (S24)) (a1 : Int) (r : Bool) (w : World) (hr0_3 : Kd.C k24 w A0_3 l0_3.length l0_3) (hc0_3 : l0_3.length ≤ c0_3) (h : vinculumref09_Few.f k a0_0 a0_1 a0_2 l0_3 a1 = some r) :
  Calls Tryd.prog 12 #[.agg #[.int .i64 a0_0, .string a0_1, .int .i64 a0_2, .slice A0_3 l0_3.length c0_3], .int .i64 a1] w fun e w' => e = .returned (.bool r) ∧ Below w.heap.size w w' := by
 have hu24 := Tryd.underlying24
 have HR0_3 := Aside0.mk hr0_3
 have HC0_3 := Aside0.mk hc0_3
 clear hr0_3 hc0_3
 have HB := Aside0.mk (Below.refl w.heap.size w)
 have H : ((vinculumref09_left.f k a0_0 a0_1 a0_2 l0_3 a1).bind fun t218 => (some (decide (t218 ≥ 0)))) = some r := h
 clear h
 replace H := Option.bind_eq_some_iff.mp H
 obtain ⟨t218, A30, H⟩ := H
 replace H : (some (decide (t218 ≥ 0))) = some r := H
 have A3 := Aside0.mk A30
 clear A30
 obtain rfl := Option.some.inj H
 go_enter Tryd.func12, Tryd.ntmps12
 go_wp2_with (first | ((with_reducible refine gate_dst (N := 2) rfl ?_); refine box_event ?hg (N := 2) ?hd (cs := #[.int .i64 a0_0, .string a0_1, .int .i64 a0_2, .slice A0_3 l0_3.length c0_3]) (t := 24) ?hr ?_; (case hd => rfl); (case hg => rfl); (case hr => first | (go_simp; done) | (go_simp; rfl)); intro gb217 hg w4 hbox hb; have n0_ := Aside0.mk (below_step (bs0_ HB.out) hb); have n1_ := Aside0.mk (hbox); have n2_ := Aside0.mk ((by rw [hg]; exact (below_size (bs0_ HB.out)) : w.heap.size ≤ gb217)); have n3_ := Aside0.mk ((by rw [hg]; exact (below_size (bs0_ HB.out)) : w.heap.size ≤ gb217)); clear HB; have HB := n0_; have BK217 := n1_; have GW217 := n2_; have GE217 := n3_; clear n0_ n1_ n2_ n3_; clear hb hbox hg; have hcz5_0 : w4.cell? ⟨gb217, 0, none⟩ = some (.int .i64 a0_0) := (blk_cell BK217.out 0).trans rfl; have hcz5_1 : w4.cell? ⟨gb217, 1, none⟩ = some (.string a0_1) := (blk_cell BK217.out 1).trans rfl; have hcz5_2 : w4.cell? ⟨gb217, 2, none⟩ = some (.int .i64 a0_2) := (blk_cell BK217.out 2).trans rfl; have hcz5_3 : w4.cell? ⟨gb217, 3, none⟩ = some (.slice A0_3 l0_3.length c0_3) := (blk_cell BK217.out 3).trans rfl; have hfz5_0 := blk_frozen BK217.out 0; have hfz5_1 := blk_frozen BK217.out 1; have hfz5_2 := blk_frozen BK217.out 2; have hfz5_3 := blk_frozen BK217.out 3) | ((with_reducible refine gate_callee (f := 26) rfl ?_); refine goesL_ (some 7) rfl rfl Tryd.func26 (by kernel_rfl) rfl #[.agg #[.int .i64 a0_0, .string a0_1, .int .i64 a0_2, .slice A0_3 l0_3.length c0_3], .int .i64 a1] rfl (by (try simp only [List.map_toArray, List.map_cons, List.map_nil]); first | done | rfl | (simp only [List.length_drop, List.length_take]; rfl)) ?_; (with_reducible refine (vinculumref09_left.calls k a0_0 a0_1 a0_2 _ _ l0_3 a1 t218 _ ?side1 ?side2 A3.out).mono ?_); (case side1 => exact kc_ HR0_3.out HB.out); (case side2 => exact HC0_3.out); rintro e w6 ⟨rfl, hb⟩; refine ⟨_, rfl, ?_⟩; have n0_ := Aside0.mk (blk_below (g := gb217) (o := .cells #[.int .i64 a0_0, .string a0_1, .int .i64 a0_2, .slice A0_3 l0_3.length c0_3] 24 (0, 0)) (bk_ BK217.out) hb); have n1_ := Aside0.mk (below_step (bs1_ HB.out GE217.out) hb); clear BK217; clear HB; have BK217 := n0_; have HB := n1_; clear n0_ n1_; (try clear hb); (try clear hb2); (try clear hk); (try clear hi)))
 go_ret
 exact ⟨by first | rfl | (simp [errW_none, errW_some] <;> rfl) | (simp [*, errW_none, errW_some] <;> rfl), bs1_ HB.out GE217.out⟩

/-! ### vinculumref09_Count: function 23 -/
mutual
def vinculumref09_Count.l0 : Nat → Int → Int → Int → ByteArray → Int → List (S24) → Option (Int)
 | 0, _, _, _, _, _, _ => none
 | k + 1, x3, x4, x220000, x220001, x220002, x220003 => if x4 < (x220003.length : Int) then (if 0 ≤ x4 then ((vinculumref09_Count.f k ((rd_T24 x220003 x4).f0) ((rd_T24 x220003 x4).f1) ((rd_T24 x220003 x4).f2) ((rd_T24 x220003 x4).f3)).bind fun t221 => (vinculumref09_Count.l0 k (wrap64 (x3 + t221)) (wrap64 (x4 + 1)) x220000 x220001 x220002 x220003)) else (none)) else (some x3)
def vinculumref09_Count.f : Nat → Int → ByteArray → Int → List (S24) → Option (Int)
 | 0, _, _, _, _ => none
 | k + 1, a0_0, a0_1, a0_2, l0_3 => vinculumref09_Count.l0 k 1 0 a0_0 a0_1 a0_2 l0_3
end
theorem vinculumref09_Count.mono_l : ∀ k, (∀ y0 y1 y2 y3, LeO (vinculumref09_Count.f k y0 y1 y2 y3) (vinculumref09_Count.f (k + 1) y0 y1 y2 y3)) ∧ (∀ y0 y1 y2 y3 y4 y5, LeO (vinculumref09_Count.l0 k y0 y1 y2 y3 y4 y5) (vinculumref09_Count.l0 (k + 1) y0 y1 y2 y3 y4 y5))
 | 0 => ⟨fun _ _ _ _ r h => by simp [vinculumref09_Count.f] at h, fun _ _ _ _ _ _ r h => by simp [vinculumref09_Count.l0] at h⟩
 | k + 1 => by
  obtain ⟨ih0, ih1⟩ := vinculumref09_Count.mono_l k
  refine ⟨?_, ?_⟩
  ·intro y0 y1 y2 y3
   unfold vinculumref09_Count.f
   repeat' first
   | (with_reducible exact ih0 _ _ _ _)
   | (with_reducible exact ih1 _ _ _ _ _ _)
   | (with_reducible exact LeO.refl _)
   | (with_reducible exact LeO.none _)
   | (with_reducible refine LeO.ite ?_ ?_)
   | (with_reducible refine LeO.bind ?_ (fun _ => ?_))
   | exact ih0 _ _ _ _
   | exact ih1 _ _ _ _ _ _
   | exact LeO.none _
   | refine LeO.ite ?_ ?_
   | refine LeO.bind ?_ (fun _ => ?_)
  ·intro y0 y1 y2 y3 y4 y5
   unfold vinculumref09_Count.l0
   repeat' first
   | (with_reducible exact ih0 _ _ _ _)
   | (with_reducible exact ih1 _ _ _ _ _ _)
   | (with_reducible exact LeO.refl _)
   | (with_reducible exact LeO.none _)
   | (with_reducible refine LeO.ite ?_ ?_)
   | (with_reducible refine LeO.bind ?_ (fun _ => ?_))
   | exact ih0 _ _ _ _
   | exact ih1 _ _ _ _ _ _
   | exact LeO.none _
   | refine LeO.ite ?_ ?_
   | refine LeO.bind ?_ (fun _ => ?_)
theorem vinculumref09_Count.mono : ∀ a0 a1 a2 a3 k, LeO (vinculumref09_Count.f k a0 a1 a2 a3) (vinculumref09_Count.f (k + 1) a0 a1 a2 a3) := by
 intro a0 a1 a2 a3 k
 obtain ⟨ih0, ih1⟩ := vinculumref09_Count.mono_l k
 exact ih0 a0 a1 a2 a3
set_option maxHeartbeats 8000000 in
set_option maxRecDepth 100000 in
theorem vinculumref09_Count.calls (k : Nat) : ∀ (a0_0 : Int) (a0_1 : ByteArray) (a0_2 : Int) (A0_3 : Option Addr) (c0_3 : Nat) (l0_3 : List (S24)) (r : Int) (w : World) (hr0_3 : Kd.C k24 w A0_3 l0_3.length l0_3) (hc0_3 : l0_3.length ≤ c0_3) (h : vinculumref09_Count.f k a0_0 a0_1 a0_2 l0_3 = some r),
  Calls Tryd.prog 23 #[.agg #[.int .i64 a0_0, .string a0_1, .int .i64 a0_2, .slice A0_3 l0_3.length c0_3]] w fun e w' => e = .returned (.int .i64 r) ∧ Below w.heap.size w w' := by
 induction k using Nat.strongRecOn with
 | _ k ih =>
 intro a0_0 a0_1 a0_2 A0_3 c0_3 l0_3 r w hr0_3 hc0_3 h
 cases k with
 | zero => exact absurd h (by simp [vinculumref09_Count.f])
 | succ k =>
 simp only [vinculumref09_Count.f] at h
 have hu24 := Tryd.underlying24
 have HR0_3 := Aside0.mk hr0_3
 have HC0_3 := Aside0.mk hc0_3
 clear hr0_3 hc0_3
 have HB := Aside0.mk (Below.refl w.heap.size w)
 have H : (vinculumref09_Count.l0 k 1 0 a0_0 a0_1 a0_2 l0_3) = some r := h
 clear h
 have H' := Aside0.mk H
 clear H
 go_enter Tryd.func23, Tryd.ntmps23
 go_wp2_with (first | ((with_reducible refine gate_dst (N := 1) rfl ?_); refine box_event ?hg (N := 1) ?hd (cs := #[.int .i64 a0_0, .string a0_1, .int .i64 a0_2, .slice A0_3 l0_3.length c0_3]) (t := 24) ?hr ?_; (case hd => rfl); (case hg => rfl); (case hr => first | (go_simp; done) | (go_simp; rfl)); intro gb219 hg w2 hbox hb; have n0_ := Aside0.mk (below_step (bs0_ HB.out) hb); have n1_ := Aside0.mk (hbox); have n2_ := Aside0.mk ((by rw [hg]; exact (below_size (bs0_ HB.out)) : w.heap.size ≤ gb219)); have n3_ := Aside0.mk ((by rw [hg]; exact (below_size (bs0_ HB.out)) : w.heap.size ≤ gb219)); clear HB; have HB := n0_; have BK219 := n1_; have GW219 := n2_; have GE219 := n3_; clear n0_ n1_ n2_ n3_; clear hb hbox hg))
 go_loopg [3, 4] k (fun kq v3 v4 w' => ∃ (x3_1 : Int) (x4_1 : Int), v3 = .int .i64 x3_1 ∧ v4 = .int .i64 x4_1 ∧ Aside0 (vinculumref09_Count.l0 kq x3_1 x4_1 a0_0 a0_1 a0_2 l0_3 = some r) ∧ Aside0 (kq ≤ k) ∧ Aside0 (w'.heap[gb219]? = some (.cells #[.int .i64 a0_0, .string a0_1, .int .i64 a0_2, (.slice A0_3 l0_3.length c0_3)] 24 (0, 0))) ∧ Aside0 (Below w.heap.size w w'))
 case atStart => exact ⟨(1), (0), (by first | rfl | (simp; done) | (simp [*]; done)), (by first | rfl | (simp; done) | (simp [*]; done)), H', ⟨Nat.le_refl _⟩, ⟨bk_ BK219.out⟩, ⟨bs1_ HB.out GE219.out⟩⟩
 case round =>
  clear H'; (try clear c2); (try clear p2)
  obtain ⟨x3_1, x4_1, rfl, rfl, HA, HK1, BK219, HB⟩ := hrel
  cases gk with
  | zero => exact absurd HA.out (by simp [vinculumref09_Count.l0])
  | succ k1 =>
   have H := HA.out
   clear HA
   simp only [vinculumref09_Count.l0] at H
   by_cases c3 : x4_1 < (l0_3.length : Int)
   ·rw [if_pos c3] at H
    have c3b0 : decide (x4_1 < (l0_3.length : Int)) = true := decide_eq_true c3
    clear c3
    by_cases c4 : 0 ≤ x4_1
    ·rw [if_pos c4] at H
     have c4b0 : decide (0 ≤ x4_1) = true := decide_eq_true c4
     clear c4
     replace H := Option.bind_eq_some_iff.mp H
     obtain ⟨t221, A50, H⟩ := H
     replace H : (vinculumref09_Count.l0 k1 (wrap64 (x3_1 + t221)) (wrap64 (x4_1 + 1)) a0_0 a0_1 a0_2 l0_3) = some r := H
     have A5 := Aside0.mk A50
     clear A50
     have H' := Aside0.mk H
     clear H
     have hcz6_0 : wr.cell? ⟨gb219, 0, none⟩ = some (.int .i64 a0_0) := (blk_cell BK219.out 0).trans rfl
     have hcz6_1 : wr.cell? ⟨gb219, 1, none⟩ = some (.string a0_1) := (blk_cell BK219.out 1).trans rfl
     have hcz6_2 : wr.cell? ⟨gb219, 2, none⟩ = some (.int .i64 a0_2) := (blk_cell BK219.out 2).trans rfl
     have hcz6_3 : wr.cell? ⟨gb219, 3, none⟩ = some (.slice A0_3 l0_3.length c0_3) := (blk_cell BK219.out 3).trans rfl
     have hfz6_0 := blk_frozen BK219.out 0
     have hfz6_1 := blk_frozen BK219.out 1
     have hfz6_2 := blk_frozen BK219.out 2
     have hfz6_3 := blk_frozen BK219.out 3
     have p220 : 0 ≤ (x4_1 : Int) := of_decide_eq_true (by first | (with_reducible assumption) | assumption)
     have q220 : x4_1 < (l0_3.length : Int) := of_decide_eq_true (by first | (with_reducible assumption) | assumption)
     obtain ⟨ad220, A220_3, c220_3, e220, hx220_0, hx220_1, hx220_2, hx220_3, hl220_3, hi220_3⟩ := at_T24 HR0_3.out x4_1 p220 q220
     cases e220
     replace hx220_0 := (cl_ HB.out hx220_0).trans hx220_0
     replace hx220_1 := (cl_ HB.out hx220_1).trans hx220_1
     replace hx220_2 := (cl_ HB.out hx220_2).trans hx220_2
     replace hx220_3 := (cl_ HB.out hx220_3).trans hx220_3
     have HR220_3 := Aside0.mk hi220_3
     have HC220_3 := Aside0.mk hl220_3
     clear hi220_3 hl220_3
     replace p220 := eq_true p220
     replace q220 := eq_true q220
     go_wp2_with (first | ((with_reducible refine gate_callee (f := 23) rfl ?_); refine goesL_ (some 18) rfl rfl Tryd.func23 (by kernel_rfl) rfl #[.agg #[.int .i64 ((rd_T24 l0_3 x4_1).f0), .string ((rd_T24 l0_3 x4_1).f1), .int .i64 ((rd_T24 l0_3 x4_1).f2), .slice A220_3 ((rd_T24 l0_3 x4_1).f3).length c220_3]] rfl (by (try simp only [List.map_toArray, List.map_cons, List.map_nil]); first | done | rfl | (simp only [List.length_drop, List.length_take]; rfl)) ?_; (with_reducible refine (ih k1 (by have := HK1.out; omega) ((rd_T24 l0_3 x4_1).f0) ((rd_T24 l0_3 x4_1).f1) ((rd_T24 l0_3 x4_1).f2) _ _ ((rd_T24 l0_3 x4_1).f3) t221 _ ?side1 ?side2 A5.out).mono ?_); (case side1 => exact kc_ HR220_3.out HB.out); (case side2 => exact HC220_3.out); rintro e w7 ⟨rfl, hb⟩; refine ⟨_, rfl, ?_⟩; have n0_ := Aside0.mk (blk_below (g := gb219) (o := .cells #[.int .i64 a0_0, .string a0_1, .int .i64 a0_2, .slice (some ad220) l0_3.length c0_3] 24 (0, 0)) (bk_ BK219.out) hb); have n1_ := Aside0.mk (below_step (bs1_ HB.out GE219.out) hb); clear BK219; clear HB; have BK219 := n0_; have HB := n1_; clear n0_ n1_; (try clear hb); (try clear hb2); (try clear hk); (try clear hi)))
     go_roundg k1
     case measure => have := HK1.out; omega
     case rel => exact ⟨(wrap64 (x3_1 + t221)), (wrap64 (x4_1 + 1)), (by first | rfl | (simp; done) | (simp [*]; done)), (by first | rfl | (simp; done) | (simp [*]; done)), H', ⟨by have := HK1.out; omega⟩, ⟨bk_ BK219.out⟩, ⟨bs1_ HB.out GE219.out⟩⟩
    ·rw [if_neg c4] at H
     exact absurd H (by simp)
   ·rw [if_neg c3] at H
    have c3b0 : decide (x4_1 < (l0_3.length : Int)) = false := decide_eq_false c3
    clear c3
    obtain rfl := Option.some.inj H
    have hcz8_0 : wr.cell? ⟨gb219, 0, none⟩ = some (.int .i64 a0_0) := (blk_cell BK219.out 0).trans rfl
    have hcz8_1 : wr.cell? ⟨gb219, 1, none⟩ = some (.string a0_1) := (blk_cell BK219.out 1).trans rfl
    have hcz8_2 : wr.cell? ⟨gb219, 2, none⟩ = some (.int .i64 a0_2) := (blk_cell BK219.out 2).trans rfl
    have hcz8_3 : wr.cell? ⟨gb219, 3, none⟩ = some (.slice A0_3 l0_3.length c0_3) := (blk_cell BK219.out 3).trans rfl
    have hfz8_0 := blk_frozen BK219.out 0
    have hfz8_1 := blk_frozen BK219.out 1
    have hfz8_2 := blk_frozen BK219.out 2
    have hfz8_3 := blk_frozen BK219.out 3
    go_wp2
    go_ret
    exact ⟨by first | rfl | (simp [errW_none, errW_some] <;> rfl) | (simp [*, errW_none, errW_some] <;> rfl), bs1_ HB.out GE219.out⟩

/-! ### vinculumref16_Weight: function 15 -/
mutual
def vinculumref16_Weight.l0 : Nat → List (S37) → Int → Int → Option (Int × Int)
 | 0, _, _, _ => none
 | k + 1, x0, x4, x5 => if x5 < (x0.length : Int) then (if 0 ≤ x5 then (if ((rd_T37 x0 x5).f0) = 1 then (vinculumref16_Weight.j1 k x0 x4 x5 ((rd_T37 x0 x5).f0) (((rd_T37 x0 x5).f0) == 1)) else (vinculumref16_Weight.j1 k x0 x4 x5 ((rd_T37 x0 x5).f0) (((rd_T37 x0 x5).f0) == 2))) else (none)) else (some (x4, 0))
def vinculumref16_Weight.j1 : Nat → List (S37) → Int → Int → Int → Bool → Option (Int × Int)
 | 0, _, _, _, _, _ => none
 | k + 1, x0, x4, x5, x17, x18 => if x18 = true then (vinculumref16_Weight.l1 k x0 x4 x5 0) else (if x17 = 5 then (vinculumref16_Weight.l0 k x0 (wrap64 (x4 + 1)) (wrap64 (x5 + 1))) else (some (0, 1)))
def vinculumref16_Weight.l1 : Nat → List (S37) → Int → Int → Int → Option (Int × Int)
 | 0, _, _, _, _ => none
 | k + 1, x0, x4, x5, x6 => if 0 ≤ x5 then (if x5 < (x0.length : Int) then (if x6 < (((rd_T37 x0 x5).f4).length : Int) then (if 0 ≤ x6 then ((vinculumref09_Count.f k ((rd_T24 ((rd_T37 x0 x5).f4) x6).f0) ((rd_T24 ((rd_T37 x0 x5).f4) x6).f1) ((rd_T24 ((rd_T37 x0 x5).f4) x6).f2) ((rd_T24 ((rd_T37 x0 x5).f4) x6).f3)).bind fun t226 => (vinculumref16_Weight.l1 k x0 (wrap64 (x4 + t226)) x5 (wrap64 (x6 + 1)))) else (none)) else (vinculumref16_Weight.l0 k x0 x4 (wrap64 (x5 + 1)))) else (none)) else (none)
end
def vinculumref16_Weight.f (k : Nat) (l0 : List (S37)) : Option (Int × Int) := vinculumref16_Weight.l0 k l0 0 0
theorem vinculumref16_Weight.mono_l : ∀ k, (∀ y0 y1 y2, LeO (vinculumref16_Weight.l0 k y0 y1 y2) (vinculumref16_Weight.l0 (k + 1) y0 y1 y2)) ∧ (∀ y0 y1 y2 y3 y4, LeO (vinculumref16_Weight.j1 k y0 y1 y2 y3 y4) (vinculumref16_Weight.j1 (k + 1) y0 y1 y2 y3 y4)) ∧ (∀ y0 y1 y2 y3, LeO (vinculumref16_Weight.l1 k y0 y1 y2 y3) (vinculumref16_Weight.l1 (k + 1) y0 y1 y2 y3))
 | 0 => ⟨fun _ _ _ r h => by simp [vinculumref16_Weight.l0] at h, fun _ _ _ _ _ r h => by simp [vinculumref16_Weight.j1] at h, fun _ _ _ _ r h => by simp [vinculumref16_Weight.l1] at h⟩
 | k + 1 => by
  obtain ⟨ih0, ih1, ih2⟩ := vinculumref16_Weight.mono_l k
  refine ⟨?_, ?_, ?_⟩
  ·intro y0 y1 y2
   unfold vinculumref16_Weight.l0
   repeat' first
   | (with_reducible exact ih0 _ _ _)
   | (with_reducible exact ih1 _ _ _ _ _)
   | (with_reducible exact ih2 _ _ _ _)
   | (with_reducible exact vinculumref09_Count.mono _ _ _ _ _)
   | (with_reducible exact LeO.refl _)
   | (with_reducible exact LeO.none _)
   | (with_reducible refine LeO.ite ?_ ?_)
   | (with_reducible refine LeO.bind ?_ (fun _ => ?_))
   | exact ih0 _ _ _
   | exact ih1 _ _ _ _ _
   | exact ih2 _ _ _ _
   | exact vinculumref09_Count.mono _ _ _ _ _
   | exact LeO.none _
   | refine LeO.ite ?_ ?_
   | refine LeO.bind ?_ (fun _ => ?_)
  ·intro y0 y1 y2 y3 y4
   unfold vinculumref16_Weight.j1
   repeat' first
   | (with_reducible exact ih0 _ _ _)
   | (with_reducible exact ih1 _ _ _ _ _)
   | (with_reducible exact ih2 _ _ _ _)
   | (with_reducible exact vinculumref09_Count.mono _ _ _ _ _)
   | (with_reducible exact LeO.refl _)
   | (with_reducible exact LeO.none _)
   | (with_reducible refine LeO.ite ?_ ?_)
   | (with_reducible refine LeO.bind ?_ (fun _ => ?_))
   | exact ih0 _ _ _
   | exact ih1 _ _ _ _ _
   | exact ih2 _ _ _ _
   | exact vinculumref09_Count.mono _ _ _ _ _
   | exact LeO.none _
   | refine LeO.ite ?_ ?_
   | refine LeO.bind ?_ (fun _ => ?_)
  ·intro y0 y1 y2 y3
   unfold vinculumref16_Weight.l1
   repeat' first
   | (with_reducible exact ih0 _ _ _)
   | (with_reducible exact ih1 _ _ _ _ _)
   | (with_reducible exact ih2 _ _ _ _)
   | (with_reducible exact vinculumref09_Count.mono _ _ _ _ _)
   | (with_reducible exact LeO.refl _)
   | (with_reducible exact LeO.none _)
   | (with_reducible refine LeO.ite ?_ ?_)
   | (with_reducible refine LeO.bind ?_ (fun _ => ?_))
   | exact ih0 _ _ _
   | exact ih1 _ _ _ _ _
   | exact ih2 _ _ _ _
   | exact vinculumref09_Count.mono _ _ _ _ _
   | exact LeO.none _
   | refine LeO.ite ?_ ?_
   | refine LeO.bind ?_ (fun _ => ?_)
theorem vinculumref16_Weight.mono : ∀ a0 k, LeO (vinculumref16_Weight.f k a0) (vinculumref16_Weight.f (k + 1) a0) := by
 intro a0 k
 obtain ⟨ih0, ih1, ih2⟩ := vinculumref16_Weight.mono_l k
 unfold vinculumref16_Weight.f
 repeat' first
   | (with_reducible exact ih0 _ _ _)
   | (with_reducible exact ih1 _ _ _ _ _)
   | (with_reducible exact ih2 _ _ _ _)
   | (with_reducible exact vinculumref09_Count.mono _ _ _ _ _)
   | (with_reducible exact LeO.refl _)
   | (with_reducible exact LeO.none _)
   | (with_reducible refine LeO.ite ?_ ?_)
   | (with_reducible refine LeO.bind ?_ (fun _ => ?_))
   | exact ih0 _ _ _
   | exact ih1 _ _ _ _ _
   | exact ih2 _ _ _ _
   | exact vinculumref09_Count.mono _ _ _ _ _
   | exact LeO.none _
   | refine LeO.ite ?_ ?_
   | refine LeO.bind ?_ (fun _ => ?_)
set_option maxHeartbeats 8000000 in
set_option maxRecDepth 100000 in
theorem vinculumref16_Weight.calls (k : Nat) (A0 : Option Addr) (c0 : Nat) (l0 : List (S37)) (r1 : Int) (r2 : Int) (w : World) (hr0 : Kd.C k37 w A0 l0.length l0) (hc0 : l0.length ≤ c0) (h : vinculumref16_Weight.f k l0 = some (r1, r2)) :
  Calls Tryd.prog 15 #[.slice A0 l0.length c0] w fun e w' => e = .returned (.tuple #[.int .i64 r1, .int .i64 r2]) ∧ Below w.heap.size w w' := by
 have hu24 := Tryd.underlying24
 have HR0 := Aside0.mk hr0
 have HC0 := Aside0.mk hc0
 clear hr0 hc0
 have HB := Aside0.mk (Below.refl w.heap.size w)
 have H : (vinculumref16_Weight.l0 k l0 0 0) = some (r1, r2) := h
 clear h
 have H' := Aside0.mk H
 clear H
 go_enter Tryd.func15, Tryd.ntmps15
 go_wp2
 go_loopg [4, 5] k (fun kq v4 v5 w' => ∃ (x4_1 : Int) (x5_1 : Int), v4 = .int .i64 x4_1 ∧ v5 = .int .i64 x5_1 ∧ Aside0 (vinculumref16_Weight.l0 kq l0 x4_1 x5_1 = some (r1, r2)) ∧ Aside0 (kq ≤ k) ∧ Aside0 (Below w.heap.size w w'))
 case atStart => exact ⟨(0), (0), (by first | rfl | (simp; done) | (simp [*]; done)), (by first | rfl | (simp; done) | (simp [*]; done)), H', ⟨Nat.le_refl _⟩, ⟨bs0_ HB.out⟩⟩
 case round =>
  clear H'; (try clear c1)
  obtain ⟨x4_1, x5_1, rfl, rfl, HA, HK1, HB⟩ := hrel
  cases gk with
  | zero => exact absurd HA.out (by simp [vinculumref16_Weight.l0])
  | succ k1 =>
   have H := HA.out
   clear HA
   simp only [vinculumref16_Weight.l0] at H
   by_cases c2 : x5_1 < (l0.length : Int)
   ·rw [if_pos c2] at H
    have c2b0 : decide (x5_1 < (l0.length : Int)) = true := decide_eq_true c2
    clear c2
    by_cases c3 : 0 ≤ x5_1
    ·rw [if_pos c3] at H
     have c3b0 : decide (0 ≤ x5_1) = true := decide_eq_true c3
     clear c3
     have HC4 := Aside0.mk H
     clear H
     have p222 : 0 ≤ (x5_1 : Int) := of_decide_eq_true (by first | (with_reducible assumption) | assumption)
     have q222 : x5_1 < (l0.length : Int) := of_decide_eq_true (by first | (with_reducible assumption) | assumption)
     obtain ⟨ad222, A222_1, c222_1, A222_4, c222_4, e222, hx222_0, hx222_1, hx222_2, hx222_3, hx222_4, hx222_5, hx222_6, hx222_7, hl222_1, hi222_1, hl222_4, hi222_4⟩ := at_T37 HR0.out x5_1 p222 q222
     cases e222
     replace hx222_0 := (cl_ HB.out hx222_0).trans hx222_0
     replace hx222_1 := (cl_ HB.out hx222_1).trans hx222_1
     replace hx222_2 := (cl_ HB.out hx222_2).trans hx222_2
     replace hx222_3 := (cl_ HB.out hx222_3).trans hx222_3
     replace hx222_4 := (cl_ HB.out hx222_4).trans hx222_4
     replace hx222_5 := (cl_ HB.out hx222_5).trans hx222_5
     replace hx222_6 := (cl_ HB.out hx222_6).trans hx222_6
     replace hx222_7 := (cl_ HB.out hx222_7).trans hx222_7
     have HR222_1 := Aside0.mk hi222_1
     have HC222_1 := Aside0.mk hl222_1
     clear hi222_1 hl222_1
     have HR222_4 := Aside0.mk hi222_4
     have HC222_4 := Aside0.mk hl222_4
     clear hi222_4 hl222_4
     replace p222 := eq_true p222
     replace q222 := eq_true q222
     go_upto_if 18 with (fail)
     go_cut [18] (fun v18 wc => ∃ (kq : Nat) (x18_3 : Bool), v18 = .bool x18_3 ∧ Aside0 (vinculumref16_Weight.j1 kq l0 x4_1 x5_1 ((rd_T37 l0 x5_1).f0) x18_3 = some (r1, r2)) ∧ Aside0 (kq ≤ k1) ∧ Aside0 (Below w.heap.size w wc))
     case first =>
      have H := HC4.out
      clear HC4
      by_cases c5 : ((rd_T37 l0 x5_1).f0) = 1
      ·rw [if_pos c5] at H
       have c5b0 : (((rd_T37 l0 x5_1).f0) == 1) = true := beq_iff_eq.mpr c5
       have c5b1 : (((rd_T37 l0 x5_1).f0) != 1) = false := bne_eq_false_iff_eq.mpr c5
       clear c5
       (first | rw [c5b0] | (simp only [i64_w, i32_w]; rw [c5b0]) | skip)
       have H' := Aside0.mk H
       clear H
       go_wp2
       go_meet
       case rel => exact ⟨_, ((((rd_T37 l0 x5_1).f0) == 1)), (by first | rfl | (simp; done) | (simp [*]; done)), H', ⟨by have := HK1.out; first | omega | exact Nat.le_refl _⟩, ⟨bs0_ HB.out⟩⟩
      ·rw [if_neg c5] at H
       have c5b0 : (((rd_T37 l0 x5_1).f0) == 1) = false := beq_eq_false_iff_ne.mpr c5
       have c5b1 : (((rd_T37 l0 x5_1).f0) != 1) = true := bne_iff_ne.mpr c5
       (first | rw [c5b0] | (simp only [i64_w, i32_w]; rw [c5b0]) | skip)
       have H' := Aside0.mk H
       clear H
       go_wp2
       go_meet
       case rel => exact ⟨_, ((((rd_T37 l0 x5_1).f0) == 2)), (by first | rfl | (simp; done) | (simp [*]; done)), H', ⟨by have := HK1.out; first | omega | exact Nat.le_refl _⟩, ⟨bs0_ HB.out⟩⟩
     case rest =>
      clear HC4; (try clear c1); (try clear c2); (try clear c2b0); (try clear p2); (try clear q2); (try clear hx2); (try clear c3); (try clear c3b0); (try clear c5); (try clear c5b0); (try clear c5b1); (try clear hx222_0); (try clear hx222_1); (try clear hx222_2); (try clear hx222_3); (try clear hx222_4); (try clear hx222_5); (try clear hx222_6); (try clear hx222_7); (try clear p222); (try clear q222)
      obtain ⟨kq, x18_3, rfl, HA, HJ3, HB⟩ := hcut
      cases kq with
      | zero => exact absurd HA.out (by simp [vinculumref16_Weight.j1])
      | succ kj3 =>
       have H := HA.out
       clear HA
       simp only [vinculumref16_Weight.j1] at H
       by_cases c6 : x18_3 = true
       ·subst c6
        have H1 : (vinculumref16_Weight.l1 kj3 l0 x4_1 x5_1 0) = some (r1, r2) := by rw [if_pos rfl] at H; exact H
        clear H
        have H := H1
        clear H1
        have H' := Aside0.mk H
        clear H
        go_wp2
        go_loopg [4, 6] kj3 (fun kq v4 v6 w' => ∃ (x4_3 : Int) (x6_3 : Int), v4 = .int .i64 x4_3 ∧ v6 = .int .i64 x6_3 ∧ Aside0 (vinculumref16_Weight.l1 kq l0 x4_3 x5_1 x6_3 = some (r1, r2)) ∧ Aside0 (kq ≤ kj3) ∧ Aside0 (Below w.heap.size w w'))
        case atStart => exact ⟨(x4_1), (0), (by first | rfl | (simp; done) | (simp [*]; done)), (by first | rfl | (simp; done) | (simp [*]; done)), H', ⟨Nat.le_refl _⟩, ⟨bs0_ HB.out⟩⟩
        case round =>
         clear H'; (try clear c1); (try clear c2); (try clear c2b0); (try clear p2); (try clear q2); (try clear hx2); (try clear c3); (try clear c3b0); (try clear c5); (try clear c5b0); (try clear c5b1); (try clear c6); (try clear hx222_0); (try clear hx222_1); (try clear hx222_2); (try clear hx222_3); (try clear hx222_4); (try clear hx222_5); (try clear hx222_6); (try clear hx222_7); (try clear p2); (try clear p222); (try clear q2); (try clear q222)
         obtain ⟨x4_3, x6_3, rfl, rfl, HA, HK3, HB⟩ := hrel
         cases gk with
         | zero => exact absurd HA.out (by simp [vinculumref16_Weight.l1])
         | succ k3 =>
          have H := HA.out
          clear HA
          simp only [vinculumref16_Weight.l1] at H
          by_cases c7 : 0 ≤ x5_1
          ·rw [if_pos c7] at H
           have c7b0 : decide (0 ≤ x5_1) = true := decide_eq_true c7
           clear c7
           by_cases c8 : x5_1 < (l0.length : Int)
           ·rw [if_pos c8] at H
            have c8b0 : decide (x5_1 < (l0.length : Int)) = true := decide_eq_true c8
            clear c8
            by_cases c9 : x6_3 < (((rd_T37 l0 x5_1).f4).length : Int)
            ·rw [if_pos c9] at H
             have c9b0 : decide (x6_3 < (((rd_T37 l0 x5_1).f4).length : Int)) = true := decide_eq_true c9
             clear c9
             by_cases c10 : 0 ≤ x6_3
             ·rw [if_pos c10] at H
              have c10b0 : decide (0 ≤ x6_3) = true := decide_eq_true c10
              clear c10
              replace H := Option.bind_eq_some_iff.mp H
              obtain ⟨t226, A110, H⟩ := H
              replace H : (vinculumref16_Weight.l1 k3 l0 (wrap64 (x4_3 + t226)) x5_1 (wrap64 (x6_3 + 1))) = some (r1, r2) := H
              have A11 := Aside0.mk A110
              clear A110
              have H' := Aside0.mk H
              clear H
              have p223 : 0 ≤ (x5_1 : Int) := of_decide_eq_true (by first | (with_reducible assumption) | assumption)
              have q223 : x5_1 < (l0.length : Int) := of_decide_eq_true (by first | (with_reducible assumption) | assumption)
              obtain ⟨ad223, A223_1, c223_1, A223_4, c223_4, e223, hx223_0, hx223_1, hx223_2, hx223_3, hx223_4, hx223_5, hx223_6, hx223_7, hl223_1, hi223_1, hl223_4, hi223_4⟩ := at_T37 HR0.out x5_1 p223 q223
              obtain rfl : ad222 = ad223 := (by injection e223)
              replace hx223_0 := (cl_ HB.out hx223_0).trans hx223_0
              replace hx223_1 := (cl_ HB.out hx223_1).trans hx223_1
              replace hx223_2 := (cl_ HB.out hx223_2).trans hx223_2
              replace hx223_3 := (cl_ HB.out hx223_3).trans hx223_3
              replace hx223_4 := (cl_ HB.out hx223_4).trans hx223_4
              replace hx223_5 := (cl_ HB.out hx223_5).trans hx223_5
              replace hx223_6 := (cl_ HB.out hx223_6).trans hx223_6
              replace hx223_7 := (cl_ HB.out hx223_7).trans hx223_7
              have HR223_1 := Aside0.mk hi223_1
              have HC223_1 := Aside0.mk hl223_1
              clear hi223_1 hl223_1
              have HR223_4 := Aside0.mk hi223_4
              have HC223_4 := Aside0.mk hl223_4
              clear hi223_4 hl223_4
              replace p223 := eq_true p223
              replace q223 := eq_true q223
              have p224 : 0 ≤ (x5_1 : Int) := of_decide_eq_true (by first | (with_reducible assumption) | assumption)
              have q224 : x5_1 < (l0.length : Int) := of_decide_eq_true (by first | (with_reducible assumption) | assumption)
              obtain ⟨ad224, A224_1, c224_1, A224_4, c224_4, e224, hx224_0, hx224_1, hx224_2, hx224_3, hx224_4, hx224_5, hx224_6, hx224_7, hl224_1, hi224_1, hl224_4, hi224_4⟩ := at_T37 HR0.out x5_1 p224 q224
              obtain rfl : ad222 = ad224 := (by injection e224)
              replace hx224_0 := (cl_ HB.out hx224_0).trans hx224_0
              replace hx224_1 := (cl_ HB.out hx224_1).trans hx224_1
              replace hx224_2 := (cl_ HB.out hx224_2).trans hx224_2
              replace hx224_3 := (cl_ HB.out hx224_3).trans hx224_3
              replace hx224_4 := (cl_ HB.out hx224_4).trans hx224_4
              replace hx224_5 := (cl_ HB.out hx224_5).trans hx224_5
              replace hx224_6 := (cl_ HB.out hx224_6).trans hx224_6
              replace hx224_7 := (cl_ HB.out hx224_7).trans hx224_7
              have HR224_1 := Aside0.mk hi224_1
              have HC224_1 := Aside0.mk hl224_1
              clear hi224_1 hl224_1
              have HR224_4 := Aside0.mk hi224_4
              have HC224_4 := Aside0.mk hl224_4
              clear hi224_4 hl224_4
              replace p224 := eq_true p224
              replace q224 := eq_true q224
              have ea_ := Option.some.inj (hx223_1.symm.trans hx224_1)
              injection ea_ with ea_ en_ ec_
              subst ea_
              subst ec_
              clear en_
              have ea_ := Option.some.inj (hx223_4.symm.trans hx224_4)
              injection ea_ with ea_ en_ ec_
              subst ea_
              subst ec_
              clear en_
              have p225 : 0 ≤ (x6_3 : Int) := of_decide_eq_true (by first | (with_reducible assumption) | assumption)
              have q225 : x6_3 < (((rd_T37 l0 x5_1).f4).length : Int) := of_decide_eq_true (by first | (with_reducible assumption) | assumption)
              obtain ⟨ad225, A225_3, c225_3, e225, hx225_0, hx225_1, hx225_2, hx225_3, hl225_3, hi225_3⟩ := at_T24 HR224_4.out x6_3 p225 q225
              cases e225
              replace hx225_0 := (cl_ HB.out hx225_0).trans hx225_0
              replace hx225_1 := (cl_ HB.out hx225_1).trans hx225_1
              replace hx225_2 := (cl_ HB.out hx225_2).trans hx225_2
              replace hx225_3 := (cl_ HB.out hx225_3).trans hx225_3
              have HR225_3 := Aside0.mk hi225_3
              have HC225_3 := Aside0.mk hl225_3
              clear hi225_3 hl225_3
              replace p225 := eq_true p225
              replace q225 := eq_true q225
              go_wp2_with (first | ((with_reducible refine gate_callee (f := 23) rfl ?_); refine goesL_ (some 40) rfl rfl Tryd.func23 (by kernel_rfl) rfl #[.agg #[.int .i64 ((rd_T24 ((rd_T37 l0 x5_1).f4) x6_3).f0), .string ((rd_T24 ((rd_T37 l0 x5_1).f4) x6_3).f1), .int .i64 ((rd_T24 ((rd_T37 l0 x5_1).f4) x6_3).f2), .slice A225_3 ((rd_T24 ((rd_T37 l0 x5_1).f4) x6_3).f3).length c225_3]] rfl (by (try simp only [List.map_toArray, List.map_cons, List.map_nil]); first | done | rfl | (simp only [List.length_drop, List.length_take]; rfl)) ?_; (with_reducible refine (vinculumref09_Count.calls k3 ((rd_T24 ((rd_T37 l0 x5_1).f4) x6_3).f0) ((rd_T24 ((rd_T37 l0 x5_1).f4) x6_3).f1) ((rd_T24 ((rd_T37 l0 x5_1).f4) x6_3).f2) _ _ ((rd_T24 ((rd_T37 l0 x5_1).f4) x6_3).f3) t226 _ ?side1 ?side2 A11.out).mono ?_); (case side1 => exact kc_ HR225_3.out HB.out); (case side2 => exact HC225_3.out); rintro e w12 ⟨rfl, hb⟩; refine ⟨_, rfl, ?_⟩; have n0_ := Aside0.mk (below_step (bs0_ HB.out) hb); clear HB; have HB := n0_; clear n0_; (try clear hb); (try clear hb2); (try clear hk); (try clear hi)))
              go_roundg k3
              case measure => have := HK1.out; have := HJ3.out; have := HK3.out; omega
              case rel => exact ⟨(wrap64 (x4_3 + t226)), (wrap64 (x6_3 + 1)), (by first | rfl | (simp; done) | (simp [*]; done)), (by first | rfl | (simp; done) | (simp [*]; done)), H', ⟨by have := HK1.out; have := HJ3.out; have := HK3.out; omega⟩, ⟨bs0_ HB.out⟩⟩
             ·rw [if_neg c10] at H
              exact absurd H (by simp)
            ·rw [if_neg c9] at H
             have c9b0 : decide (x6_3 < (((rd_T37 l0 x5_1).f4).length : Int)) = false := decide_eq_false c9
             clear c9
             have H' := Aside0.mk H
             clear H
             have p223 : 0 ≤ (x5_1 : Int) := of_decide_eq_true (by first | (with_reducible assumption) | assumption)
             have q223 : x5_1 < (l0.length : Int) := of_decide_eq_true (by first | (with_reducible assumption) | assumption)
             obtain ⟨ad223, A223_1, c223_1, A223_4, c223_4, e223, hx223_0, hx223_1, hx223_2, hx223_3, hx223_4, hx223_5, hx223_6, hx223_7, hl223_1, hi223_1, hl223_4, hi223_4⟩ := at_T37 HR0.out x5_1 p223 q223
             obtain rfl : ad222 = ad223 := (by injection e223)
             replace hx223_0 := (cl_ HB.out hx223_0).trans hx223_0
             replace hx223_1 := (cl_ HB.out hx223_1).trans hx223_1
             replace hx223_2 := (cl_ HB.out hx223_2).trans hx223_2
             replace hx223_3 := (cl_ HB.out hx223_3).trans hx223_3
             replace hx223_4 := (cl_ HB.out hx223_4).trans hx223_4
             replace hx223_5 := (cl_ HB.out hx223_5).trans hx223_5
             replace hx223_6 := (cl_ HB.out hx223_6).trans hx223_6
             replace hx223_7 := (cl_ HB.out hx223_7).trans hx223_7
             have HR223_1 := Aside0.mk hi223_1
             have HC223_1 := Aside0.mk hl223_1
             clear hi223_1 hl223_1
             have HR223_4 := Aside0.mk hi223_4
             have HC223_4 := Aside0.mk hl223_4
             clear hi223_4 hl223_4
             replace p223 := eq_true p223
             replace q223 := eq_true q223
             go_wp2
             go_roundg k3
             case measure => have := HK1.out; have := HJ3.out; have := HK3.out; omega
             case rel => exact ⟨(x4_3), (wrap64 (x5_1 + 1)), (by first | rfl | (simp; done) | (simp [*]; done)), (by first | rfl | (simp; done) | (simp [*]; done)), H', ⟨by have := HK1.out; have := HJ3.out; have := HK3.out; omega⟩, ⟨bs0_ HB.out⟩⟩
           ·rw [if_neg c8] at H
            exact absurd H (by simp)
          ·rw [if_neg c7] at H
           exact absurd H (by simp)
       ·replace c6 := Bool.eq_false_iff.mpr c6
        subst c6
        have H1 : (if ((rd_T37 l0 x5_1).f0) = 5 then (vinculumref16_Weight.l0 kj3 l0 (wrap64 (x4_1 + 1)) (wrap64 (x5_1 + 1))) else (some (0, 1))) = some (r1, r2) := by rw [if_neg (show ¬ (false = true) by decide)] at H; exact H
        clear H
        have H := H1
        clear H1
        by_cases c13 : ((rd_T37 l0 x5_1).f0) = 5
        ·rw [if_pos c13] at H
         have c13b0 : (((rd_T37 l0 x5_1).f0) == 5) = true := beq_iff_eq.mpr c13
         have c13b1 : (((rd_T37 l0 x5_1).f0) != 5) = false := bne_eq_false_iff_eq.mpr c13
         clear c13
         have H' := Aside0.mk H
         clear H
         go_wp2
         go_roundg kj3
         case measure => have := HK1.out; have := HJ3.out; omega
         case rel => exact ⟨(wrap64 (x4_1 + 1)), (wrap64 (x5_1 + 1)), (by first | rfl | (simp; done) | (simp [*]; done)), (by first | rfl | (simp; done) | (simp [*]; done)), H', ⟨by have := HK1.out; have := HJ3.out; omega⟩, ⟨bs0_ HB.out⟩⟩
        ·rw [if_neg c13] at H
         have c13b0 : (((rd_T37 l0 x5_1).f0) == 5) = false := beq_eq_false_iff_ne.mpr c13
         have c13b1 : (((rd_T37 l0 x5_1).f0) != 5) = true := bne_iff_ne.mpr c13
         simp only [Option.some.injEq, Prod.mk.injEq] at H
         obtain ⟨rfl, rfl⟩ := H
         go_wp2
         go_ret2
         exact ⟨by first | rfl | (simp [errW_none, errW_some] <;> rfl) | (simp [*, errW_none, errW_some] <;> rfl), bs0_ HB.out⟩
    ·rw [if_neg c3] at H
     exact absurd H (by simp)
   ·rw [if_neg c2] at H
    have c2b0 : decide (x5_1 < (l0.length : Int)) = false := decide_eq_false c2
    clear c2
    simp only [Option.some.injEq, Prod.mk.injEq] at H
    obtain ⟨rfl, rfl⟩ := H
    go_wp2
    go_ret2
    exact ⟨by first | rfl | (simp [errW_none, errW_some] <;> rfl) | (simp [*, errW_none, errW_some] <;> rfl), bs0_ HB.out⟩

/-! ### vinculumref09_ToRow: function 17 -/
def vinculumref09_ToRow.f (l0 : List (S24)) : Option (Int × ByteArray × Int × (List (S24))) := some (1, (⟨#[]⟩ : ByteArray), 0, l0)
set_option maxHeartbeats 8000000 in
set_option maxRecDepth 100000 in
theorem vinculumref09_ToRow.calls (P0_ : Nat → Prop) (A0 : Option Addr) (c0 : Nat) (l0 : List (S24)) (r1 : Int) (r2 : ByteArray) (r3 : Int) (r4 : List (S24)) (w : World) (hs0 : Kd.V k24 24 w w.heap.size (fun k_ => P0_ k_) (.slice A0 l0.length c0) l0) (h : vinculumref09_ToRow.f l0 = some (r1, r2, r3, r4)) :
  Calls Tryd.prog 17 #[.slice A0 l0.length c0] w fun e w' => ∃ v3_ : Value, e = .returned (.agg #[.int .i64 r1, .string r2, .int .i64 r3, v3_]) ∧ Kd.V k24 24 w' w.heap.size (fun k_ => (P0_ k_ ∨ w.heap.size ≤ k_)) v3_ r4 ∧ Below w.heap.size w w' := by
 have hu24 := Tryd.underlying24
 have HO0 := Aside0.mk (show Kd.V k24 24 w w.heap.size (fun k_ => (P0_ k_ ∨ w.heap.size ≤ k_)) (.slice A0 l0.length c0) l0 from Kd.V_mono hs0 (fun k_ hk => .inl hk))
 have HB := Aside0.mk (Below.refl w.heap.size w)
 have H : (some (1, (⟨#[]⟩ : ByteArray), 0, l0)) = some (r1, r2, r3, r4) := h
 clear h
 simp only [Option.some.injEq, Prod.mk.injEq] at H
 obtain ⟨rfl, rfl, rfl, rfl⟩ := H
 go_enter Tryd.func17, Tryd.ntmps17
 go_wp2_with (first | ((with_reducible refine gate_dst (N := 2) rfl ?_); refine box_event ?hg (N := 2) ?hd (cs := #[.int .i64 0, .string (⟨#[]⟩ : ByteArray), .int .i64 0, .slice none 0 0]) (t := 24) ?hr ?_; (case hd => rfl); (case hg => rfl); (case hr => first | (go_simp; done) | (go_simp; rfl)); intro gb227 hg w2 hbox hb; have n0_ := Aside0.mk (Kd.V_below (Kd.V_elderB (by (with_reducible repeat (first | apply Kd.V_alloc | apply Kd.V_drewN | apply Kd.V_drew)); exact HO0.out) gb227 (Nat.le_of_eq hg.symm)) hb); have n1_ := Aside0.mk (below_step (bs0_ HB.out) hb); have n2_ := Aside0.mk (hbox); have n3_ := Aside0.mk ((by rw [hg]; exact (below_size (bs0_ HB.out)) : w.heap.size ≤ gb227)); have n4_ := Aside0.mk ((by rw [hg]; exact (below_size (bs0_ HB.out)) : w.heap.size ≤ gb227)); clear HO0; clear HB; have HO0 := n0_; have HB := n1_; have BK227 := n2_; have GW227 := n3_; have GE227 := n4_; clear n0_ n1_ n2_ n3_ n4_; clear hb hbox hg; have hcz3_0 : w2.cell? ⟨gb227, 0, none⟩ = some (.int .i64 0) := (blk_cell BK227.out 0).trans rfl; have hcz3_1 : w2.cell? ⟨gb227, 1, none⟩ = some (.string (⟨#[]⟩ : ByteArray)) := (blk_cell BK227.out 1).trans rfl; have hcz3_2 : w2.cell? ⟨gb227, 2, none⟩ = some (.int .i64 0) := (blk_cell BK227.out 2).trans rfl; have hcz3_3 : w2.cell? ⟨gb227, 3, none⟩ = some (.slice none 0 0) := (blk_cell BK227.out 3).trans rfl; have hfz3_0 := blk_frozen BK227.out 0; have hfz3_1 := blk_frozen BK227.out 1; have hfz3_2 := blk_frozen BK227.out 2; have hfz3_3 := blk_frozen BK227.out 3))
 refine bodyPost_ret (results_cell_row rfl _ _ gb227 24 #[.int .i64 1, .string (⟨#[]⟩ : ByteArray), .int .i64 0, .slice A0 l0.length c0] (0, 0) _ rfl (by (with_reducible repeat (first | refine blk_drewN ?_ _ | refine blk_drew ?_ | refine blk_alloc ?_ _)); refine blk_put (cs := #[.int .i64 1, .string (⟨#[]⟩ : ByteArray), .int .i64 0, .slice none 0 0]) ?_ 3 _ rfl; (with_reducible repeat (first | refine blk_drewN ?_ _ | refine blk_drew ?_ | refine blk_alloc ?_ _)); refine blk_put (cs := #[.int .i64 1, .string (⟨#[]⟩ : ByteArray), .int .i64 0, .slice none 0 0]) ?_ 2 _ rfl; (with_reducible repeat (first | refine blk_drewN ?_ _ | refine blk_drew ?_ | refine blk_alloc ?_ _)); refine blk_put (cs := #[.int .i64 1, .string (⟨#[]⟩ : ByteArray), .int .i64 0, .slice none 0 0]) ?_ 1 _ rfl; (with_reducible repeat (first | refine blk_drewN ?_ _ | refine blk_drew ?_ | refine blk_alloc ?_ _)); refine blk_put (cs := #[.int .i64 0, .string (⟨#[]⟩ : ByteArray), .int .i64 0, .slice none 0 0]) ?_ 0 _ rfl; (with_reducible repeat (first | refine blk_drewN ?_ _ | refine blk_drew ?_ | refine blk_alloc ?_ _)); exact BK227.out) Tryd.underlying24 rfl (by kernel_rfl)) rfl ?_
 exact ⟨_, by first | rfl | (simp [errW_none, errW_some] <;> rfl) | (simp [*, errW_none, errW_some] <;> rfl), by (with_reducible repeat (first | apply Kd.V_alloc | apply Kd.V_drewN | apply Kd.V_drew)); exact Kd.V_mono (Kd.V_far (p := ⟨gb227, 3, none⟩) (Kd.V_far (p := ⟨gb227, 2, none⟩) (Kd.V_far (p := ⟨gb227, 1, none⟩) (Kd.V_far (p := ⟨gb227, 0, none⟩) (Kd.V_mono HO0.out (fun k_ hk => (⟨hk, hk.2⟩ : _ ∧ k_ ≠ gb227))) (fun _ hk => hk.2) (.int .i64 1)) (fun _ hk => hk.2) (.string (⟨#[]⟩ : ByteArray))) (fun _ hk => hk.2) (.int .i64 0)) (fun _ hk => hk.2) (.slice A0 l0.length c0)) (fun _ hk => hk.1.1), bs1_ HB.out GE227.out⟩

end Go.Proofs.YtihchehmkhnhaaaDoor.A
