/- Made for this claim by a program of the session: the Go functions' plain twins and their contracts. Lean checks it. -/
import Derived.Test.YtnimhdhnjfoalaaGreatDoorAx0
import Derived.Test.YtnimhdhnjfoalaaGreatDoorAx2
import Derived.Test.YtnimhdhnjfoalaaGreatDoorAx4
namespace Go.Proofs.YtnimhdhnjfoalaaGreatDoor.A
open Go.RowKit Go.Proofs.YtnimhdhnjfoalaaGreatDoorW.PrintWords Go.Proofs.YtnimhdhnjfoalaaGreatDoorW.PrintLast Go.Proofs.YtnimhdhnjfoalaaGreatDoorW.PrintMore
attribute [local go_sem] max2_int min2_int max_two min_two max_three min_three max_four min_four   -- for this text's walks alone
set_option linter.unusedVariables false
set_option linter.unusedSimpArgs false

/-! ### vinculumlaw09_few: function 16 -/
def vinculumlaw09_few.f (k : Nat) (a0_0 : Int) (a0_1 : ByteArray) (a0_2 : Int) (l0_3 : List (S26)) : Option (Bool) := (vinculumref09_Few.f k a0_0 a0_1 a0_2 l0_3 300).bind fun t221 => (some t221)
theorem vinculumlaw09_few.mono : ∀ a0 a1 a2 a3 k, LeO (vinculumlaw09_few.f k a0 a1 a2 a3) (vinculumlaw09_few.f (k + 1) a0 a1 a2 a3) := by
  intro a0 a1 a2 a3 k
  unfold vinculumlaw09_few.f
  repeat' first
      | (with_reducible exact vinculumref09_Few.mono _ _ _ _ _ _)
      | (with_reducible exact LeO.refl _)
      | (with_reducible exact LeO.none _)
      | (with_reducible refine LeO.ite ?_ ?_)
      | (with_reducible refine LeO.bind ?_ (fun _ => ?_))
      | exact vinculumref09_Few.mono _ _ _ _ _ _
      | exact LeO.none _
      | refine LeO.ite ?_ ?_
      | refine LeO.bind ?_ (fun _ => ?_)
set_option maxHeartbeats 8000000 in
set_option maxRecDepth 100000 in
theorem vinculumlaw09_few.calls (k : Nat) (a0_0 : Int) (a0_1 : ByteArray) (a0_2 : Int) (A0_3 : Option Addr) (c0_3 : Nat) (l0_3 : List (S26)) (r : Bool) (w : World) (hr0_3 : Kd.C k26 w A0_3 l0_3.length l0_3) (hc0_3 : l0_3.length ≤ c0_3) (h : vinculumlaw09_few.f k a0_0 a0_1 a0_2 l0_3 = some r) :
    Calls Tryz.prog 16 #[.agg #[.int .i64 a0_0, .string a0_1, .int .i64 a0_2, .slice A0_3 l0_3.length c0_3]] w fun e w' => e = .returned (.bool r) ∧ Below w.heap.size w w' := by
  have hu26 := Tryz.underlying26
  have HR0_3 := Aside0.mk hr0_3
  have HC0_3 := Aside0.mk hc0_3
  clear hr0_3 hc0_3
  have HB := Aside0.mk (Below.refl w.heap.size w)
  have H : ((vinculumref09_Few.f k a0_0 a0_1 a0_2 l0_3 300).bind fun t221 => (some t221)) = some r := h
  clear h
  replace H := Option.bind_eq_some_iff.mp H
  obtain ⟨t221, A20, H⟩ := H
  replace H : (some t221) = some r := H
  have A2 := Aside0.mk A20
  clear A20
  obtain rfl := Option.some.inj H
  go_enter Tryz.func16, Tryz.ntmps16
  go_wp2_with (first | ((with_reducible refine gate_dst (N := 1) rfl ?_); refine box_event ?hg (N := 1) ?hd (cs := #[.int .i64 a0_0, .string a0_1, .int .i64 a0_2, .slice A0_3 l0_3.length c0_3]) (t := 26) ?hr ?_; (case hd => rfl); (case hg => rfl); (case hr => first | (go_simp; done) | (go_simp; rfl)); intro gb220 hg w3 hbox hb; have n0_ := Aside0.mk (below_step (by repeat (first | (with_reducible first | exact HB.out | apply below_alloc | apply pw_below_drewN | apply below_drew1) | exact HB.out)) hb); have n1_ := Aside0.mk (hbox); have n2_ := Aside0.mk ((by rw [hg]; exact (below_size (by repeat (first | (with_reducible first | exact HB.out | apply below_alloc | apply pw_below_drewN | apply below_drew1) | exact HB.out))) : w.heap.size ≤ gb220)); have n3_ := Aside0.mk ((by rw [hg]; exact (below_size (by repeat (first | (with_reducible first | exact HB.out | apply below_alloc | apply pw_below_drewN | apply below_drew1) | exact HB.out))) : w.heap.size ≤ gb220)); clear HB; have HB := n0_; have BK220 := n1_; have GW220 := n2_; have GE220 := n3_; clear n0_ n1_ n2_ n3_; clear hb hbox hg; have hcz4_0 : w3.cell? ⟨gb220, 0, none⟩ = some (.int .i64 a0_0) := (blk_cell BK220.out 0).trans rfl; have hcz4_1 : w3.cell? ⟨gb220, 1, none⟩ = some (.string a0_1) := (blk_cell BK220.out 1).trans rfl; have hcz4_2 : w3.cell? ⟨gb220, 2, none⟩ = some (.int .i64 a0_2) := (blk_cell BK220.out 2).trans rfl; have hcz4_3 : w3.cell? ⟨gb220, 3, none⟩ = some (.slice A0_3 l0_3.length c0_3) := (blk_cell BK220.out 3).trans rfl; have hfz4_0 := blk_frozen BK220.out 0; have hfz4_1 := blk_frozen BK220.out 1; have hfz4_2 := blk_frozen BK220.out 2; have hfz4_3 := blk_frozen BK220.out 3) | ((with_reducible refine gate_callee (f := 20) rfl ?_); refine goesL_ (some 4) rfl rfl Tryz.func20 (by kernel_rfl) rfl #[.agg #[.int .i64 a0_0, .string a0_1, .int .i64 a0_2, .slice A0_3 l0_3.length c0_3], .int .i64 300] rfl (by (try simp only [List.map_toArray, List.map_cons, List.map_nil]); first | done | rfl | (simp only [List.length_drop, List.length_take]; rfl)) ?_; (with_reducible refine (vinculumref09_Few.calls k a0_0 a0_1 a0_2 _ _ l0_3 300 t221 _ ?side1 ?side2 A2.out).mono ?_); (case side1 => repeat (first | exact (Kd.C_below HR0_3.out HB.out) | (with_reducible refine Kd.C_alloc ?_ _) | (with_reducible refine Kd.C_drewN ?_ _) | (with_reducible refine Kd.C_drew ?_))); (case side2 => exact HC0_3.out); rintro e w5 ⟨rfl, hb⟩; refine ⟨_, rfl, ?_⟩; have n0_ := Aside0.mk (blk_below (g := gb220) (o := .cells #[.int .i64 a0_0, .string a0_1, .int .i64 a0_2, .slice A0_3 l0_3.length c0_3] 26 (0, 0)) (by (with_reducible repeat (first | refine blk_drewN ?_ _ | refine blk_drew ?_ | refine blk_alloc ?_ _)); exact BK220.out) hb); have n1_ := Aside0.mk (below_step (by repeat (first | (with_reducible first | exact HB.out | apply below_alloc | apply pw_below_drewN | apply below_drew1 | refine below_set ?_ GE220.out) | exact HB.out)) hb); clear BK220; clear HB; have BK220 := n0_; have HB := n1_; clear n0_ n1_; (try clear hb); (try clear hb2); (try clear hk); (try clear hi)))
  go_ret
  exact ⟨by first | rfl | (simp [errW_none, errW_some] <;> rfl) | (simp [*, errW_none, errW_some] <;> rfl), by repeat (first | (with_reducible first | exact HB.out | apply below_alloc | apply pw_below_drewN | apply below_drew1 | refine below_set ?_ GE220.out) | exact HB.out)⟩

/-! ### node_Count: function 27 -/
mutual
def node_Count.l0 : Nat → Int → List (S26) → Int → Int → Option (Int)
  | 0, _, _, _, _ => none
  | k + 1, x3, x7, x8, x9 => if x9 < x8 then (if 0 ≤ x9 then (if x9 < (x7.length : Int) then ((node_Count.f k ((rd_T26 x7 x9).f0) ((rd_T26 x7 x9).f1) ((rd_T26 x7 x9).f2) ((rd_T26 x7 x9).f3)).bind fun t225 => (node_Count.l0 k (wrap64 (x3 + t225)) x7 x8 (wrap64 (x9 + 1)))) else (none)) else (none)) else (some x3)
def node_Count.f : Nat → Int → ByteArray → Int → List (S26) → Option (Int)
  | 0, _, _, _, _ => none
  | k + 1, a0_0, a0_1, a0_2, l0_3 => node_Count.l0 k 1 l0_3 (l0_3.length : Int) 0
end
theorem node_Count.mono_l : ∀ k, (∀ y0 y1 y2 y3, LeO (node_Count.f k y0 y1 y2 y3) (node_Count.f (k + 1) y0 y1 y2 y3)) ∧ (∀ y0 y1 y2 y3, LeO (node_Count.l0 k y0 y1 y2 y3) (node_Count.l0 (k + 1) y0 y1 y2 y3))
  | 0 => ⟨fun _ _ _ _ r h => by simp [node_Count.f] at h, fun _ _ _ _ r h => by simp [node_Count.l0] at h⟩
  | k + 1 => by
    obtain ⟨ih0, ih1⟩ := node_Count.mono_l k
    refine ⟨?_, ?_⟩
    · intro y0 y1 y2 y3
      unfold node_Count.f
      repeat' first
      | (with_reducible exact ih0 _ _ _ _)
      | (with_reducible exact ih1 _ _ _ _)
      | (with_reducible exact LeO.refl _)
      | (with_reducible exact LeO.none _)
      | (with_reducible refine LeO.ite ?_ ?_)
      | (with_reducible refine LeO.bind ?_ (fun _ => ?_))
      | exact ih0 _ _ _ _
      | exact ih1 _ _ _ _
      | exact LeO.none _
      | refine LeO.ite ?_ ?_
      | refine LeO.bind ?_ (fun _ => ?_)
    · intro y0 y1 y2 y3
      unfold node_Count.l0
      repeat' first
      | (with_reducible exact ih0 _ _ _ _)
      | (with_reducible exact ih1 _ _ _ _)
      | (with_reducible exact LeO.refl _)
      | (with_reducible exact LeO.none _)
      | (with_reducible refine LeO.ite ?_ ?_)
      | (with_reducible refine LeO.bind ?_ (fun _ => ?_))
      | exact ih0 _ _ _ _
      | exact ih1 _ _ _ _
      | exact LeO.none _
      | refine LeO.ite ?_ ?_
      | refine LeO.bind ?_ (fun _ => ?_)
theorem node_Count.mono : ∀ a0 a1 a2 a3 k, LeO (node_Count.f k a0 a1 a2 a3) (node_Count.f (k + 1) a0 a1 a2 a3) := by
  intro a0 a1 a2 a3 k
  obtain ⟨ih0, ih1⟩ := node_Count.mono_l k
  exact ih0 a0 a1 a2 a3
set_option maxHeartbeats 8000000 in
set_option maxRecDepth 100000 in
theorem node_Count.calls (k : Nat) : ∀ (a0_0 : Int) (a0_1 : ByteArray) (a0_2 : Int) (A0_3 : Option Addr) (c0_3 : Nat) (l0_3 : List (S26)) (r : Int) (w : World) (hr0_3 : Kd.C k26 w A0_3 l0_3.length l0_3) (hc0_3 : l0_3.length ≤ c0_3) (h : node_Count.f k a0_0 a0_1 a0_2 l0_3 = some r),
    Calls Tryz.prog 27 #[.agg #[.int .i64 a0_0, .string a0_1, .int .i64 a0_2, .slice A0_3 l0_3.length c0_3]] w fun e w' => e = .returned (.int .i64 r) ∧ Below w.heap.size w w' := by
  induction k using Nat.strongRecOn with
  | _ k ih =>
  intro a0_0 a0_1 a0_2 A0_3 c0_3 l0_3 r w hr0_3 hc0_3 h
  cases k with
  | zero => exact absurd h (by simp [node_Count.f])
  | succ k =>
  simp only [node_Count.f] at h
  have hu26 := Tryz.underlying26
  have HR0_3 := Aside0.mk hr0_3
  have HC0_3 := Aside0.mk hc0_3
  clear hr0_3 hc0_3
  have HB := Aside0.mk (Below.refl w.heap.size w)
  have H : (node_Count.l0 k 1 l0_3 (l0_3.length : Int) 0) = some r := h
  clear h
  have H' := Aside0.mk H
  clear H
  go_enter Tryz.func27, Tryz.ntmps27
  go_wp2_with (first | ((with_reducible refine gate_dst (N := 1) rfl ?_); refine box_event ?hg (N := 1) ?hd (cs := #[.int .i64 a0_0, .string a0_1, .int .i64 a0_2, .slice A0_3 l0_3.length c0_3]) (t := 26) ?hr ?_; (case hd => rfl); (case hg => rfl); (case hr => first | (go_simp; done) | (go_simp; rfl)); intro gb222 hg w2 hbox hb; have n0_ := Aside0.mk (below_step (by repeat (first | (with_reducible first | exact HB.out | apply below_alloc | apply pw_below_drewN | apply below_drew1) | exact HB.out)) hb); have n1_ := Aside0.mk (hbox); have n2_ := Aside0.mk ((by rw [hg]; exact (below_size (by repeat (first | (with_reducible first | exact HB.out | apply below_alloc | apply pw_below_drewN | apply below_drew1) | exact HB.out))) : w.heap.size ≤ gb222)); have n3_ := Aside0.mk ((by rw [hg]; exact (below_size (by repeat (first | (with_reducible first | exact HB.out | apply below_alloc | apply pw_below_drewN | apply below_drew1) | exact HB.out))) : w.heap.size ≤ gb222)); clear HB; have HB := n0_; have BK222 := n1_; have GW222 := n2_; have GE222 := n3_; clear n0_ n1_ n2_ n3_; clear hb hbox hg; have hcz3_0 : w2.cell? ⟨gb222, 0, none⟩ = some (.int .i64 a0_0) := (blk_cell BK222.out 0).trans rfl; have hcz3_1 : w2.cell? ⟨gb222, 1, none⟩ = some (.string a0_1) := (blk_cell BK222.out 1).trans rfl; have hcz3_2 : w2.cell? ⟨gb222, 2, none⟩ = some (.int .i64 a0_2) := (blk_cell BK222.out 2).trans rfl; have hcz3_3 : w2.cell? ⟨gb222, 3, none⟩ = some (.slice A0_3 l0_3.length c0_3) := (blk_cell BK222.out 3).trans rfl; have hfz3_0 := blk_frozen BK222.out 0; have hfz3_1 := blk_frozen BK222.out 1; have hfz3_2 := blk_frozen BK222.out 2; have hfz3_3 := blk_frozen BK222.out 3))
  go_loopg [3, 9] k (fun kq v3 v9 w' => ∃ (x3_1 : Int) (x9_1 : Int), v3 = .int .i64 x3_1 ∧ v9 = .int .i64 x9_1 ∧ Aside0 (node_Count.l0 kq x3_1 l0_3 (l0_3.length : Int) x9_1 = some r) ∧ Aside0 (kq ≤ k) ∧ Aside0 (w'.heap[gb222]? = some (.cells #[.int .i64 a0_0, .string a0_1, .int .i64 a0_2, (.slice A0_3 l0_3.length c0_3)] 26 (0, 0))) ∧ Aside0 (Below w.heap.size w w'))
  case atStart => exact ⟨(1), (0), (by first | rfl | (simp; done) | (simp [*]; done)), (by first | rfl | (simp; done) | (simp [*]; done)), H', ⟨Nat.le_refl _⟩, ⟨by (with_reducible repeat (first | refine blk_drewN ?_ _ | refine blk_drew ?_ | refine blk_alloc ?_ _)); exact BK222.out⟩, ⟨by repeat (first | (with_reducible first | exact HB.out | apply below_alloc | apply pw_below_drewN | apply below_drew1 | refine below_set ?_ GE222.out) | exact HB.out)⟩⟩
  case round =>
    clear H'
    try clear c2
    try clear p2
    try clear hcz3_0
    try clear hcz3_1
    try clear hcz3_2
    try clear hcz3_3
    try clear hfz3_0
    try clear hfz3_1
    try clear hfz3_2
    try clear hfz3_3
    obtain ⟨x3_1, x9_1, rfl, rfl, HA, HK1, BK222, HB⟩ := hrel
    cases gk with
    | zero => exact absurd HA.out (by simp [node_Count.l0])
    | succ k1 =>
      have H := HA.out
      clear HA
      simp only [node_Count.l0] at H
      by_cases c4 : x9_1 < (l0_3.length : Int)
      · rw [if_pos c4] at H
        have c4b0 : decide (x9_1 < (l0_3.length : Int)) = true := decide_eq_true c4
        clear c4
        by_cases c5 : 0 ≤ x9_1
        · rw [if_pos c5] at H
          have c5b0 : decide (0 ≤ x9_1) = true := decide_eq_true c5
          clear c5
          by_cases c6 : x9_1 < (l0_3.length : Int)
          · rw [if_pos c6] at H
            have c6b0 : decide (x9_1 < (l0_3.length : Int)) = true := decide_eq_true c6
            clear c6
            replace H := Option.bind_eq_some_iff.mp H
            obtain ⟨t225, A70, H⟩ := H
            replace H : (node_Count.l0 k1 (wrap64 (x3_1 + t225)) l0_3 (l0_3.length : Int) (wrap64 (x9_1 + 1))) = some r := H
            have A7 := Aside0.mk A70
            clear A70
            have H' := Aside0.mk H
            clear H
            have p223 : 0 ≤ (x9_1 : Int) := of_decide_eq_true (by first | (with_reducible assumption) | assumption)
            have q223 : x9_1 < (l0_3.length : Int) := of_decide_eq_true (by first | (with_reducible assumption) | assumption)
            obtain ⟨ad223, A223_3, c223_3, e223, hx223_0, hx223_1, hx223_2, hx223_3, hl223_3, hi223_3⟩ := at_T26 HR0_3.out x9_1 p223 q223
            cases e223
            replace hx223_0 := (HB.out.cell (World.block_lt_of_cell? w _ hx223_0)).trans hx223_0
            replace hx223_1 := (HB.out.cell (World.block_lt_of_cell? w _ hx223_1)).trans hx223_1
            replace hx223_2 := (HB.out.cell (World.block_lt_of_cell? w _ hx223_2)).trans hx223_2
            replace hx223_3 := (HB.out.cell (World.block_lt_of_cell? w _ hx223_3)).trans hx223_3
            have HR223_3 := Aside0.mk hi223_3
            have HC223_3 := Aside0.mk hl223_3
            clear hi223_3 hl223_3
            replace p223 := eq_true p223
            replace q223 := eq_true q223
            go_wp2_with (first | ((with_reducible refine gate_dst (N := 5) rfl ?_); refine box_event ?hg (N := 5) ?hd (cs := #[.int .i64 0, .string (⟨#[]⟩ : ByteArray), .int .i64 0, .slice none 0 0]) (t := 26) ?hr ?_; (case hd => rfl); (case hg => rfl); (case hr => first | (go_simp; done) | (go_simp; rfl)); intro gb224 hg w8 hbox hb; have n0_ := Aside0.mk (blk_below (g := gb222) (o := .cells #[.int .i64 a0_0, .string a0_1, .int .i64 a0_2, .slice (some ad223) l0_3.length c0_3] 26 (0, 0)) (by (with_reducible repeat (first | refine blk_drewN ?_ _ | refine blk_drew ?_ | refine blk_alloc ?_ _)); exact BK222.out) hb); have n1_ := Aside0.mk (below_step (by repeat (first | (with_reducible first | exact HB.out | apply below_alloc | apply pw_below_drewN | apply below_drew1 | refine below_set ?_ GE222.out) | exact HB.out)) hb); have n2_ := Aside0.mk (hbox); have n3_ := Aside0.mk ((by rw [hg]; exact (below_size (by repeat (first | (with_reducible first | exact HB.out | apply below_alloc | apply pw_below_drewN | apply below_drew1 | refine below_set ?_ GE222.out) | exact HB.out))) : w.heap.size ≤ gb224)); have n4_ := Aside0.mk ((by rw [hg]; exact (below_size (by repeat (first | (with_reducible first | exact HB.out | apply below_alloc | apply pw_below_drewN | apply below_drew1 | refine below_set ?_ GE222.out) | exact HB.out))) : w.heap.size ≤ gb224)); have n5_ := Aside0.mk ((by rw [hg]; exact Nat.ne_of_lt (blk_lt (g := gb222) (o := .cells #[.int .i64 a0_0, .string a0_1, .int .i64 a0_2, .slice (some ad223) l0_3.length c0_3] 26 (0, 0)) (by (with_reducible repeat (first | refine blk_drewN ?_ _ | refine blk_drew ?_ | refine blk_alloc ?_ _)); exact BK222.out)) : gb222 ≠ gb224)); have n6_ := Aside0.mk ((by rw [hg]; exact Nat.ne_of_gt (blk_lt (g := gb222) (o := .cells #[.int .i64 a0_0, .string a0_1, .int .i64 a0_2, .slice (some ad223) l0_3.length c0_3] 26 (0, 0)) (by (with_reducible repeat (first | refine blk_drewN ?_ _ | refine blk_drew ?_ | refine blk_alloc ?_ _)); exact BK222.out)) : gb224 ≠ gb222)); clear BK222; clear HB; have BK222 := n0_; have HB := n1_; have BK224 := n2_; have GW224 := n3_; have GE224 := n4_; have NB222_224 := n5_; have NB224_222 := n6_; clear n0_ n1_ n2_ n3_ n4_ n5_ n6_; clear hb hbox hg; have hnb9 := NB224_222.out; have hnc9 := NB222_224.out; have hcz10_0 : w8.cell? ⟨gb224, 0, none⟩ = some (.int .i64 0) := (blk_cell BK224.out 0).trans rfl; have hcz10_1 : w8.cell? ⟨gb224, 1, none⟩ = some (.string (⟨#[]⟩ : ByteArray)) := (blk_cell BK224.out 1).trans rfl; have hcz10_2 : w8.cell? ⟨gb224, 2, none⟩ = some (.int .i64 0) := (blk_cell BK224.out 2).trans rfl; have hcz10_3 : w8.cell? ⟨gb224, 3, none⟩ = some (.slice none 0 0) := (blk_cell BK224.out 3).trans rfl; have hfz10_0 := blk_frozen BK224.out 0; have hfz10_1 := blk_frozen BK224.out 1; have hfz10_2 := blk_frozen BK224.out 2; have hfz10_3 := blk_frozen BK224.out 3) | ((with_reducible refine gate_callee (f := 27) rfl ?_); refine goesL_ (some 15) rfl rfl Tryz.func27 (by kernel_rfl) rfl #[.agg #[.int .i64 ((rd_T26 l0_3 x9_1).f0), .string ((rd_T26 l0_3 x9_1).f1), .int .i64 ((rd_T26 l0_3 x9_1).f2), .slice A223_3 ((rd_T26 l0_3 x9_1).f3).length c223_3]] rfl (by (try simp only [List.map_toArray, List.map_cons, List.map_nil]); first | done | rfl | (simp only [List.length_drop, List.length_take]; rfl)) ?_; (with_reducible refine (ih k1 (by have := HK1.out; omega) ((rd_T26 l0_3 x9_1).f0) ((rd_T26 l0_3 x9_1).f1) ((rd_T26 l0_3 x9_1).f2) _ _ ((rd_T26 l0_3 x9_1).f3) t225 _ ?side1 ?side2 A7.out).mono ?_); (case side1 => exact Kd.C_below HR223_3.out (by repeat (first | (with_reducible first | exact HB.out | apply below_alloc | apply pw_below_drewN | apply below_drew1 | refine below_set ?_ GE222.out | refine below_set ?_ GE224.out) | exact HB.out))); (case side2 => exact HC223_3.out); rintro e w11 ⟨rfl, hb⟩; refine ⟨_, rfl, ?_⟩; have n0_ := Aside0.mk (blk_below (g := gb222) (o := .cells #[.int .i64 a0_0, .string a0_1, .int .i64 a0_2, .slice (some ad223) l0_3.length c0_3] 26 (0, 0)) (by (with_reducible repeat (first | refine blk_drewN ?_ _ | refine blk_drew ?_ | refine blk_alloc ?_ _)); refine blk_far ?_ NB222_224.out _; (with_reducible repeat (first | refine blk_drewN ?_ _ | refine blk_drew ?_ | refine blk_alloc ?_ _)); refine blk_far ?_ NB222_224.out _; (with_reducible repeat (first | refine blk_drewN ?_ _ | refine blk_drew ?_ | refine blk_alloc ?_ _)); refine blk_far ?_ NB222_224.out _; (with_reducible repeat (first | refine blk_drewN ?_ _ | refine blk_drew ?_ | refine blk_alloc ?_ _)); refine blk_far ?_ NB222_224.out _; (with_reducible repeat (first | refine blk_drewN ?_ _ | refine blk_drew ?_ | refine blk_alloc ?_ _)); exact BK222.out) hb); have n1_ := Aside0.mk (blk_below (g := gb224) (o := .cells #[.int .i64 ((rd_T26 l0_3 x9_1).f0), .string ((rd_T26 l0_3 x9_1).f1), .int .i64 ((rd_T26 l0_3 x9_1).f2), .slice A223_3 ((rd_T26 l0_3 x9_1).f3).length c223_3] 26 (0, 0)) (by (with_reducible repeat (first | refine blk_drewN ?_ _ | refine blk_drew ?_ | refine blk_alloc ?_ _)); refine blk_put (cs := #[.int .i64 ((rd_T26 l0_3 x9_1).f0), .string ((rd_T26 l0_3 x9_1).f1), .int .i64 ((rd_T26 l0_3 x9_1).f2), .slice none 0 0]) ?_ 3 _ rfl; (with_reducible repeat (first | refine blk_drewN ?_ _ | refine blk_drew ?_ | refine blk_alloc ?_ _)); refine blk_put (cs := #[.int .i64 ((rd_T26 l0_3 x9_1).f0), .string ((rd_T26 l0_3 x9_1).f1), .int .i64 0, .slice none 0 0]) ?_ 2 _ rfl; (with_reducible repeat (first | refine blk_drewN ?_ _ | refine blk_drew ?_ | refine blk_alloc ?_ _)); refine blk_put (cs := #[.int .i64 ((rd_T26 l0_3 x9_1).f0), .string (⟨#[]⟩ : ByteArray), .int .i64 0, .slice none 0 0]) ?_ 1 _ rfl; (with_reducible repeat (first | refine blk_drewN ?_ _ | refine blk_drew ?_ | refine blk_alloc ?_ _)); refine blk_put (cs := #[.int .i64 0, .string (⟨#[]⟩ : ByteArray), .int .i64 0, .slice none 0 0]) ?_ 0 _ rfl; (with_reducible repeat (first | refine blk_drewN ?_ _ | refine blk_drew ?_ | refine blk_alloc ?_ _)); exact BK224.out) hb); have n2_ := Aside0.mk (below_step (by repeat (first | (with_reducible first | exact HB.out | apply below_alloc | apply pw_below_drewN | apply below_drew1 | refine below_set ?_ GE222.out | refine below_set ?_ GE224.out) | exact HB.out)) hb); clear BK222; clear BK224; clear HB; have BK222 := n0_; have BK224 := n1_; have HB := n2_; clear n0_ n1_ n2_; (try clear hb); (try clear hb2); (try clear hk); (try clear hi)))
            go_roundg k1
            case measure => have := HK1.out; omega
            case rel => exact ⟨(wrap64 (x3_1 + t225)), (wrap64 (x9_1 + 1)), (by first | rfl | (simp; done) | (simp [*]; done)), (by first | rfl | (simp; done) | (simp [*]; done)), H', ⟨by have := HK1.out; omega⟩, ⟨by (with_reducible repeat (first | refine blk_drewN ?_ _ | refine blk_drew ?_ | refine blk_alloc ?_ _)); exact BK222.out⟩, ⟨by repeat (first | (with_reducible first | exact HB.out | apply below_alloc | apply pw_below_drewN | apply below_drew1 | refine below_set ?_ GE222.out | refine below_set ?_ GE224.out) | exact HB.out)⟩⟩
          · rw [if_neg c6] at H
            exact absurd H (by simp)
        · rw [if_neg c5] at H
          exact absurd H (by simp)
      · rw [if_neg c4] at H
        have c4b0 : decide (x9_1 < (l0_3.length : Int)) = false := decide_eq_false c4
        clear c4
        obtain rfl := Option.some.inj H
        go_wp2
        go_ret
        exact ⟨by first | rfl | (simp [errW_none, errW_some] <;> rfl) | (simp [*, errW_none, errW_some] <;> rfl), by repeat (first | (with_reducible first | exact HB.out | apply below_alloc | apply pw_below_drewN | apply below_drew1 | refine below_set ?_ GE222.out) | exact HB.out)⟩

/-! ### node_Depth: function 29 -/
mutual
def node_Depth.l0 : Nat → Int → List (S26) → Int → Int → Option (Int)
  | 0, _, _, _, _ => none
  | k + 1, x3, x7, x8, x9 => if x9 < x8 then (if 0 ≤ x9 then (if x9 < (x7.length : Int) then ((node_Depth.f k ((rd_T26 x7 x9).f0) ((rd_T26 x7 x9).f1) ((rd_T26 x7 x9).f2) ((rd_T26 x7 x9).f3)).bind fun t229 => (node_Depth.l0 k (mx x3 t229) x7 x8 (wrap64 (x9 + 1)))) else (none)) else (none)) else (some (wrap64 (1 + x3)))
def node_Depth.f : Nat → Int → ByteArray → Int → List (S26) → Option (Int)
  | 0, _, _, _, _ => none
  | k + 1, a0_0, a0_1, a0_2, l0_3 => node_Depth.l0 k 0 l0_3 (l0_3.length : Int) 0
end
theorem node_Depth.mono_l : ∀ k, (∀ y0 y1 y2 y3, LeO (node_Depth.f k y0 y1 y2 y3) (node_Depth.f (k + 1) y0 y1 y2 y3)) ∧ (∀ y0 y1 y2 y3, LeO (node_Depth.l0 k y0 y1 y2 y3) (node_Depth.l0 (k + 1) y0 y1 y2 y3))
  | 0 => ⟨fun _ _ _ _ r h => by simp [node_Depth.f] at h, fun _ _ _ _ r h => by simp [node_Depth.l0] at h⟩
  | k + 1 => by
    obtain ⟨ih0, ih1⟩ := node_Depth.mono_l k
    refine ⟨?_, ?_⟩
    · intro y0 y1 y2 y3
      unfold node_Depth.f
      repeat' first
      | (with_reducible exact ih0 _ _ _ _)
      | (with_reducible exact ih1 _ _ _ _)
      | (with_reducible exact LeO.refl _)
      | (with_reducible exact LeO.none _)
      | (with_reducible refine LeO.ite ?_ ?_)
      | (with_reducible refine LeO.bind ?_ (fun _ => ?_))
      | exact ih0 _ _ _ _
      | exact ih1 _ _ _ _
      | exact LeO.none _
      | refine LeO.ite ?_ ?_
      | refine LeO.bind ?_ (fun _ => ?_)
    · intro y0 y1 y2 y3
      unfold node_Depth.l0
      repeat' first
      | (with_reducible exact ih0 _ _ _ _)
      | (with_reducible exact ih1 _ _ _ _)
      | (with_reducible exact LeO.refl _)
      | (with_reducible exact LeO.none _)
      | (with_reducible refine LeO.ite ?_ ?_)
      | (with_reducible refine LeO.bind ?_ (fun _ => ?_))
      | exact ih0 _ _ _ _
      | exact ih1 _ _ _ _
      | exact LeO.none _
      | refine LeO.ite ?_ ?_
      | refine LeO.bind ?_ (fun _ => ?_)
theorem node_Depth.mono : ∀ a0 a1 a2 a3 k, LeO (node_Depth.f k a0 a1 a2 a3) (node_Depth.f (k + 1) a0 a1 a2 a3) := by
  intro a0 a1 a2 a3 k
  obtain ⟨ih0, ih1⟩ := node_Depth.mono_l k
  exact ih0 a0 a1 a2 a3
set_option maxHeartbeats 8000000 in
set_option maxRecDepth 100000 in
theorem node_Depth.calls (k : Nat) : ∀ (a0_0 : Int) (a0_1 : ByteArray) (a0_2 : Int) (A0_3 : Option Addr) (c0_3 : Nat) (l0_3 : List (S26)) (r : Int) (w : World) (hr0_3 : Kd.C k26 w A0_3 l0_3.length l0_3) (hc0_3 : l0_3.length ≤ c0_3) (h : node_Depth.f k a0_0 a0_1 a0_2 l0_3 = some r),
    Calls Tryz.prog 29 #[.agg #[.int .i64 a0_0, .string a0_1, .int .i64 a0_2, .slice A0_3 l0_3.length c0_3]] w fun e w' => e = .returned (.int .i64 r) ∧ Below w.heap.size w w' := by
  induction k using Nat.strongRecOn with
  | _ k ih =>
  intro a0_0 a0_1 a0_2 A0_3 c0_3 l0_3 r w hr0_3 hc0_3 h
  cases k with
  | zero => exact absurd h (by simp [node_Depth.f])
  | succ k =>
  simp only [node_Depth.f] at h
  have hu26 := Tryz.underlying26
  have HR0_3 := Aside0.mk hr0_3
  have HC0_3 := Aside0.mk hc0_3
  clear hr0_3 hc0_3
  have HB := Aside0.mk (Below.refl w.heap.size w)
  have H : (node_Depth.l0 k 0 l0_3 (l0_3.length : Int) 0) = some r := h
  clear h
  have H' := Aside0.mk H
  clear H
  go_enter Tryz.func29, Tryz.ntmps29
  go_wp2_with (first | ((with_reducible refine gate_dst (N := 1) rfl ?_); refine box_event ?hg (N := 1) ?hd (cs := #[.int .i64 a0_0, .string a0_1, .int .i64 a0_2, .slice A0_3 l0_3.length c0_3]) (t := 26) ?hr ?_; (case hd => rfl); (case hg => rfl); (case hr => first | (go_simp; done) | (go_simp; rfl)); intro gb226 hg w2 hbox hb; have n0_ := Aside0.mk (below_step (by repeat (first | (with_reducible first | exact HB.out | apply below_alloc | apply pw_below_drewN | apply below_drew1) | exact HB.out)) hb); have n1_ := Aside0.mk (hbox); have n2_ := Aside0.mk ((by rw [hg]; exact (below_size (by repeat (first | (with_reducible first | exact HB.out | apply below_alloc | apply pw_below_drewN | apply below_drew1) | exact HB.out))) : w.heap.size ≤ gb226)); have n3_ := Aside0.mk ((by rw [hg]; exact (below_size (by repeat (first | (with_reducible first | exact HB.out | apply below_alloc | apply pw_below_drewN | apply below_drew1) | exact HB.out))) : w.heap.size ≤ gb226)); clear HB; have HB := n0_; have BK226 := n1_; have GW226 := n2_; have GE226 := n3_; clear n0_ n1_ n2_ n3_; clear hb hbox hg; have hcz3_0 : w2.cell? ⟨gb226, 0, none⟩ = some (.int .i64 a0_0) := (blk_cell BK226.out 0).trans rfl; have hcz3_1 : w2.cell? ⟨gb226, 1, none⟩ = some (.string a0_1) := (blk_cell BK226.out 1).trans rfl; have hcz3_2 : w2.cell? ⟨gb226, 2, none⟩ = some (.int .i64 a0_2) := (blk_cell BK226.out 2).trans rfl; have hcz3_3 : w2.cell? ⟨gb226, 3, none⟩ = some (.slice A0_3 l0_3.length c0_3) := (blk_cell BK226.out 3).trans rfl; have hfz3_0 := blk_frozen BK226.out 0; have hfz3_1 := blk_frozen BK226.out 1; have hfz3_2 := blk_frozen BK226.out 2; have hfz3_3 := blk_frozen BK226.out 3))
  go_loopg [3, 9] k (fun kq v3 v9 w' => ∃ (x3_1 : Int) (x9_1 : Int), v3 = .int .i64 x3_1 ∧ v9 = .int .i64 x9_1 ∧ Aside0 (node_Depth.l0 kq x3_1 l0_3 (l0_3.length : Int) x9_1 = some r) ∧ Aside0 (kq ≤ k) ∧ Aside0 (w'.heap[gb226]? = some (.cells #[.int .i64 a0_0, .string a0_1, .int .i64 a0_2, (.slice A0_3 l0_3.length c0_3)] 26 (0, 0))) ∧ Aside0 (Below w.heap.size w w'))
  case atStart => exact ⟨(0), (0), (by first | rfl | (simp; done) | (simp [*]; done)), (by first | rfl | (simp; done) | (simp [*]; done)), H', ⟨Nat.le_refl _⟩, ⟨by (with_reducible repeat (first | refine blk_drewN ?_ _ | refine blk_drew ?_ | refine blk_alloc ?_ _)); exact BK226.out⟩, ⟨by repeat (first | (with_reducible first | exact HB.out | apply below_alloc | apply pw_below_drewN | apply below_drew1 | refine below_set ?_ GE226.out) | exact HB.out)⟩⟩
  case round =>
    clear H'
    try clear c2
    try clear p2
    try clear hcz3_0
    try clear hcz3_1
    try clear hcz3_2
    try clear hcz3_3
    try clear hfz3_0
    try clear hfz3_1
    try clear hfz3_2
    try clear hfz3_3
    obtain ⟨x3_1, x9_1, rfl, rfl, HA, HK1, BK226, HB⟩ := hrel
    cases gk with
    | zero => exact absurd HA.out (by simp [node_Depth.l0])
    | succ k1 =>
      have H := HA.out
      clear HA
      simp only [node_Depth.l0] at H
      by_cases c4 : x9_1 < (l0_3.length : Int)
      · rw [if_pos c4] at H
        have c4b0 : decide (x9_1 < (l0_3.length : Int)) = true := decide_eq_true c4
        clear c4
        by_cases c5 : 0 ≤ x9_1
        · rw [if_pos c5] at H
          have c5b0 : decide (0 ≤ x9_1) = true := decide_eq_true c5
          clear c5
          by_cases c6 : x9_1 < (l0_3.length : Int)
          · rw [if_pos c6] at H
            have c6b0 : decide (x9_1 < (l0_3.length : Int)) = true := decide_eq_true c6
            clear c6
            replace H := Option.bind_eq_some_iff.mp H
            obtain ⟨t229, A70, H⟩ := H
            replace H : (node_Depth.l0 k1 (mx x3_1 t229) l0_3 (l0_3.length : Int) (wrap64 (x9_1 + 1))) = some r := H
            have A7 := Aside0.mk A70
            clear A70
            obtain ⟨ji8, hji8⟩ : ∃ j_ : Int, (mx x3_1 t229) = j_ := ⟨_, rfl⟩
            replace H : (node_Depth.l0 k1 ji8 l0_3 (l0_3.length : Int) (wrap64 (x9_1 + 1))) = some r := by first | (rw [hji8] at H; exact H) | (simp only [hji8] at H ⊢; exact H)
            (try rw [hji8] at A7)
            have hji8_ : (if x3_1 < t229 then t229 else x3_1) = ji8 := hji8
            have H' := Aside0.mk H
            clear H
            have p227 : 0 ≤ (x9_1 : Int) := of_decide_eq_true (by first | (with_reducible assumption) | assumption)
            have q227 : x9_1 < (l0_3.length : Int) := of_decide_eq_true (by first | (with_reducible assumption) | assumption)
            obtain ⟨ad227, A227_3, c227_3, e227, hx227_0, hx227_1, hx227_2, hx227_3, hl227_3, hi227_3⟩ := at_T26 HR0_3.out x9_1 p227 q227
            cases e227
            replace hx227_0 := (HB.out.cell (World.block_lt_of_cell? w _ hx227_0)).trans hx227_0
            replace hx227_1 := (HB.out.cell (World.block_lt_of_cell? w _ hx227_1)).trans hx227_1
            replace hx227_2 := (HB.out.cell (World.block_lt_of_cell? w _ hx227_2)).trans hx227_2
            replace hx227_3 := (HB.out.cell (World.block_lt_of_cell? w _ hx227_3)).trans hx227_3
            have HR227_3 := Aside0.mk hi227_3
            have HC227_3 := Aside0.mk hl227_3
            clear hi227_3 hl227_3
            replace p227 := eq_true p227
            replace q227 := eq_true q227
            go_wp2_with (first | ((with_reducible refine gate_dst (N := 5) rfl ?_); refine box_event ?hg (N := 5) ?hd (cs := #[.int .i64 0, .string (⟨#[]⟩ : ByteArray), .int .i64 0, .slice none 0 0]) (t := 26) ?hr ?_; (case hd => rfl); (case hg => rfl); (case hr => first | (go_simp; done) | (go_simp; rfl)); intro gb228 hg w9 hbox hb; have n0_ := Aside0.mk (blk_below (g := gb226) (o := .cells #[.int .i64 a0_0, .string a0_1, .int .i64 a0_2, .slice (some ad227) l0_3.length c0_3] 26 (0, 0)) (by (with_reducible repeat (first | refine blk_drewN ?_ _ | refine blk_drew ?_ | refine blk_alloc ?_ _)); exact BK226.out) hb); have n1_ := Aside0.mk (below_step (by repeat (first | (with_reducible first | exact HB.out | apply below_alloc | apply pw_below_drewN | apply below_drew1 | refine below_set ?_ GE226.out) | exact HB.out)) hb); have n2_ := Aside0.mk (hbox); have n3_ := Aside0.mk ((by rw [hg]; exact (below_size (by repeat (first | (with_reducible first | exact HB.out | apply below_alloc | apply pw_below_drewN | apply below_drew1 | refine below_set ?_ GE226.out) | exact HB.out))) : w.heap.size ≤ gb228)); have n4_ := Aside0.mk ((by rw [hg]; exact (below_size (by repeat (first | (with_reducible first | exact HB.out | apply below_alloc | apply pw_below_drewN | apply below_drew1 | refine below_set ?_ GE226.out) | exact HB.out))) : w.heap.size ≤ gb228)); have n5_ := Aside0.mk ((by rw [hg]; exact Nat.ne_of_lt (blk_lt (g := gb226) (o := .cells #[.int .i64 a0_0, .string a0_1, .int .i64 a0_2, .slice (some ad227) l0_3.length c0_3] 26 (0, 0)) (by (with_reducible repeat (first | refine blk_drewN ?_ _ | refine blk_drew ?_ | refine blk_alloc ?_ _)); exact BK226.out)) : gb226 ≠ gb228)); have n6_ := Aside0.mk ((by rw [hg]; exact Nat.ne_of_gt (blk_lt (g := gb226) (o := .cells #[.int .i64 a0_0, .string a0_1, .int .i64 a0_2, .slice (some ad227) l0_3.length c0_3] 26 (0, 0)) (by (with_reducible repeat (first | refine blk_drewN ?_ _ | refine blk_drew ?_ | refine blk_alloc ?_ _)); exact BK226.out)) : gb228 ≠ gb226)); clear BK226; clear HB; have BK226 := n0_; have HB := n1_; have BK228 := n2_; have GW228 := n3_; have GE228 := n4_; have NB226_228 := n5_; have NB228_226 := n6_; clear n0_ n1_ n2_ n3_ n4_ n5_ n6_; clear hb hbox hg; have hnb10 := NB228_226.out; have hnc10 := NB226_228.out; have hcz11_0 : w9.cell? ⟨gb228, 0, none⟩ = some (.int .i64 0) := (blk_cell BK228.out 0).trans rfl; have hcz11_1 : w9.cell? ⟨gb228, 1, none⟩ = some (.string (⟨#[]⟩ : ByteArray)) := (blk_cell BK228.out 1).trans rfl; have hcz11_2 : w9.cell? ⟨gb228, 2, none⟩ = some (.int .i64 0) := (blk_cell BK228.out 2).trans rfl; have hcz11_3 : w9.cell? ⟨gb228, 3, none⟩ = some (.slice none 0 0) := (blk_cell BK228.out 3).trans rfl; have hfz11_0 := blk_frozen BK228.out 0; have hfz11_1 := blk_frozen BK228.out 1; have hfz11_2 := blk_frozen BK228.out 2; have hfz11_3 := blk_frozen BK228.out 3) | ((with_reducible refine gate_callee (f := 29) rfl ?_); refine goesL_ (some 15) rfl rfl Tryz.func29 (by kernel_rfl) rfl #[.agg #[.int .i64 ((rd_T26 l0_3 x9_1).f0), .string ((rd_T26 l0_3 x9_1).f1), .int .i64 ((rd_T26 l0_3 x9_1).f2), .slice A227_3 ((rd_T26 l0_3 x9_1).f3).length c227_3]] rfl (by (try simp only [List.map_toArray, List.map_cons, List.map_nil]); first | done | rfl | (simp only [List.length_drop, List.length_take]; rfl)) ?_; (with_reducible refine (ih k1 (by have := HK1.out; omega) ((rd_T26 l0_3 x9_1).f0) ((rd_T26 l0_3 x9_1).f1) ((rd_T26 l0_3 x9_1).f2) _ _ ((rd_T26 l0_3 x9_1).f3) t229 _ ?side1 ?side2 A7.out).mono ?_); (case side1 => exact Kd.C_below HR227_3.out (by repeat (first | (with_reducible first | exact HB.out | apply below_alloc | apply pw_below_drewN | apply below_drew1 | refine below_set ?_ GE226.out | refine below_set ?_ GE228.out) | exact HB.out))); (case side2 => exact HC227_3.out); rintro e w12 ⟨rfl, hb⟩; refine ⟨_, rfl, ?_⟩; have n0_ := Aside0.mk (blk_below (g := gb226) (o := .cells #[.int .i64 a0_0, .string a0_1, .int .i64 a0_2, .slice (some ad227) l0_3.length c0_3] 26 (0, 0)) (by (with_reducible repeat (first | refine blk_drewN ?_ _ | refine blk_drew ?_ | refine blk_alloc ?_ _)); refine blk_far ?_ NB226_228.out _; (with_reducible repeat (first | refine blk_drewN ?_ _ | refine blk_drew ?_ | refine blk_alloc ?_ _)); refine blk_far ?_ NB226_228.out _; (with_reducible repeat (first | refine blk_drewN ?_ _ | refine blk_drew ?_ | refine blk_alloc ?_ _)); refine blk_far ?_ NB226_228.out _; (with_reducible repeat (first | refine blk_drewN ?_ _ | refine blk_drew ?_ | refine blk_alloc ?_ _)); refine blk_far ?_ NB226_228.out _; (with_reducible repeat (first | refine blk_drewN ?_ _ | refine blk_drew ?_ | refine blk_alloc ?_ _)); exact BK226.out) hb); have n1_ := Aside0.mk (blk_below (g := gb228) (o := .cells #[.int .i64 ((rd_T26 l0_3 x9_1).f0), .string ((rd_T26 l0_3 x9_1).f1), .int .i64 ((rd_T26 l0_3 x9_1).f2), .slice A227_3 ((rd_T26 l0_3 x9_1).f3).length c227_3] 26 (0, 0)) (by (with_reducible repeat (first | refine blk_drewN ?_ _ | refine blk_drew ?_ | refine blk_alloc ?_ _)); refine blk_put (cs := #[.int .i64 ((rd_T26 l0_3 x9_1).f0), .string ((rd_T26 l0_3 x9_1).f1), .int .i64 ((rd_T26 l0_3 x9_1).f2), .slice none 0 0]) ?_ 3 _ rfl; (with_reducible repeat (first | refine blk_drewN ?_ _ | refine blk_drew ?_ | refine blk_alloc ?_ _)); refine blk_put (cs := #[.int .i64 ((rd_T26 l0_3 x9_1).f0), .string ((rd_T26 l0_3 x9_1).f1), .int .i64 0, .slice none 0 0]) ?_ 2 _ rfl; (with_reducible repeat (first | refine blk_drewN ?_ _ | refine blk_drew ?_ | refine blk_alloc ?_ _)); refine blk_put (cs := #[.int .i64 ((rd_T26 l0_3 x9_1).f0), .string (⟨#[]⟩ : ByteArray), .int .i64 0, .slice none 0 0]) ?_ 1 _ rfl; (with_reducible repeat (first | refine blk_drewN ?_ _ | refine blk_drew ?_ | refine blk_alloc ?_ _)); refine blk_put (cs := #[.int .i64 0, .string (⟨#[]⟩ : ByteArray), .int .i64 0, .slice none 0 0]) ?_ 0 _ rfl; (with_reducible repeat (first | refine blk_drewN ?_ _ | refine blk_drew ?_ | refine blk_alloc ?_ _)); exact BK228.out) hb); have n2_ := Aside0.mk (below_step (by repeat (first | (with_reducible first | exact HB.out | apply below_alloc | apply pw_below_drewN | apply below_drew1 | refine below_set ?_ GE226.out | refine below_set ?_ GE228.out) | exact HB.out)) hb); clear BK226; clear BK228; clear HB; have BK226 := n0_; have BK228 := n1_; have HB := n2_; clear n0_ n1_ n2_; (try clear hb); (try clear hb2); (try clear hk); (try clear hi)))
            go_roundg k1
            case measure => have := HK1.out; omega
            case rel => exact ⟨(ji8), (wrap64 (x9_1 + 1)), (by first | rfl | (simp; done) | (simp only [← hji8] <;> (first | rfl | simp)) | (simp [*]; done)), (by first | rfl | (simp; done) | (simp [*]; done)), H', ⟨by have := HK1.out; omega⟩, ⟨by (with_reducible repeat (first | refine blk_drewN ?_ _ | refine blk_drew ?_ | refine blk_alloc ?_ _)); exact BK226.out⟩, ⟨by repeat (first | (with_reducible first | exact HB.out | apply below_alloc | apply pw_below_drewN | apply below_drew1 | refine below_set ?_ GE226.out | refine below_set ?_ GE228.out) | exact HB.out)⟩⟩
          · rw [if_neg c6] at H
            exact absurd H (by simp)
        · rw [if_neg c5] at H
          exact absurd H (by simp)
      · rw [if_neg c4] at H
        have c4b0 : decide (x9_1 < (l0_3.length : Int)) = false := decide_eq_false c4
        clear c4
        obtain rfl := Option.some.inj H
        go_wp2
        go_ret
        exact ⟨by first | rfl | (simp [errW_none, errW_some] <;> rfl) | (simp [*, errW_none, errW_some] <;> rfl), by repeat (first | (with_reducible first | exact HB.out | apply below_alloc | apply pw_below_drewN | apply below_drew1 | refine below_set ?_ GE226.out) | exact HB.out)⟩

/-! ### vinculumlaw09_NodeSizes: function 6 -/
def vinculumlaw09_NodeSizes.j0 : Nat → Bool → Int → ByteArray → Int → List (S26) → Option (Bool)
  | 0, _, _, _, _, _ => none
  | k + 1, x9, x231000, x231001, x231002, x231003 => if x9 = true then ((vinculumlaw09_awake.f k).bind fun t233 => (some t233)) else ((node_Count.f k x231000 x231001 x231002 x231003).bind fun t234 => ((vinculumref09_Count.f k x231000 x231001 x231002 x231003).bind fun t235 => (if t234 = t235 then ((node_Depth.f k x231000 x231001 x231002 x231003).bind fun t236 => ((vinculumref09_Depth.f k x231000 x231001 x231002 x231003).bind fun t237 => (some (t236 == t237)))) else (some false))))
def vinculumlaw09_NodeSizes.f (k : Nat) (a0_0 : Int) (a0_1 : ByteArray) (a0_2 : Int) (l0_3 : List (S26)) : Option (Bool) := (vinculumlaw09_awake.f k).bind fun t231 => (if t231 = true then ((vinculumlaw09_few.f k a0_0 a0_1 a0_2 l0_3).bind fun t232 => (vinculumlaw09_NodeSizes.j0 k (!t232) a0_0 a0_1 a0_2 l0_3)) else (vinculumlaw09_NodeSizes.j0 k true a0_0 a0_1 a0_2 l0_3))
theorem vinculumlaw09_NodeSizes.mono_l : ∀ k, (∀ y0 y1 y2 y3 y4, LeO (vinculumlaw09_NodeSizes.j0 k y0 y1 y2 y3 y4) (vinculumlaw09_NodeSizes.j0 (k + 1) y0 y1 y2 y3 y4))
  | 0 => fun _ _ _ _ _ r h => by simp [vinculumlaw09_NodeSizes.j0] at h
  | k + 1 => by
    have ih0 := vinculumlaw09_NodeSizes.mono_l k
    · intro y0 y1 y2 y3 y4
      unfold vinculumlaw09_NodeSizes.j0
      repeat' first
      | (with_reducible exact ih0 _ _ _ _ _)
      | (with_reducible exact node_Count.mono _ _ _ _ _)
      | (with_reducible exact node_Depth.mono _ _ _ _ _)
      | (with_reducible exact vinculumlaw09_awake.mono _)
      | (with_reducible exact vinculumlaw09_few.mono _ _ _ _ _)
      | (with_reducible exact vinculumref09_Count.mono _ _ _ _ _)
      | (with_reducible exact vinculumref09_Depth.mono _ _ _ _ _)
      | (with_reducible exact LeO.refl _)
      | (with_reducible exact LeO.none _)
      | (with_reducible refine LeO.ite ?_ ?_)
      | (with_reducible refine LeO.bind ?_ (fun _ => ?_))
      | exact ih0 _ _ _ _ _
      | exact node_Count.mono _ _ _ _ _
      | exact node_Depth.mono _ _ _ _ _
      | exact vinculumlaw09_awake.mono _
      | exact vinculumlaw09_few.mono _ _ _ _ _
      | exact vinculumref09_Count.mono _ _ _ _ _
      | exact vinculumref09_Depth.mono _ _ _ _ _
      | exact LeO.none _
      | refine LeO.ite ?_ ?_
      | refine LeO.bind ?_ (fun _ => ?_)
theorem vinculumlaw09_NodeSizes.mono : ∀ a0 a1 a2 a3 k, LeO (vinculumlaw09_NodeSizes.f k a0 a1 a2 a3) (vinculumlaw09_NodeSizes.f (k + 1) a0 a1 a2 a3) := by
  intro a0 a1 a2 a3 k
  have ih0 := vinculumlaw09_NodeSizes.mono_l k
  unfold vinculumlaw09_NodeSizes.f
  repeat' first
      | (with_reducible exact ih0 _ _ _ _ _)
      | (with_reducible exact node_Count.mono _ _ _ _ _)
      | (with_reducible exact node_Depth.mono _ _ _ _ _)
      | (with_reducible exact vinculumlaw09_awake.mono _)
      | (with_reducible exact vinculumlaw09_few.mono _ _ _ _ _)
      | (with_reducible exact vinculumref09_Count.mono _ _ _ _ _)
      | (with_reducible exact vinculumref09_Depth.mono _ _ _ _ _)
      | (with_reducible exact LeO.refl _)
      | (with_reducible exact LeO.none _)
      | (with_reducible refine LeO.ite ?_ ?_)
      | (with_reducible refine LeO.bind ?_ (fun _ => ?_))
      | exact ih0 _ _ _ _ _
      | exact node_Count.mono _ _ _ _ _
      | exact node_Depth.mono _ _ _ _ _
      | exact vinculumlaw09_awake.mono _
      | exact vinculumlaw09_few.mono _ _ _ _ _
      | exact vinculumref09_Count.mono _ _ _ _ _
      | exact vinculumref09_Depth.mono _ _ _ _ _
      | exact LeO.none _
      | refine LeO.ite ?_ ?_
      | refine LeO.bind ?_ (fun _ => ?_)
def vinculumlaw09_NodeSizes.T3 : Bool × List (List Nat × List Nat) := (true, [([], []), ([0], [0]), ([], []), ([2, 1], [2]), ([1, 3], [1, 3]), ([4, 3], [4]), ([5], [5]), ([6, 5, 5], [5, 6]), ([5], [5]), ([8, 7, 5], [5, 8]), ([7, 9, 5], [5, 7, 9]), ([5, 10], [5, 10]), ([11, 9, 0, 1, 2, 3, 4, 5, 6, 7, 8, 9, 10, 11], [11])])
def vinculumlaw09_NodeSizes.B3 : List Nat := [0, 1, 0, 7, 15, 31, 63, 127, 63, 511, 1023, 2047, 4095]
theorem vinculumlaw09_NodeSizes.tab3 : rtab .any (opsOf Tryz.f6 3) = vinculumlaw09_NodeSizes.T3 := by kernel_rfl
theorem vinculumlaw09_NodeSizes.bits3 : waitsOk vinculumlaw09_NodeSizes.T3.2 vinculumlaw09_NodeSizes.B3 = true := by kernel_rfl
set_option maxHeartbeats 8000000 in
set_option maxRecDepth 100000 in
theorem vinculumlaw09_NodeSizes.calls (k : Nat) (a0_0 : Int) (a0_1 : ByteArray) (a0_2 : Int) (A0_3 : Option Addr) (c0_3 : Nat) (l0_3 : List (S26)) (r : Bool) (w : World) (hr0_3 : Kd.C k26 w A0_3 l0_3.length l0_3) (hc0_3 : l0_3.length ≤ c0_3) (h : vinculumlaw09_NodeSizes.f k a0_0 a0_1 a0_2 l0_3 = some r) :
    Calls Tryz.prog 6 #[.agg #[.int .i64 a0_0, .string a0_1, .int .i64 a0_2, .slice A0_3 l0_3.length c0_3]] w fun e w' => e = .returned (.bool r) ∧ Below w.heap.size w w' := by
  have hu26 := Tryz.underlying26
  have HR0_3 := Aside0.mk hr0_3
  have HC0_3 := Aside0.mk hc0_3
  clear hr0_3 hc0_3
  have HB := Aside0.mk (Below.refl w.heap.size w)
  have H : ((vinculumlaw09_awake.f k).bind fun t231 => (if t231 = true then ((vinculumlaw09_few.f k a0_0 a0_1 a0_2 l0_3).bind fun t232 => (vinculumlaw09_NodeSizes.j0 k (!t232) a0_0 a0_1 a0_2 l0_3)) else (vinculumlaw09_NodeSizes.j0 k true a0_0 a0_1 a0_2 l0_3))) = some r := h
  clear h
  have HC2 := Aside0.mk H
  clear H
  go_enter Tryz.func6, Tryz.ntmps6
  go_upto_region 1 with (first | ((with_reducible refine gate_dst (N := 1) rfl ?_); refine box_event ?hg (N := 1) ?hd (cs := #[.int .i64 a0_0, .string a0_1, .int .i64 a0_2, .slice A0_3 l0_3.length c0_3]) (t := 26) ?hr ?_; (case hd => rfl); (case hg => rfl); (case hr => first | (go_simp; done) | (go_simp; rfl)); intro gb230 hg w3 hbox hb; have n0_ := Aside0.mk (below_step (by repeat (first | (with_reducible first | exact HB.out | apply below_alloc | apply pw_below_drewN | apply below_drew1) | exact HB.out)) hb); have n1_ := Aside0.mk (hbox); have n2_ := Aside0.mk ((by rw [hg]; exact (below_size (by repeat (first | (with_reducible first | exact HB.out | apply below_alloc | apply pw_below_drewN | apply below_drew1) | exact HB.out))) : w.heap.size ≤ gb230)); have n3_ := Aside0.mk ((by rw [hg]; exact (below_size (by repeat (first | (with_reducible first | exact HB.out | apply below_alloc | apply pw_below_drewN | apply below_drew1) | exact HB.out))) : w.heap.size ≤ gb230)); clear HB; have HB := n0_; have BK230 := n1_; have GW230 := n2_; have GE230 := n3_; clear n0_ n1_ n2_ n3_; clear hb hbox hg))
  (try simp only [Act.put, List.setIfInBounds_toArray, List.set_cons_zero, List.set_cons_succ])
  go_cut [9] (fun v9 wc => ∃ (kq : Nat) (x9_1 : Bool), v9 = .bool x9_1 ∧ Aside0 (vinculumlaw09_NodeSizes.j0 kq x9_1 a0_0 a0_1 a0_2 l0_3 = some r) ∧ Aside0 (kq ≤ k) ∧ Aside0 (wc.heap[gb230]? = some (.cells #[.int .i64 a0_0, .string a0_1, .int .i64 a0_2, (.slice A0_3 l0_3.length c0_3)] 26 (0, 0))) ∧ Aside0 (Below w.heap.size w wc))
  case first =>
    have H := HC2.out
    clear HC2
    replace H := Option.bind_eq_some_iff.mp H
    obtain ⟨t231, A40, H⟩ := H
    replace H : (if t231 = true then ((vinculumlaw09_few.f k a0_0 a0_1 a0_2 l0_3).bind fun t232 => (vinculumlaw09_NodeSizes.j0 k (!t232) a0_0 a0_1 a0_2 l0_3)) else (vinculumlaw09_NodeSizes.j0 k true a0_0 a0_1 a0_2 l0_3)) = some r := H
    have A4 := Aside0.mk A40
    clear A40
    by_cases c5 : t231 = true
    · subst c5
      have H1 : ((vinculumlaw09_few.f k a0_0 a0_1 a0_2 l0_3).bind fun t232 => (vinculumlaw09_NodeSizes.j0 k (!t232) a0_0 a0_1 a0_2 l0_3)) = some r := by rw [if_pos rfl] at H; exact H
      clear H
      have H := H1
      clear H1
      replace H := Option.bind_eq_some_iff.mp H
      obtain ⟨t232, A60, H⟩ := H
      replace H : (vinculumlaw09_NodeSizes.j0 k (!t232) a0_0 a0_1 a0_2 l0_3) = some r := H
      have A6 := Aside0.mk A60
      clear A60
      have H' := Aside0.mk H
      clear H
      go_wp2_with (first | ((with_reducible refine gate_callee (f := 11) rfl ?_); refine goesL_ (some 3) rfl rfl Tryz.func11 (by kernel_rfl) rfl #[] rfl (by (try simp only [List.map_toArray, List.map_cons, List.map_nil]); first | done | rfl | (simp only [List.length_drop, List.length_take]; rfl)) ?_; (with_reducible refine (vinculumlaw09_awake.calls k  true _ A4.out).mono ?_); rintro e w7 ⟨rfl, hb⟩; refine ⟨_, rfl, ?_⟩; have n0_ := Aside0.mk (blk_below (g := gb230) (o := .cells #[.int .i64 a0_0, .string a0_1, .int .i64 a0_2, .slice A0_3 l0_3.length c0_3] 26 (0, 0)) (by (with_reducible repeat (first | refine blk_drewN ?_ _ | refine blk_drew ?_ | refine blk_alloc ?_ _)); exact BK230.out) hb); have n1_ := Aside0.mk (below_step (by repeat (first | (with_reducible first | exact HB.out | apply below_alloc | apply pw_below_drewN | apply below_drew1 | refine below_set ?_ GE230.out) | exact HB.out)) hb); clear BK230; clear HB; have BK230 := n0_; have HB := n1_; clear n0_ n1_; (try clear hb); (try clear hb2); (try clear hk); (try clear hi); have hcz8_0 : w7.cell? ⟨gb230, 0, none⟩ = some (.int .i64 a0_0) := (blk_cell BK230.out 0).trans rfl; have hcz8_1 : w7.cell? ⟨gb230, 1, none⟩ = some (.string a0_1) := (blk_cell BK230.out 1).trans rfl; have hcz8_2 : w7.cell? ⟨gb230, 2, none⟩ = some (.int .i64 a0_2) := (blk_cell BK230.out 2).trans rfl; have hcz8_3 : w7.cell? ⟨gb230, 3, none⟩ = some (.slice A0_3 l0_3.length c0_3) := (blk_cell BK230.out 3).trans rfl; have hfz8_0 := blk_frozen BK230.out 0; have hfz8_1 := blk_frozen BK230.out 1; have hfz8_2 := blk_frozen BK230.out 2; have hfz8_3 := blk_frozen BK230.out 3) | (go_at_call 16; (with_reducible refine (vinculumlaw09_few.calls k a0_0 a0_1 a0_2 _ _ l0_3 t232 _ ?side1 ?side2 A6.out).mono ?_); (case side1 => repeat (first | exact (Kd.C_below HR0_3.out HB.out) | (with_reducible refine Kd.C_alloc ?_ _) | (with_reducible refine Kd.C_drewN ?_ _) | (with_reducible refine Kd.C_drew ?_))); (case side2 => exact HC0_3.out); rintro e w9 ⟨rfl, hb⟩; have n0_ := Aside0.mk (blk_below (g := gb230) (o := .cells #[.int .i64 a0_0, .string a0_1, .int .i64 a0_2, .slice A0_3 l0_3.length c0_3] 26 (0, 0)) (by (with_reducible repeat (first | refine blk_drewN ?_ _ | refine blk_drew ?_ | refine blk_alloc ?_ _)); exact BK230.out) hb); have n1_ := Aside0.mk (below_step (by repeat (first | (with_reducible first | exact HB.out | apply below_alloc | apply pw_below_drewN | apply below_drew1 | refine below_set ?_ GE230.out) | exact HB.out)) hb); clear BK230; clear HB; have BK230 := n0_; have HB := n1_; clear n0_ n1_; (try clear hb); (try clear hb2); (try clear hk); (try clear hi)))
      go_meet
      case rel => exact ⟨_, (!t232), (by first | rfl | (simp; done) | (simp [*]; done)), H', ⟨by first | omega | exact Nat.le_refl _⟩, ⟨by (with_reducible repeat (first | refine blk_drewN ?_ _ | refine blk_drew ?_ | refine blk_alloc ?_ _)); exact BK230.out⟩, ⟨by repeat (first | (with_reducible first | exact HB.out | apply below_alloc | apply pw_below_drewN | apply below_drew1 | refine below_set ?_ GE230.out) | exact HB.out)⟩⟩
    · replace c5 := Bool.eq_false_iff.mpr c5
      subst c5
      have H1 : (vinculumlaw09_NodeSizes.j0 k true a0_0 a0_1 a0_2 l0_3) = some r := by rw [if_neg (show ¬ (false = true) by decide)] at H; exact H
      clear H
      have H := H1
      clear H1
      have H' := Aside0.mk H
      clear H
      go_wp2_with (first | ((with_reducible refine gate_callee (f := 11) rfl ?_); refine goesL_ (some 3) rfl rfl Tryz.func11 (by kernel_rfl) rfl #[] rfl (by (try simp only [List.map_toArray, List.map_cons, List.map_nil]); first | done | rfl | (simp only [List.length_drop, List.length_take]; rfl)) ?_; (with_reducible refine (vinculumlaw09_awake.calls k  false _ A4.out).mono ?_); rintro e w10 ⟨rfl, hb⟩; refine ⟨_, rfl, ?_⟩; have n0_ := Aside0.mk (blk_below (g := gb230) (o := .cells #[.int .i64 a0_0, .string a0_1, .int .i64 a0_2, .slice A0_3 l0_3.length c0_3] 26 (0, 0)) (by (with_reducible repeat (first | refine blk_drewN ?_ _ | refine blk_drew ?_ | refine blk_alloc ?_ _)); exact BK230.out) hb); have n1_ := Aside0.mk (below_step (by repeat (first | (with_reducible first | exact HB.out | apply below_alloc | apply pw_below_drewN | apply below_drew1 | refine below_set ?_ GE230.out) | exact HB.out)) hb); clear BK230; clear HB; have BK230 := n0_; have HB := n1_; clear n0_ n1_; (try clear hb); (try clear hb2); (try clear hk); (try clear hi)))
      go_meet
      case rel => exact ⟨_, (true), (by first | rfl | (simp; done) | (simp [*]; done)), H', ⟨by first | omega | exact Nat.le_refl _⟩, ⟨by (with_reducible repeat (first | refine blk_drewN ?_ _ | refine blk_drew ?_ | refine blk_alloc ?_ _)); exact BK230.out⟩, ⟨by repeat (first | (with_reducible first | exact HB.out | apply below_alloc | apply pw_below_drewN | apply below_drew1 | refine below_set ?_ GE230.out) | exact HB.out)⟩⟩
  case rest =>
    clear HC2
    try clear c1
    try clear p2
    try clear c5
    try clear c6
    try clear hcz8_0
    try clear hcz8_1
    try clear hcz8_2
    try clear hcz8_3
    try clear hfz8_0
    try clear hfz8_1
    try clear hfz8_2
    try clear hfz8_3
    obtain ⟨kq, x9_1, rfl, HA, HJ1, BK230, HB⟩ := hcut
    cases kq with
    | zero => exact absurd HA.out (by simp [vinculumlaw09_NodeSizes.j0])
    | succ kj1 =>
      have H := HA.out
      clear HA
      simp only [vinculumlaw09_NodeSizes.j0] at H
      by_cases c11 : x9_1 = true
      · subst c11
        have H1 : ((vinculumlaw09_awake.f kj1).bind fun t233 => (some t233)) = some r := by rw [if_pos rfl] at H; exact H
        clear H
        have H := H1
        clear H1
        replace H := Option.bind_eq_some_iff.mp H
        obtain ⟨t233, A120, H⟩ := H
        replace H : (some t233) = some r := H
        have A12 := Aside0.mk A120
        clear A120
        obtain rfl := Option.some.inj H
        go_wp2_with (first | ((with_reducible refine gate_callee (f := 11) rfl ?_); refine goesL_ (some 10) rfl rfl Tryz.func11 (by kernel_rfl) rfl #[] rfl (by (try simp only [List.map_toArray, List.map_cons, List.map_nil]); first | done | rfl | (simp only [List.length_drop, List.length_take]; rfl)) ?_; (with_reducible refine (vinculumlaw09_awake.calls kj1  t233 _ A12.out).mono ?_); rintro e w13 ⟨rfl, hb⟩; refine ⟨_, rfl, ?_⟩; have n0_ := Aside0.mk (blk_below (g := gb230) (o := .cells #[.int .i64 a0_0, .string a0_1, .int .i64 a0_2, .slice A0_3 l0_3.length c0_3] 26 (0, 0)) (by (with_reducible repeat (first | refine blk_drewN ?_ _ | refine blk_drew ?_ | refine blk_alloc ?_ _)); exact BK230.out) hb); have n1_ := Aside0.mk (below_step (by repeat (first | (with_reducible first | exact HB.out | apply below_alloc | apply pw_below_drewN | apply below_drew1 | refine below_set ?_ GE230.out) | exact HB.out)) hb); clear BK230; clear HB; have BK230 := n0_; have HB := n1_; clear n0_ n1_; (try clear hb); (try clear hb2); (try clear hk); (try clear hi)))
        go_ret
        exact ⟨by first | rfl | (simp [errW_none, errW_some] <;> rfl) | (simp [*, errW_none, errW_some] <;> rfl), by repeat (first | (with_reducible first | exact HB.out | apply below_alloc | apply pw_below_drewN | apply below_drew1 | refine below_set ?_ GE230.out) | exact HB.out)⟩
      · replace c11 := Bool.eq_false_iff.mpr c11
        subst c11
        have H1 : ((node_Count.f kj1 a0_0 a0_1 a0_2 l0_3).bind fun t234 => ((vinculumref09_Count.f kj1 a0_0 a0_1 a0_2 l0_3).bind fun t235 => (if t234 = t235 then ((node_Depth.f kj1 a0_0 a0_1 a0_2 l0_3).bind fun t236 => ((vinculumref09_Depth.f kj1 a0_0 a0_1 a0_2 l0_3).bind fun t237 => (some (t236 == t237)))) else (some false)))) = some r := by rw [if_neg (show ¬ (false = true) by decide)] at H; exact H
        clear H
        have H := H1
        clear H1
        replace H := Option.bind_eq_some_iff.mp H
        obtain ⟨t234, A140, H⟩ := H
        replace H : ((vinculumref09_Count.f kj1 a0_0 a0_1 a0_2 l0_3).bind fun t235 => (if t234 = t235 then ((node_Depth.f kj1 a0_0 a0_1 a0_2 l0_3).bind fun t236 => ((vinculumref09_Depth.f kj1 a0_0 a0_1 a0_2 l0_3).bind fun t237 => (some (t236 == t237)))) else (some false))) = some r := H
        have A14 := Aside0.mk A140
        clear A140
        replace H := Option.bind_eq_some_iff.mp H
        obtain ⟨t235, A150, H⟩ := H
        replace H : (if t234 = t235 then ((node_Depth.f kj1 a0_0 a0_1 a0_2 l0_3).bind fun t236 => ((vinculumref09_Depth.f kj1 a0_0 a0_1 a0_2 l0_3).bind fun t237 => (some (t236 == t237)))) else (some false)) = some r := H
        have A15 := Aside0.mk A150
        clear A150
        by_cases c16 : t234 = t235
        · rw [if_pos c16] at H
          have c16b0 : (t234 == t235) = true := beq_iff_eq.mpr c16
          have c16b1 : (t234 != t235) = false := bne_eq_false_iff_eq.mpr c16
          clear c16
          replace H := Option.bind_eq_some_iff.mp H
          obtain ⟨t236, A170, H⟩ := H
          replace H : ((vinculumref09_Depth.f kj1 a0_0 a0_1 a0_2 l0_3).bind fun t237 => (some (t236 == t237))) = some r := H
          have A17 := Aside0.mk A170
          clear A170
          replace H := Option.bind_eq_some_iff.mp H
          obtain ⟨t237, A180, H⟩ := H
          replace H : (some (t236 == t237)) = some r := H
          have A18 := Aside0.mk A180
          clear A180
          obtain rfl := Option.some.inj H
          try go_wp2
          have n0_ := Aside0.mk (blk_drew BK230.out)
          have n1_ := Aside0.mk (below_drew1 HB.out)
          clear BK230
          clear HB
          have BK230 := n0_
          have HB := n1_
          clear n0_ n1_
          refine start_ (n := 13) (S := fun w' => w'.cell? ⟨gb230, 0, none⟩ = some (.int .i64 a0_0) ∧ w'.cell? ⟨gb230, 1, none⟩ = some (.string a0_1) ∧ w'.cell? ⟨gb230, 2, none⟩ = some (.int .i64 a0_2) ∧ w'.cell? ⟨gb230, 3, none⟩ = some (.slice A0_3 l0_3.length c0_3)) (ds := []) #[false, false, false, false, false, false, false, false, false, false, false, false, false] (by kernel_rfl) rfl rfl ⟨(blk_cell BK230.out 0).trans rfl, (blk_cell BK230.out 1).trans rfl, (blk_cell BK230.out 2).trans rfl, (blk_cell BK230.out 3).trans rfl⟩ (fun hHeld => ?_); refine with_tabW vinculumlaw09_NodeSizes.tab3 vinculumlaw09_NodeSizes.bits3 (fun HT_ HW_ => ?_)
          generalize wc.drew = w19 at BK230 HB hHeld ⊢
          refine take_ (i := 0) (N := some 11) (v := ?_) (a' := ?_) #[true, false, false, false, false, false, false, false, false, false, false, false, false] rfl rfl (take_ofW HT_.out HW_.out (by kernel_rfl)) (fun _ _ _ h => h) (Or.inl ⟨by rfl, ?_⟩) hHeld ?_ ?_
          rotate_left
          · rintro w' ⟨s0, s1, s2, s3⟩
            go_simp
            with_reducible rfl
          rotate_left
          · simp only [Act.put, List.setIfInBounds_toArray, List.set_cons_zero, List.set_cons_succ, i64_w, i32_w]
            rfl
          refine take_ (i := 2) (N := some 13) (v := ?_) (a' := ?_) #[true, false, true, false, false, false, false, false, false, false, false, false, false] rfl rfl (take_ofW HT_.out HW_.out (by kernel_rfl)) (fun _ _ _ h => h) (Or.inl ⟨by rfl, ?_⟩) hHeld ?_ ?_
          rotate_left
          · rintro w' ⟨s0, s1, s2, s3⟩
            go_simp
            with_reducible rfl
          rotate_left
          · simp only [Act.put, List.setIfInBounds_toArray, List.set_cons_zero, List.set_cons_succ, i64_w, i32_w]
            rfl
          refine one_ (i := 1) (N := some 12) #[true, true, true, false, false, false, false, false, false, false, false, false, false] rfl rfl (one_of HT_.out (by kernel_rfl)) (by decide) (fun K hK => ?_)
          refine goes_ Tryz.func27 (by kernel_rfl) rfl #[.agg #[.int .i64 a0_0, .string a0_1, .int .i64 a0_2, .slice A0_3 l0_3.length c0_3]] (by rfl) rfl rfl (by (try simp only [List.map_toArray, List.map_cons, List.map_nil]); first | done | rfl | (simp only [List.length_drop, List.length_take]; rfl)) ?_
          with_reducible refine (node_Count.calls kj1 a0_0 a0_1 a0_2 _ _ l0_3 t234 _ ?side1 ?side2 A14.out).mono ?_
          (case side1 => repeat (first | exact (Kd.C_below HR0_3.out HB.out) | (with_reducible refine Kd.C_alloc ?_ _) | (with_reducible refine Kd.C_drewN ?_ _) | (with_reducible refine Kd.C_drew ?_)))
          (case side2 => exact HC0_3.out)
          rintro e w20 ⟨rfl, hb⟩
          refine ⟨_, rfl, ?_⟩
          have n0_ := Aside0.mk (blk_below (g := gb230) (o := .cells #[.int .i64 a0_0, .string a0_1, .int .i64 a0_2, .slice A0_3 l0_3.length c0_3] 26 (0, 0)) (by (with_reducible repeat (first | refine blk_drewN ?_ _ | refine blk_drew ?_ | refine blk_alloc ?_ _)); exact BK230.out) hb)
          have n1_ := Aside0.mk (below_step (by repeat (first | (with_reducible first | exact HB.out | apply below_alloc | apply pw_below_drewN | apply below_drew1 | refine below_set ?_ GE230.out) | exact HB.out)) hb)
          clear BK230
          clear HB
          have BK230 := n0_
          have HB := n1_
          clear n0_ n1_
          (try clear hb)
          (try clear hb2)
          (try clear hk)
          (try clear hi)
          refine hK.out _ _ ⟨(blk_cell BK230.out 0).trans rfl, (blk_cell BK230.out 1).trans rfl, (blk_cell BK230.out 2).trans rfl, (blk_cell BK230.out 3).trans rfl⟩ (fun hHeld => ?_)
          clear hK K
          refine norm_ (a' := ?_) ?_ ?_
          rotate_left
          · show Act.put _ (some 12) _ = _
            simp only [Act.put, List.setIfInBounds_toArray, List.set_cons_zero, List.set_cons_succ, i64_w, i32_w]
            rfl
          refine one_ (i := 3) (N := some 14) #[true, true, true, true, false, false, false, false, false, false, false, false, false] rfl rfl (one_of HT_.out (by kernel_rfl)) (by decide) (fun K hK => ?_)
          refine goes_ Tryz.func28 (by kernel_rfl) rfl #[.agg #[.int .i64 a0_0, .string a0_1, .int .i64 a0_2, .slice A0_3 l0_3.length c0_3]] (by rfl) rfl rfl (by (try simp only [List.map_toArray, List.map_cons, List.map_nil]); first | done | rfl | (simp only [List.length_drop, List.length_take]; rfl)) ?_
          with_reducible refine (vinculumref09_Count.calls kj1 a0_0 a0_1 a0_2 _ _ l0_3 t235 _ ?side1 ?side2 A15.out).mono ?_
          (case side1 => repeat (first | exact (Kd.C_below HR0_3.out HB.out) | (with_reducible refine Kd.C_alloc ?_ _) | (with_reducible refine Kd.C_drewN ?_ _) | (with_reducible refine Kd.C_drew ?_)))
          (case side2 => exact HC0_3.out)
          rintro e w21 ⟨rfl, hb⟩
          refine ⟨_, rfl, ?_⟩
          have n0_ := Aside0.mk (blk_below (g := gb230) (o := .cells #[.int .i64 a0_0, .string a0_1, .int .i64 a0_2, .slice A0_3 l0_3.length c0_3] 26 (0, 0)) (by (with_reducible repeat (first | refine blk_drewN ?_ _ | refine blk_drew ?_ | refine blk_alloc ?_ _)); exact BK230.out) hb)
          have n1_ := Aside0.mk (below_step (by repeat (first | (with_reducible first | exact HB.out | apply below_alloc | apply pw_below_drewN | apply below_drew1 | refine below_set ?_ GE230.out) | exact HB.out)) hb)
          clear BK230
          clear HB
          have BK230 := n0_
          have HB := n1_
          clear n0_ n1_
          (try clear hb)
          (try clear hb2)
          (try clear hk)
          (try clear hi)
          refine hK.out _ _ ⟨(blk_cell BK230.out 0).trans rfl, (blk_cell BK230.out 1).trans rfl, (blk_cell BK230.out 2).trans rfl, (blk_cell BK230.out 3).trans rfl⟩ (fun hHeld => ?_)
          clear hK K
          refine norm_ (a' := ?_) ?_ ?_
          rotate_left
          · show Act.put _ (some 14) _ = _
            simp only [Act.put, List.setIfInBounds_toArray, List.set_cons_zero, List.set_cons_succ, i64_w, i32_w]
            rfl
          refine pure_ (i := 4) (N := some 15) (v := ?_) (a' := ?_) #[true, true, true, true, true, false, false, false, false, false, false, false, false] rfl rfl (any_of HT_.out (by kernel_rfl)) (fun _ _ _ h => h) (Or.inl ⟨by rfl, ?_⟩) ?_ ?_
          rotate_left
          · intro w'
            go_simp
            with_reducible rfl
          rotate_left
          · simp only [Act.put, List.setIfInBounds_toArray, List.set_cons_zero, List.set_cons_succ, i64_w, i32_w]
            rfl
          refine pure_ (i := 5) (N := some 16) (v := ?_) (a' := ?_) #[true, true, true, true, true, true, false, false, false, false, false, false, false] rfl rfl (any_of HT_.out (by kernel_rfl)) (fun _ _ _ h => h) (Or.inl ⟨by rfl, ?_⟩) ?_ ?_
          rotate_left
          · intro w'
            go_simp
            with_reducible rfl
          rotate_left
          · simp only [Act.put, List.setIfInBounds_toArray, List.set_cons_zero, List.set_cons_succ, i64_w, i32_w]
            rfl
          refine take_ (i := 6) (N := some 17) (v := ?_) (a' := ?_) #[true, true, true, true, true, true, true, false, false, false, false, false, false] rfl rfl (take_ofW HT_.out HW_.out (by kernel_rfl)) (fun _ _ _ h => h) (Or.inl ⟨by rfl, ?_⟩) hHeld ?_ ?_
          rotate_left
          · rintro w' ⟨s0, s1, s2, s3⟩
            go_simp
            with_reducible rfl
          rotate_left
          · simp only [Act.put, List.setIfInBounds_toArray, List.set_cons_zero, List.set_cons_succ, i64_w, i32_w]
            rfl
          refine take_ (i := 8) (N := some 19) (v := ?_) (a' := ?_) #[true, true, true, true, true, true, true, false, true, false, false, false, false] rfl rfl (take_ofW HT_.out HW_.out (by kernel_rfl)) (fun _ _ _ h => h) (Or.inl ⟨by rfl, ?_⟩) hHeld ?_ ?_
          rotate_left
          · rintro w' ⟨s0, s1, s2, s3⟩
            go_simp
            with_reducible rfl
          rotate_left
          · simp only [Act.put, List.setIfInBounds_toArray, List.set_cons_zero, List.set_cons_succ, i64_w, i32_w]
            rfl
          refine one_ (i := 7) (N := some 18) #[true, true, true, true, true, true, true, true, true, false, false, false, false] rfl rfl (one_of HT_.out (by kernel_rfl)) (by decide) (fun K hK => ?_)
          refine goes_ Tryz.func29 (by kernel_rfl) rfl #[.agg #[.int .i64 a0_0, .string a0_1, .int .i64 a0_2, .slice A0_3 l0_3.length c0_3]] (by rfl) rfl rfl (by (try simp only [List.map_toArray, List.map_cons, List.map_nil]); first | done | rfl | (simp only [List.length_drop, List.length_take]; rfl)) ?_
          with_reducible refine (node_Depth.calls kj1 a0_0 a0_1 a0_2 _ _ l0_3 t236 _ ?side1 ?side2 A17.out).mono ?_
          (case side1 => repeat (first | exact (Kd.C_below HR0_3.out HB.out) | (with_reducible refine Kd.C_alloc ?_ _) | (with_reducible refine Kd.C_drewN ?_ _) | (with_reducible refine Kd.C_drew ?_)))
          (case side2 => exact HC0_3.out)
          rintro e w22 ⟨rfl, hb⟩
          refine ⟨_, rfl, ?_⟩
          have n0_ := Aside0.mk (blk_below (g := gb230) (o := .cells #[.int .i64 a0_0, .string a0_1, .int .i64 a0_2, .slice A0_3 l0_3.length c0_3] 26 (0, 0)) (by (with_reducible repeat (first | refine blk_drewN ?_ _ | refine blk_drew ?_ | refine blk_alloc ?_ _)); exact BK230.out) hb)
          have n1_ := Aside0.mk (below_step (by repeat (first | (with_reducible first | exact HB.out | apply below_alloc | apply pw_below_drewN | apply below_drew1 | refine below_set ?_ GE230.out) | exact HB.out)) hb)
          clear BK230
          clear HB
          have BK230 := n0_
          have HB := n1_
          clear n0_ n1_
          (try clear hb)
          (try clear hb2)
          (try clear hk)
          (try clear hi)
          refine hK.out _ _ ⟨(blk_cell BK230.out 0).trans rfl, (blk_cell BK230.out 1).trans rfl, (blk_cell BK230.out 2).trans rfl, (blk_cell BK230.out 3).trans rfl⟩ (fun hHeld => ?_)
          clear hK K
          refine norm_ (a' := ?_) ?_ ?_
          rotate_left
          · show Act.put _ (some 18) _ = _
            simp only [Act.put, List.setIfInBounds_toArray, List.set_cons_zero, List.set_cons_succ, i64_w, i32_w]
            rfl
          refine one_ (i := 9) (N := some 20) #[true, true, true, true, true, true, true, true, true, true, false, false, false] rfl rfl (one_of HT_.out (by kernel_rfl)) (by decide) (fun K hK => ?_)
          refine goes_ Tryz.func30 (by kernel_rfl) rfl #[.agg #[.int .i64 a0_0, .string a0_1, .int .i64 a0_2, .slice A0_3 l0_3.length c0_3]] (by rfl) rfl rfl (by (try simp only [List.map_toArray, List.map_cons, List.map_nil]); first | done | rfl | (simp only [List.length_drop, List.length_take]; rfl)) ?_
          with_reducible refine (vinculumref09_Depth.calls kj1 a0_0 a0_1 a0_2 _ _ l0_3 t237 _ ?side1 ?side2 A18.out).mono ?_
          (case side1 => repeat (first | exact (Kd.C_below HR0_3.out HB.out) | (with_reducible refine Kd.C_alloc ?_ _) | (with_reducible refine Kd.C_drewN ?_ _) | (with_reducible refine Kd.C_drew ?_)))
          (case side2 => exact HC0_3.out)
          rintro e w23 ⟨rfl, hb⟩
          refine ⟨_, rfl, ?_⟩
          have n0_ := Aside0.mk (blk_below (g := gb230) (o := .cells #[.int .i64 a0_0, .string a0_1, .int .i64 a0_2, .slice A0_3 l0_3.length c0_3] 26 (0, 0)) (by (with_reducible repeat (first | refine blk_drewN ?_ _ | refine blk_drew ?_ | refine blk_alloc ?_ _)); exact BK230.out) hb)
          have n1_ := Aside0.mk (below_step (by repeat (first | (with_reducible first | exact HB.out | apply below_alloc | apply pw_below_drewN | apply below_drew1 | refine below_set ?_ GE230.out) | exact HB.out)) hb)
          clear BK230
          clear HB
          have BK230 := n0_
          have HB := n1_
          clear n0_ n1_
          (try clear hb)
          (try clear hb2)
          (try clear hk)
          (try clear hi)
          refine hK.out _ _ ⟨(blk_cell BK230.out 0).trans rfl, (blk_cell BK230.out 1).trans rfl, (blk_cell BK230.out 2).trans rfl, (blk_cell BK230.out 3).trans rfl⟩ (fun hHeld => ?_)
          clear hK K
          refine norm_ (a' := ?_) ?_ ?_
          rotate_left
          · show Act.put _ (some 20) _ = _
            simp only [Act.put, List.setIfInBounds_toArray, List.set_cons_zero, List.set_cons_succ, i64_w, i32_w]
            rfl
          refine pure_ (i := 10) (N := some 21) (v := ?_) (a' := ?_) #[true, true, true, true, true, true, true, true, true, true, true, false, false] rfl rfl (any_of HT_.out (by kernel_rfl)) (fun _ _ _ h => h) (Or.inl ⟨by rfl, ?_⟩) ?_ ?_
          rotate_left
          · intro w'
            go_simp
            with_reducible rfl
          rotate_left
          · simp only [Act.put, List.setIfInBounds_toArray, List.set_cons_zero, List.set_cons_succ, i64_w, i32_w]
            rfl
          refine pure_ (i := 11) (N := some 22) (v := ?_) (a' := ?_) #[true, true, true, true, true, true, true, true, true, true, true, true, false] rfl rfl (any_of HT_.out (by kernel_rfl)) (fun _ _ _ h => h) (Or.inl ⟨by rfl, ?_⟩) ?_ ?_
          rotate_left
          · intro w'
            go_simp
            with_reducible rfl
          rotate_left
          · simp only [Act.put, List.setIfInBounds_toArray, List.set_cons_zero, List.set_cons_succ, i64_w, i32_w]
            rfl
          refine pure_ (i := 12) (N := some 2) (v := ?_) (a' := ?_) #[true, true, true, true, true, true, true, true, true, true, true, true, true] rfl rfl (any_of HT_.out (by kernel_rfl)) (fun _ _ _ h => h) (Or.inl ⟨by rfl, ?_⟩) ?_ ?_
          rotate_left
          · intro w'
            go_simp
            with_reducible rfl
          rotate_left
          · simp only [Act.put, List.setIfInBounds_toArray, List.set_cons_zero, List.set_cons_succ, i64_w, i32_w]
            rfl
          refine done_ (done_of HT_.out (by kernel_rfl)) ?_
          try go_wp2
          go_ret
          exact ⟨by first | rfl | (simp [errW_none, errW_some] <;> rfl) | (simp [*, errW_none, errW_some] <;> rfl), by repeat (first | (with_reducible first | exact HB.out | apply below_alloc | apply pw_below_drewN | apply below_drew1 | refine below_set ?_ GE230.out) | exact HB.out)⟩
        · rw [if_neg c16] at H
          have c16b0 : (t234 == t235) = false := beq_eq_false_iff_ne.mpr c16
          have c16b1 : (t234 != t235) = true := bne_iff_ne.mpr c16
          obtain rfl := Option.some.inj H
          try go_wp2
          have n0_ := Aside0.mk (blk_drew BK230.out)
          have n1_ := Aside0.mk (below_drew1 HB.out)
          clear BK230
          clear HB
          have BK230 := n0_
          have HB := n1_
          clear n0_ n1_
          refine start_ (n := 13) (S := fun w' => w'.cell? ⟨gb230, 0, none⟩ = some (.int .i64 a0_0) ∧ w'.cell? ⟨gb230, 1, none⟩ = some (.string a0_1) ∧ w'.cell? ⟨gb230, 2, none⟩ = some (.int .i64 a0_2) ∧ w'.cell? ⟨gb230, 3, none⟩ = some (.slice A0_3 l0_3.length c0_3)) (ds := []) #[false, false, false, false, false, false, false, false, false, false, false, false, false] (by kernel_rfl) rfl rfl ⟨(blk_cell BK230.out 0).trans rfl, (blk_cell BK230.out 1).trans rfl, (blk_cell BK230.out 2).trans rfl, (blk_cell BK230.out 3).trans rfl⟩ (fun hHeld => ?_); refine with_tabW vinculumlaw09_NodeSizes.tab3 vinculumlaw09_NodeSizes.bits3 (fun HT_ HW_ => ?_)
          generalize wc.drew = w24 at BK230 HB hHeld ⊢
          refine take_ (i := 0) (N := some 11) (v := ?_) (a' := ?_) #[true, false, false, false, false, false, false, false, false, false, false, false, false] rfl rfl (take_ofW HT_.out HW_.out (by kernel_rfl)) (fun _ _ _ h => h) (Or.inl ⟨by rfl, ?_⟩) hHeld ?_ ?_
          rotate_left
          · rintro w' ⟨s0, s1, s2, s3⟩
            go_simp
            with_reducible rfl
          rotate_left
          · simp only [Act.put, List.setIfInBounds_toArray, List.set_cons_zero, List.set_cons_succ, i64_w, i32_w]
            rfl
          refine take_ (i := 2) (N := some 13) (v := ?_) (a' := ?_) #[true, false, true, false, false, false, false, false, false, false, false, false, false] rfl rfl (take_ofW HT_.out HW_.out (by kernel_rfl)) (fun _ _ _ h => h) (Or.inl ⟨by rfl, ?_⟩) hHeld ?_ ?_
          rotate_left
          · rintro w' ⟨s0, s1, s2, s3⟩
            go_simp
            with_reducible rfl
          rotate_left
          · simp only [Act.put, List.setIfInBounds_toArray, List.set_cons_zero, List.set_cons_succ, i64_w, i32_w]
            rfl
          refine one_ (i := 1) (N := some 12) #[true, true, true, false, false, false, false, false, false, false, false, false, false] rfl rfl (one_of HT_.out (by kernel_rfl)) (by decide) (fun K hK => ?_)
          refine goes_ Tryz.func27 (by kernel_rfl) rfl #[.agg #[.int .i64 a0_0, .string a0_1, .int .i64 a0_2, .slice A0_3 l0_3.length c0_3]] (by rfl) rfl rfl (by (try simp only [List.map_toArray, List.map_cons, List.map_nil]); first | done | rfl | (simp only [List.length_drop, List.length_take]; rfl)) ?_
          with_reducible refine (node_Count.calls kj1 a0_0 a0_1 a0_2 _ _ l0_3 t234 _ ?side1 ?side2 A14.out).mono ?_
          (case side1 => repeat (first | exact (Kd.C_below HR0_3.out HB.out) | (with_reducible refine Kd.C_alloc ?_ _) | (with_reducible refine Kd.C_drewN ?_ _) | (with_reducible refine Kd.C_drew ?_)))
          (case side2 => exact HC0_3.out)
          rintro e w25 ⟨rfl, hb⟩
          refine ⟨_, rfl, ?_⟩
          have n0_ := Aside0.mk (blk_below (g := gb230) (o := .cells #[.int .i64 a0_0, .string a0_1, .int .i64 a0_2, .slice A0_3 l0_3.length c0_3] 26 (0, 0)) (by (with_reducible repeat (first | refine blk_drewN ?_ _ | refine blk_drew ?_ | refine blk_alloc ?_ _)); exact BK230.out) hb)
          have n1_ := Aside0.mk (below_step (by repeat (first | (with_reducible first | exact HB.out | apply below_alloc | apply pw_below_drewN | apply below_drew1 | refine below_set ?_ GE230.out) | exact HB.out)) hb)
          clear BK230
          clear HB
          have BK230 := n0_
          have HB := n1_
          clear n0_ n1_
          (try clear hb)
          (try clear hb2)
          (try clear hk)
          (try clear hi)
          refine hK.out _ _ ⟨(blk_cell BK230.out 0).trans rfl, (blk_cell BK230.out 1).trans rfl, (blk_cell BK230.out 2).trans rfl, (blk_cell BK230.out 3).trans rfl⟩ (fun hHeld => ?_)
          clear hK K
          refine norm_ (a' := ?_) ?_ ?_
          rotate_left
          · show Act.put _ (some 12) _ = _
            simp only [Act.put, List.setIfInBounds_toArray, List.set_cons_zero, List.set_cons_succ, i64_w, i32_w]
            rfl
          refine one_ (i := 3) (N := some 14) #[true, true, true, true, false, false, false, false, false, false, false, false, false] rfl rfl (one_of HT_.out (by kernel_rfl)) (by decide) (fun K hK => ?_)
          refine goes_ Tryz.func28 (by kernel_rfl) rfl #[.agg #[.int .i64 a0_0, .string a0_1, .int .i64 a0_2, .slice A0_3 l0_3.length c0_3]] (by rfl) rfl rfl (by (try simp only [List.map_toArray, List.map_cons, List.map_nil]); first | done | rfl | (simp only [List.length_drop, List.length_take]; rfl)) ?_
          with_reducible refine (vinculumref09_Count.calls kj1 a0_0 a0_1 a0_2 _ _ l0_3 t235 _ ?side1 ?side2 A15.out).mono ?_
          (case side1 => repeat (first | exact (Kd.C_below HR0_3.out HB.out) | (with_reducible refine Kd.C_alloc ?_ _) | (with_reducible refine Kd.C_drewN ?_ _) | (with_reducible refine Kd.C_drew ?_)))
          (case side2 => exact HC0_3.out)
          rintro e w26 ⟨rfl, hb⟩
          refine ⟨_, rfl, ?_⟩
          have n0_ := Aside0.mk (blk_below (g := gb230) (o := .cells #[.int .i64 a0_0, .string a0_1, .int .i64 a0_2, .slice A0_3 l0_3.length c0_3] 26 (0, 0)) (by (with_reducible repeat (first | refine blk_drewN ?_ _ | refine blk_drew ?_ | refine blk_alloc ?_ _)); exact BK230.out) hb)
          have n1_ := Aside0.mk (below_step (by repeat (first | (with_reducible first | exact HB.out | apply below_alloc | apply pw_below_drewN | apply below_drew1 | refine below_set ?_ GE230.out) | exact HB.out)) hb)
          clear BK230
          clear HB
          have BK230 := n0_
          have HB := n1_
          clear n0_ n1_
          (try clear hb)
          (try clear hb2)
          (try clear hk)
          (try clear hi)
          refine hK.out _ _ ⟨(blk_cell BK230.out 0).trans rfl, (blk_cell BK230.out 1).trans rfl, (blk_cell BK230.out 2).trans rfl, (blk_cell BK230.out 3).trans rfl⟩ (fun hHeld => ?_)
          clear hK K
          refine norm_ (a' := ?_) ?_ ?_
          rotate_left
          · show Act.put _ (some 14) _ = _
            simp only [Act.put, List.setIfInBounds_toArray, List.set_cons_zero, List.set_cons_succ, i64_w, i32_w]
            rfl
          refine pure_ (i := 4) (N := some 15) (v := ?_) (a' := ?_) #[true, true, true, true, true, false, false, false, false, false, false, false, false] rfl rfl (any_of HT_.out (by kernel_rfl)) (fun _ _ _ h => h) (Or.inl ⟨by rfl, ?_⟩) ?_ ?_
          rotate_left
          · intro w'
            go_simp
            with_reducible rfl
          rotate_left
          · simp only [Act.put, List.setIfInBounds_toArray, List.set_cons_zero, List.set_cons_succ, i64_w, i32_w]
            rfl
          refine pure_ (i := 5) (N := some 16) (v := ?_) (a' := ?_) #[true, true, true, true, true, true, false, false, false, false, false, false, false] rfl rfl (any_of HT_.out (by kernel_rfl)) (fun _ _ _ h => h) (Or.inl ⟨by rfl, ?_⟩) ?_ ?_
          rotate_left
          · intro w'
            go_simp
            with_reducible rfl
          rotate_left
          · simp only [Act.put, List.setIfInBounds_toArray, List.set_cons_zero, List.set_cons_succ, i64_w, i32_w]
            rfl
          refine pure_ (i := 6) (N := some 17) (v := undef) (a' := ?_) #[true, true, true, true, true, true, true, false, false, false, false, false, false] rfl rfl (any_of HT_.out (by kernel_rfl)) (fun _ _ _ h => h) (Or.inr ⟨by rfl, rfl⟩) ?_ ?_
          rotate_left
          · simp only [Act.put, List.setIfInBounds_toArray, List.set_cons_zero, List.set_cons_succ, i64_w, i32_w]
            rfl
          refine pure_ (i := 7) (N := some 18) (v := undef) (a' := ?_) #[true, true, true, true, true, true, true, true, false, false, false, false, false] rfl rfl (any_of HT_.out (by kernel_rfl)) (fun _ _ _ h => h) (Or.inr ⟨by rfl, rfl⟩) ?_ ?_
          rotate_left
          · simp only [Act.put, List.setIfInBounds_toArray, List.set_cons_zero, List.set_cons_succ, i64_w, i32_w]
            rfl
          refine pure_ (i := 8) (N := some 19) (v := undef) (a' := ?_) #[true, true, true, true, true, true, true, true, true, false, false, false, false] rfl rfl (any_of HT_.out (by kernel_rfl)) (fun _ _ _ h => h) (Or.inr ⟨by rfl, rfl⟩) ?_ ?_
          rotate_left
          · simp only [Act.put, List.setIfInBounds_toArray, List.set_cons_zero, List.set_cons_succ, i64_w, i32_w]
            rfl
          refine pure_ (i := 9) (N := some 20) (v := undef) (a' := ?_) #[true, true, true, true, true, true, true, true, true, true, false, false, false] rfl rfl (any_of HT_.out (by kernel_rfl)) (fun _ _ _ h => h) (Or.inr ⟨by rfl, rfl⟩) ?_ ?_
          rotate_left
          · simp only [Act.put, List.setIfInBounds_toArray, List.set_cons_zero, List.set_cons_succ, i64_w, i32_w]
            rfl
          refine pure_ (i := 10) (N := some 21) (v := undef) (a' := ?_) #[true, true, true, true, true, true, true, true, true, true, true, false, false] rfl rfl (any_of HT_.out (by kernel_rfl)) (fun _ _ _ h => h) (Or.inr ⟨by rfl, rfl⟩) ?_ ?_
          rotate_left
          · simp only [Act.put, List.setIfInBounds_toArray, List.set_cons_zero, List.set_cons_succ, i64_w, i32_w]
            rfl
          refine pure_ (i := 11) (N := some 22) (v := ?_) (a' := ?_) #[true, true, true, true, true, true, true, true, true, true, true, true, false] rfl rfl (any_of HT_.out (by kernel_rfl)) (fun _ _ _ h => h) (Or.inl ⟨by rfl, ?_⟩) ?_ ?_
          rotate_left
          · intro w'
            go_simp
            with_reducible rfl
          rotate_left
          · simp only [Act.put, List.setIfInBounds_toArray, List.set_cons_zero, List.set_cons_succ, i64_w, i32_w]
            rfl
          refine pure_ (i := 12) (N := some 2) (v := ?_) (a' := ?_) #[true, true, true, true, true, true, true, true, true, true, true, true, true] rfl rfl (any_of HT_.out (by kernel_rfl)) (fun _ _ _ h => h) (Or.inl ⟨by rfl, ?_⟩) ?_ ?_
          rotate_left
          · intro w'
            go_simp
            with_reducible rfl
          rotate_left
          · simp only [Act.put, List.setIfInBounds_toArray, List.set_cons_zero, List.set_cons_succ, i64_w, i32_w]
            rfl
          refine done_ (done_of HT_.out (by kernel_rfl)) ?_
          try go_wp2
          go_ret
          exact ⟨by first | rfl | (simp [errW_none, errW_some] <;> rfl) | (simp [*, errW_none, errW_some] <;> rfl), by repeat (first | (with_reducible first | exact HB.out | apply below_alloc | apply pw_below_drewN | apply below_drew1 | refine below_set ?_ GE230.out) | exact HB.out)⟩

/-! ### vinculumref09_SameItems: function 55 -/
def vinculumref09_SameItems.T6 : Bool × List (List Nat × List Nat) := (true, [([], []), ([], []), ([0, 1], [0, 1]), ([2], [2]), ([], []), ([], []), ([4, 5], [4, 5]), ([6], [6]), ([3, 7], [3, 7]), ([8], [8])])
def vinculumref09_SameItems.B6 : List Nat := [0, 0, 3, 7, 0, 0, 48, 112, 255, 511]
theorem vinculumref09_SameItems.tab6 : rtab .any (opsOf Tryz.f55 6) = vinculumref09_SameItems.T6 := by kernel_rfl
theorem vinculumref09_SameItems.bits6 : waitsOk vinculumref09_SameItems.T6.2 vinculumref09_SameItems.B6 = true := by kernel_rfl
/-! ### vinculumref09_Equal: function 19 -/
mutual
def vinculumref09_SameItems.l0 : Nat → List (S26) → List (S26) → Int → Option (Bool)
  | 0, _, _, _ => none
  | k + 1, x0, x1, x5 => if x5 < (x0.length : Int) then (if 0 ≤ x5 then (if x5 < (x1.length : Int) then ((vinculumref09_Equal.f k ((rd_T26 x0 x5).f0) ((rd_T26 x0 x5).f1) ((rd_T26 x0 x5).f2) ((rd_T26 x0 x5).f3) ((rd_T26 x1 x5).f0) ((rd_T26 x1 x5).f1) ((rd_T26 x1 x5).f2) ((rd_T26 x1 x5).f3)).bind fun t240 => (if t240 = true then (vinculumref09_SameItems.l0 k x0 x1 (wrap64 (x5 + 1))) else (some false))) else (none)) else (none)) else (some true)
def vinculumref09_SameItems.f : Nat → List (S26) → List (S26) → Option (Bool)
  | 0, _, _ => none
  | k + 1, l0, l1 => if (l0.length : Int) = (l1.length : Int) then (vinculumref09_SameItems.l0 k l0 l1 0) else (some false)
def vinculumref09_Equal.f : Nat → Int → ByteArray → Int → List (S26) → Int → ByteArray → Int → List (S26) → Option (Bool)
  | 0, _, _, _, _, _, _, _, _ => none
  | k + 1, a0_0, a0_1, a0_2, l0_3, a1_0, a1_1, a1_2, l1_3 => if a0_0 = a1_0 then (if a0_1.toList = a1_1.toList then (if a0_2 = a1_2 then ((vinculumref09_SameItems.f k l0_3 l1_3).bind fun t243 => (some t243)) else (some false)) else (some false)) else (some false)
end
theorem vinculumref09_Equal.mono_g : ∀ k, (∀ y0 y1, LeO (vinculumref09_SameItems.f k y0 y1) (vinculumref09_SameItems.f (k + 1) y0 y1)) ∧ (∀ y0 y1 y2, LeO (vinculumref09_SameItems.l0 k y0 y1 y2) (vinculumref09_SameItems.l0 (k + 1) y0 y1 y2)) ∧ (∀ y0 y1 y2 y3 y4 y5 y6 y7, LeO (vinculumref09_Equal.f k y0 y1 y2 y3 y4 y5 y6 y7) (vinculumref09_Equal.f (k + 1) y0 y1 y2 y3 y4 y5 y6 y7))
  | 0 => ⟨fun _ _ r h => by simp [vinculumref09_SameItems.f] at h, fun _ _ _ r h => by simp [vinculumref09_SameItems.l0] at h, fun _ _ _ _ _ _ _ _ r h => by simp [vinculumref09_Equal.f] at h⟩
  | k + 1 => by
    obtain ⟨ih0, ih1, ih2⟩ := vinculumref09_Equal.mono_g k
    refine ⟨?_, ?_, ?_⟩
    · intro y0 y1
      unfold vinculumref09_SameItems.f
      repeat' first
      | (with_reducible exact ih0 _ _)
      | (with_reducible exact ih1 _ _ _)
      | (with_reducible exact ih2 _ _ _ _ _ _ _ _)
      | (with_reducible exact LeO.refl _)
      | (with_reducible exact LeO.none _)
      | (with_reducible refine LeO.ite ?_ ?_)
      | (with_reducible refine LeO.bind ?_ (fun _ => ?_))
      | exact ih0 _ _
      | exact ih1 _ _ _
      | exact ih2 _ _ _ _ _ _ _ _
      | exact LeO.none _
      | refine LeO.ite ?_ ?_
      | refine LeO.bind ?_ (fun _ => ?_)
    · intro y0 y1 y2
      unfold vinculumref09_SameItems.l0
      repeat' first
      | (with_reducible exact ih0 _ _)
      | (with_reducible exact ih1 _ _ _)
      | (with_reducible exact ih2 _ _ _ _ _ _ _ _)
      | (with_reducible exact LeO.refl _)
      | (with_reducible exact LeO.none _)
      | (with_reducible refine LeO.ite ?_ ?_)
      | (with_reducible refine LeO.bind ?_ (fun _ => ?_))
      | exact ih0 _ _
      | exact ih1 _ _ _
      | exact ih2 _ _ _ _ _ _ _ _
      | exact LeO.none _
      | refine LeO.ite ?_ ?_
      | refine LeO.bind ?_ (fun _ => ?_)
    · intro y0 y1 y2 y3 y4 y5 y6 y7
      unfold vinculumref09_Equal.f
      repeat' first
      | (with_reducible exact ih0 _ _)
      | (with_reducible exact ih1 _ _ _)
      | (with_reducible exact ih2 _ _ _ _ _ _ _ _)
      | (with_reducible exact LeO.refl _)
      | (with_reducible exact LeO.none _)
      | (with_reducible refine LeO.ite ?_ ?_)
      | (with_reducible refine LeO.bind ?_ (fun _ => ?_))
      | exact ih0 _ _
      | exact ih1 _ _ _
      | exact ih2 _ _ _ _ _ _ _ _
      | exact LeO.none _
      | refine LeO.ite ?_ ?_
      | refine LeO.bind ?_ (fun _ => ?_)
theorem vinculumref09_SameItems.mono : ∀ a0 a1 k, LeO (vinculumref09_SameItems.f k a0 a1) (vinculumref09_SameItems.f (k + 1) a0 a1) := by
  intro a0 a1 k
  obtain ⟨ih0, ih1, ih2⟩ := vinculumref09_Equal.mono_g k
  exact ih0 a0 a1
theorem vinculumref09_Equal.mono : ∀ a0 a1 a2 a3 a4 a5 a6 a7 k, LeO (vinculumref09_Equal.f k a0 a1 a2 a3 a4 a5 a6 a7) (vinculumref09_Equal.f (k + 1) a0 a1 a2 a3 a4 a5 a6 a7) := by
  intro a0 a1 a2 a3 a4 a5 a6 a7 k
  obtain ⟨ih0, ih1, ih2⟩ := vinculumref09_Equal.mono_g k
  exact ih2 a0 a1 a2 a3 a4 a5 a6 a7

end Go.Proofs.YtnimhdhnjfoalaaGreatDoor.A
