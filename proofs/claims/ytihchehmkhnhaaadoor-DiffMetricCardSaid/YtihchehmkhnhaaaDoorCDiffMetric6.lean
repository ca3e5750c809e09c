/- Made for this claim by a program of the session: the Go functions' plain twins and their contracts. Lean checks it. -/
import Derived.Lib.IndexLaws
import Derived.Lib.IndexAny
import Derived.Lib.SlTrimSet
import Derived.Test.YtihchehmkhnhaaaDoorCDiffMetric2
import Derived.Test.YtihchehmkhnhaaaDoorCDiffMetric4
import Derived.Test.YtihchehmkhnhaaaDoorCDiffMetric5
namespace Go.Proofs.YtihchehmkhnhaaaDoor.A
open Go.RowKit Go.Proofs.YtihchehmkhnhaaaDoorW.PrintWords Go.Proofs.YtihchehmkhnhaaaDoorW.PrintLast Go.Proofs.YtihchehmkhnhaaaDoorW.PrintMore
attribute [local go_sem] max2_int min2_int max_two min_two max_three min_three max_four min_four   -- for this text's walks alone
set_option linter.unusedVariables false
set_option linter.unusedSimpArgs false

def vinculumlaw16_DiffMetric.j0 : Nat → Bool → Int → ByteArray → Int → List (S24) → Int → ByteArray → Int → List (S24) → Int → ByteArray → Int → List (S24) → Option (Bool)
 | 0, _, _, _, _, _, _, _, _, _, _, _, _, _ => none
 | k + 1, x40, x369000, x369001, x369002, x369003, x370000, x370001, x370002, x370003, x371000, x371001, x371002, x371003 => if x40 = true then (some true) else ((diff_Cost.f k x369000 x369001 x369002 x369003 x370000 x370001 x370002 x370003).bind fun bt377 => ((diff_Cost.f k x370000 x370001 x370002 x370003 x369000 x369001 x369002 x369003).bind fun bt379 => ((diff_Cost.f k x370000 x370001 x370002 x370003 x371000 x371001 x371002 x371003).bind fun bt381 => ((diff_Cost.f k x369000 x369001 x369002 x369003 x371000 x371001 x371002 x371003).bind fun bt383 => (if bt377.2 = 0 then (if bt379.2 = 0 then (if bt381.2 = 0 then (if bt383.2 = 0 then ((vinculumref09_Equal.f k x369000 x369001 x369002 x369003 x370000 x370001 x370002 x370003).bind fun t385 => (if ((bt377.1 == 0) == t385) = true then (if bt377.1 = bt379.1 then (some (decide (bt383.1 ≤ (wrap64 (bt377.1 + bt381.1))))) else (some false)) else (some false))) else (some false)) else (some false)) else (some false)) else (some false))))))
def vinculumlaw16_DiffMetric.f (k : Nat) (a0_0 : Int) (a0_1 : ByteArray) (a0_2 : Int) (l0_3 : List (S24)) (a1_0 : Int) (a1_1 : ByteArray) (a1_2 : Int) (l1_3 : List (S24)) (a2_0 : Int) (a2_1 : ByteArray) (a2_2 : Int) (l2_3 : List (S24)) : Option (Bool) := (vinculumlaw16_awake.f k).bind fun t371 => (if t371 = true then ((vinculumlaw16_few.f k a0_0 a0_1 a0_2 l0_3 a1_0 a1_1 a1_2 l1_3).bind fun t372 => (if t372 = true then ((vinculumref09_Few.f k a2_0 a2_1 a2_2 l2_3 120).bind fun t373 => (if t373 = true then ((vinculumref09_Valid.f k a0_0 a0_1 a0_2 l0_3).bind fun t374 => (if t374 = true then ((vinculumref09_Valid.f k a1_0 a1_1 a1_2 l1_3).bind fun t375 => (if t375 = true then ((vinculumref09_Valid.f k a2_0 a2_1 a2_2 l2_3).bind fun t376 => (vinculumlaw16_DiffMetric.j0 k (!t376) a0_0 a0_1 a0_2 l0_3 a1_0 a1_1 a1_2 l1_3 a2_0 a2_1 a2_2 l2_3)) else (vinculumlaw16_DiffMetric.j0 k true a0_0 a0_1 a0_2 l0_3 a1_0 a1_1 a1_2 l1_3 a2_0 a2_1 a2_2 l2_3))) else (vinculumlaw16_DiffMetric.j0 k true a0_0 a0_1 a0_2 l0_3 a1_0 a1_1 a1_2 l1_3 a2_0 a2_1 a2_2 l2_3))) else (vinculumlaw16_DiffMetric.j0 k true a0_0 a0_1 a0_2 l0_3 a1_0 a1_1 a1_2 l1_3 a2_0 a2_1 a2_2 l2_3))) else (vinculumlaw16_DiffMetric.j0 k true a0_0 a0_1 a0_2 l0_3 a1_0 a1_1 a1_2 l1_3 a2_0 a2_1 a2_2 l2_3))) else (some false))
theorem vinculumlaw16_DiffMetric.mono_l : ∀ k, (∀ y0 y1 y2 y3 y4 y5 y6 y7 y8 y9 y10 y11 y12, LeO (vinculumlaw16_DiffMetric.j0 k y0 y1 y2 y3 y4 y5 y6 y7 y8 y9 y10 y11 y12) (vinculumlaw16_DiffMetric.j0 (k + 1) y0 y1 y2 y3 y4 y5 y6 y7 y8 y9 y10 y11 y12))
 | 0 => fun _ _ _ _ _ _ _ _ _ _ _ _ _ r h => by simp [vinculumlaw16_DiffMetric.j0] at h
 | k + 1 => by
  have ih0 := vinculumlaw16_DiffMetric.mono_l k
  ·intro y0 y1 y2 y3 y4 y5 y6 y7 y8 y9 y10 y11 y12
   unfold vinculumlaw16_DiffMetric.j0
   repeat' first
   | (with_reducible exact ih0 _ _ _ _ _ _ _ _ _ _ _ _ _)
   | (with_reducible exact diff_Cost.mono _ _ _ _ _ _ _ _ _)
   | (with_reducible exact vinculumlaw16_awake.mono _)
   | (with_reducible exact vinculumlaw16_few.mono _ _ _ _ _ _ _ _ _)
   | (with_reducible exact vinculumref09_Equal.mono _ _ _ _ _ _ _ _ _)
   | (with_reducible exact vinculumref09_Few.mono _ _ _ _ _ _)
   | (with_reducible exact vinculumref09_Valid.mono _ _ _ _ _)
   | (with_reducible exact LeO.refl _)
   | (with_reducible exact LeO.none _)
   | (with_reducible refine LeO.ite ?_ ?_)
   | (with_reducible refine LeO.bind ?_ (fun _ => ?_))
   | exact ih0 _ _ _ _ _ _ _ _ _ _ _ _ _
   | exact diff_Cost.mono _ _ _ _ _ _ _ _ _
   | exact vinculumlaw16_awake.mono _
   | exact vinculumlaw16_few.mono _ _ _ _ _ _ _ _ _
   | exact vinculumref09_Equal.mono _ _ _ _ _ _ _ _ _
   | exact vinculumref09_Few.mono _ _ _ _ _ _
   | exact vinculumref09_Valid.mono _ _ _ _ _
   | exact LeO.none _
   | refine LeO.ite ?_ ?_
   | refine LeO.bind ?_ (fun _ => ?_)
set_option maxHeartbeats 8000000 in
set_option maxRecDepth 100000 in
theorem vinculumlaw16_DiffMetric.calls (k : Nat) (a0_0 : Int) (a0_1 : ByteArray) (a0_2 : Int) (A0_3 : Option Addr) (c0_3 : Nat) (l0_3 : List (S24)) (a1_0 : Int) (a1_1 : ByteArray) (a1_2 : Int) (A1_3 : Option Addr) (c1_3 : Nat) (l1_3 : List (S24)) (a2_0 : Int) (a2_1 : ByteArray) (a2_2 : Int) (A2_3 : Option Addr) (c2_3 : Nat) (l2_3 : List (S24)) (r : Bool) (w : World) (hr0_3 : Kd.C k24 w A0_3 l0_3.length l0_3) (hc0_3 : l0_3.length ≤ c0_3) (hr1_3 : Kd.C k24 w A1_3 l1_3.length l1_3) (hc1_3 : l1_3.length ≤ c1_3) (hr2_3 : Kd.C k24 w A2_3 l2_3.length l2_3) (hc2_3 : l2_3.length ≤ c2_3) (h : vinculumlaw16_DiffMetric.f k a0_0 a0_1 a0_2 l0_3 a1_0 a1_1 a1_2 l1_3 a2_0 a2_1 a2_2 l2_3 = some r) :
  Calls Tryd.prog 5 #[.agg #[.int .i64 a0_0, .string a0_1, .int .i64 a0_2, .slice A0_3 l0_3.length c0_3], .agg #[.int .i64 a1_0, .string a1_1, .int .i64 a1_2, .slice A1_3 l1_3.length c1_3], .agg #[.int .i64 a2_0, .string a2_1, .int .i64 a2_2, .slice A2_3 l2_3.length c2_3]] w fun e w' => e = .returned (.bool r) ∧ Below w.heap.size w w' := by
 have hu24 := Tryd.underlying24
 have HR0_3 := Aside0.mk hr0_3
 have HC0_3 := Aside0.mk hc0_3
 clear hr0_3 hc0_3
 have HR1_3 := Aside0.mk hr1_3
 have HC1_3 := Aside0.mk hc1_3
 clear hr1_3 hc1_3
 have HR2_3 := Aside0.mk hr2_3
 have HC2_3 := Aside0.mk hc2_3
 clear hr2_3 hc2_3
 have HB := Aside0.mk (Below.refl w.heap.size w)
 have H : ((vinculumlaw16_awake.f k).bind fun t371 => (if t371 = true then ((vinculumlaw16_few.f k a0_0 a0_1 a0_2 l0_3 a1_0 a1_1 a1_2 l1_3).bind fun t372 => (if t372 = true then ((vinculumref09_Few.f k a2_0 a2_1 a2_2 l2_3 120).bind fun t373 => (if t373 = true then ((vinculumref09_Valid.f k a0_0 a0_1 a0_2 l0_3).bind fun t374 => (if t374 = true then ((vinculumref09_Valid.f k a1_0 a1_1 a1_2 l1_3).bind fun t375 => (if t375 = true then ((vinculumref09_Valid.f k a2_0 a2_1 a2_2 l2_3).bind fun t376 => (vinculumlaw16_DiffMetric.j0 k (!t376) a0_0 a0_1 a0_2 l0_3 a1_0 a1_1 a1_2 l1_3 a2_0 a2_1 a2_2 l2_3)) else (vinculumlaw16_DiffMetric.j0 k true a0_0 a0_1 a0_2 l0_3 a1_0 a1_1 a1_2 l1_3 a2_0 a2_1 a2_2 l2_3))) else (vinculumlaw16_DiffMetric.j0 k true a0_0 a0_1 a0_2 l0_3 a1_0 a1_1 a1_2 l1_3 a2_0 a2_1 a2_2 l2_3))) else (vinculumlaw16_DiffMetric.j0 k true a0_0 a0_1 a0_2 l0_3 a1_0 a1_1 a1_2 l1_3 a2_0 a2_1 a2_2 l2_3))) else (vinculumlaw16_DiffMetric.j0 k true a0_0 a0_1 a0_2 l0_3 a1_0 a1_1 a1_2 l1_3 a2_0 a2_1 a2_2 l2_3))) else (some false))) = some r := h
 clear h
 replace H := Option.bind_eq_some_iff.mp H
 obtain ⟨t371, A40, H⟩ := H
 replace H : (if t371 = true then ((vinculumlaw16_few.f k a0_0 a0_1 a0_2 l0_3 a1_0 a1_1 a1_2 l1_3).bind fun t372 => (if t372 = true then ((vinculumref09_Few.f k a2_0 a2_1 a2_2 l2_3 120).bind fun t373 => (if t373 = true then ((vinculumref09_Valid.f k a0_0 a0_1 a0_2 l0_3).bind fun t374 => (if t374 = true then ((vinculumref09_Valid.f k a1_0 a1_1 a1_2 l1_3).bind fun t375 => (if t375 = true then ((vinculumref09_Valid.f k a2_0 a2_1 a2_2 l2_3).bind fun t376 => (vinculumlaw16_DiffMetric.j0 k (!t376) a0_0 a0_1 a0_2 l0_3 a1_0 a1_1 a1_2 l1_3 a2_0 a2_1 a2_2 l2_3)) else (vinculumlaw16_DiffMetric.j0 k true a0_0 a0_1 a0_2 l0_3 a1_0 a1_1 a1_2 l1_3 a2_0 a2_1 a2_2 l2_3))) else (vinculumlaw16_DiffMetric.j0 k true a0_0 a0_1 a0_2 l0_3 a1_0 a1_1 a1_2 l1_3 a2_0 a2_1 a2_2 l2_3))) else (vinculumlaw16_DiffMetric.j0 k true a0_0 a0_1 a0_2 l0_3 a1_0 a1_1 a1_2 l1_3 a2_0 a2_1 a2_2 l2_3))) else (vinculumlaw16_DiffMetric.j0 k true a0_0 a0_1 a0_2 l0_3 a1_0 a1_1 a1_2 l1_3 a2_0 a2_1 a2_2 l2_3))) else (some false)) = some r := H
 have A4 := Aside0.mk A40
 clear A40
 by_cases c5 : t371 = true
 ·subst c5
  have H1 : ((vinculumlaw16_few.f k a0_0 a0_1 a0_2 l0_3 a1_0 a1_1 a1_2 l1_3).bind fun t372 => (if t372 = true then ((vinculumref09_Few.f k a2_0 a2_1 a2_2 l2_3 120).bind fun t373 => (if t373 = true then ((vinculumref09_Valid.f k a0_0 a0_1 a0_2 l0_3).bind fun t374 => (if t374 = true then ((vinculumref09_Valid.f k a1_0 a1_1 a1_2 l1_3).bind fun t375 => (if t375 = true then ((vinculumref09_Valid.f k a2_0 a2_1 a2_2 l2_3).bind fun t376 => (vinculumlaw16_DiffMetric.j0 k (!t376) a0_0 a0_1 a0_2 l0_3 a1_0 a1_1 a1_2 l1_3 a2_0 a2_1 a2_2 l2_3)) else (vinculumlaw16_DiffMetric.j0 k true a0_0 a0_1 a0_2 l0_3 a1_0 a1_1 a1_2 l1_3 a2_0 a2_1 a2_2 l2_3))) else (vinculumlaw16_DiffMetric.j0 k true a0_0 a0_1 a0_2 l0_3 a1_0 a1_1 a1_2 l1_3 a2_0 a2_1 a2_2 l2_3))) else (vinculumlaw16_DiffMetric.j0 k true a0_0 a0_1 a0_2 l0_3 a1_0 a1_1 a1_2 l1_3 a2_0 a2_1 a2_2 l2_3))) else (vinculumlaw16_DiffMetric.j0 k true a0_0 a0_1 a0_2 l0_3 a1_0 a1_1 a1_2 l1_3 a2_0 a2_1 a2_2 l2_3))) = some r := by rw [if_pos rfl] at H; exact H
  clear H
  have H := H1
  clear H1
  have HC6 := Aside0.mk H
  clear H
  go_enter Tryd.func5, Tryd.ntmps5
  go_upto_region 3 with (first | ((with_reducible refine gate_dst (N := 3) rfl ?_); refine box_event ?hg (N := 3) ?hd (cs := #[.int .i64 a0_0, .string a0_1, .int .i64 a0_2, .slice A0_3 l0_3.length c0_3]) (t := 24) ?hr ?_; (case hd => rfl); (case hg => rfl); (case hr => first | (go_simp; done) | (go_simp; rfl)); intro gb368 hg w7 hbox hb; have n0_ := Aside0.mk (below_step (bs0_ HB.out) hb); have n1_ := Aside0.mk (hbox); have n2_ := Aside0.mk ((by rw [hg]; exact (below_size (bs0_ HB.out)) : w.heap.size ≤ gb368)); have n3_ := Aside0.mk ((by rw [hg]; exact (below_size (bs0_ HB.out)) : w.heap.size ≤ gb368)); clear HB; have HB := n0_; have BK368 := n1_; have GW368 := n2_; have GE368 := n3_; clear n0_ n1_ n2_ n3_; clear hb hbox hg) | ((with_reducible refine gate_dst (N := 4) rfl ?_); refine box_event ?hg (N := 4) ?hd (cs := #[.int .i64 a1_0, .string a1_1, .int .i64 a1_2, .slice A1_3 l1_3.length c1_3]) (t := 24) ?hr ?_; (case hd => rfl); (case hg => rfl); (case hr => first | (go_simp; done) | (go_simp; rfl)); intro gb369 hg w8 hbox hb; have n0_ := Aside0.mk (blk_below (g := gb368) (o := .cells #[.int .i64 a0_0, .string a0_1, .int .i64 a0_2, .slice A0_3 l0_3.length c0_3] 24 (0, 0)) (bk_ BK368.out) hb); have n1_ := Aside0.mk (below_step (bs1_ HB.out GE368.out) hb); have n2_ := Aside0.mk (hbox); have n3_ := Aside0.mk ((by rw [hg]; exact (below_size (bs1_ HB.out GE368.out)) : w.heap.size ≤ gb369)); have n4_ := Aside0.mk ((by rw [hg]; exact (below_size (bs1_ HB.out GE368.out)) : w.heap.size ≤ gb369)); have n5_ := Aside0.mk ((by rw [hg]; exact Nat.ne_of_lt (blk_lt (g := gb368) (o := .cells #[.int .i64 a0_0, .string a0_1, .int .i64 a0_2, .slice A0_3 l0_3.length c0_3] 24 (0, 0)) (bk_ BK368.out)) : gb368 ≠ gb369)); have n6_ := Aside0.mk ((by rw [hg]; exact Nat.ne_of_gt (blk_lt (g := gb368) (o := .cells #[.int .i64 a0_0, .string a0_1, .int .i64 a0_2, .slice A0_3 l0_3.length c0_3] 24 (0, 0)) (bk_ BK368.out)) : gb369 ≠ gb368)); clear BK368; clear HB; have BK368 := n0_; have HB := n1_; have BK369 := n2_; have GW369 := n3_; have GE369 := n4_; have NB368_369 := n5_; have NB369_368 := n6_; clear n0_ n1_ n2_ n3_ n4_ n5_ n6_; clear hb hbox hg) | ((with_reducible refine gate_dst (N := 5) rfl ?_); refine box_event ?hg (N := 5) ?hd (cs := #[.int .i64 a2_0, .string a2_1, .int .i64 a2_2, .slice A2_3 l2_3.length c2_3]) (t := 24) ?hr ?_; (case hd => rfl); (case hg => rfl); (case hr => first | (go_simp; done) | (go_simp; rfl)); intro gb370 hg w9 hbox hb; have n0_ := Aside0.mk (blk_below (g := gb368) (o := .cells #[.int .i64 a0_0, .string a0_1, .int .i64 a0_2, .slice A0_3 l0_3.length c0_3] 24 (0, 0)) (bk_ BK368.out) hb); have n1_ := Aside0.mk (blk_below (g := gb369) (o := .cells #[.int .i64 a1_0, .string a1_1, .int .i64 a1_2, .slice A1_3 l1_3.length c1_3] 24 (0, 0)) (bk_ BK369.out) hb); have n2_ := Aside0.mk (below_step (bs2_ HB.out GE368.out GE369.out) hb); have n3_ := Aside0.mk (hbox); have n4_ := Aside0.mk ((by rw [hg]; exact (below_size (bs2_ HB.out GE368.out GE369.out)) : w.heap.size ≤ gb370)); have n5_ := Aside0.mk ((by rw [hg]; exact (below_size (bs2_ HB.out GE368.out GE369.out)) : w.heap.size ≤ gb370)); have n6_ := Aside0.mk ((by rw [hg]; exact Nat.ne_of_lt (blk_lt (g := gb368) (o := .cells #[.int .i64 a0_0, .string a0_1, .int .i64 a0_2, .slice A0_3 l0_3.length c0_3] 24 (0, 0)) (bk_ BK368.out)) : gb368 ≠ gb370)); have n7_ := Aside0.mk ((by rw [hg]; exact Nat.ne_of_gt (blk_lt (g := gb368) (o := .cells #[.int .i64 a0_0, .string a0_1, .int .i64 a0_2, .slice A0_3 l0_3.length c0_3] 24 (0, 0)) (bk_ BK368.out)) : gb370 ≠ gb368)); have n8_ := Aside0.mk ((by rw [hg]; exact Nat.ne_of_lt (blk_lt (g := gb369) (o := .cells #[.int .i64 a1_0, .string a1_1, .int .i64 a1_2, .slice A1_3 l1_3.length c1_3] 24 (0, 0)) (bk_ BK369.out)) : gb369 ≠ gb370)); have n9_ := Aside0.mk ((by rw [hg]; exact Nat.ne_of_gt (blk_lt (g := gb369) (o := .cells #[.int .i64 a1_0, .string a1_1, .int .i64 a1_2, .slice A1_3 l1_3.length c1_3] 24 (0, 0)) (bk_ BK369.out)) : gb370 ≠ gb369)); clear BK368; clear BK369; clear HB; have BK368 := n0_; have BK369 := n1_; have HB := n2_; have BK370 := n3_; have GW370 := n4_; have GE370 := n5_; have NB368_370 := n6_; have NB370_368 := n7_; have NB369_370 := n8_; have NB370_369 := n9_; clear n0_ n1_ n2_ n3_ n4_ n5_ n6_ n7_ n8_ n9_; clear hb hbox hg) | ((with_reducible refine gate_callee (f := 7) rfl ?_); refine goesL_ (some 15) rfl rfl Tryd.func7 (by kernel_rfl) rfl #[] rfl (by (try simp only [List.map_toArray, List.map_cons, List.map_nil]); first | done | rfl | (simp only [List.length_drop, List.length_take]; rfl)) ?_; (with_reducible refine (vinculumlaw16_awake.calls k  true _ A4.out).mono ?_); rintro e w10 ⟨rfl, hb⟩; refine ⟨_, rfl, ?_⟩; have n0_ := Aside0.mk (blk_below (g := gb368) (o := .cells #[.int .i64 a0_0, .string a0_1, .int .i64 a0_2, .slice A0_3 l0_3.length c0_3] 24 (0, 0)) (bk_ BK368.out) hb); have n1_ := Aside0.mk (blk_below (g := gb369) (o := .cells #[.int .i64 a1_0, .string a1_1, .int .i64 a1_2, .slice A1_3 l1_3.length c1_3] 24 (0, 0)) (bk_ BK369.out) hb); have n2_ := Aside0.mk (blk_below (g := gb370) (o := .cells #[.int .i64 a2_0, .string a2_1, .int .i64 a2_2, .slice A2_3 l2_3.length c2_3] 24 (0, 0)) (bk_ BK370.out) hb); have n3_ := Aside0.mk (below_step (by repeat (first | (with_reducible first | exact HB.out | apply below_alloc | apply pw_below_drewN | apply below_drew1 | refine below_set ?_ GE368.out | refine below_set ?_ GE369.out | refine below_set ?_ GE370.out) | exact HB.out)) hb); clear BK368; clear BK369; clear BK370; clear HB; have BK368 := n0_; have BK369 := n1_; have BK370 := n2_; have HB := n3_; clear n0_ n1_ n2_ n3_; (try clear hb); (try clear hb2); (try clear hk); (try clear hi)))
  (try simp only [Act.put, List.setIfInBounds_toArray, List.set_cons_zero, List.set_cons_succ])
  go_cut [40] (fun v40 wc => ∃ (kq : Nat) (x40_5 : Bool), v40 = .bool x40_5 ∧ Aside0 (vinculumlaw16_DiffMetric.j0 kq x40_5 a0_0 a0_1 a0_2 l0_3 a1_0 a1_1 a1_2 l1_3 a2_0 a2_1 a2_2 l2_3 = some r) ∧ Aside0 (kq ≤ k) ∧ Aside0 (wc.heap[gb368]? = some (.cells #[.int .i64 a0_0, .string a0_1, .int .i64 a0_2, (.slice A0_3 l0_3.length c0_3)] 24 (0, 0))) ∧ Aside0 (wc.heap[gb369]? = some (.cells #[.int .i64 a1_0, .string a1_1, .int .i64 a1_2, (.slice A1_3 l1_3.length c1_3)] 24 (0, 0))) ∧ Aside0 (wc.heap[gb370]? = some (.cells #[.int .i64 a2_0, .string a2_1, .int .i64 a2_2, (.slice A2_3 l2_3.length c2_3)] 24 (0, 0))) ∧ Aside0 (Below w.heap.size w wc))
  case first =>
   have H := HC6.out
   clear HC6
   replace H := Option.bind_eq_some_iff.mp H
   obtain ⟨t372, A110, H⟩ := H
   replace H : (if t372 = true then ((vinculumref09_Few.f k a2_0 a2_1 a2_2 l2_3 120).bind fun t373 => (if t373 = true then ((vinculumref09_Valid.f k a0_0 a0_1 a0_2 l0_3).bind fun t374 => (if t374 = true then ((vinculumref09_Valid.f k a1_0 a1_1 a1_2 l1_3).bind fun t375 => (if t375 = true then ((vinculumref09_Valid.f k a2_0 a2_1 a2_2 l2_3).bind fun t376 => (vinculumlaw16_DiffMetric.j0 k (!t376) a0_0 a0_1 a0_2 l0_3 a1_0 a1_1 a1_2 l1_3 a2_0 a2_1 a2_2 l2_3)) else (vinculumlaw16_DiffMetric.j0 k true a0_0 a0_1 a0_2 l0_3 a1_0 a1_1 a1_2 l1_3 a2_0 a2_1 a2_2 l2_3))) else (vinculumlaw16_DiffMetric.j0 k true a0_0 a0_1 a0_2 l0_3 a1_0 a1_1 a1_2 l1_3 a2_0 a2_1 a2_2 l2_3))) else (vinculumlaw16_DiffMetric.j0 k true a0_0 a0_1 a0_2 l0_3 a1_0 a1_1 a1_2 l1_3 a2_0 a2_1 a2_2 l2_3))) else (vinculumlaw16_DiffMetric.j0 k true a0_0 a0_1 a0_2 l0_3 a1_0 a1_1 a1_2 l1_3 a2_0 a2_1 a2_2 l2_3)) = some r := H
   have A11 := Aside0.mk A110
   clear A110
   by_cases c12 : t372 = true
   ·subst c12
    have H1 : ((vinculumref09_Few.f k a2_0 a2_1 a2_2 l2_3 120).bind fun t373 => (if t373 = true then ((vinculumref09_Valid.f k a0_0 a0_1 a0_2 l0_3).bind fun t374 => (if t374 = true then ((vinculumref09_Valid.f k a1_0 a1_1 a1_2 l1_3).bind fun t375 => (if t375 = true then ((vinculumref09_Valid.f k a2_0 a2_1 a2_2 l2_3).bind fun t376 => (vinculumlaw16_DiffMetric.j0 k (!t376) a0_0 a0_1 a0_2 l0_3 a1_0 a1_1 a1_2 l1_3 a2_0 a2_1 a2_2 l2_3)) else (vinculumlaw16_DiffMetric.j0 k true a0_0 a0_1 a0_2 l0_3 a1_0 a1_1 a1_2 l1_3 a2_0 a2_1 a2_2 l2_3))) else (vinculumlaw16_DiffMetric.j0 k true a0_0 a0_1 a0_2 l0_3 a1_0 a1_1 a1_2 l1_3 a2_0 a2_1 a2_2 l2_3))) else (vinculumlaw16_DiffMetric.j0 k true a0_0 a0_1 a0_2 l0_3 a1_0 a1_1 a1_2 l1_3 a2_0 a2_1 a2_2 l2_3))) = some r := by rw [if_pos rfl] at H; exact H
    clear H
    have H := H1
    clear H1
    replace H := Option.bind_eq_some_iff.mp H
    obtain ⟨t373, A130, H⟩ := H
    replace H : (if t373 = true then ((vinculumref09_Valid.f k a0_0 a0_1 a0_2 l0_3).bind fun t374 => (if t374 = true then ((vinculumref09_Valid.f k a1_0 a1_1 a1_2 l1_3).bind fun t375 => (if t375 = true then ((vinculumref09_Valid.f k a2_0 a2_1 a2_2 l2_3).bind fun t376 => (vinculumlaw16_DiffMetric.j0 k (!t376) a0_0 a0_1 a0_2 l0_3 a1_0 a1_1 a1_2 l1_3 a2_0 a2_1 a2_2 l2_3)) else (vinculumlaw16_DiffMetric.j0 k true a0_0 a0_1 a0_2 l0_3 a1_0 a1_1 a1_2 l1_3 a2_0 a2_1 a2_2 l2_3))) else (vinculumlaw16_DiffMetric.j0 k true a0_0 a0_1 a0_2 l0_3 a1_0 a1_1 a1_2 l1_3 a2_0 a2_1 a2_2 l2_3))) else (vinculumlaw16_DiffMetric.j0 k true a0_0 a0_1 a0_2 l0_3 a1_0 a1_1 a1_2 l1_3 a2_0 a2_1 a2_2 l2_3)) = some r := H
    have A13 := Aside0.mk A130
    clear A130
    by_cases c14 : t373 = true
    ·subst c14
     have H1 : ((vinculumref09_Valid.f k a0_0 a0_1 a0_2 l0_3).bind fun t374 => (if t374 = true then ((vinculumref09_Valid.f k a1_0 a1_1 a1_2 l1_3).bind fun t375 => (if t375 = true then ((vinculumref09_Valid.f k a2_0 a2_1 a2_2 l2_3).bind fun t376 => (vinculumlaw16_DiffMetric.j0 k (!t376) a0_0 a0_1 a0_2 l0_3 a1_0 a1_1 a1_2 l1_3 a2_0 a2_1 a2_2 l2_3)) else (vinculumlaw16_DiffMetric.j0 k true a0_0 a0_1 a0_2 l0_3 a1_0 a1_1 a1_2 l1_3 a2_0 a2_1 a2_2 l2_3))) else (vinculumlaw16_DiffMetric.j0 k true a0_0 a0_1 a0_2 l0_3 a1_0 a1_1 a1_2 l1_3 a2_0 a2_1 a2_2 l2_3))) = some r := by rw [if_pos rfl] at H; exact H
     clear H
     have H := H1
     clear H1
     replace H := Option.bind_eq_some_iff.mp H
     obtain ⟨t374, A150, H⟩ := H
     replace H : (if t374 = true then ((vinculumref09_Valid.f k a1_0 a1_1 a1_2 l1_3).bind fun t375 => (if t375 = true then ((vinculumref09_Valid.f k a2_0 a2_1 a2_2 l2_3).bind fun t376 => (vinculumlaw16_DiffMetric.j0 k (!t376) a0_0 a0_1 a0_2 l0_3 a1_0 a1_1 a1_2 l1_3 a2_0 a2_1 a2_2 l2_3)) else (vinculumlaw16_DiffMetric.j0 k true a0_0 a0_1 a0_2 l0_3 a1_0 a1_1 a1_2 l1_3 a2_0 a2_1 a2_2 l2_3))) else (vinculumlaw16_DiffMetric.j0 k true a0_0 a0_1 a0_2 l0_3 a1_0 a1_1 a1_2 l1_3 a2_0 a2_1 a2_2 l2_3)) = some r := H
     have A15 := Aside0.mk A150
     clear A150
     by_cases c16 : t374 = true
     ·subst c16
      have H1 : ((vinculumref09_Valid.f k a1_0 a1_1 a1_2 l1_3).bind fun t375 => (if t375 = true then ((vinculumref09_Valid.f k a2_0 a2_1 a2_2 l2_3).bind fun t376 => (vinculumlaw16_DiffMetric.j0 k (!t376) a0_0 a0_1 a0_2 l0_3 a1_0 a1_1 a1_2 l1_3 a2_0 a2_1 a2_2 l2_3)) else (vinculumlaw16_DiffMetric.j0 k true a0_0 a0_1 a0_2 l0_3 a1_0 a1_1 a1_2 l1_3 a2_0 a2_1 a2_2 l2_3))) = some r := by rw [if_pos rfl] at H; exact H
      clear H
      have H := H1
      clear H1
      replace H := Option.bind_eq_some_iff.mp H
      obtain ⟨t375, A170, H⟩ := H
      replace H : (if t375 = true then ((vinculumref09_Valid.f k a2_0 a2_1 a2_2 l2_3).bind fun t376 => (vinculumlaw16_DiffMetric.j0 k (!t376) a0_0 a0_1 a0_2 l0_3 a1_0 a1_1 a1_2 l1_3 a2_0 a2_1 a2_2 l2_3)) else (vinculumlaw16_DiffMetric.j0 k true a0_0 a0_1 a0_2 l0_3 a1_0 a1_1 a1_2 l1_3 a2_0 a2_1 a2_2 l2_3)) = some r := H
      have A17 := Aside0.mk A170
      clear A170
      by_cases c18 : t375 = true
      ·subst c18
       have H1 : ((vinculumref09_Valid.f k a2_0 a2_1 a2_2 l2_3).bind fun t376 => (vinculumlaw16_DiffMetric.j0 k (!t376) a0_0 a0_1 a0_2 l0_3 a1_0 a1_1 a1_2 l1_3 a2_0 a2_1 a2_2 l2_3)) = some r := by rw [if_pos rfl] at H; exact H
       clear H
       have H := H1
       clear H1
       replace H := Option.bind_eq_some_iff.mp H
       obtain ⟨t376, A190, H⟩ := H
       replace H : (vinculumlaw16_DiffMetric.j0 k (!t376) a0_0 a0_1 a0_2 l0_3 a1_0 a1_1 a1_2 l1_3 a2_0 a2_1 a2_2 l2_3) = some r := H
       have A19 := Aside0.mk A190
       clear A190
       have H' := Aside0.mk H
       clear H
       have hnb20 := NB368_369.out
       have hnc20 := NB369_368.out
       have hnb21 := NB368_370.out
       have hnc21 := NB370_368.out
       have hcz22_0 : w10.cell? ⟨gb368, 0, none⟩ = some (.int .i64 a0_0) := (blk_cell BK368.out 0).trans rfl
       have hcz22_1 : w10.cell? ⟨gb368, 1, none⟩ = some (.string a0_1) := (blk_cell BK368.out 1).trans rfl
       have hcz22_2 : w10.cell? ⟨gb368, 2, none⟩ = some (.int .i64 a0_2) := (blk_cell BK368.out 2).trans rfl
       have hcz22_3 : w10.cell? ⟨gb368, 3, none⟩ = some (.slice A0_3 l0_3.length c0_3) := (blk_cell BK368.out 3).trans rfl
       have hfz22_0 := blk_frozen BK368.out 0
       have hfz22_1 := blk_frozen BK368.out 1
       have hfz22_2 := blk_frozen BK368.out 2
       have hfz22_3 := blk_frozen BK368.out 3
       have hnb23 := NB369_370.out
       have hnc23 := NB370_369.out
       have hcz24_0 : w10.cell? ⟨gb369, 0, none⟩ = some (.int .i64 a1_0) := (blk_cell BK369.out 0).trans rfl
       have hcz24_1 : w10.cell? ⟨gb369, 1, none⟩ = some (.string a1_1) := (blk_cell BK369.out 1).trans rfl
       have hcz24_2 : w10.cell? ⟨gb369, 2, none⟩ = some (.int .i64 a1_2) := (blk_cell BK369.out 2).trans rfl
       have hcz24_3 : w10.cell? ⟨gb369, 3, none⟩ = some (.slice A1_3 l1_3.length c1_3) := (blk_cell BK369.out 3).trans rfl
       have hfz24_0 := blk_frozen BK369.out 0
       have hfz24_1 := blk_frozen BK369.out 1
       have hfz24_2 := blk_frozen BK369.out 2
       have hfz24_3 := blk_frozen BK369.out 3
       go_wp2_with (first | ((with_reducible refine gate_callee (f := 8) rfl ?_); refine goesL_ (some 19) rfl rfl Tryd.func8 (by kernel_rfl) rfl #[.agg #[.int .i64 a0_0, .string a0_1, .int .i64 a0_2, .slice A0_3 l0_3.length c0_3], .agg #[.int .i64 a1_0, .string a1_1, .int .i64 a1_2, .slice A1_3 l1_3.length c1_3]] rfl (by (try simp only [List.map_toArray, List.map_cons, List.map_nil]); first | done | rfl | (simp only [List.length_drop, List.length_take]; rfl)) ?_; (with_reducible refine (vinculumlaw16_few.calls k a0_0 a0_1 a0_2 _ _ l0_3 a1_0 a1_1 a1_2 _ _ l1_3 true _ ?side1 ?side2 ?side3 ?side4 A11.out).mono ?_); (case side1 => exact kc_ HR0_3.out HB.out); (case side2 => exact HC0_3.out); (case side3 => exact kc_ HR1_3.out HB.out); (case side4 => exact HC1_3.out); rintro e w25 ⟨rfl, hb⟩; refine ⟨_, rfl, ?_⟩; have n0_ := Aside0.mk (blk_below (g := gb368) (o := .cells #[.int .i64 a0_0, .string a0_1, .int .i64 a0_2, .slice A0_3 l0_3.length c0_3] 24 (0, 0)) (bk_ BK368.out) hb); have n1_ := Aside0.mk (blk_below (g := gb369) (o := .cells #[.int .i64 a1_0, .string a1_1, .int .i64 a1_2, .slice A1_3 l1_3.length c1_3] 24 (0, 0)) (bk_ BK369.out) hb); have n2_ := Aside0.mk (blk_below (g := gb370) (o := .cells #[.int .i64 a2_0, .string a2_1, .int .i64 a2_2, .slice A2_3 l2_3.length c2_3] 24 (0, 0)) (bk_ BK370.out) hb); have n3_ := Aside0.mk (below_step (by repeat (first | (with_reducible first | exact HB.out | apply below_alloc | apply pw_below_drewN | apply below_drew1 | refine below_set ?_ GE368.out | refine below_set ?_ GE369.out | refine below_set ?_ GE370.out) | exact HB.out)) hb); clear BK368; clear BK369; clear BK370; clear HB; have BK368 := n0_; have BK369 := n1_; have BK370 := n2_; have HB := n3_; clear n0_ n1_ n2_ n3_; (try clear hb); (try clear hb2); (try clear hk); (try clear hi); have hcz26_0 : w25.cell? ⟨gb370, 0, none⟩ = some (.int .i64 a2_0) := (blk_cell BK370.out 0).trans rfl; have hcz26_1 : w25.cell? ⟨gb370, 1, none⟩ = some (.string a2_1) := (blk_cell BK370.out 1).trans rfl; have hcz26_2 : w25.cell? ⟨gb370, 2, none⟩ = some (.int .i64 a2_2) := (blk_cell BK370.out 2).trans rfl; have hcz26_3 : w25.cell? ⟨gb370, 3, none⟩ = some (.slice A2_3 l2_3.length c2_3) := (blk_cell BK370.out 3).trans rfl; have hfz26_0 := blk_frozen BK370.out 0; have hfz26_1 := blk_frozen BK370.out 1; have hfz26_2 := blk_frozen BK370.out 2; have hfz26_3 := blk_frozen BK370.out 3) | (go_at_call 12; (with_reducible refine (vinculumref09_Few.calls k a2_0 a2_1 a2_2 _ _ l2_3 120 true _ ?side1 ?side2 A13.out).mono ?_); (case side1 => exact kc_ HR2_3.out HB.out); (case side2 => exact HC2_3.out); rintro e w27 ⟨rfl, hb⟩; have n0_ := Aside0.mk (blk_below (g := gb368) (o := .cells #[.int .i64 a0_0, .string a0_1, .int .i64 a0_2, .slice A0_3 l0_3.length c0_3] 24 (0, 0)) (bk_ BK368.out) hb); have n1_ := Aside0.mk (blk_below (g := gb369) (o := .cells #[.int .i64 a1_0, .string a1_1, .int .i64 a1_2, .slice A1_3 l1_3.length c1_3] 24 (0, 0)) (bk_ BK369.out) hb); have n2_ := Aside0.mk (blk_below (g := gb370) (o := .cells #[.int .i64 a2_0, .string a2_1, .int .i64 a2_2, .slice A2_3 l2_3.length c2_3] 24 (0, 0)) (bk_ BK370.out) hb); have n3_ := Aside0.mk (below_step (by repeat (first | (with_reducible first | exact HB.out | apply below_alloc | apply pw_below_drewN | apply below_drew1 | refine below_set ?_ GE368.out | refine below_set ?_ GE369.out | refine below_set ?_ GE370.out) | exact HB.out)) hb); clear BK368; clear BK369; clear BK370; clear HB; have BK368 := n0_; have BK369 := n1_; have BK370 := n2_; have HB := n3_; clear n0_ n1_ n2_ n3_; (try clear hb); (try clear hb2); (try clear hk); (try clear hi); have hcz28_0 : w27.cell? ⟨gb368, 0, none⟩ = some (.int .i64 a0_0) := (blk_cell BK368.out 0).trans rfl; have hcz28_1 : w27.cell? ⟨gb368, 1, none⟩ = some (.string a0_1) := (blk_cell BK368.out 1).trans rfl; have hcz28_2 : w27.cell? ⟨gb368, 2, none⟩ = some (.int .i64 a0_2) := (blk_cell BK368.out 2).trans rfl; have hcz28_3 : w27.cell? ⟨gb368, 3, none⟩ = some (.slice A0_3 l0_3.length c0_3) := (blk_cell BK368.out 3).trans rfl; have hfz28_0 := blk_frozen BK368.out 0; have hfz28_1 := blk_frozen BK368.out 1; have hfz28_2 := blk_frozen BK368.out 2; have hfz28_3 := blk_frozen BK368.out 3) | (go_at_call 10; (with_reducible refine (vinculumref09_Valid.calls k a0_0 a0_1 a0_2 _ _ l0_3 true _ ?side1 ?side2 A15.out).mono ?_); (case side1 => exact kc_ HR0_3.out HB.out); (case side2 => exact HC0_3.out); rintro e w29 ⟨rfl, hb⟩; have n0_ := Aside0.mk (blk_below (g := gb368) (o := .cells #[.int .i64 a0_0, .string a0_1, .int .i64 a0_2, .slice A0_3 l0_3.length c0_3] 24 (0, 0)) (bk_ BK368.out) hb); have n1_ := Aside0.mk (blk_below (g := gb369) (o := .cells #[.int .i64 a1_0, .string a1_1, .int .i64 a1_2, .slice A1_3 l1_3.length c1_3] 24 (0, 0)) (bk_ BK369.out) hb); have n2_ := Aside0.mk (blk_below (g := gb370) (o := .cells #[.int .i64 a2_0, .string a2_1, .int .i64 a2_2, .slice A2_3 l2_3.length c2_3] 24 (0, 0)) (bk_ BK370.out) hb); have n3_ := Aside0.mk (below_step (by repeat (first | (with_reducible first | exact HB.out | apply below_alloc | apply pw_below_drewN | apply below_drew1 | refine below_set ?_ GE368.out | refine below_set ?_ GE369.out | refine below_set ?_ GE370.out) | exact HB.out)) hb); clear BK368; clear BK369; clear BK370; clear HB; have BK368 := n0_; have BK369 := n1_; have BK370 := n2_; have HB := n3_; clear n0_ n1_ n2_ n3_; (try clear hb); (try clear hb2); (try clear hk); (try clear hi); have hcz30_0 : w29.cell? ⟨gb369, 0, none⟩ = some (.int .i64 a1_0) := (blk_cell BK369.out 0).trans rfl; have hcz30_1 : w29.cell? ⟨gb369, 1, none⟩ = some (.string a1_1) := (blk_cell BK369.out 1).trans rfl; have hcz30_2 : w29.cell? ⟨gb369, 2, none⟩ = some (.int .i64 a1_2) := (blk_cell BK369.out 2).trans rfl; have hcz30_3 : w29.cell? ⟨gb369, 3, none⟩ = some (.slice A1_3 l1_3.length c1_3) := (blk_cell BK369.out 3).trans rfl; have hfz30_0 := blk_frozen BK369.out 0; have hfz30_1 := blk_frozen BK369.out 1; have hfz30_2 := blk_frozen BK369.out 2; have hfz30_3 := blk_frozen BK369.out 3) | (go_at_call 10; (with_reducible refine (vinculumref09_Valid.calls k a1_0 a1_1 a1_2 _ _ l1_3 true _ ?side1 ?side2 A17.out).mono ?_); (case side1 => exact kc_ HR1_3.out HB.out); (case side2 => exact HC1_3.out); rintro e w31 ⟨rfl, hb⟩; have n0_ := Aside0.mk (blk_below (g := gb368) (o := .cells #[.int .i64 a0_0, .string a0_1, .int .i64 a0_2, .slice A0_3 l0_3.length c0_3] 24 (0, 0)) (bk_ BK368.out) hb); have n1_ := Aside0.mk (blk_below (g := gb369) (o := .cells #[.int .i64 a1_0, .string a1_1, .int .i64 a1_2, .slice A1_3 l1_3.length c1_3] 24 (0, 0)) (bk_ BK369.out) hb); have n2_ := Aside0.mk (blk_below (g := gb370) (o := .cells #[.int .i64 a2_0, .string a2_1, .int .i64 a2_2, .slice A2_3 l2_3.length c2_3] 24 (0, 0)) (bk_ BK370.out) hb); have n3_ := Aside0.mk (below_step (by repeat (first | (with_reducible first | exact HB.out | apply below_alloc | apply pw_below_drewN | apply below_drew1 | refine below_set ?_ GE368.out | refine below_set ?_ GE369.out | refine below_set ?_ GE370.out) | exact HB.out)) hb); clear BK368; clear BK369; clear BK370; clear HB; have BK368 := n0_; have BK369 := n1_; have BK370 := n2_; have HB := n3_; clear n0_ n1_ n2_ n3_; (try clear hb); (try clear hb2); (try clear hk); (try clear hi); have hcz32_0 : w31.cell? ⟨gb370, 0, none⟩ = some (.int .i64 a2_0) := (blk_cell BK370.out 0).trans rfl; have hcz32_1 : w31.cell? ⟨gb370, 1, none⟩ = some (.string a2_1) := (blk_cell BK370.out 1).trans rfl; have hcz32_2 : w31.cell? ⟨gb370, 2, none⟩ = some (.int .i64 a2_2) := (blk_cell BK370.out 2).trans rfl; have hcz32_3 : w31.cell? ⟨gb370, 3, none⟩ = some (.slice A2_3 l2_3.length c2_3) := (blk_cell BK370.out 3).trans rfl; have hfz32_0 := blk_frozen BK370.out 0; have hfz32_1 := blk_frozen BK370.out 1; have hfz32_2 := blk_frozen BK370.out 2; have hfz32_3 := blk_frozen BK370.out 3) | (go_at_call 10; (with_reducible refine (vinculumref09_Valid.calls k a2_0 a2_1 a2_2 _ _ l2_3 t376 _ ?side1 ?side2 A19.out).mono ?_); (case side1 => exact kc_ HR2_3.out HB.out); (case side2 => exact HC2_3.out); rintro e w33 ⟨rfl, hb⟩; have n0_ := Aside0.mk (blk_below (g := gb368) (o := .cells #[.int .i64 a0_0, .string a0_1, .int .i64 a0_2, .slice A0_3 l0_3.length c0_3] 24 (0, 0)) (bk_ BK368.out) hb); have n1_ := Aside0.mk (blk_below (g := gb369) (o := .cells #[.int .i64 a1_0, .string a1_1, .int .i64 a1_2, .slice A1_3 l1_3.length c1_3] 24 (0, 0)) (bk_ BK369.out) hb); have n2_ := Aside0.mk (blk_below (g := gb370) (o := .cells #[.int .i64 a2_0, .string a2_1, .int .i64 a2_2, .slice A2_3 l2_3.length c2_3] 24 (0, 0)) (bk_ BK370.out) hb); have n3_ := Aside0.mk (below_step (by repeat (first | (with_reducible first | exact HB.out | apply below_alloc | apply pw_below_drewN | apply below_drew1 | refine below_set ?_ GE368.out | refine below_set ?_ GE369.out | refine below_set ?_ GE370.out) | exact HB.out)) hb); clear BK368; clear BK369; clear BK370; clear HB; have BK368 := n0_; have BK369 := n1_; have BK370 := n2_; have HB := n3_; clear n0_ n1_ n2_ n3_; (try clear hb); (try clear hb2); (try clear hk); (try clear hi)))
       go_meet
       case rel => exact ⟨_, (!t376), (by first | rfl | (simp; done) | (simp [*]; done)), H', ⟨by first | omega | exact Nat.le_refl _⟩, ⟨bk_ BK368.out⟩, ⟨bk_ BK369.out⟩, ⟨bk_ BK370.out⟩, ⟨by repeat (first | (with_reducible first | exact HB.out | apply below_alloc | apply pw_below_drewN | apply below_drew1 | refine below_set ?_ GE368.out | refine below_set ?_ GE369.out | refine below_set ?_ GE370.out) | exact HB.out)⟩⟩
      ·replace c18 := Bool.eq_false_iff.mpr c18
       subst c18
       have H1 : (vinculumlaw16_DiffMetric.j0 k true a0_0 a0_1 a0_2 l0_3 a1_0 a1_1 a1_2 l1_3 a2_0 a2_1 a2_2 l2_3) = some r := by rw [if_neg (show ¬ (false = true) by decide)] at H; exact H
       clear H
       have H := H1
       clear H1
       have H' := Aside0.mk H
       clear H
       have hnb34 := NB368_369.out
       have hnc34 := NB369_368.out
       have hnb35 := NB368_370.out
       have hnc35 := NB370_368.out
       have hcz36_0 : w10.cell? ⟨gb368, 0, none⟩ = some (.int .i64 a0_0) := (blk_cell BK368.out 0).trans rfl
       have hcz36_1 : w10.cell? ⟨gb368, 1, none⟩ = some (.string a0_1) := (blk_cell BK368.out 1).trans rfl
       have hcz36_2 : w10.cell? ⟨gb368, 2, none⟩ = some (.int .i64 a0_2) := (blk_cell BK368.out 2).trans rfl
       have hcz36_3 : w10.cell? ⟨gb368, 3, none⟩ = some (.slice A0_3 l0_3.length c0_3) := (blk_cell BK368.out 3).trans rfl
       have hfz36_0 := blk_frozen BK368.out 0
       have hfz36_1 := blk_frozen BK368.out 1
       have hfz36_2 := blk_frozen BK368.out 2
       have hfz36_3 := blk_frozen BK368.out 3
       have hnb37 := NB369_370.out
       have hnc37 := NB370_369.out
       have hcz38_0 : w10.cell? ⟨gb369, 0, none⟩ = some (.int .i64 a1_0) := (blk_cell BK369.out 0).trans rfl
       have hcz38_1 : w10.cell? ⟨gb369, 1, none⟩ = some (.string a1_1) := (blk_cell BK369.out 1).trans rfl
       have hcz38_2 : w10.cell? ⟨gb369, 2, none⟩ = some (.int .i64 a1_2) := (blk_cell BK369.out 2).trans rfl
       have hcz38_3 : w10.cell? ⟨gb369, 3, none⟩ = some (.slice A1_3 l1_3.length c1_3) := (blk_cell BK369.out 3).trans rfl
       have hfz38_0 := blk_frozen BK369.out 0
       have hfz38_1 := blk_frozen BK369.out 1
       have hfz38_2 := blk_frozen BK369.out 2
       have hfz38_3 := blk_frozen BK369.out 3
       go_wp2_with (first | ((with_reducible refine gate_callee (f := 8) rfl ?_); refine goesL_ (some 19) rfl rfl Tryd.func8 (by kernel_rfl) rfl #[.agg #[.int .i64 a0_0, .string a0_1, .int .i64 a0_2, .slice A0_3 l0_3.length c0_3], .agg #[.int .i64 a1_0, .string a1_1, .int .i64 a1_2, .slice A1_3 l1_3.length c1_3]] rfl (by (try simp only [List.map_toArray, List.map_cons, List.map_nil]); first | done | rfl | (simp only [List.length_drop, List.length_take]; rfl)) ?_; (with_reducible refine (vinculumlaw16_few.calls k a0_0 a0_1 a0_2 _ _ l0_3 a1_0 a1_1 a1_2 _ _ l1_3 true _ ?side1 ?side2 ?side3 ?side4 A11.out).mono ?_); (case side1 => exact kc_ HR0_3.out HB.out); (case side2 => exact HC0_3.out); (case side3 => exact kc_ HR1_3.out HB.out); (case side4 => exact HC1_3.out); rintro e w39 ⟨rfl, hb⟩; refine ⟨_, rfl, ?_⟩; have n0_ := Aside0.mk (blk_below (g := gb368) (o := .cells #[.int .i64 a0_0, .string a0_1, .int .i64 a0_2, .slice A0_3 l0_3.length c0_3] 24 (0, 0)) (bk_ BK368.out) hb); have n1_ := Aside0.mk (blk_below (g := gb369) (o := .cells #[.int .i64 a1_0, .string a1_1, .int .i64 a1_2, .slice A1_3 l1_3.length c1_3] 24 (0, 0)) (bk_ BK369.out) hb); have n2_ := Aside0.mk (blk_below (g := gb370) (o := .cells #[.int .i64 a2_0, .string a2_1, .int .i64 a2_2, .slice A2_3 l2_3.length c2_3] 24 (0, 0)) (bk_ BK370.out) hb); have n3_ := Aside0.mk (below_step (by repeat (first | (with_reducible first | exact HB.out | apply below_alloc | apply pw_below_drewN | apply below_drew1 | refine below_set ?_ GE368.out | refine below_set ?_ GE369.out | refine below_set ?_ GE370.out) | exact HB.out)) hb); clear BK368; clear BK369; clear BK370; clear HB; have BK368 := n0_; have BK369 := n1_; have BK370 := n2_; have HB := n3_; clear n0_ n1_ n2_ n3_; (try clear hb); (try clear hb2); (try clear hk); (try clear hi); have hcz40_0 : w39.cell? ⟨gb370, 0, none⟩ = some (.int .i64 a2_0) := (blk_cell BK370.out 0).trans rfl; have hcz40_1 : w39.cell? ⟨gb370, 1, none⟩ = some (.string a2_1) := (blk_cell BK370.out 1).trans rfl; have hcz40_2 : w39.cell? ⟨gb370, 2, none⟩ = some (.int .i64 a2_2) := (blk_cell BK370.out 2).trans rfl; have hcz40_3 : w39.cell? ⟨gb370, 3, none⟩ = some (.slice A2_3 l2_3.length c2_3) := (blk_cell BK370.out 3).trans rfl; have hfz40_0 := blk_frozen BK370.out 0; have hfz40_1 := blk_frozen BK370.out 1; have hfz40_2 := blk_frozen BK370.out 2; have hfz40_3 := blk_frozen BK370.out 3) | (go_at_call 12; (with_reducible refine (vinculumref09_Few.calls k a2_0 a2_1 a2_2 _ _ l2_3 120 true _ ?side1 ?side2 A13.out).mono ?_); (case side1 => exact kc_ HR2_3.out HB.out); (case side2 => exact HC2_3.out); rintro e w41 ⟨rfl, hb⟩; have n0_ := Aside0.mk (blk_below (g := gb368) (o := .cells #[.int .i64 a0_0, .string a0_1, .int .i64 a0_2, .slice A0_3 l0_3.length c0_3] 24 (0, 0)) (bk_ BK368.out) hb); have n1_ := Aside0.mk (blk_below (g := gb369) (o := .cells #[.int .i64 a1_0, .string a1_1, .int .i64 a1_2, .slice A1_3 l1_3.length c1_3] 24 (0, 0)) (bk_ BK369.out) hb); have n2_ := Aside0.mk (blk_below (g := gb370) (o := .cells #[.int .i64 a2_0, .string a2_1, .int .i64 a2_2, .slice A2_3 l2_3.length c2_3] 24 (0, 0)) (bk_ BK370.out) hb); have n3_ := Aside0.mk (below_step (by repeat (first | (with_reducible first | exact HB.out | apply below_alloc | apply pw_below_drewN | apply below_drew1 | refine below_set ?_ GE368.out | refine below_set ?_ GE369.out | refine below_set ?_ GE370.out) | exact HB.out)) hb); clear BK368; clear BK369; clear BK370; clear HB; have BK368 := n0_; have BK369 := n1_; have BK370 := n2_; have HB := n3_; clear n0_ n1_ n2_ n3_; (try clear hb); (try clear hb2); (try clear hk); (try clear hi); have hcz42_0 : w41.cell? ⟨gb368, 0, none⟩ = some (.int .i64 a0_0) := (blk_cell BK368.out 0).trans rfl; have hcz42_1 : w41.cell? ⟨gb368, 1, none⟩ = some (.string a0_1) := (blk_cell BK368.out 1).trans rfl; have hcz42_2 : w41.cell? ⟨gb368, 2, none⟩ = some (.int .i64 a0_2) := (blk_cell BK368.out 2).trans rfl; have hcz42_3 : w41.cell? ⟨gb368, 3, none⟩ = some (.slice A0_3 l0_3.length c0_3) := (blk_cell BK368.out 3).trans rfl; have hfz42_0 := blk_frozen BK368.out 0; have hfz42_1 := blk_frozen BK368.out 1; have hfz42_2 := blk_frozen BK368.out 2; have hfz42_3 := blk_frozen BK368.out 3) | (go_at_call 10; (with_reducible refine (vinculumref09_Valid.calls k a0_0 a0_1 a0_2 _ _ l0_3 true _ ?side1 ?side2 A15.out).mono ?_); (case side1 => exact kc_ HR0_3.out HB.out); (case side2 => exact HC0_3.out); rintro e w43 ⟨rfl, hb⟩; have n0_ := Aside0.mk (blk_below (g := gb368) (o := .cells #[.int .i64 a0_0, .string a0_1, .int .i64 a0_2, .slice A0_3 l0_3.length c0_3] 24 (0, 0)) (bk_ BK368.out) hb); have n1_ := Aside0.mk (blk_below (g := gb369) (o := .cells #[.int .i64 a1_0, .string a1_1, .int .i64 a1_2, .slice A1_3 l1_3.length c1_3] 24 (0, 0)) (bk_ BK369.out) hb); have n2_ := Aside0.mk (blk_below (g := gb370) (o := .cells #[.int .i64 a2_0, .string a2_1, .int .i64 a2_2, .slice A2_3 l2_3.length c2_3] 24 (0, 0)) (bk_ BK370.out) hb); have n3_ := Aside0.mk (below_step (by repeat (first | (with_reducible first | exact HB.out | apply below_alloc | apply pw_below_drewN | apply below_drew1 | refine below_set ?_ GE368.out | refine below_set ?_ GE369.out | refine below_set ?_ GE370.out) | exact HB.out)) hb); clear BK368; clear BK369; clear BK370; clear HB; have BK368 := n0_; have BK369 := n1_; have BK370 := n2_; have HB := n3_; clear n0_ n1_ n2_ n3_; (try clear hb); (try clear hb2); (try clear hk); (try clear hi); have hcz44_0 : w43.cell? ⟨gb369, 0, none⟩ = some (.int .i64 a1_0) := (blk_cell BK369.out 0).trans rfl; have hcz44_1 : w43.cell? ⟨gb369, 1, none⟩ = some (.string a1_1) := (blk_cell BK369.out 1).trans rfl; have hcz44_2 : w43.cell? ⟨gb369, 2, none⟩ = some (.int .i64 a1_2) := (blk_cell BK369.out 2).trans rfl; have hcz44_3 : w43.cell? ⟨gb369, 3, none⟩ = some (.slice A1_3 l1_3.length c1_3) := (blk_cell BK369.out 3).trans rfl; have hfz44_0 := blk_frozen BK369.out 0; have hfz44_1 := blk_frozen BK369.out 1; have hfz44_2 := blk_frozen BK369.out 2; have hfz44_3 := blk_frozen BK369.out 3) | (go_at_call 10; (with_reducible refine (vinculumref09_Valid.calls k a1_0 a1_1 a1_2 _ _ l1_3 false _ ?side1 ?side2 A17.out).mono ?_); (case side1 => exact kc_ HR1_3.out HB.out); (case side2 => exact HC1_3.out); rintro e w45 ⟨rfl, hb⟩; have n0_ := Aside0.mk (blk_below (g := gb368) (o := .cells #[.int .i64 a0_0, .string a0_1, .int .i64 a0_2, .slice A0_3 l0_3.length c0_3] 24 (0, 0)) (bk_ BK368.out) hb); have n1_ := Aside0.mk (blk_below (g := gb369) (o := .cells #[.int .i64 a1_0, .string a1_1, .int .i64 a1_2, .slice A1_3 l1_3.length c1_3] 24 (0, 0)) (bk_ BK369.out) hb); have n2_ := Aside0.mk (blk_below (g := gb370) (o := .cells #[.int .i64 a2_0, .string a2_1, .int .i64 a2_2, .slice A2_3 l2_3.length c2_3] 24 (0, 0)) (bk_ BK370.out) hb); have n3_ := Aside0.mk (below_step (by repeat (first | (with_reducible first | exact HB.out | apply below_alloc | apply pw_below_drewN | apply below_drew1 | refine below_set ?_ GE368.out | refine below_set ?_ GE369.out | refine below_set ?_ GE370.out) | exact HB.out)) hb); clear BK368; clear BK369; clear BK370; clear HB; have BK368 := n0_; have BK369 := n1_; have BK370 := n2_; have HB := n3_; clear n0_ n1_ n2_ n3_; (try clear hb); (try clear hb2); (try clear hk); (try clear hi)))
       go_meet
       case rel => exact ⟨_, (true), (by first | rfl | (simp; done) | (simp [*]; done)), H', ⟨by first | omega | exact Nat.le_refl _⟩, ⟨bk_ BK368.out⟩, ⟨bk_ BK369.out⟩, ⟨bk_ BK370.out⟩, ⟨by repeat (first | (with_reducible first | exact HB.out | apply below_alloc | apply pw_below_drewN | apply below_drew1 | refine below_set ?_ GE368.out | refine below_set ?_ GE369.out | refine below_set ?_ GE370.out) | exact HB.out)⟩⟩
     ·replace c16 := Bool.eq_false_iff.mpr c16
      subst c16
      have H1 : (vinculumlaw16_DiffMetric.j0 k true a0_0 a0_1 a0_2 l0_3 a1_0 a1_1 a1_2 l1_3 a2_0 a2_1 a2_2 l2_3) = some r := by rw [if_neg (show ¬ (false = true) by decide)] at H; exact H
      clear H
      have H := H1
      clear H1
      have H' := Aside0.mk H
      clear H
      have hnb46 := NB368_369.out
      have hnc46 := NB369_368.out
      have hnb47 := NB368_370.out
      have hnc47 := NB370_368.out
      have hcz48_0 : w10.cell? ⟨gb368, 0, none⟩ = some (.int .i64 a0_0) := (blk_cell BK368.out 0).trans rfl
      have hcz48_1 : w10.cell? ⟨gb368, 1, none⟩ = some (.string a0_1) := (blk_cell BK368.out 1).trans rfl
      have hcz48_2 : w10.cell? ⟨gb368, 2, none⟩ = some (.int .i64 a0_2) := (blk_cell BK368.out 2).trans rfl
      have hcz48_3 : w10.cell? ⟨gb368, 3, none⟩ = some (.slice A0_3 l0_3.length c0_3) := (blk_cell BK368.out 3).trans rfl
      have hfz48_0 := blk_frozen BK368.out 0
      have hfz48_1 := blk_frozen BK368.out 1
      have hfz48_2 := blk_frozen BK368.out 2
      have hfz48_3 := blk_frozen BK368.out 3
      have hnb49 := NB369_370.out
      have hnc49 := NB370_369.out
      have hcz50_0 : w10.cell? ⟨gb369, 0, none⟩ = some (.int .i64 a1_0) := (blk_cell BK369.out 0).trans rfl
      have hcz50_1 : w10.cell? ⟨gb369, 1, none⟩ = some (.string a1_1) := (blk_cell BK369.out 1).trans rfl
      have hcz50_2 : w10.cell? ⟨gb369, 2, none⟩ = some (.int .i64 a1_2) := (blk_cell BK369.out 2).trans rfl
      have hcz50_3 : w10.cell? ⟨gb369, 3, none⟩ = some (.slice A1_3 l1_3.length c1_3) := (blk_cell BK369.out 3).trans rfl
      have hfz50_0 := blk_frozen BK369.out 0
      have hfz50_1 := blk_frozen BK369.out 1
      have hfz50_2 := blk_frozen BK369.out 2
      have hfz50_3 := blk_frozen BK369.out 3
      go_wp2_with (first | ((with_reducible refine gate_callee (f := 8) rfl ?_); refine goesL_ (some 19) rfl rfl Tryd.func8 (by kernel_rfl) rfl #[.agg #[.int .i64 a0_0, .string a0_1, .int .i64 a0_2, .slice A0_3 l0_3.length c0_3], .agg #[.int .i64 a1_0, .string a1_1, .int .i64 a1_2, .slice A1_3 l1_3.length c1_3]] rfl (by (try simp only [List.map_toArray, List.map_cons, List.map_nil]); first | done | rfl | (simp only [List.length_drop, List.length_take]; rfl)) ?_; (with_reducible refine (vinculumlaw16_few.calls k a0_0 a0_1 a0_2 _ _ l0_3 a1_0 a1_1 a1_2 _ _ l1_3 true _ ?side1 ?side2 ?side3 ?side4 A11.out).mono ?_); (case side1 => exact kc_ HR0_3.out HB.out); (case side2 => exact HC0_3.out); (case side3 => exact kc_ HR1_3.out HB.out); (case side4 => exact HC1_3.out); rintro e w51 ⟨rfl, hb⟩; refine ⟨_, rfl, ?_⟩; have n0_ := Aside0.mk (blk_below (g := gb368) (o := .cells #[.int .i64 a0_0, .string a0_1, .int .i64 a0_2, .slice A0_3 l0_3.length c0_3] 24 (0, 0)) (bk_ BK368.out) hb); have n1_ := Aside0.mk (blk_below (g := gb369) (o := .cells #[.int .i64 a1_0, .string a1_1, .int .i64 a1_2, .slice A1_3 l1_3.length c1_3] 24 (0, 0)) (bk_ BK369.out) hb); have n2_ := Aside0.mk (blk_below (g := gb370) (o := .cells #[.int .i64 a2_0, .string a2_1, .int .i64 a2_2, .slice A2_3 l2_3.length c2_3] 24 (0, 0)) (bk_ BK370.out) hb); have n3_ := Aside0.mk (below_step (by repeat (first | (with_reducible first | exact HB.out | apply below_alloc | apply pw_below_drewN | apply below_drew1 | refine below_set ?_ GE368.out | refine below_set ?_ GE369.out | refine below_set ?_ GE370.out) | exact HB.out)) hb); clear BK368; clear BK369; clear BK370; clear HB; have BK368 := n0_; have BK369 := n1_; have BK370 := n2_; have HB := n3_; clear n0_ n1_ n2_ n3_; (try clear hb); (try clear hb2); (try clear hk); (try clear hi); have hcz52_0 : w51.cell? ⟨gb370, 0, none⟩ = some (.int .i64 a2_0) := (blk_cell BK370.out 0).trans rfl; have hcz52_1 : w51.cell? ⟨gb370, 1, none⟩ = some (.string a2_1) := (blk_cell BK370.out 1).trans rfl; have hcz52_2 : w51.cell? ⟨gb370, 2, none⟩ = some (.int .i64 a2_2) := (blk_cell BK370.out 2).trans rfl; have hcz52_3 : w51.cell? ⟨gb370, 3, none⟩ = some (.slice A2_3 l2_3.length c2_3) := (blk_cell BK370.out 3).trans rfl; have hfz52_0 := blk_frozen BK370.out 0; have hfz52_1 := blk_frozen BK370.out 1; have hfz52_2 := blk_frozen BK370.out 2; have hfz52_3 := blk_frozen BK370.out 3) | (go_at_call 12; (with_reducible refine (vinculumref09_Few.calls k a2_0 a2_1 a2_2 _ _ l2_3 120 true _ ?side1 ?side2 A13.out).mono ?_); (case side1 => exact kc_ HR2_3.out HB.out); (case side2 => exact HC2_3.out); rintro e w53 ⟨rfl, hb⟩; have n0_ := Aside0.mk (blk_below (g := gb368) (o := .cells #[.int .i64 a0_0, .string a0_1, .int .i64 a0_2, .slice A0_3 l0_3.length c0_3] 24 (0, 0)) (bk_ BK368.out) hb); have n1_ := Aside0.mk (blk_below (g := gb369) (o := .cells #[.int .i64 a1_0, .string a1_1, .int .i64 a1_2, .slice A1_3 l1_3.length c1_3] 24 (0, 0)) (bk_ BK369.out) hb); have n2_ := Aside0.mk (blk_below (g := gb370) (o := .cells #[.int .i64 a2_0, .string a2_1, .int .i64 a2_2, .slice A2_3 l2_3.length c2_3] 24 (0, 0)) (bk_ BK370.out) hb); have n3_ := Aside0.mk (below_step (by repeat (first | (with_reducible first | exact HB.out | apply below_alloc | apply pw_below_drewN | apply below_drew1 | refine below_set ?_ GE368.out | refine below_set ?_ GE369.out | refine below_set ?_ GE370.out) | exact HB.out)) hb); clear BK368; clear BK369; clear BK370; clear HB; have BK368 := n0_; have BK369 := n1_; have BK370 := n2_; have HB := n3_; clear n0_ n1_ n2_ n3_; (try clear hb); (try clear hb2); (try clear hk); (try clear hi); have hcz54_0 : w53.cell? ⟨gb368, 0, none⟩ = some (.int .i64 a0_0) := (blk_cell BK368.out 0).trans rfl; have hcz54_1 : w53.cell? ⟨gb368, 1, none⟩ = some (.string a0_1) := (blk_cell BK368.out 1).trans rfl; have hcz54_2 : w53.cell? ⟨gb368, 2, none⟩ = some (.int .i64 a0_2) := (blk_cell BK368.out 2).trans rfl; have hcz54_3 : w53.cell? ⟨gb368, 3, none⟩ = some (.slice A0_3 l0_3.length c0_3) := (blk_cell BK368.out 3).trans rfl; have hfz54_0 := blk_frozen BK368.out 0; have hfz54_1 := blk_frozen BK368.out 1; have hfz54_2 := blk_frozen BK368.out 2; have hfz54_3 := blk_frozen BK368.out 3) | (go_at_call 10; (with_reducible refine (vinculumref09_Valid.calls k a0_0 a0_1 a0_2 _ _ l0_3 false _ ?side1 ?side2 A15.out).mono ?_); (case side1 => exact kc_ HR0_3.out HB.out); (case side2 => exact HC0_3.out); rintro e w55 ⟨rfl, hb⟩; have n0_ := Aside0.mk (blk_below (g := gb368) (o := .cells #[.int .i64 a0_0, .string a0_1, .int .i64 a0_2, .slice A0_3 l0_3.length c0_3] 24 (0, 0)) (bk_ BK368.out) hb); have n1_ := Aside0.mk (blk_below (g := gb369) (o := .cells #[.int .i64 a1_0, .string a1_1, .int .i64 a1_2, .slice A1_3 l1_3.length c1_3] 24 (0, 0)) (bk_ BK369.out) hb); have n2_ := Aside0.mk (blk_below (g := gb370) (o := .cells #[.int .i64 a2_0, .string a2_1, .int .i64 a2_2, .slice A2_3 l2_3.length c2_3] 24 (0, 0)) (bk_ BK370.out) hb); have n3_ := Aside0.mk (below_step (by repeat (first | (with_reducible first | exact HB.out | apply below_alloc | apply pw_below_drewN | apply below_drew1 | refine below_set ?_ GE368.out | refine below_set ?_ GE369.out | refine below_set ?_ GE370.out) | exact HB.out)) hb); clear BK368; clear BK369; clear BK370; clear HB; have BK368 := n0_; have BK369 := n1_; have BK370 := n2_; have HB := n3_; clear n0_ n1_ n2_ n3_; (try clear hb); (try clear hb2); (try clear hk); (try clear hi)))
      go_meet
      case rel => exact ⟨_, (true), (by first | rfl | (simp; done) | (simp [*]; done)), H', ⟨by first | omega | exact Nat.le_refl _⟩, ⟨bk_ BK368.out⟩, ⟨bk_ BK369.out⟩, ⟨bk_ BK370.out⟩, ⟨by repeat (first | (with_reducible first | exact HB.out | apply below_alloc | apply pw_below_drewN | apply below_drew1 | refine below_set ?_ GE368.out | refine below_set ?_ GE369.out | refine below_set ?_ GE370.out) | exact HB.out)⟩⟩
    ·replace c14 := Bool.eq_false_iff.mpr c14
     subst c14
     have H1 : (vinculumlaw16_DiffMetric.j0 k true a0_0 a0_1 a0_2 l0_3 a1_0 a1_1 a1_2 l1_3 a2_0 a2_1 a2_2 l2_3) = some r := by rw [if_neg (show ¬ (false = true) by decide)] at H; exact H
     clear H
     have H := H1
     clear H1
     have H' := Aside0.mk H
     clear H
     have hnb56 := NB368_369.out
     have hnc56 := NB369_368.out
     have hnb57 := NB368_370.out
     have hnc57 := NB370_368.out
     have hcz58_0 : w10.cell? ⟨gb368, 0, none⟩ = some (.int .i64 a0_0) := (blk_cell BK368.out 0).trans rfl
     have hcz58_1 : w10.cell? ⟨gb368, 1, none⟩ = some (.string a0_1) := (blk_cell BK368.out 1).trans rfl
     have hcz58_2 : w10.cell? ⟨gb368, 2, none⟩ = some (.int .i64 a0_2) := (blk_cell BK368.out 2).trans rfl
     have hcz58_3 : w10.cell? ⟨gb368, 3, none⟩ = some (.slice A0_3 l0_3.length c0_3) := (blk_cell BK368.out 3).trans rfl
     have hfz58_0 := blk_frozen BK368.out 0
     have hfz58_1 := blk_frozen BK368.out 1
     have hfz58_2 := blk_frozen BK368.out 2
     have hfz58_3 := blk_frozen BK368.out 3
     have hnb59 := NB369_370.out
     have hnc59 := NB370_369.out
     have hcz60_0 : w10.cell? ⟨gb369, 0, none⟩ = some (.int .i64 a1_0) := (blk_cell BK369.out 0).trans rfl
     have hcz60_1 : w10.cell? ⟨gb369, 1, none⟩ = some (.string a1_1) := (blk_cell BK369.out 1).trans rfl
     have hcz60_2 : w10.cell? ⟨gb369, 2, none⟩ = some (.int .i64 a1_2) := (blk_cell BK369.out 2).trans rfl
     have hcz60_3 : w10.cell? ⟨gb369, 3, none⟩ = some (.slice A1_3 l1_3.length c1_3) := (blk_cell BK369.out 3).trans rfl
     have hfz60_0 := blk_frozen BK369.out 0
     have hfz60_1 := blk_frozen BK369.out 1
     have hfz60_2 := blk_frozen BK369.out 2
     have hfz60_3 := blk_frozen BK369.out 3
     go_wp2_with (first | ((with_reducible refine gate_callee (f := 8) rfl ?_); refine goesL_ (some 19) rfl rfl Tryd.func8 (by kernel_rfl) rfl #[.agg #[.int .i64 a0_0, .string a0_1, .int .i64 a0_2, .slice A0_3 l0_3.length c0_3], .agg #[.int .i64 a1_0, .string a1_1, .int .i64 a1_2, .slice A1_3 l1_3.length c1_3]] rfl (by (try simp only [List.map_toArray, List.map_cons, List.map_nil]); first | done | rfl | (simp only [List.length_drop, List.length_take]; rfl)) ?_; (with_reducible refine (vinculumlaw16_few.calls k a0_0 a0_1 a0_2 _ _ l0_3 a1_0 a1_1 a1_2 _ _ l1_3 true _ ?side1 ?side2 ?side3 ?side4 A11.out).mono ?_); (case side1 => exact kc_ HR0_3.out HB.out); (case side2 => exact HC0_3.out); (case side3 => exact kc_ HR1_3.out HB.out); (case side4 => exact HC1_3.out); rintro e w61 ⟨rfl, hb⟩; refine ⟨_, rfl, ?_⟩; have n0_ := Aside0.mk (blk_below (g := gb368) (o := .cells #[.int .i64 a0_0, .string a0_1, .int .i64 a0_2, .slice A0_3 l0_3.length c0_3] 24 (0, 0)) (bk_ BK368.out) hb); have n1_ := Aside0.mk (blk_below (g := gb369) (o := .cells #[.int .i64 a1_0, .string a1_1, .int .i64 a1_2, .slice A1_3 l1_3.length c1_3] 24 (0, 0)) (bk_ BK369.out) hb); have n2_ := Aside0.mk (blk_below (g := gb370) (o := .cells #[.int .i64 a2_0, .string a2_1, .int .i64 a2_2, .slice A2_3 l2_3.length c2_3] 24 (0, 0)) (bk_ BK370.out) hb); have n3_ := Aside0.mk (below_step (by repeat (first | (with_reducible first | exact HB.out | apply below_alloc | apply pw_below_drewN | apply below_drew1 | refine below_set ?_ GE368.out | refine below_set ?_ GE369.out | refine below_set ?_ GE370.out) | exact HB.out)) hb); clear BK368; clear BK369; clear BK370; clear HB; have BK368 := n0_; have BK369 := n1_; have BK370 := n2_; have HB := n3_; clear n0_ n1_ n2_ n3_; (try clear hb); (try clear hb2); (try clear hk); (try clear hi); have hcz62_0 : w61.cell? ⟨gb370, 0, none⟩ = some (.int .i64 a2_0) := (blk_cell BK370.out 0).trans rfl; have hcz62_1 : w61.cell? ⟨gb370, 1, none⟩ = some (.string a2_1) := (blk_cell BK370.out 1).trans rfl; have hcz62_2 : w61.cell? ⟨gb370, 2, none⟩ = some (.int .i64 a2_2) := (blk_cell BK370.out 2).trans rfl; have hcz62_3 : w61.cell? ⟨gb370, 3, none⟩ = some (.slice A2_3 l2_3.length c2_3) := (blk_cell BK370.out 3).trans rfl; have hfz62_0 := blk_frozen BK370.out 0; have hfz62_1 := blk_frozen BK370.out 1; have hfz62_2 := blk_frozen BK370.out 2; have hfz62_3 := blk_frozen BK370.out 3) | (go_at_call 12; (with_reducible refine (vinculumref09_Few.calls k a2_0 a2_1 a2_2 _ _ l2_3 120 false _ ?side1 ?side2 A13.out).mono ?_); (case side1 => exact kc_ HR2_3.out HB.out); (case side2 => exact HC2_3.out); rintro e w63 ⟨rfl, hb⟩; have n0_ := Aside0.mk (blk_below (g := gb368) (o := .cells #[.int .i64 a0_0, .string a0_1, .int .i64 a0_2, .slice A0_3 l0_3.length c0_3] 24 (0, 0)) (bk_ BK368.out) hb); have n1_ := Aside0.mk (blk_below (g := gb369) (o := .cells #[.int .i64 a1_0, .string a1_1, .int .i64 a1_2, .slice A1_3 l1_3.length c1_3] 24 (0, 0)) (bk_ BK369.out) hb); have n2_ := Aside0.mk (blk_below (g := gb370) (o := .cells #[.int .i64 a2_0, .string a2_1, .int .i64 a2_2, .slice A2_3 l2_3.length c2_3] 24 (0, 0)) (bk_ BK370.out) hb); have n3_ := Aside0.mk (below_step (by repeat (first | (with_reducible first | exact HB.out | apply below_alloc | apply pw_below_drewN | apply below_drew1 | refine below_set ?_ GE368.out | refine below_set ?_ GE369.out | refine below_set ?_ GE370.out) | exact HB.out)) hb); clear BK368; clear BK369; clear BK370; clear HB; have BK368 := n0_; have BK369 := n1_; have BK370 := n2_; have HB := n3_; clear n0_ n1_ n2_ n3_; (try clear hb); (try clear hb2); (try clear hk); (try clear hi)))
     go_meet
     case rel => exact ⟨_, (true), (by first | rfl | (simp; done) | (simp [*]; done)), H', ⟨by first | omega | exact Nat.le_refl _⟩, ⟨bk_ BK368.out⟩, ⟨bk_ BK369.out⟩, ⟨bk_ BK370.out⟩, ⟨by repeat (first | (with_reducible first | exact HB.out | apply below_alloc | apply pw_below_drewN | apply below_drew1 | refine below_set ?_ GE368.out | refine below_set ?_ GE369.out | refine below_set ?_ GE370.out) | exact HB.out)⟩⟩
   ·replace c12 := Bool.eq_false_iff.mpr c12
    subst c12
    have H1 : (vinculumlaw16_DiffMetric.j0 k true a0_0 a0_1 a0_2 l0_3 a1_0 a1_1 a1_2 l1_3 a2_0 a2_1 a2_2 l2_3) = some r := by rw [if_neg (show ¬ (false = true) by decide)] at H; exact H
    clear H
    have H := H1
    clear H1
    have H' := Aside0.mk H
    clear H
    have hnb64 := NB368_369.out
    have hnc64 := NB369_368.out
    have hnb65 := NB368_370.out
    have hnc65 := NB370_368.out
    have hcz66_0 : w10.cell? ⟨gb368, 0, none⟩ = some (.int .i64 a0_0) := (blk_cell BK368.out 0).trans rfl
    have hcz66_1 : w10.cell? ⟨gb368, 1, none⟩ = some (.string a0_1) := (blk_cell BK368.out 1).trans rfl
    have hcz66_2 : w10.cell? ⟨gb368, 2, none⟩ = some (.int .i64 a0_2) := (blk_cell BK368.out 2).trans rfl
    have hcz66_3 : w10.cell? ⟨gb368, 3, none⟩ = some (.slice A0_3 l0_3.length c0_3) := (blk_cell BK368.out 3).trans rfl
    have hfz66_0 := blk_frozen BK368.out 0
    have hfz66_1 := blk_frozen BK368.out 1
    have hfz66_2 := blk_frozen BK368.out 2
    have hfz66_3 := blk_frozen BK368.out 3
    have hnb67 := NB369_370.out
    have hnc67 := NB370_369.out
    have hcz68_0 : w10.cell? ⟨gb369, 0, none⟩ = some (.int .i64 a1_0) := (blk_cell BK369.out 0).trans rfl
    have hcz68_1 : w10.cell? ⟨gb369, 1, none⟩ = some (.string a1_1) := (blk_cell BK369.out 1).trans rfl
    have hcz68_2 : w10.cell? ⟨gb369, 2, none⟩ = some (.int .i64 a1_2) := (blk_cell BK369.out 2).trans rfl
    have hcz68_3 : w10.cell? ⟨gb369, 3, none⟩ = some (.slice A1_3 l1_3.length c1_3) := (blk_cell BK369.out 3).trans rfl
    have hfz68_0 := blk_frozen BK369.out 0
    have hfz68_1 := blk_frozen BK369.out 1
    have hfz68_2 := blk_frozen BK369.out 2
    have hfz68_3 := blk_frozen BK369.out 3
    go_wp2_with (first | ((with_reducible refine gate_callee (f := 8) rfl ?_); refine goesL_ (some 19) rfl rfl Tryd.func8 (by kernel_rfl) rfl #[.agg #[.int .i64 a0_0, .string a0_1, .int .i64 a0_2, .slice A0_3 l0_3.length c0_3], .agg #[.int .i64 a1_0, .string a1_1, .int .i64 a1_2, .slice A1_3 l1_3.length c1_3]] rfl (by (try simp only [List.map_toArray, List.map_cons, List.map_nil]); first | done | rfl | (simp only [List.length_drop, List.length_take]; rfl)) ?_; (with_reducible refine (vinculumlaw16_few.calls k a0_0 a0_1 a0_2 _ _ l0_3 a1_0 a1_1 a1_2 _ _ l1_3 false _ ?side1 ?side2 ?side3 ?side4 A11.out).mono ?_); (case side1 => exact kc_ HR0_3.out HB.out); (case side2 => exact HC0_3.out); (case side3 => exact kc_ HR1_3.out HB.out); (case side4 => exact HC1_3.out); rintro e w69 ⟨rfl, hb⟩; refine ⟨_, rfl, ?_⟩; have n0_ := Aside0.mk (blk_below (g := gb368) (o := .cells #[.int .i64 a0_0, .string a0_1, .int .i64 a0_2, .slice A0_3 l0_3.length c0_3] 24 (0, 0)) (bk_ BK368.out) hb); have n1_ := Aside0.mk (blk_below (g := gb369) (o := .cells #[.int .i64 a1_0, .string a1_1, .int .i64 a1_2, .slice A1_3 l1_3.length c1_3] 24 (0, 0)) (bk_ BK369.out) hb); have n2_ := Aside0.mk (blk_below (g := gb370) (o := .cells #[.int .i64 a2_0, .string a2_1, .int .i64 a2_2, .slice A2_3 l2_3.length c2_3] 24 (0, 0)) (bk_ BK370.out) hb); have n3_ := Aside0.mk (below_step (by repeat (first | (with_reducible first | exact HB.out | apply below_alloc | apply pw_below_drewN | apply below_drew1 | refine below_set ?_ GE368.out | refine below_set ?_ GE369.out | refine below_set ?_ GE370.out) | exact HB.out)) hb); clear BK368; clear BK369; clear BK370; clear HB; have BK368 := n0_; have BK369 := n1_; have BK370 := n2_; have HB := n3_; clear n0_ n1_ n2_ n3_; (try clear hb); (try clear hb2); (try clear hk); (try clear hi)))
    go_meet
    case rel => exact ⟨_, (true), (by first | rfl | (simp; done) | (simp [*]; done)), H', ⟨by first | omega | exact Nat.le_refl _⟩, ⟨bk_ BK368.out⟩, ⟨bk_ BK369.out⟩, ⟨bk_ BK370.out⟩, ⟨by repeat (first | (with_reducible first | exact HB.out | apply below_alloc | apply pw_below_drewN | apply below_drew1 | refine below_set ?_ GE368.out | refine below_set ?_ GE369.out | refine below_set ?_ GE370.out) | exact HB.out)⟩⟩
  case rest =>
   clear HC6; (try clear c1); (try clear c2); (try clear p2); (try clear c3); (try clear c4); (try clear c5); (try clear c6); (try clear c7); (try clear c8); (try clear c12); (try clear c14); (try clear c16); (try clear c18); (try clear c20); (try clear c21); (try clear c23); (try clear c34); (try clear c35); (try clear c37); (try clear c46); (try clear c47); (try clear c49); (try clear c56); (try clear c57); (try clear c59); (try clear c64); (try clear c65); (try clear c67); (try clear hcz22_0); (try clear hcz22_1); (try clear hcz22_2); (try clear hcz22_3); (try clear hcz24_0); (try clear hcz24_1); (try clear hcz24_2); (try clear hcz24_3); (try clear hcz26_0); (try clear hcz26_1); (try clear hcz26_2); (try clear hcz26_3); (try clear hcz28_0); (try clear hcz28_1); (try clear hcz28_2); (try clear hcz28_3); (try clear hcz30_0); (try clear hcz30_1); (try clear hcz30_2); (try clear hcz30_3); (try clear hcz32_0); (try clear hcz32_1); (try clear hcz32_2); (try clear hcz32_3); (try clear hcz36_0); (try clear hcz36_1); (try clear hcz36_2); (try clear hcz36_3); (try clear hcz38_0); (try clear hcz38_1); (try clear hcz38_2); (try clear hcz38_3); (try clear hcz40_0); (try clear hcz40_1); (try clear hcz40_2); (try clear hcz40_3); (try clear hcz42_0); (try clear hcz42_1); (try clear hcz42_2); (try clear hcz42_3); (try clear hcz44_0); (try clear hcz44_1); (try clear hcz44_2); (try clear hcz44_3); (try clear hcz48_0); (try clear hcz48_1); (try clear hcz48_2); (try clear hcz48_3); (try clear hcz50_0); (try clear hcz50_1); (try clear hcz50_2); (try clear hcz50_3); (try clear hcz52_0); (try clear hcz52_1); (try clear hcz52_2); (try clear hcz52_3); (try clear hcz54_0); (try clear hcz54_1); (try clear hcz54_2); (try clear hcz54_3); (try clear hcz58_0); (try clear hcz58_1); (try clear hcz58_2); (try clear hcz58_3); (try clear hcz60_0); (try clear hcz60_1); (try clear hcz60_2); (try clear hcz60_3); (try clear hcz62_0); (try clear hcz62_1); (try clear hcz62_2); (try clear hcz62_3); (try clear hcz66_0); (try clear hcz66_1); (try clear hcz66_2); (try clear hcz66_3); (try clear hcz68_0); (try clear hcz68_1); (try clear hcz68_2); (try clear hcz68_3); (try clear hfz22_0); (try clear hfz22_1); (try clear hfz22_2); (try clear hfz22_3); (try clear hfz24_0); (try clear hfz24_1); (try clear hfz24_2); (try clear hfz24_3); (try clear hfz26_0); (try clear hfz26_1); (try clear hfz26_2); (try clear hfz26_3); (try clear hfz28_0); (try clear hfz28_1); (try clear hfz28_2); (try clear hfz28_3); (try clear hfz30_0); (try clear hfz30_1); (try clear hfz30_2); (try clear hfz30_3); (try clear hfz32_0); (try clear hfz32_1); (try clear hfz32_2); (try clear hfz32_3); (try clear hfz36_0); (try clear hfz36_1); (try clear hfz36_2); (try clear hfz36_3); (try clear hfz38_0); (try clear hfz38_1); (try clear hfz38_2); (try clear hfz38_3); (try clear hfz40_0); (try clear hfz40_1); (try clear hfz40_2); (try clear hfz40_3); (try clear hfz42_0); (try clear hfz42_1); (try clear hfz42_2); (try clear hfz42_3); (try clear hfz44_0); (try clear hfz44_1); (try clear hfz44_2); (try clear hfz44_3); (try clear hfz48_0); (try clear hfz48_1); (try clear hfz48_2); (try clear hfz48_3); (try clear hfz50_0); (try clear hfz50_1); (try clear hfz50_2); (try clear hfz50_3); (try clear hfz52_0); (try clear hfz52_1); (try clear hfz52_2); (try clear hfz52_3); (try clear hfz54_0); (try clear hfz54_1); (try clear hfz54_2); (try clear hfz54_3); (try clear hfz58_0); (try clear hfz58_1); (try clear hfz58_2); (try clear hfz58_3); (try clear hfz60_0); (try clear hfz60_1); (try clear hfz60_2); (try clear hfz60_3); (try clear hfz62_0); (try clear hfz62_1); (try clear hfz62_2); (try clear hfz62_3); (try clear hfz66_0); (try clear hfz66_1); (try clear hfz66_2); (try clear hfz66_3); (try clear hfz68_0); (try clear hfz68_1); (try clear hfz68_2); (try clear hfz68_3)
   obtain ⟨kq, x40_5, rfl, HA, HJ5, BK368, BK369, BK370, HB⟩ := hcut
   cases kq with
   | zero => exact absurd HA.out (by simp [vinculumlaw16_DiffMetric.j0])
   | succ kj5 =>
    have H := HA.out
    clear HA
    simp only [vinculumlaw16_DiffMetric.j0] at H
    by_cases c70 : x40_5 = true
    ·subst c70
     have H1 : (some true) = some r := by rw [if_pos rfl] at H; exact H
     clear H
     have H := H1
     clear H1
     obtain rfl := Option.some.inj H
     go_wp2
     go_ret
     exact ⟨by first | rfl | (simp [errW_none, errW_some] <;> rfl) | (simp [*, errW_none, errW_some] <;> rfl), by repeat (first | (with_reducible first | exact HB.out | apply below_alloc | apply pw_below_drewN | apply below_drew1 | refine below_set ?_ GE368.out | refine below_set ?_ GE369.out | refine below_set ?_ GE370.out) | exact HB.out)⟩
    ·replace c70 := Bool.eq_false_iff.mpr c70
     subst c70
     have H1 : ((diff_Cost.f kj5 a0_0 a0_1 a0_2 l0_3 a1_0 a1_1 a1_2 l1_3).bind fun bt377 => ((diff_Cost.f kj5 a1_0 a1_1 a1_2 l1_3 a0_0 a0_1 a0_2 l0_3).bind fun bt379 => ((diff_Cost.f kj5 a1_0 a1_1 a1_2 l1_3 a2_0 a2_1 a2_2 l2_3).bind fun bt381 => ((diff_Cost.f kj5 a0_0 a0_1 a0_2 l0_3 a2_0 a2_1 a2_2 l2_3).bind fun bt383 => (if bt377.2 = 0 then (if bt379.2 = 0 then (if bt381.2 = 0 then (if bt383.2 = 0 then ((vinculumref09_Equal.f kj5 a0_0 a0_1 a0_2 l0_3 a1_0 a1_1 a1_2 l1_3).bind fun t385 => (if ((bt377.1 == 0) == t385) = true then (if bt377.1 = bt379.1 then (some (decide (bt383.1 ≤ (wrap64 (bt377.1 + bt381.1))))) else (some false)) else (some false))) else (some false)) else (some false)) else (some false)) else (some false)))))) = some r := by rw [if_neg (show ¬ (false = true) by decide)] at H; exact H
     clear H
     have H := H1
     clear H1
     replace H := Option.bind_eq_some_iff.mp H
     obtain ⟨⟨t377, t378⟩, A710, H⟩ := H
     replace H : ((diff_Cost.f kj5 a1_0 a1_1 a1_2 l1_3 a0_0 a0_1 a0_2 l0_3).bind fun bt379 => ((diff_Cost.f kj5 a1_0 a1_1 a1_2 l1_3 a2_0 a2_1 a2_2 l2_3).bind fun bt381 => ((diff_Cost.f kj5 a0_0 a0_1 a0_2 l0_3 a2_0 a2_1 a2_2 l2_3).bind fun bt383 => (if t378 = 0 then (if bt379.2 = 0 then (if bt381.2 = 0 then (if bt383.2 = 0 then ((vinculumref09_Equal.f kj5 a0_0 a0_1 a0_2 l0_3 a1_0 a1_1 a1_2 l1_3).bind fun t385 => (if ((t377 == 0) == t385) = true then (if t377 = bt379.1 then (some (decide (bt383.1 ≤ (wrap64 (t377 + bt381.1))))) else (some false)) else (some false))) else (some false)) else (some false)) else (some false)) else (some false))))) = some r := H
     have A71 := Aside0.mk A710
     clear A710
     replace H := Option.bind_eq_some_iff.mp H
     obtain ⟨⟨t379, t380⟩, A720, H⟩ := H
     replace H : ((diff_Cost.f kj5 a1_0 a1_1 a1_2 l1_3 a2_0 a2_1 a2_2 l2_3).bind fun bt381 => ((diff_Cost.f kj5 a0_0 a0_1 a0_2 l0_3 a2_0 a2_1 a2_2 l2_3).bind fun bt383 => (if t378 = 0 then (if t380 = 0 then (if bt381.2 = 0 then (if bt383.2 = 0 then ((vinculumref09_Equal.f kj5 a0_0 a0_1 a0_2 l0_3 a1_0 a1_1 a1_2 l1_3).bind fun t385 => (if ((t377 == 0) == t385) = true then (if t377 = t379 then (some (decide (bt383.1 ≤ (wrap64 (t377 + bt381.1))))) else (some false)) else (some false))) else (some false)) else (some false)) else (some false)) else (some false)))) = some r := H
     have A72 := Aside0.mk A720
     clear A720
     replace H := Option.bind_eq_some_iff.mp H
     obtain ⟨⟨t381, t382⟩, A730, H⟩ := H
     replace H : ((diff_Cost.f kj5 a0_0 a0_1 a0_2 l0_3 a2_0 a2_1 a2_2 l2_3).bind fun bt383 => (if t378 = 0 then (if t380 = 0 then (if t382 = 0 then (if bt383.2 = 0 then ((vinculumref09_Equal.f kj5 a0_0 a0_1 a0_2 l0_3 a1_0 a1_1 a1_2 l1_3).bind fun t385 => (if ((t377 == 0) == t385) = true then (if t377 = t379 then (some (decide (bt383.1 ≤ (wrap64 (t377 + t381))))) else (some false)) else (some false))) else (some false)) else (some false)) else (some false)) else (some false))) = some r := H
     have A73 := Aside0.mk A730
     clear A730
     replace H := Option.bind_eq_some_iff.mp H
     obtain ⟨⟨t383, t384⟩, A740, H⟩ := H
     replace H : (if t378 = 0 then (if t380 = 0 then (if t382 = 0 then (if t384 = 0 then ((vinculumref09_Equal.f kj5 a0_0 a0_1 a0_2 l0_3 a1_0 a1_1 a1_2 l1_3).bind fun t385 => (if ((t377 == 0) == t385) = true then (if t377 = t379 then (some (decide (t383 ≤ (wrap64 (t377 + t381))))) else (some false)) else (some false))) else (some false)) else (some false)) else (some false)) else (some false)) = some r := H
     have A74 := Aside0.mk A740
     clear A740
     by_cases c75 : t378 = 0
     ·rw [if_pos c75] at H
      have c75b0 : (t378 == 0) = true := beq_iff_eq.mpr c75
      have c75b1 : (t378 != 0) = false := bne_eq_false_iff_eq.mpr c75
      clear c75
      by_cases c76 : t380 = 0
      ·rw [if_pos c76] at H
       have c76b0 : (t380 == 0) = true := beq_iff_eq.mpr c76
       have c76b1 : (t380 != 0) = false := bne_eq_false_iff_eq.mpr c76
       clear c76
       by_cases c77 : t382 = 0
       ·rw [if_pos c77] at H
        have c77b0 : (t382 == 0) = true := beq_iff_eq.mpr c77
        have c77b1 : (t382 != 0) = false := bne_eq_false_iff_eq.mpr c77
        clear c77
        by_cases c78 : t384 = 0
        ·rw [if_pos c78] at H
         have c78b0 : (t384 == 0) = true := beq_iff_eq.mpr c78
         have c78b1 : (t384 != 0) = false := bne_eq_false_iff_eq.mpr c78
         clear c78
         replace H := Option.bind_eq_some_iff.mp H
         obtain ⟨t385, A790, H⟩ := H
         replace H : (if ((t377 == 0) == t385) = true then (if t377 = t379 then (some (decide (t383 ≤ (wrap64 (t377 + t381))))) else (some false)) else (some false)) = some r := H
         have A79 := Aside0.mk A790
         clear A790
         by_cases c80 : ((t377 == 0) == t385) = true
         ·rw [if_pos c80] at H
          have c80b0 : ((t377 == 0) == t385) = true := c80
          (try (have c80b1 : decide ((t377 == 0) = t385) = true := by simpa using c80))
          (try (have c80b2 : ((t377 == 0) == t385) = true := by simpa using c80))
          clear c80
          by_cases c81 : t377 = t379
          ·rw [if_pos c81] at H
           have c81b0 : (t377 == t379) = true := beq_iff_eq.mpr c81
           have c81b1 : (t377 != t379) = false := bne_eq_false_iff_eq.mpr c81
           clear c81
           obtain rfl := Option.some.inj H
           have hnb82 := NB368_369.out
           have hnc82 := NB369_368.out
           have hnb83 := NB368_370.out
           have hnc83 := NB370_368.out
           have hcz84_0 : wc.cell? ⟨gb368, 0, none⟩ = some (.int .i64 a0_0) := (blk_cell BK368.out 0).trans rfl
           have hcz84_1 : wc.cell? ⟨gb368, 1, none⟩ = some (.string a0_1) := (blk_cell BK368.out 1).trans rfl
           have hcz84_2 : wc.cell? ⟨gb368, 2, none⟩ = some (.int .i64 a0_2) := (blk_cell BK368.out 2).trans rfl
           have hcz84_3 : wc.cell? ⟨gb368, 3, none⟩ = some (.slice A0_3 l0_3.length c0_3) := (blk_cell BK368.out 3).trans rfl
           have hfz84_0 := blk_frozen BK368.out 0
           have hfz84_1 := blk_frozen BK368.out 1
           have hfz84_2 := blk_frozen BK368.out 2
           have hfz84_3 := blk_frozen BK368.out 3
           have hnb85 := NB369_370.out
           have hnc85 := NB370_369.out
           have hcz86_0 : wc.cell? ⟨gb369, 0, none⟩ = some (.int .i64 a1_0) := (blk_cell BK369.out 0).trans rfl
           have hcz86_1 : wc.cell? ⟨gb369, 1, none⟩ = some (.string a1_1) := (blk_cell BK369.out 1).trans rfl
           have hcz86_2 : wc.cell? ⟨gb369, 2, none⟩ = some (.int .i64 a1_2) := (blk_cell BK369.out 2).trans rfl
           have hcz86_3 : wc.cell? ⟨gb369, 3, none⟩ = some (.slice A1_3 l1_3.length c1_3) := (blk_cell BK369.out 3).trans rfl
           have hfz86_0 := blk_frozen BK369.out 0
           have hfz86_1 := blk_frozen BK369.out 1
           have hfz86_2 := blk_frozen BK369.out 2
           have hfz86_3 := blk_frozen BK369.out 3
           go_wp2_with (first | ((with_reducible refine gate_callee (f := 9) rfl ?_); refine goesL_ (some 44) rfl rfl Tryd.func9 (by kernel_rfl) rfl #[.agg #[.int .i64 a0_0, .string a0_1, .int .i64 a0_2, .slice A0_3 l0_3.length c0_3], .agg #[.int .i64 a1_0, .string a1_1, .int .i64 a1_2, .slice A1_3 l1_3.length c1_3]] rfl (by (try simp only [List.map_toArray, List.map_cons, List.map_nil]); first | done | rfl | (simp only [List.length_drop, List.length_take]; rfl)) ?_; (with_reducible refine (diff_Cost.calls kj5 a0_0 a0_1 a0_2 _ _ l0_3 a1_0 a1_1 a1_2 _ _ l1_3 t377 t378 _ ?side1 ?side2 ?side3 ?side4 A71.out).mono ?_); (case side1 => exact kc_ HR0_3.out HB.out); (case side2 => exact HC0_3.out); (case side3 => exact kc_ HR1_3.out HB.out); (case side4 => exact HC1_3.out); rintro e w87 ⟨rfl, hb⟩; refine ⟨_, rfl, ?_⟩; have n0_ := Aside0.mk (blk_below (g := gb368) (o := .cells #[.int .i64 a0_0, .string a0_1, .int .i64 a0_2, .slice A0_3 l0_3.length c0_3] 24 (0, 0)) (bk_ BK368.out) hb); have n1_ := Aside0.mk (blk_below (g := gb369) (o := .cells #[.int .i64 a1_0, .string a1_1, .int .i64 a1_2, .slice A1_3 l1_3.length c1_3] 24 (0, 0)) (bk_ BK369.out) hb); have n2_ := Aside0.mk (blk_below (g := gb370) (o := .cells #[.int .i64 a2_0, .string a2_1, .int .i64 a2_2, .slice A2_3 l2_3.length c2_3] 24 (0, 0)) (bk_ BK370.out) hb); have n3_ := Aside0.mk (below_step (by repeat (first | (with_reducible first | exact HB.out | apply below_alloc | apply pw_below_drewN | apply below_drew1 | refine below_set ?_ GE368.out | refine below_set ?_ GE369.out | refine below_set ?_ GE370.out) | exact HB.out)) hb); clear BK368; clear BK369; clear BK370; clear HB; have BK368 := n0_; have BK369 := n1_; have BK370 := n2_; have HB := n3_; clear n0_ n1_ n2_ n3_; (try clear hb); (try clear hb2); (try clear hk); (try clear hi); have hcz88_0 : w87.cell? ⟨gb369, 0, none⟩ = some (.int .i64 a1_0) := (blk_cell BK369.out 0).trans rfl; have hcz88_1 : w87.cell? ⟨gb369, 1, none⟩ = some (.string a1_1) := (blk_cell BK369.out 1).trans rfl; have hcz88_2 : w87.cell? ⟨gb369, 2, none⟩ = some (.int .i64 a1_2) := (blk_cell BK369.out 2).trans rfl; have hcz88_3 : w87.cell? ⟨gb369, 3, none⟩ = some (.slice A1_3 l1_3.length c1_3) := (blk_cell BK369.out 3).trans rfl; have hfz88_0 := blk_frozen BK369.out 0; have hfz88_1 := blk_frozen BK369.out 1; have hfz88_2 := blk_frozen BK369.out 2; have hfz88_3 := blk_frozen BK369.out 3; have hcz89_0 : w87.cell? ⟨gb368, 0, none⟩ = some (.int .i64 a0_0) := (blk_cell BK368.out 0).trans rfl; have hcz89_1 : w87.cell? ⟨gb368, 1, none⟩ = some (.string a0_1) := (blk_cell BK368.out 1).trans rfl; have hcz89_2 : w87.cell? ⟨gb368, 2, none⟩ = some (.int .i64 a0_2) := (blk_cell BK368.out 2).trans rfl; have hcz89_3 : w87.cell? ⟨gb368, 3, none⟩ = some (.slice A0_3 l0_3.length c0_3) := (blk_cell BK368.out 3).trans rfl; have hfz89_0 := blk_frozen BK368.out 0; have hfz89_1 := blk_frozen BK368.out 1; have hfz89_2 := blk_frozen BK368.out 2; have hfz89_3 := blk_frozen BK368.out 3) | ((with_reducible refine gate_callee (f := 9) rfl ?_); refine goesL_ (some 50) rfl rfl Tryd.func9 (by kernel_rfl) rfl #[.agg #[.int .i64 a1_0, .string a1_1, .int .i64 a1_2, .slice A1_3 l1_3.length c1_3], .agg #[.int .i64 a0_0, .string a0_1, .int .i64 a0_2, .slice A0_3 l0_3.length c0_3]] rfl (by (try simp only [List.map_toArray, List.map_cons, List.map_nil]); first | done | rfl | (simp only [List.length_drop, List.length_take]; rfl)) ?_; (with_reducible refine (diff_Cost.calls kj5 a1_0 a1_1 a1_2 _ _ l1_3 a0_0 a0_1 a0_2 _ _ l0_3 t379 t380 _ ?side1 ?side2 ?side3 ?side4 A72.out).mono ?_); (case side1 => exact kc_ HR1_3.out HB.out); (case side2 => exact HC1_3.out); (case side3 => exact kc_ HR0_3.out HB.out); (case side4 => exact HC0_3.out); rintro e w90 ⟨rfl, hb⟩; refine ⟨_, rfl, ?_⟩; have n0_ := Aside0.mk (blk_below (g := gb368) (o := .cells #[.int .i64 a0_0, .string a0_1, .int .i64 a0_2, .slice A0_3 l0_3.length c0_3] 24 (0, 0)) (bk_ BK368.out) hb); have n1_ := Aside0.mk (blk_below (g := gb369) (o := .cells #[.int .i64 a1_0, .string a1_1, .int .i64 a1_2, .slice A1_3 l1_3.length c1_3] 24 (0, 0)) (bk_ BK369.out) hb); have n2_ := Aside0.mk (blk_below (g := gb370) (o := .cells #[.int .i64 a2_0, .string a2_1, .int .i64 a2_2, .slice A2_3 l2_3.length c2_3] 24 (0, 0)) (bk_ BK370.out) hb); have n3_ := Aside0.mk (below_step (by repeat (first | (with_reducible first | exact HB.out | apply below_alloc | apply pw_below_drewN | apply below_drew1 | refine below_set ?_ GE368.out | refine below_set ?_ GE369.out | refine below_set ?_ GE370.out) | exact HB.out)) hb); clear BK368; clear BK369; clear BK370; clear HB; have BK368 := n0_; have BK369 := n1_; have BK370 := n2_; have HB := n3_; clear n0_ n1_ n2_ n3_; (try clear hb); (try clear hb2); (try clear hk); (try clear hi); have hcz91_0 : w90.cell? ⟨gb369, 0, none⟩ = some (.int .i64 a1_0) := (blk_cell BK369.out 0).trans rfl; have hcz91_1 : w90.cell? ⟨gb369, 1, none⟩ = some (.string a1_1) := (blk_cell BK369.out 1).trans rfl; have hcz91_2 : w90.cell? ⟨gb369, 2, none⟩ = some (.int .i64 a1_2) := (blk_cell BK369.out 2).trans rfl; have hcz91_3 : w90.cell? ⟨gb369, 3, none⟩ = some (.slice A1_3 l1_3.length c1_3) := (blk_cell BK369.out 3).trans rfl; have hfz91_0 := blk_frozen BK369.out 0; have hfz91_1 := blk_frozen BK369.out 1; have hfz91_2 := blk_frozen BK369.out 2; have hfz91_3 := blk_frozen BK369.out 3; have hcz92_0 : w90.cell? ⟨gb370, 0, none⟩ = some (.int .i64 a2_0) := (blk_cell BK370.out 0).trans rfl; have hcz92_1 : w90.cell? ⟨gb370, 1, none⟩ = some (.string a2_1) := (blk_cell BK370.out 1).trans rfl; have hcz92_2 : w90.cell? ⟨gb370, 2, none⟩ = some (.int .i64 a2_2) := (blk_cell BK370.out 2).trans rfl; have hcz92_3 : w90.cell? ⟨gb370, 3, none⟩ = some (.slice A2_3 l2_3.length c2_3) := (blk_cell BK370.out 3).trans rfl; have hfz92_0 := blk_frozen BK370.out 0; have hfz92_1 := blk_frozen BK370.out 1; have hfz92_2 := blk_frozen BK370.out 2; have hfz92_3 := blk_frozen BK370.out 3) | ((with_reducible refine gate_callee (f := 9) rfl ?_); refine goesL_ (some 56) rfl rfl Tryd.func9 (by kernel_rfl) rfl #[.agg #[.int .i64 a1_0, .string a1_1, .int .i64 a1_2, .slice A1_3 l1_3.length c1_3], .agg #[.int .i64 a2_0, .string a2_1, .int .i64 a2_2, .slice A2_3 l2_3.length c2_3]] rfl (by (try simp only [List.map_toArray, List.map_cons, List.map_nil]); first | done | rfl | (simp only [List.length_drop, List.length_take]; rfl)) ?_; (with_reducible refine (diff_Cost.calls kj5 a1_0 a1_1 a1_2 _ _ l1_3 a2_0 a2_1 a2_2 _ _ l2_3 t381 t382 _ ?side1 ?side2 ?side3 ?side4 A73.out).mono ?_); (case side1 => exact kc_ HR1_3.out HB.out); (case side2 => exact HC1_3.out); (case side3 => exact kc_ HR2_3.out HB.out); (case side4 => exact HC2_3.out); rintro e w93 ⟨rfl, hb⟩; refine ⟨_, rfl, ?_⟩; have n0_ := Aside0.mk (blk_below (g := gb368) (o := .cells #[.int .i64 a0_0, .string a0_1, .int .i64 a0_2, .slice A0_3 l0_3.length c0_3] 24 (0, 0)) (bk_ BK368.out) hb); have n1_ := Aside0.mk (blk_below (g := gb369) (o := .cells #[.int .i64 a1_0, .string a1_1, .int .i64 a1_2, .slice A1_3 l1_3.length c1_3] 24 (0, 0)) (bk_ BK369.out) hb); have n2_ := Aside0.mk (blk_below (g := gb370) (o := .cells #[.int .i64 a2_0, .string a2_1, .int .i64 a2_2, .slice A2_3 l2_3.length c2_3] 24 (0, 0)) (bk_ BK370.out) hb); have n3_ := Aside0.mk (below_step (by repeat (first | (with_reducible first | exact HB.out | apply below_alloc | apply pw_below_drewN | apply below_drew1 | refine below_set ?_ GE368.out | refine below_set ?_ GE369.out | refine below_set ?_ GE370.out) | exact HB.out)) hb); clear BK368; clear BK369; clear BK370; clear HB; have BK368 := n0_; have BK369 := n1_; have BK370 := n2_; have HB := n3_; clear n0_ n1_ n2_ n3_; (try clear hb); (try clear hb2); (try clear hk); (try clear hi); have hcz94_0 : w93.cell? ⟨gb368, 0, none⟩ = some (.int .i64 a0_0) := (blk_cell BK368.out 0).trans rfl; have hcz94_1 : w93.cell? ⟨gb368, 1, none⟩ = some (.string a0_1) := (blk_cell BK368.out 1).trans rfl; have hcz94_2 : w93.cell? ⟨gb368, 2, none⟩ = some (.int .i64 a0_2) := (blk_cell BK368.out 2).trans rfl; have hcz94_3 : w93.cell? ⟨gb368, 3, none⟩ = some (.slice A0_3 l0_3.length c0_3) := (blk_cell BK368.out 3).trans rfl; have hfz94_0 := blk_frozen BK368.out 0; have hfz94_1 := blk_frozen BK368.out 1; have hfz94_2 := blk_frozen BK368.out 2; have hfz94_3 := blk_frozen BK368.out 3; have hcz95_0 : w93.cell? ⟨gb370, 0, none⟩ = some (.int .i64 a2_0) := (blk_cell BK370.out 0).trans rfl; have hcz95_1 : w93.cell? ⟨gb370, 1, none⟩ = some (.string a2_1) := (blk_cell BK370.out 1).trans rfl; have hcz95_2 : w93.cell? ⟨gb370, 2, none⟩ = some (.int .i64 a2_2) := (blk_cell BK370.out 2).trans rfl; have hcz95_3 : w93.cell? ⟨gb370, 3, none⟩ = some (.slice A2_3 l2_3.length c2_3) := (blk_cell BK370.out 3).trans rfl; have hfz95_0 := blk_frozen BK370.out 0; have hfz95_1 := blk_frozen BK370.out 1; have hfz95_2 := blk_frozen BK370.out 2; have hfz95_3 := blk_frozen BK370.out 3) | ((with_reducible refine gate_callee (f := 9) rfl ?_); refine goesL_ (some 62) rfl rfl Tryd.func9 (by kernel_rfl) rfl #[.agg #[.int .i64 a0_0, .string a0_1, .int .i64 a0_2, .slice A0_3 l0_3.length c0_3], .agg #[.int .i64 a2_0, .string a2_1, .int .i64 a2_2, .slice A2_3 l2_3.length c2_3]] rfl (by (try simp only [List.map_toArray, List.map_cons, List.map_nil]); first | done | rfl | (simp only [List.length_drop, List.length_take]; rfl)) ?_; (with_reducible refine (diff_Cost.calls kj5 a0_0 a0_1 a0_2 _ _ l0_3 a2_0 a2_1 a2_2 _ _ l2_3 t383 t384 _ ?side1 ?side2 ?side3 ?side4 A74.out).mono ?_); (case side1 => exact kc_ HR0_3.out HB.out); (case side2 => exact HC0_3.out); (case side3 => exact kc_ HR2_3.out HB.out); (case side4 => exact HC2_3.out); rintro e w96 ⟨rfl, hb⟩; refine ⟨_, rfl, ?_⟩; have n0_ := Aside0.mk (blk_below (g := gb368) (o := .cells #[.int .i64 a0_0, .string a0_1, .int .i64 a0_2, .slice A0_3 l0_3.length c0_3] 24 (0, 0)) (bk_ BK368.out) hb); have n1_ := Aside0.mk (blk_below (g := gb369) (o := .cells #[.int .i64 a1_0, .string a1_1, .int .i64 a1_2, .slice A1_3 l1_3.length c1_3] 24 (0, 0)) (bk_ BK369.out) hb); have n2_ := Aside0.mk (blk_below (g := gb370) (o := .cells #[.int .i64 a2_0, .string a2_1, .int .i64 a2_2, .slice A2_3 l2_3.length c2_3] 24 (0, 0)) (bk_ BK370.out) hb); have n3_ := Aside0.mk (below_step (by repeat (first | (with_reducible first | exact HB.out | apply below_alloc | apply pw_below_drewN | apply below_drew1 | refine below_set ?_ GE368.out | refine below_set ?_ GE369.out | refine below_set ?_ GE370.out) | exact HB.out)) hb); clear BK368; clear BK369; clear BK370; clear HB; have BK368 := n0_; have BK369 := n1_; have BK370 := n2_; have HB := n3_; clear n0_ n1_ n2_ n3_; (try clear hb); (try clear hb2); (try clear hk); (try clear hi); have hcz97_0 : w96.cell? ⟨gb368, 0, none⟩ = some (.int .i64 a0_0) := (blk_cell BK368.out 0).trans rfl; have hcz97_1 : w96.cell? ⟨gb368, 1, none⟩ = some (.string a0_1) := (blk_cell BK368.out 1).trans rfl; have hcz97_2 : w96.cell? ⟨gb368, 2, none⟩ = some (.int .i64 a0_2) := (blk_cell BK368.out 2).trans rfl; have hcz97_3 : w96.cell? ⟨gb368, 3, none⟩ = some (.slice A0_3 l0_3.length c0_3) := (blk_cell BK368.out 3).trans rfl; have hfz97_0 := blk_frozen BK368.out 0; have hfz97_1 := blk_frozen BK368.out 1; have hfz97_2 := blk_frozen BK368.out 2; have hfz97_3 := blk_frozen BK368.out 3; have hcz98_0 : w96.cell? ⟨gb369, 0, none⟩ = some (.int .i64 a1_0) := (blk_cell BK369.out 0).trans rfl; have hcz98_1 : w96.cell? ⟨gb369, 1, none⟩ = some (.string a1_1) := (blk_cell BK369.out 1).trans rfl; have hcz98_2 : w96.cell? ⟨gb369, 2, none⟩ = some (.int .i64 a1_2) := (blk_cell BK369.out 2).trans rfl; have hcz98_3 : w96.cell? ⟨gb369, 3, none⟩ = some (.slice A1_3 l1_3.length c1_3) := (blk_cell BK369.out 3).trans rfl; have hfz98_0 := blk_frozen BK369.out 0; have hfz98_1 := blk_frozen BK369.out 1; have hfz98_2 := blk_frozen BK369.out 2; have hfz98_3 := blk_frozen BK369.out 3) | ((with_reducible refine gate_callee (f := 16) rfl ?_); refine goesL_ (some 83) rfl rfl Tryd.func16 (by kernel_rfl) rfl #[.agg #[.int .i64 a0_0, .string a0_1, .int .i64 a0_2, .slice A0_3 l0_3.length c0_3], .agg #[.int .i64 a1_0, .string a1_1, .int .i64 a1_2, .slice A1_3 l1_3.length c1_3]] rfl (by (try simp only [List.map_toArray, List.map_cons, List.map_nil]); first | done | rfl | (simp only [List.length_drop, List.length_take]; rfl)) ?_; (with_reducible refine (vinculumref09_Equal.calls kj5 a0_0 a0_1 a0_2 _ _ l0_3 a1_0 a1_1 a1_2 _ _ l1_3 t385 _ ?side1 ?side2 ?side3 ?side4 A79.out).mono ?_); (case side1 => exact kc_ HR0_3.out HB.out); (case side2 => exact HC0_3.out); (case side3 => exact kc_ HR1_3.out HB.out); (case side4 => exact HC1_3.out); rintro e w99 ⟨rfl, hb⟩; refine ⟨_, rfl, ?_⟩; have n0_ := Aside0.mk (blk_below (g := gb368) (o := .cells #[.int .i64 a0_0, .string a0_1, .int .i64 a0_2, .slice A0_3 l0_3.length c0_3] 24 (0, 0)) (bk_ BK368.out) hb); have n1_ := Aside0.mk (blk_below (g := gb369) (o := .cells #[.int .i64 a1_0, .string a1_1, .int .i64 a1_2, .slice A1_3 l1_3.length c1_3] 24 (0, 0)) (bk_ BK369.out) hb); have n2_ := Aside0.mk (blk_below (g := gb370) (o := .cells #[.int .i64 a2_0, .string a2_1, .int .i64 a2_2, .slice A2_3 l2_3.length c2_3] 24 (0, 0)) (bk_ BK370.out) hb); have n3_ := Aside0.mk (below_step (by repeat (first | (with_reducible first | exact HB.out | apply below_alloc | apply pw_below_drewN | apply below_drew1 | refine below_set ?_ GE368.out | refine below_set ?_ GE369.out | refine below_set ?_ GE370.out) | exact HB.out)) hb); clear BK368; clear BK369; clear BK370; clear HB; have BK368 := n0_; have BK369 := n1_; have BK370 := n2_; have HB := n3_; clear n0_ n1_ n2_ n3_; (try clear hb); (try clear hb2); (try clear hk); (try clear hi)))
           go_ret
           exact ⟨by first | rfl | (simp [errW_none, errW_some] <;> rfl) | (simp [*, errW_none, errW_some] <;> rfl), by repeat (first | (with_reducible first | exact HB.out | apply below_alloc | apply pw_below_drewN | apply below_drew1 | refine below_set ?_ GE368.out | refine below_set ?_ GE369.out | refine below_set ?_ GE370.out) | exact HB.out)⟩
          ·rw [if_neg c81] at H
           have c81b0 : (t377 == t379) = false := beq_eq_false_iff_ne.mpr c81
           have c81b1 : (t377 != t379) = true := bne_iff_ne.mpr c81
           obtain rfl := Option.some.inj H
           have hnb100 := NB368_369.out
           have hnc100 := NB369_368.out
           have hnb101 := NB368_370.out
           have hnc101 := NB370_368.out
           have hcz102_0 : wc.cell? ⟨gb368, 0, none⟩ = some (.int .i64 a0_0) := (blk_cell BK368.out 0).trans rfl
           have hcz102_1 : wc.cell? ⟨gb368, 1, none⟩ = some (.string a0_1) := (blk_cell BK368.out 1).trans rfl
           have hcz102_2 : wc.cell? ⟨gb368, 2, none⟩ = some (.int .i64 a0_2) := (blk_cell BK368.out 2).trans rfl
           have hcz102_3 : wc.cell? ⟨gb368, 3, none⟩ = some (.slice A0_3 l0_3.length c0_3) := (blk_cell BK368.out 3).trans rfl
           have hfz102_0 := blk_frozen BK368.out 0
           have hfz102_1 := blk_frozen BK368.out 1
           have hfz102_2 := blk_frozen BK368.out 2
           have hfz102_3 := blk_frozen BK368.out 3
           have hnb103 := NB369_370.out
           have hnc103 := NB370_369.out
           have hcz104_0 : wc.cell? ⟨gb369, 0, none⟩ = some (.int .i64 a1_0) := (blk_cell BK369.out 0).trans rfl
           have hcz104_1 : wc.cell? ⟨gb369, 1, none⟩ = some (.string a1_1) := (blk_cell BK369.out 1).trans rfl
           have hcz104_2 : wc.cell? ⟨gb369, 2, none⟩ = some (.int .i64 a1_2) := (blk_cell BK369.out 2).trans rfl
           have hcz104_3 : wc.cell? ⟨gb369, 3, none⟩ = some (.slice A1_3 l1_3.length c1_3) := (blk_cell BK369.out 3).trans rfl
           have hfz104_0 := blk_frozen BK369.out 0
           have hfz104_1 := blk_frozen BK369.out 1
           have hfz104_2 := blk_frozen BK369.out 2
           have hfz104_3 := blk_frozen BK369.out 3
           go_wp2_with (first | ((with_reducible refine gate_callee (f := 9) rfl ?_); refine goesL_ (some 44) rfl rfl Tryd.func9 (by kernel_rfl) rfl #[.agg #[.int .i64 a0_0, .string a0_1, .int .i64 a0_2, .slice A0_3 l0_3.length c0_3], .agg #[.int .i64 a1_0, .string a1_1, .int .i64 a1_2, .slice A1_3 l1_3.length c1_3]] rfl (by (try simp only [List.map_toArray, List.map_cons, List.map_nil]); first | done | rfl | (simp only [List.length_drop, List.length_take]; rfl)) ?_; (with_reducible refine (diff_Cost.calls kj5 a0_0 a0_1 a0_2 _ _ l0_3 a1_0 a1_1 a1_2 _ _ l1_3 t377 t378 _ ?side1 ?side2 ?side3 ?side4 A71.out).mono ?_); (case side1 => exact kc_ HR0_3.out HB.out); (case side2 => exact HC0_3.out); (case side3 => exact kc_ HR1_3.out HB.out); (case side4 => exact HC1_3.out); rintro e w105 ⟨rfl, hb⟩; refine ⟨_, rfl, ?_⟩; have n0_ := Aside0.mk (blk_below (g := gb368) (o := .cells #[.int .i64 a0_0, .string a0_1, .int .i64 a0_2, .slice A0_3 l0_3.length c0_3] 24 (0, 0)) (bk_ BK368.out) hb); have n1_ := Aside0.mk (blk_below (g := gb369) (o := .cells #[.int .i64 a1_0, .string a1_1, .int .i64 a1_2, .slice A1_3 l1_3.length c1_3] 24 (0, 0)) (bk_ BK369.out) hb); have n2_ := Aside0.mk (blk_below (g := gb370) (o := .cells #[.int .i64 a2_0, .string a2_1, .int .i64 a2_2, .slice A2_3 l2_3.length c2_3] 24 (0, 0)) (bk_ BK370.out) hb); have n3_ := Aside0.mk (below_step (by repeat (first | (with_reducible first | exact HB.out | apply below_alloc | apply pw_below_drewN | apply below_drew1 | refine below_set ?_ GE368.out | refine below_set ?_ GE369.out | refine below_set ?_ GE370.out) | exact HB.out)) hb); clear BK368; clear BK369; clear BK370; clear HB; have BK368 := n0_; have BK369 := n1_; have BK370 := n2_; have HB := n3_; clear n0_ n1_ n2_ n3_; (try clear hb); (try clear hb2); (try clear hk); (try clear hi); have hcz106_0 : w105.cell? ⟨gb369, 0, none⟩ = some (.int .i64 a1_0) := (blk_cell BK369.out 0).trans rfl; have hcz106_1 : w105.cell? ⟨gb369, 1, none⟩ = some (.string a1_1) := (blk_cell BK369.out 1).trans rfl; have hcz106_2 : w105.cell? ⟨gb369, 2, none⟩ = some (.int .i64 a1_2) := (blk_cell BK369.out 2).trans rfl; have hcz106_3 : w105.cell? ⟨gb369, 3, none⟩ = some (.slice A1_3 l1_3.length c1_3) := (blk_cell BK369.out 3).trans rfl; have hfz106_0 := blk_frozen BK369.out 0; have hfz106_1 := blk_frozen BK369.out 1; have hfz106_2 := blk_frozen BK369.out 2; have hfz106_3 := blk_frozen BK369.out 3; have hcz107_0 : w105.cell? ⟨gb368, 0, none⟩ = some (.int .i64 a0_0) := (blk_cell BK368.out 0).trans rfl; have hcz107_1 : w105.cell? ⟨gb368, 1, none⟩ = some (.string a0_1) := (blk_cell BK368.out 1).trans rfl; have hcz107_2 : w105.cell? ⟨gb368, 2, none⟩ = some (.int .i64 a0_2) := (blk_cell BK368.out 2).trans rfl; have hcz107_3 : w105.cell? ⟨gb368, 3, none⟩ = some (.slice A0_3 l0_3.length c0_3) := (blk_cell BK368.out 3).trans rfl; have hfz107_0 := blk_frozen BK368.out 0; have hfz107_1 := blk_frozen BK368.out 1; have hfz107_2 := blk_frozen BK368.out 2; have hfz107_3 := blk_frozen BK368.out 3) | ((with_reducible refine gate_callee (f := 9) rfl ?_); refine goesL_ (some 50) rfl rfl Tryd.func9 (by kernel_rfl) rfl #[.agg #[.int .i64 a1_0, .string a1_1, .int .i64 a1_2, .slice A1_3 l1_3.length c1_3], .agg #[.int .i64 a0_0, .string a0_1, .int .i64 a0_2, .slice A0_3 l0_3.length c0_3]] rfl (by (try simp only [List.map_toArray, List.map_cons, List.map_nil]); first | done | rfl | (simp only [List.length_drop, List.length_take]; rfl)) ?_; (with_reducible refine (diff_Cost.calls kj5 a1_0 a1_1 a1_2 _ _ l1_3 a0_0 a0_1 a0_2 _ _ l0_3 t379 t380 _ ?side1 ?side2 ?side3 ?side4 A72.out).mono ?_); (case side1 => exact kc_ HR1_3.out HB.out); (case side2 => exact HC1_3.out); (case side3 => exact kc_ HR0_3.out HB.out); (case side4 => exact HC0_3.out); rintro e w108 ⟨rfl, hb⟩; refine ⟨_, rfl, ?_⟩; have n0_ := Aside0.mk (blk_below (g := gb368) (o := .cells #[.int .i64 a0_0, .string a0_1, .int .i64 a0_2, .slice A0_3 l0_3.length c0_3] 24 (0, 0)) (bk_ BK368.out) hb); have n1_ := Aside0.mk (blk_below (g := gb369) (o := .cells #[.int .i64 a1_0, .string a1_1, .int .i64 a1_2, .slice A1_3 l1_3.length c1_3] 24 (0, 0)) (bk_ BK369.out) hb); have n2_ := Aside0.mk (blk_below (g := gb370) (o := .cells #[.int .i64 a2_0, .string a2_1, .int .i64 a2_2, .slice A2_3 l2_3.length c2_3] 24 (0, 0)) (bk_ BK370.out) hb); have n3_ := Aside0.mk (below_step (by repeat (first | (with_reducible first | exact HB.out | apply below_alloc | apply pw_below_drewN | apply below_drew1 | refine below_set ?_ GE368.out | refine below_set ?_ GE369.out | refine below_set ?_ GE370.out) | exact HB.out)) hb); clear BK368; clear BK369; clear BK370; clear HB; have BK368 := n0_; have BK369 := n1_; have BK370 := n2_; have HB := n3_; clear n0_ n1_ n2_ n3_; (try clear hb); (try clear hb2); (try clear hk); (try clear hi); have hcz109_0 : w108.cell? ⟨gb369, 0, none⟩ = some (.int .i64 a1_0) := (blk_cell BK369.out 0).trans rfl; have hcz109_1 : w108.cell? ⟨gb369, 1, none⟩ = some (.string a1_1) := (blk_cell BK369.out 1).trans rfl; have hcz109_2 : w108.cell? ⟨gb369, 2, none⟩ = some (.int .i64 a1_2) := (blk_cell BK369.out 2).trans rfl; have hcz109_3 : w108.cell? ⟨gb369, 3, none⟩ = some (.slice A1_3 l1_3.length c1_3) := (blk_cell BK369.out 3).trans rfl; have hfz109_0 := blk_frozen BK369.out 0; have hfz109_1 := blk_frozen BK369.out 1; have hfz109_2 := blk_frozen BK369.out 2; have hfz109_3 := blk_frozen BK369.out 3; have hcz110_0 : w108.cell? ⟨gb370, 0, none⟩ = some (.int .i64 a2_0) := (blk_cell BK370.out 0).trans rfl; have hcz110_1 : w108.cell? ⟨gb370, 1, none⟩ = some (.string a2_1) := (blk_cell BK370.out 1).trans rfl; have hcz110_2 : w108.cell? ⟨gb370, 2, none⟩ = some (.int .i64 a2_2) := (blk_cell BK370.out 2).trans rfl; have hcz110_3 : w108.cell? ⟨gb370, 3, none⟩ = some (.slice A2_3 l2_3.length c2_3) := (blk_cell BK370.out 3).trans rfl; have hfz110_0 := blk_frozen BK370.out 0; have hfz110_1 := blk_frozen BK370.out 1; have hfz110_2 := blk_frozen BK370.out 2; have hfz110_3 := blk_frozen BK370.out 3) | ((with_reducible refine gate_callee (f := 9) rfl ?_); refine goesL_ (some 56) rfl rfl Tryd.func9 (by kernel_rfl) rfl #[.agg #[.int .i64 a1_0, .string a1_1, .int .i64 a1_2, .slice A1_3 l1_3.length c1_3], .agg #[.int .i64 a2_0, .string a2_1, .int .i64 a2_2, .slice A2_3 l2_3.length c2_3]] rfl (by (try simp only [List.map_toArray, List.map_cons, List.map_nil]); first | done | rfl | (simp only [List.length_drop, List.length_take]; rfl)) ?_; (with_reducible refine (diff_Cost.calls kj5 a1_0 a1_1 a1_2 _ _ l1_3 a2_0 a2_1 a2_2 _ _ l2_3 t381 t382 _ ?side1 ?side2 ?side3 ?side4 A73.out).mono ?_); (case side1 => exact kc_ HR1_3.out HB.out); (case side2 => exact HC1_3.out); (case side3 => exact kc_ HR2_3.out HB.out); (case side4 => exact HC2_3.out); rintro e w111 ⟨rfl, hb⟩; refine ⟨_, rfl, ?_⟩; have n0_ := Aside0.mk (blk_below (g := gb368) (o := .cells #[.int .i64 a0_0, .string a0_1, .int .i64 a0_2, .slice A0_3 l0_3.length c0_3] 24 (0, 0)) (bk_ BK368.out) hb); have n1_ := Aside0.mk (blk_below (g := gb369) (o := .cells #[.int .i64 a1_0, .string a1_1, .int .i64 a1_2, .slice A1_3 l1_3.length c1_3] 24 (0, 0)) (bk_ BK369.out) hb); have n2_ := Aside0.mk (blk_below (g := gb370) (o := .cells #[.int .i64 a2_0, .string a2_1, .int .i64 a2_2, .slice A2_3 l2_3.length c2_3] 24 (0, 0)) (bk_ BK370.out) hb); have n3_ := Aside0.mk (below_step (by repeat (first | (with_reducible first | exact HB.out | apply below_alloc | apply pw_below_drewN | apply below_drew1 | refine below_set ?_ GE368.out | refine below_set ?_ GE369.out | refine below_set ?_ GE370.out) | exact HB.out)) hb); clear BK368; clear BK369; clear BK370; clear HB; have BK368 := n0_; have BK369 := n1_; have BK370 := n2_; have HB := n3_; clear n0_ n1_ n2_ n3_; (try clear hb); (try clear hb2); (try clear hk); (try clear hi); have hcz112_0 : w111.cell? ⟨gb368, 0, none⟩ = some (.int .i64 a0_0) := (blk_cell BK368.out 0).trans rfl; have hcz112_1 : w111.cell? ⟨gb368, 1, none⟩ = some (.string a0_1) := (blk_cell BK368.out 1).trans rfl; have hcz112_2 : w111.cell? ⟨gb368, 2, none⟩ = some (.int .i64 a0_2) := (blk_cell BK368.out 2).trans rfl; have hcz112_3 : w111.cell? ⟨gb368, 3, none⟩ = some (.slice A0_3 l0_3.length c0_3) := (blk_cell BK368.out 3).trans rfl; have hfz112_0 := blk_frozen BK368.out 0; have hfz112_1 := blk_frozen BK368.out 1; have hfz112_2 := blk_frozen BK368.out 2; have hfz112_3 := blk_frozen BK368.out 3; have hcz113_0 : w111.cell? ⟨gb370, 0, none⟩ = some (.int .i64 a2_0) := (blk_cell BK370.out 0).trans rfl; have hcz113_1 : w111.cell? ⟨gb370, 1, none⟩ = some (.string a2_1) := (blk_cell BK370.out 1).trans rfl; have hcz113_2 : w111.cell? ⟨gb370, 2, none⟩ = some (.int .i64 a2_2) := (blk_cell BK370.out 2).trans rfl; have hcz113_3 : w111.cell? ⟨gb370, 3, none⟩ = some (.slice A2_3 l2_3.length c2_3) := (blk_cell BK370.out 3).trans rfl; have hfz113_0 := blk_frozen BK370.out 0; have hfz113_1 := blk_frozen BK370.out 1; have hfz113_2 := blk_frozen BK370.out 2; have hfz113_3 := blk_frozen BK370.out 3) | ((with_reducible refine gate_callee (f := 9) rfl ?_); refine goesL_ (some 62) rfl rfl Tryd.func9 (by kernel_rfl) rfl #[.agg #[.int .i64 a0_0, .string a0_1, .int .i64 a0_2, .slice A0_3 l0_3.length c0_3], .agg #[.int .i64 a2_0, .string a2_1, .int .i64 a2_2, .slice A2_3 l2_3.length c2_3]] rfl (by (try simp only [List.map_toArray, List.map_cons, List.map_nil]); first | done | rfl | (simp only [List.length_drop, List.length_take]; rfl)) ?_; (with_reducible refine (diff_Cost.calls kj5 a0_0 a0_1 a0_2 _ _ l0_3 a2_0 a2_1 a2_2 _ _ l2_3 t383 t384 _ ?side1 ?side2 ?side3 ?side4 A74.out).mono ?_); (case side1 => exact kc_ HR0_3.out HB.out); (case side2 => exact HC0_3.out); (case side3 => exact kc_ HR2_3.out HB.out); (case side4 => exact HC2_3.out); rintro e w114 ⟨rfl, hb⟩; refine ⟨_, rfl, ?_⟩; have n0_ := Aside0.mk (blk_below (g := gb368) (o := .cells #[.int .i64 a0_0, .string a0_1, .int .i64 a0_2, .slice A0_3 l0_3.length c0_3] 24 (0, 0)) (bk_ BK368.out) hb); have n1_ := Aside0.mk (blk_below (g := gb369) (o := .cells #[.int .i64 a1_0, .string a1_1, .int .i64 a1_2, .slice A1_3 l1_3.length c1_3] 24 (0, 0)) (bk_ BK369.out) hb); have n2_ := Aside0.mk (blk_below (g := gb370) (o := .cells #[.int .i64 a2_0, .string a2_1, .int .i64 a2_2, .slice A2_3 l2_3.length c2_3] 24 (0, 0)) (bk_ BK370.out) hb); have n3_ := Aside0.mk (below_step (by repeat (first | (with_reducible first | exact HB.out | apply below_alloc | apply pw_below_drewN | apply below_drew1 | refine below_set ?_ GE368.out | refine below_set ?_ GE369.out | refine below_set ?_ GE370.out) | exact HB.out)) hb); clear BK368; clear BK369; clear BK370; clear HB; have BK368 := n0_; have BK369 := n1_; have BK370 := n2_; have HB := n3_; clear n0_ n1_ n2_ n3_; (try clear hb); (try clear hb2); (try clear hk); (try clear hi); have hcz115_0 : w114.cell? ⟨gb368, 0, none⟩ = some (.int .i64 a0_0) := (blk_cell BK368.out 0).trans rfl; have hcz115_1 : w114.cell? ⟨gb368, 1, none⟩ = some (.string a0_1) := (blk_cell BK368.out 1).trans rfl; have hcz115_2 : w114.cell? ⟨gb368, 2, none⟩ = some (.int .i64 a0_2) := (blk_cell BK368.out 2).trans rfl; have hcz115_3 : w114.cell? ⟨gb368, 3, none⟩ = some (.slice A0_3 l0_3.length c0_3) := (blk_cell BK368.out 3).trans rfl; have hfz115_0 := blk_frozen BK368.out 0; have hfz115_1 := blk_frozen BK368.out 1; have hfz115_2 := blk_frozen BK368.out 2; have hfz115_3 := blk_frozen BK368.out 3; have hcz116_0 : w114.cell? ⟨gb369, 0, none⟩ = some (.int .i64 a1_0) := (blk_cell BK369.out 0).trans rfl; have hcz116_1 : w114.cell? ⟨gb369, 1, none⟩ = some (.string a1_1) := (blk_cell BK369.out 1).trans rfl; have hcz116_2 : w114.cell? ⟨gb369, 2, none⟩ = some (.int .i64 a1_2) := (blk_cell BK369.out 2).trans rfl; have hcz116_3 : w114.cell? ⟨gb369, 3, none⟩ = some (.slice A1_3 l1_3.length c1_3) := (blk_cell BK369.out 3).trans rfl; have hfz116_0 := blk_frozen BK369.out 0; have hfz116_1 := blk_frozen BK369.out 1; have hfz116_2 := blk_frozen BK369.out 2; have hfz116_3 := blk_frozen BK369.out 3) | ((with_reducible refine gate_callee (f := 16) rfl ?_); refine goesL_ (some 83) rfl rfl Tryd.func16 (by kernel_rfl) rfl #[.agg #[.int .i64 a0_0, .string a0_1, .int .i64 a0_2, .slice A0_3 l0_3.length c0_3], .agg #[.int .i64 a1_0, .string a1_1, .int .i64 a1_2, .slice A1_3 l1_3.length c1_3]] rfl (by (try simp only [List.map_toArray, List.map_cons, List.map_nil]); first | done | rfl | (simp only [List.length_drop, List.length_take]; rfl)) ?_; (with_reducible refine (vinculumref09_Equal.calls kj5 a0_0 a0_1 a0_2 _ _ l0_3 a1_0 a1_1 a1_2 _ _ l1_3 t385 _ ?side1 ?side2 ?side3 ?side4 A79.out).mono ?_); (case side1 => exact kc_ HR0_3.out HB.out); (case side2 => exact HC0_3.out); (case side3 => exact kc_ HR1_3.out HB.out); (case side4 => exact HC1_3.out); rintro e w117 ⟨rfl, hb⟩; refine ⟨_, rfl, ?_⟩; have n0_ := Aside0.mk (blk_below (g := gb368) (o := .cells #[.int .i64 a0_0, .string a0_1, .int .i64 a0_2, .slice A0_3 l0_3.length c0_3] 24 (0, 0)) (bk_ BK368.out) hb); have n1_ := Aside0.mk (blk_below (g := gb369) (o := .cells #[.int .i64 a1_0, .string a1_1, .int .i64 a1_2, .slice A1_3 l1_3.length c1_3] 24 (0, 0)) (bk_ BK369.out) hb); have n2_ := Aside0.mk (blk_below (g := gb370) (o := .cells #[.int .i64 a2_0, .string a2_1, .int .i64 a2_2, .slice A2_3 l2_3.length c2_3] 24 (0, 0)) (bk_ BK370.out) hb); have n3_ := Aside0.mk (below_step (by repeat (first | (with_reducible first | exact HB.out | apply below_alloc | apply pw_below_drewN | apply below_drew1 | refine below_set ?_ GE368.out | refine below_set ?_ GE369.out | refine below_set ?_ GE370.out) | exact HB.out)) hb); clear BK368; clear BK369; clear BK370; clear HB; have BK368 := n0_; have BK369 := n1_; have BK370 := n2_; have HB := n3_; clear n0_ n1_ n2_ n3_; (try clear hb); (try clear hb2); (try clear hk); (try clear hi)))
           go_ret
           exact ⟨by first | rfl | (simp [errW_none, errW_some] <;> rfl) | (simp [*, errW_none, errW_some] <;> rfl), by repeat (first | (with_reducible first | exact HB.out | apply below_alloc | apply pw_below_drewN | apply below_drew1 | refine below_set ?_ GE368.out | refine below_set ?_ GE369.out | refine below_set ?_ GE370.out) | exact HB.out)⟩
         ·rw [if_neg c80] at H
          have c80b0 : ((t377 == 0) == t385) = false := by simpa using c80
          (try (have c80b1 : decide ((t377 == 0) = t385) = false := by simpa using c80))
          (try (have c80b2 : ((t377 == 0) == t385) = false := by simpa using c80))
          (try (have c80b3 : ¬ ((t377 == 0) = t385) := by simpa using c80))
          clear c80
          obtain rfl := Option.some.inj H
          have hnb118 := NB368_369.out
          have hnc118 := NB369_368.out
          have hnb119 := NB368_370.out
          have hnc119 := NB370_368.out
          have hcz120_0 : wc.cell? ⟨gb368, 0, none⟩ = some (.int .i64 a0_0) := (blk_cell BK368.out 0).trans rfl
          have hcz120_1 : wc.cell? ⟨gb368, 1, none⟩ = some (.string a0_1) := (blk_cell BK368.out 1).trans rfl
          have hcz120_2 : wc.cell? ⟨gb368, 2, none⟩ = some (.int .i64 a0_2) := (blk_cell BK368.out 2).trans rfl
          have hcz120_3 : wc.cell? ⟨gb368, 3, none⟩ = some (.slice A0_3 l0_3.length c0_3) := (blk_cell BK368.out 3).trans rfl
          have hfz120_0 := blk_frozen BK368.out 0
          have hfz120_1 := blk_frozen BK368.out 1
          have hfz120_2 := blk_frozen BK368.out 2
          have hfz120_3 := blk_frozen BK368.out 3
          have hnb121 := NB369_370.out
          have hnc121 := NB370_369.out
          have hcz122_0 : wc.cell? ⟨gb369, 0, none⟩ = some (.int .i64 a1_0) := (blk_cell BK369.out 0).trans rfl
          have hcz122_1 : wc.cell? ⟨gb369, 1, none⟩ = some (.string a1_1) := (blk_cell BK369.out 1).trans rfl
          have hcz122_2 : wc.cell? ⟨gb369, 2, none⟩ = some (.int .i64 a1_2) := (blk_cell BK369.out 2).trans rfl
          have hcz122_3 : wc.cell? ⟨gb369, 3, none⟩ = some (.slice A1_3 l1_3.length c1_3) := (blk_cell BK369.out 3).trans rfl
          have hfz122_0 := blk_frozen BK369.out 0
          have hfz122_1 := blk_frozen BK369.out 1
          have hfz122_2 := blk_frozen BK369.out 2
          have hfz122_3 := blk_frozen BK369.out 3
          go_wp2_with (first | ((with_reducible refine gate_callee (f := 9) rfl ?_); refine goesL_ (some 44) rfl rfl Tryd.func9 (by kernel_rfl) rfl #[.agg #[.int .i64 a0_0, .string a0_1, .int .i64 a0_2, .slice A0_3 l0_3.length c0_3], .agg #[.int .i64 a1_0, .string a1_1, .int .i64 a1_2, .slice A1_3 l1_3.length c1_3]] rfl (by (try simp only [List.map_toArray, List.map_cons, List.map_nil]); first | done | rfl | (simp only [List.length_drop, List.length_take]; rfl)) ?_; (with_reducible refine (diff_Cost.calls kj5 a0_0 a0_1 a0_2 _ _ l0_3 a1_0 a1_1 a1_2 _ _ l1_3 t377 t378 _ ?side1 ?side2 ?side3 ?side4 A71.out).mono ?_); (case side1 => exact kc_ HR0_3.out HB.out); (case side2 => exact HC0_3.out); (case side3 => exact kc_ HR1_3.out HB.out); (case side4 => exact HC1_3.out); rintro e w123 ⟨rfl, hb⟩; refine ⟨_, rfl, ?_⟩; have n0_ := Aside0.mk (blk_below (g := gb368) (o := .cells #[.int .i64 a0_0, .string a0_1, .int .i64 a0_2, .slice A0_3 l0_3.length c0_3] 24 (0, 0)) (bk_ BK368.out) hb); have n1_ := Aside0.mk (blk_below (g := gb369) (o := .cells #[.int .i64 a1_0, .string a1_1, .int .i64 a1_2, .slice A1_3 l1_3.length c1_3] 24 (0, 0)) (bk_ BK369.out) hb); have n2_ := Aside0.mk (blk_below (g := gb370) (o := .cells #[.int .i64 a2_0, .string a2_1, .int .i64 a2_2, .slice A2_3 l2_3.length c2_3] 24 (0, 0)) (bk_ BK370.out) hb); have n3_ := Aside0.mk (below_step (by repeat (first | (with_reducible first | exact HB.out | apply below_alloc | apply pw_below_drewN | apply below_drew1 | refine below_set ?_ GE368.out | refine below_set ?_ GE369.out | refine below_set ?_ GE370.out) | exact HB.out)) hb); clear BK368; clear BK369; clear BK370; clear HB; have BK368 := n0_; have BK369 := n1_; have BK370 := n2_; have HB := n3_; clear n0_ n1_ n2_ n3_; (try clear hb); (try clear hb2); (try clear hk); (try clear hi); have hcz124_0 : w123.cell? ⟨gb369, 0, none⟩ = some (.int .i64 a1_0) := (blk_cell BK369.out 0).trans rfl; have hcz124_1 : w123.cell? ⟨gb369, 1, none⟩ = some (.string a1_1) := (blk_cell BK369.out 1).trans rfl; have hcz124_2 : w123.cell? ⟨gb369, 2, none⟩ = some (.int .i64 a1_2) := (blk_cell BK369.out 2).trans rfl; have hcz124_3 : w123.cell? ⟨gb369, 3, none⟩ = some (.slice A1_3 l1_3.length c1_3) := (blk_cell BK369.out 3).trans rfl; have hfz124_0 := blk_frozen BK369.out 0; have hfz124_1 := blk_frozen BK369.out 1; have hfz124_2 := blk_frozen BK369.out 2; have hfz124_3 := blk_frozen BK369.out 3; have hcz125_0 : w123.cell? ⟨gb368, 0, none⟩ = some (.int .i64 a0_0) := (blk_cell BK368.out 0).trans rfl; have hcz125_1 : w123.cell? ⟨gb368, 1, none⟩ = some (.string a0_1) := (blk_cell BK368.out 1).trans rfl; have hcz125_2 : w123.cell? ⟨gb368, 2, none⟩ = some (.int .i64 a0_2) := (blk_cell BK368.out 2).trans rfl; have hcz125_3 : w123.cell? ⟨gb368, 3, none⟩ = some (.slice A0_3 l0_3.length c0_3) := (blk_cell BK368.out 3).trans rfl; have hfz125_0 := blk_frozen BK368.out 0; have hfz125_1 := blk_frozen BK368.out 1; have hfz125_2 := blk_frozen BK368.out 2; have hfz125_3 := blk_frozen BK368.out 3) | ((with_reducible refine gate_callee (f := 9) rfl ?_); refine goesL_ (some 50) rfl rfl Tryd.func9 (by kernel_rfl) rfl #[.agg #[.int .i64 a1_0, .string a1_1, .int .i64 a1_2, .slice A1_3 l1_3.length c1_3], .agg #[.int .i64 a0_0, .string a0_1, .int .i64 a0_2, .slice A0_3 l0_3.length c0_3]] rfl (by (try simp only [List.map_toArray, List.map_cons, List.map_nil]); first | done | rfl | (simp only [List.length_drop, List.length_take]; rfl)) ?_; (with_reducible refine (diff_Cost.calls kj5 a1_0 a1_1 a1_2 _ _ l1_3 a0_0 a0_1 a0_2 _ _ l0_3 t379 t380 _ ?side1 ?side2 ?side3 ?side4 A72.out).mono ?_); (case side1 => exact kc_ HR1_3.out HB.out); (case side2 => exact HC1_3.out); (case side3 => exact kc_ HR0_3.out HB.out); (case side4 => exact HC0_3.out); rintro e w126 ⟨rfl, hb⟩; refine ⟨_, rfl, ?_⟩; have n0_ := Aside0.mk (blk_below (g := gb368) (o := .cells #[.int .i64 a0_0, .string a0_1, .int .i64 a0_2, .slice A0_3 l0_3.length c0_3] 24 (0, 0)) (bk_ BK368.out) hb); have n1_ := Aside0.mk (blk_below (g := gb369) (o := .cells #[.int .i64 a1_0, .string a1_1, .int .i64 a1_2, .slice A1_3 l1_3.length c1_3] 24 (0, 0)) (bk_ BK369.out) hb); have n2_ := Aside0.mk (blk_below (g := gb370) (o := .cells #[.int .i64 a2_0, .string a2_1, .int .i64 a2_2, .slice A2_3 l2_3.length c2_3] 24 (0, 0)) (bk_ BK370.out) hb); have n3_ := Aside0.mk (below_step (by repeat (first | (with_reducible first | exact HB.out | apply below_alloc | apply pw_below_drewN | apply below_drew1 | refine below_set ?_ GE368.out | refine below_set ?_ GE369.out | refine below_set ?_ GE370.out) | exact HB.out)) hb); clear BK368; clear BK369; clear BK370; clear HB; have BK368 := n0_; have BK369 := n1_; have BK370 := n2_; have HB := n3_; clear n0_ n1_ n2_ n3_; (try clear hb); (try clear hb2); (try clear hk); (try clear hi); have hcz127_0 : w126.cell? ⟨gb369, 0, none⟩ = some (.int .i64 a1_0) := (blk_cell BK369.out 0).trans rfl; have hcz127_1 : w126.cell? ⟨gb369, 1, none⟩ = some (.string a1_1) := (blk_cell BK369.out 1).trans rfl; have hcz127_2 : w126.cell? ⟨gb369, 2, none⟩ = some (.int .i64 a1_2) := (blk_cell BK369.out 2).trans rfl; have hcz127_3 : w126.cell? ⟨gb369, 3, none⟩ = some (.slice A1_3 l1_3.length c1_3) := (blk_cell BK369.out 3).trans rfl; have hfz127_0 := blk_frozen BK369.out 0; have hfz127_1 := blk_frozen BK369.out 1; have hfz127_2 := blk_frozen BK369.out 2; have hfz127_3 := blk_frozen BK369.out 3; have hcz128_0 : w126.cell? ⟨gb370, 0, none⟩ = some (.int .i64 a2_0) := (blk_cell BK370.out 0).trans rfl; have hcz128_1 : w126.cell? ⟨gb370, 1, none⟩ = some (.string a2_1) := (blk_cell BK370.out 1).trans rfl; have hcz128_2 : w126.cell? ⟨gb370, 2, none⟩ = some (.int .i64 a2_2) := (blk_cell BK370.out 2).trans rfl; have hcz128_3 : w126.cell? ⟨gb370, 3, none⟩ = some (.slice A2_3 l2_3.length c2_3) := (blk_cell BK370.out 3).trans rfl; have hfz128_0 := blk_frozen BK370.out 0; have hfz128_1 := blk_frozen BK370.out 1; have hfz128_2 := blk_frozen BK370.out 2; have hfz128_3 := blk_frozen BK370.out 3) | ((with_reducible refine gate_callee (f := 9) rfl ?_); refine goesL_ (some 56) rfl rfl Tryd.func9 (by kernel_rfl) rfl #[.agg #[.int .i64 a1_0, .string a1_1, .int .i64 a1_2, .slice A1_3 l1_3.length c1_3], .agg #[.int .i64 a2_0, .string a2_1, .int .i64 a2_2, .slice A2_3 l2_3.length c2_3]] rfl (by (try simp only [List.map_toArray, List.map_cons, List.map_nil]); first | done | rfl | (simp only [List.length_drop, List.length_take]; rfl)) ?_; (with_reducible refine (diff_Cost.calls kj5 a1_0 a1_1 a1_2 _ _ l1_3 a2_0 a2_1 a2_2 _ _ l2_3 t381 t382 _ ?side1 ?side2 ?side3 ?side4 A73.out).mono ?_); (case side1 => exact kc_ HR1_3.out HB.out); (case side2 => exact HC1_3.out); (case side3 => exact kc_ HR2_3.out HB.out); (case side4 => exact HC2_3.out); rintro e w129 ⟨rfl, hb⟩; refine ⟨_, rfl, ?_⟩; have n0_ := Aside0.mk (blk_below (g := gb368) (o := .cells #[.int .i64 a0_0, .string a0_1, .int .i64 a0_2, .slice A0_3 l0_3.length c0_3] 24 (0, 0)) (bk_ BK368.out) hb); have n1_ := Aside0.mk (blk_below (g := gb369) (o := .cells #[.int .i64 a1_0, .string a1_1, .int .i64 a1_2, .slice A1_3 l1_3.length c1_3] 24 (0, 0)) (bk_ BK369.out) hb); have n2_ := Aside0.mk (blk_below (g := gb370) (o := .cells #[.int .i64 a2_0, .string a2_1, .int .i64 a2_2, .slice A2_3 l2_3.length c2_3] 24 (0, 0)) (bk_ BK370.out) hb); have n3_ := Aside0.mk (below_step (by repeat (first | (with_reducible first | exact HB.out | apply below_alloc | apply pw_below_drewN | apply below_drew1 | refine below_set ?_ GE368.out | refine below_set ?_ GE369.out | refine below_set ?_ GE370.out) | exact HB.out)) hb); clear BK368; clear BK369; clear BK370; clear HB; have BK368 := n0_; have BK369 := n1_; have BK370 := n2_; have HB := n3_; clear n0_ n1_ n2_ n3_; (try clear hb); (try clear hb2); (try clear hk); (try clear hi); have hcz130_0 : w129.cell? ⟨gb368, 0, none⟩ = some (.int .i64 a0_0) := (blk_cell BK368.out 0).trans rfl; have hcz130_1 : w129.cell? ⟨gb368, 1, none⟩ = some (.string a0_1) := (blk_cell BK368.out 1).trans rfl; have hcz130_2 : w129.cell? ⟨gb368, 2, none⟩ = some (.int .i64 a0_2) := (blk_cell BK368.out 2).trans rfl; have hcz130_3 : w129.cell? ⟨gb368, 3, none⟩ = some (.slice A0_3 l0_3.length c0_3) := (blk_cell BK368.out 3).trans rfl; have hfz130_0 := blk_frozen BK368.out 0; have hfz130_1 := blk_frozen BK368.out 1; have hfz130_2 := blk_frozen BK368.out 2; have hfz130_3 := blk_frozen BK368.out 3; have hcz131_0 : w129.cell? ⟨gb370, 0, none⟩ = some (.int .i64 a2_0) := (blk_cell BK370.out 0).trans rfl; have hcz131_1 : w129.cell? ⟨gb370, 1, none⟩ = some (.string a2_1) := (blk_cell BK370.out 1).trans rfl; have hcz131_2 : w129.cell? ⟨gb370, 2, none⟩ = some (.int .i64 a2_2) := (blk_cell BK370.out 2).trans rfl; have hcz131_3 : w129.cell? ⟨gb370, 3, none⟩ = some (.slice A2_3 l2_3.length c2_3) := (blk_cell BK370.out 3).trans rfl; have hfz131_0 := blk_frozen BK370.out 0; have hfz131_1 := blk_frozen BK370.out 1; have hfz131_2 := blk_frozen BK370.out 2; have hfz131_3 := blk_frozen BK370.out 3) | ((with_reducible refine gate_callee (f := 9) rfl ?_); refine goesL_ (some 62) rfl rfl Tryd.func9 (by kernel_rfl) rfl #[.agg #[.int .i64 a0_0, .string a0_1, .int .i64 a0_2, .slice A0_3 l0_3.length c0_3], .agg #[.int .i64 a2_0, .string a2_1, .int .i64 a2_2, .slice A2_3 l2_3.length c2_3]] rfl (by (try simp only [List.map_toArray, List.map_cons, List.map_nil]); first | done | rfl | (simp only [List.length_drop, List.length_take]; rfl)) ?_; (with_reducible refine (diff_Cost.calls kj5 a0_0 a0_1 a0_2 _ _ l0_3 a2_0 a2_1 a2_2 _ _ l2_3 t383 t384 _ ?side1 ?side2 ?side3 ?side4 A74.out).mono ?_); (case side1 => exact kc_ HR0_3.out HB.out); (case side2 => exact HC0_3.out); (case side3 => exact kc_ HR2_3.out HB.out); (case side4 => exact HC2_3.out); rintro e w132 ⟨rfl, hb⟩; refine ⟨_, rfl, ?_⟩; have n0_ := Aside0.mk (blk_below (g := gb368) (o := .cells #[.int .i64 a0_0, .string a0_1, .int .i64 a0_2, .slice A0_3 l0_3.length c0_3] 24 (0, 0)) (bk_ BK368.out) hb); have n1_ := Aside0.mk (blk_below (g := gb369) (o := .cells #[.int .i64 a1_0, .string a1_1, .int .i64 a1_2, .slice A1_3 l1_3.length c1_3] 24 (0, 0)) (bk_ BK369.out) hb); have n2_ := Aside0.mk (blk_below (g := gb370) (o := .cells #[.int .i64 a2_0, .string a2_1, .int .i64 a2_2, .slice A2_3 l2_3.length c2_3] 24 (0, 0)) (bk_ BK370.out) hb); have n3_ := Aside0.mk (below_step (by repeat (first | (with_reducible first | exact HB.out | apply below_alloc | apply pw_below_drewN | apply below_drew1 | refine below_set ?_ GE368.out | refine below_set ?_ GE369.out | refine below_set ?_ GE370.out) | exact HB.out)) hb); clear BK368; clear BK369; clear BK370; clear HB; have BK368 := n0_; have BK369 := n1_; have BK370 := n2_; have HB := n3_; clear n0_ n1_ n2_ n3_; (try clear hb); (try clear hb2); (try clear hk); (try clear hi); have hcz133_0 : w132.cell? ⟨gb368, 0, none⟩ = some (.int .i64 a0_0) := (blk_cell BK368.out 0).trans rfl; have hcz133_1 : w132.cell? ⟨gb368, 1, none⟩ = some (.string a0_1) := (blk_cell BK368.out 1).trans rfl; have hcz133_2 : w132.cell? ⟨gb368, 2, none⟩ = some (.int .i64 a0_2) := (blk_cell BK368.out 2).trans rfl; have hcz133_3 : w132.cell? ⟨gb368, 3, none⟩ = some (.slice A0_3 l0_3.length c0_3) := (blk_cell BK368.out 3).trans rfl; have hfz133_0 := blk_frozen BK368.out 0; have hfz133_1 := blk_frozen BK368.out 1; have hfz133_2 := blk_frozen BK368.out 2; have hfz133_3 := blk_frozen BK368.out 3; have hcz134_0 : w132.cell? ⟨gb369, 0, none⟩ = some (.int .i64 a1_0) := (blk_cell BK369.out 0).trans rfl; have hcz134_1 : w132.cell? ⟨gb369, 1, none⟩ = some (.string a1_1) := (blk_cell BK369.out 1).trans rfl; have hcz134_2 : w132.cell? ⟨gb369, 2, none⟩ = some (.int .i64 a1_2) := (blk_cell BK369.out 2).trans rfl; have hcz134_3 : w132.cell? ⟨gb369, 3, none⟩ = some (.slice A1_3 l1_3.length c1_3) := (blk_cell BK369.out 3).trans rfl; have hfz134_0 := blk_frozen BK369.out 0; have hfz134_1 := blk_frozen BK369.out 1; have hfz134_2 := blk_frozen BK369.out 2; have hfz134_3 := blk_frozen BK369.out 3) | ((with_reducible refine gate_callee (f := 16) rfl ?_); refine goesL_ (some 83) rfl rfl Tryd.func16 (by kernel_rfl) rfl #[.agg #[.int .i64 a0_0, .string a0_1, .int .i64 a0_2, .slice A0_3 l0_3.length c0_3], .agg #[.int .i64 a1_0, .string a1_1, .int .i64 a1_2, .slice A1_3 l1_3.length c1_3]] rfl (by (try simp only [List.map_toArray, List.map_cons, List.map_nil]); first | done | rfl | (simp only [List.length_drop, List.length_take]; rfl)) ?_; (with_reducible refine (vinculumref09_Equal.calls kj5 a0_0 a0_1 a0_2 _ _ l0_3 a1_0 a1_1 a1_2 _ _ l1_3 t385 _ ?side1 ?side2 ?side3 ?side4 A79.out).mono ?_); (case side1 => exact kc_ HR0_3.out HB.out); (case side2 => exact HC0_3.out); (case side3 => exact kc_ HR1_3.out HB.out); (case side4 => exact HC1_3.out); rintro e w135 ⟨rfl, hb⟩; refine ⟨_, rfl, ?_⟩; have n0_ := Aside0.mk (blk_below (g := gb368) (o := .cells #[.int .i64 a0_0, .string a0_1, .int .i64 a0_2, .slice A0_3 l0_3.length c0_3] 24 (0, 0)) (bk_ BK368.out) hb); have n1_ := Aside0.mk (blk_below (g := gb369) (o := .cells #[.int .i64 a1_0, .string a1_1, .int .i64 a1_2, .slice A1_3 l1_3.length c1_3] 24 (0, 0)) (bk_ BK369.out) hb); have n2_ := Aside0.mk (blk_below (g := gb370) (o := .cells #[.int .i64 a2_0, .string a2_1, .int .i64 a2_2, .slice A2_3 l2_3.length c2_3] 24 (0, 0)) (bk_ BK370.out) hb); have n3_ := Aside0.mk (below_step (by repeat (first | (with_reducible first | exact HB.out | apply below_alloc | apply pw_below_drewN | apply below_drew1 | refine below_set ?_ GE368.out | refine below_set ?_ GE369.out | refine below_set ?_ GE370.out) | exact HB.out)) hb); clear BK368; clear BK369; clear BK370; clear HB; have BK368 := n0_; have BK369 := n1_; have BK370 := n2_; have HB := n3_; clear n0_ n1_ n2_ n3_; (try clear hb); (try clear hb2); (try clear hk); (try clear hi)))
          go_ret
          exact ⟨by first | rfl | (simp [errW_none, errW_some] <;> rfl) | (simp [*, errW_none, errW_some] <;> rfl), by repeat (first | (with_reducible first | exact HB.out | apply below_alloc | apply pw_below_drewN | apply below_drew1 | refine below_set ?_ GE368.out | refine below_set ?_ GE369.out | refine below_set ?_ GE370.out) | exact HB.out)⟩
        ·rw [if_neg c78] at H
         have c78b0 : (t384 == 0) = false := beq_eq_false_iff_ne.mpr c78
         have c78b1 : (t384 != 0) = true := bne_iff_ne.mpr c78
         obtain rfl := Option.some.inj H
         have hnb136 := NB368_369.out
         have hnc136 := NB369_368.out
         have hnb137 := NB368_370.out
         have hnc137 := NB370_368.out
         have hcz138_0 : wc.cell? ⟨gb368, 0, none⟩ = some (.int .i64 a0_0) := (blk_cell BK368.out 0).trans rfl
         have hcz138_1 : wc.cell? ⟨gb368, 1, none⟩ = some (.string a0_1) := (blk_cell BK368.out 1).trans rfl
         have hcz138_2 : wc.cell? ⟨gb368, 2, none⟩ = some (.int .i64 a0_2) := (blk_cell BK368.out 2).trans rfl
         have hcz138_3 : wc.cell? ⟨gb368, 3, none⟩ = some (.slice A0_3 l0_3.length c0_3) := (blk_cell BK368.out 3).trans rfl
         have hfz138_0 := blk_frozen BK368.out 0
         have hfz138_1 := blk_frozen BK368.out 1
         have hfz138_2 := blk_frozen BK368.out 2
         have hfz138_3 := blk_frozen BK368.out 3
         have hnb139 := NB369_370.out
         have hnc139 := NB370_369.out
         have hcz140_0 : wc.cell? ⟨gb369, 0, none⟩ = some (.int .i64 a1_0) := (blk_cell BK369.out 0).trans rfl
         have hcz140_1 : wc.cell? ⟨gb369, 1, none⟩ = some (.string a1_1) := (blk_cell BK369.out 1).trans rfl
         have hcz140_2 : wc.cell? ⟨gb369, 2, none⟩ = some (.int .i64 a1_2) := (blk_cell BK369.out 2).trans rfl
         have hcz140_3 : wc.cell? ⟨gb369, 3, none⟩ = some (.slice A1_3 l1_3.length c1_3) := (blk_cell BK369.out 3).trans rfl
         have hfz140_0 := blk_frozen BK369.out 0
         have hfz140_1 := blk_frozen BK369.out 1
         have hfz140_2 := blk_frozen BK369.out 2
         have hfz140_3 := blk_frozen BK369.out 3
         go_wp2_with (first | ((with_reducible refine gate_callee (f := 9) rfl ?_); refine goesL_ (some 44) rfl rfl Tryd.func9 (by kernel_rfl) rfl #[.agg #[.int .i64 a0_0, .string a0_1, .int .i64 a0_2, .slice A0_3 l0_3.length c0_3], .agg #[.int .i64 a1_0, .string a1_1, .int .i64 a1_2, .slice A1_3 l1_3.length c1_3]] rfl (by (try simp only [List.map_toArray, List.map_cons, List.map_nil]); first | done | rfl | (simp only [List.length_drop, List.length_take]; rfl)) ?_; (with_reducible refine (diff_Cost.calls kj5 a0_0 a0_1 a0_2 _ _ l0_3 a1_0 a1_1 a1_2 _ _ l1_3 t377 t378 _ ?side1 ?side2 ?side3 ?side4 A71.out).mono ?_); (case side1 => exact kc_ HR0_3.out HB.out); (case side2 => exact HC0_3.out); (case side3 => exact kc_ HR1_3.out HB.out); (case side4 => exact HC1_3.out); rintro e w141 ⟨rfl, hb⟩; refine ⟨_, rfl, ?_⟩; have n0_ := Aside0.mk (blk_below (g := gb368) (o := .cells #[.int .i64 a0_0, .string a0_1, .int .i64 a0_2, .slice A0_3 l0_3.length c0_3] 24 (0, 0)) (bk_ BK368.out) hb); have n1_ := Aside0.mk (blk_below (g := gb369) (o := .cells #[.int .i64 a1_0, .string a1_1, .int .i64 a1_2, .slice A1_3 l1_3.length c1_3] 24 (0, 0)) (bk_ BK369.out) hb); have n2_ := Aside0.mk (blk_below (g := gb370) (o := .cells #[.int .i64 a2_0, .string a2_1, .int .i64 a2_2, .slice A2_3 l2_3.length c2_3] 24 (0, 0)) (bk_ BK370.out) hb); have n3_ := Aside0.mk (below_step (by repeat (first | (with_reducible first | exact HB.out | apply below_alloc | apply pw_below_drewN | apply below_drew1 | refine below_set ?_ GE368.out | refine below_set ?_ GE369.out | refine below_set ?_ GE370.out) | exact HB.out)) hb); clear BK368; clear BK369; clear BK370; clear HB; have BK368 := n0_; have BK369 := n1_; have BK370 := n2_; have HB := n3_; clear n0_ n1_ n2_ n3_; (try clear hb); (try clear hb2); (try clear hk); (try clear hi); have hcz142_0 : w141.cell? ⟨gb369, 0, none⟩ = some (.int .i64 a1_0) := (blk_cell BK369.out 0).trans rfl; have hcz142_1 : w141.cell? ⟨gb369, 1, none⟩ = some (.string a1_1) := (blk_cell BK369.out 1).trans rfl; have hcz142_2 : w141.cell? ⟨gb369, 2, none⟩ = some (.int .i64 a1_2) := (blk_cell BK369.out 2).trans rfl; have hcz142_3 : w141.cell? ⟨gb369, 3, none⟩ = some (.slice A1_3 l1_3.length c1_3) := (blk_cell BK369.out 3).trans rfl; have hfz142_0 := blk_frozen BK369.out 0; have hfz142_1 := blk_frozen BK369.out 1; have hfz142_2 := blk_frozen BK369.out 2; have hfz142_3 := blk_frozen BK369.out 3; have hcz143_0 : w141.cell? ⟨gb368, 0, none⟩ = some (.int .i64 a0_0) := (blk_cell BK368.out 0).trans rfl; have hcz143_1 : w141.cell? ⟨gb368, 1, none⟩ = some (.string a0_1) := (blk_cell BK368.out 1).trans rfl; have hcz143_2 : w141.cell? ⟨gb368, 2, none⟩ = some (.int .i64 a0_2) := (blk_cell BK368.out 2).trans rfl; have hcz143_3 : w141.cell? ⟨gb368, 3, none⟩ = some (.slice A0_3 l0_3.length c0_3) := (blk_cell BK368.out 3).trans rfl; have hfz143_0 := blk_frozen BK368.out 0; have hfz143_1 := blk_frozen BK368.out 1; have hfz143_2 := blk_frozen BK368.out 2; have hfz143_3 := blk_frozen BK368.out 3) | ((with_reducible refine gate_callee (f := 9) rfl ?_); refine goesL_ (some 50) rfl rfl Tryd.func9 (by kernel_rfl) rfl #[.agg #[.int .i64 a1_0, .string a1_1, .int .i64 a1_2, .slice A1_3 l1_3.length c1_3], .agg #[.int .i64 a0_0, .string a0_1, .int .i64 a0_2, .slice A0_3 l0_3.length c0_3]] rfl (by (try simp only [List.map_toArray, List.map_cons, List.map_nil]); first | done | rfl | (simp only [List.length_drop, List.length_take]; rfl)) ?_; (with_reducible refine (diff_Cost.calls kj5 a1_0 a1_1 a1_2 _ _ l1_3 a0_0 a0_1 a0_2 _ _ l0_3 t379 t380 _ ?side1 ?side2 ?side3 ?side4 A72.out).mono ?_); (case side1 => exact kc_ HR1_3.out HB.out); (case side2 => exact HC1_3.out); (case side3 => exact kc_ HR0_3.out HB.out); (case side4 => exact HC0_3.out); rintro e w144 ⟨rfl, hb⟩; refine ⟨_, rfl, ?_⟩; have n0_ := Aside0.mk (blk_below (g := gb368) (o := .cells #[.int .i64 a0_0, .string a0_1, .int .i64 a0_2, .slice A0_3 l0_3.length c0_3] 24 (0, 0)) (bk_ BK368.out) hb); have n1_ := Aside0.mk (blk_below (g := gb369) (o := .cells #[.int .i64 a1_0, .string a1_1, .int .i64 a1_2, .slice A1_3 l1_3.length c1_3] 24 (0, 0)) (bk_ BK369.out) hb); have n2_ := Aside0.mk (blk_below (g := gb370) (o := .cells #[.int .i64 a2_0, .string a2_1, .int .i64 a2_2, .slice A2_3 l2_3.length c2_3] 24 (0, 0)) (bk_ BK370.out) hb); have n3_ := Aside0.mk (below_step (by repeat (first | (with_reducible first | exact HB.out | apply below_alloc | apply pw_below_drewN | apply below_drew1 | refine below_set ?_ GE368.out | refine below_set ?_ GE369.out | refine below_set ?_ GE370.out) | exact HB.out)) hb); clear BK368; clear BK369; clear BK370; clear HB; have BK368 := n0_; have BK369 := n1_; have BK370 := n2_; have HB := n3_; clear n0_ n1_ n2_ n3_; (try clear hb); (try clear hb2); (try clear hk); (try clear hi); have hcz145_0 : w144.cell? ⟨gb369, 0, none⟩ = some (.int .i64 a1_0) := (blk_cell BK369.out 0).trans rfl; have hcz145_1 : w144.cell? ⟨gb369, 1, none⟩ = some (.string a1_1) := (blk_cell BK369.out 1).trans rfl; have hcz145_2 : w144.cell? ⟨gb369, 2, none⟩ = some (.int .i64 a1_2) := (blk_cell BK369.out 2).trans rfl; have hcz145_3 : w144.cell? ⟨gb369, 3, none⟩ = some (.slice A1_3 l1_3.length c1_3) := (blk_cell BK369.out 3).trans rfl; have hfz145_0 := blk_frozen BK369.out 0; have hfz145_1 := blk_frozen BK369.out 1; have hfz145_2 := blk_frozen BK369.out 2; have hfz145_3 := blk_frozen BK369.out 3; have hcz146_0 : w144.cell? ⟨gb370, 0, none⟩ = some (.int .i64 a2_0) := (blk_cell BK370.out 0).trans rfl; have hcz146_1 : w144.cell? ⟨gb370, 1, none⟩ = some (.string a2_1) := (blk_cell BK370.out 1).trans rfl; have hcz146_2 : w144.cell? ⟨gb370, 2, none⟩ = some (.int .i64 a2_2) := (blk_cell BK370.out 2).trans rfl; have hcz146_3 : w144.cell? ⟨gb370, 3, none⟩ = some (.slice A2_3 l2_3.length c2_3) := (blk_cell BK370.out 3).trans rfl; have hfz146_0 := blk_frozen BK370.out 0; have hfz146_1 := blk_frozen BK370.out 1; have hfz146_2 := blk_frozen BK370.out 2; have hfz146_3 := blk_frozen BK370.out 3) | ((with_reducible refine gate_callee (f := 9) rfl ?_); refine goesL_ (some 56) rfl rfl Tryd.func9 (by kernel_rfl) rfl #[.agg #[.int .i64 a1_0, .string a1_1, .int .i64 a1_2, .slice A1_3 l1_3.length c1_3], .agg #[.int .i64 a2_0, .string a2_1, .int .i64 a2_2, .slice A2_3 l2_3.length c2_3]] rfl (by (try simp only [List.map_toArray, List.map_cons, List.map_nil]); first | done | rfl | (simp only [List.length_drop, List.length_take]; rfl)) ?_; (with_reducible refine (diff_Cost.calls kj5 a1_0 a1_1 a1_2 _ _ l1_3 a2_0 a2_1 a2_2 _ _ l2_3 t381 t382 _ ?side1 ?side2 ?side3 ?side4 A73.out).mono ?_); (case side1 => exact kc_ HR1_3.out HB.out); (case side2 => exact HC1_3.out); (case side3 => exact kc_ HR2_3.out HB.out); (case side4 => exact HC2_3.out); rintro e w147 ⟨rfl, hb⟩; refine ⟨_, rfl, ?_⟩; have n0_ := Aside0.mk (blk_below (g := gb368) (o := .cells #[.int .i64 a0_0, .string a0_1, .int .i64 a0_2, .slice A0_3 l0_3.length c0_3] 24 (0, 0)) (bk_ BK368.out) hb); have n1_ := Aside0.mk (blk_below (g := gb369) (o := .cells #[.int .i64 a1_0, .string a1_1, .int .i64 a1_2, .slice A1_3 l1_3.length c1_3] 24 (0, 0)) (bk_ BK369.out) hb); have n2_ := Aside0.mk (blk_below (g := gb370) (o := .cells #[.int .i64 a2_0, .string a2_1, .int .i64 a2_2, .slice A2_3 l2_3.length c2_3] 24 (0, 0)) (bk_ BK370.out) hb); have n3_ := Aside0.mk (below_step (by repeat (first | (with_reducible first | exact HB.out | apply below_alloc | apply pw_below_drewN | apply below_drew1 | refine below_set ?_ GE368.out | refine below_set ?_ GE369.out | refine below_set ?_ GE370.out) | exact HB.out)) hb); clear BK368; clear BK369; clear BK370; clear HB; have BK368 := n0_; have BK369 := n1_; have BK370 := n2_; have HB := n3_; clear n0_ n1_ n2_ n3_; (try clear hb); (try clear hb2); (try clear hk); (try clear hi); have hcz148_0 : w147.cell? ⟨gb368, 0, none⟩ = some (.int .i64 a0_0) := (blk_cell BK368.out 0).trans rfl; have hcz148_1 : w147.cell? ⟨gb368, 1, none⟩ = some (.string a0_1) := (blk_cell BK368.out 1).trans rfl; have hcz148_2 : w147.cell? ⟨gb368, 2, none⟩ = some (.int .i64 a0_2) := (blk_cell BK368.out 2).trans rfl; have hcz148_3 : w147.cell? ⟨gb368, 3, none⟩ = some (.slice A0_3 l0_3.length c0_3) := (blk_cell BK368.out 3).trans rfl; have hfz148_0 := blk_frozen BK368.out 0; have hfz148_1 := blk_frozen BK368.out 1; have hfz148_2 := blk_frozen BK368.out 2; have hfz148_3 := blk_frozen BK368.out 3; have hcz149_0 : w147.cell? ⟨gb370, 0, none⟩ = some (.int .i64 a2_0) := (blk_cell BK370.out 0).trans rfl; have hcz149_1 : w147.cell? ⟨gb370, 1, none⟩ = some (.string a2_1) := (blk_cell BK370.out 1).trans rfl; have hcz149_2 : w147.cell? ⟨gb370, 2, none⟩ = some (.int .i64 a2_2) := (blk_cell BK370.out 2).trans rfl; have hcz149_3 : w147.cell? ⟨gb370, 3, none⟩ = some (.slice A2_3 l2_3.length c2_3) := (blk_cell BK370.out 3).trans rfl; have hfz149_0 := blk_frozen BK370.out 0; have hfz149_1 := blk_frozen BK370.out 1; have hfz149_2 := blk_frozen BK370.out 2; have hfz149_3 := blk_frozen BK370.out 3) | ((with_reducible refine gate_callee (f := 9) rfl ?_); refine goesL_ (some 62) rfl rfl Tryd.func9 (by kernel_rfl) rfl #[.agg #[.int .i64 a0_0, .string a0_1, .int .i64 a0_2, .slice A0_3 l0_3.length c0_3], .agg #[.int .i64 a2_0, .string a2_1, .int .i64 a2_2, .slice A2_3 l2_3.length c2_3]] rfl (by (try simp only [List.map_toArray, List.map_cons, List.map_nil]); first | done | rfl | (simp only [List.length_drop, List.length_take]; rfl)) ?_; (with_reducible refine (diff_Cost.calls kj5 a0_0 a0_1 a0_2 _ _ l0_3 a2_0 a2_1 a2_2 _ _ l2_3 t383 t384 _ ?side1 ?side2 ?side3 ?side4 A74.out).mono ?_); (case side1 => exact kc_ HR0_3.out HB.out); (case side2 => exact HC0_3.out); (case side3 => exact kc_ HR2_3.out HB.out); (case side4 => exact HC2_3.out); rintro e w150 ⟨rfl, hb⟩; refine ⟨_, rfl, ?_⟩; have n0_ := Aside0.mk (blk_below (g := gb368) (o := .cells #[.int .i64 a0_0, .string a0_1, .int .i64 a0_2, .slice A0_3 l0_3.length c0_3] 24 (0, 0)) (bk_ BK368.out) hb); have n1_ := Aside0.mk (blk_below (g := gb369) (o := .cells #[.int .i64 a1_0, .string a1_1, .int .i64 a1_2, .slice A1_3 l1_3.length c1_3] 24 (0, 0)) (bk_ BK369.out) hb); have n2_ := Aside0.mk (blk_below (g := gb370) (o := .cells #[.int .i64 a2_0, .string a2_1, .int .i64 a2_2, .slice A2_3 l2_3.length c2_3] 24 (0, 0)) (bk_ BK370.out) hb); have n3_ := Aside0.mk (below_step (by repeat (first | (with_reducible first | exact HB.out | apply below_alloc | apply pw_below_drewN | apply below_drew1 | refine below_set ?_ GE368.out | refine below_set ?_ GE369.out | refine below_set ?_ GE370.out) | exact HB.out)) hb); clear BK368; clear BK369; clear BK370; clear HB; have BK368 := n0_; have BK369 := n1_; have BK370 := n2_; have HB := n3_; clear n0_ n1_ n2_ n3_; (try clear hb); (try clear hb2); (try clear hk); (try clear hi)))
         go_ret
         exact ⟨by first | rfl | (simp [errW_none, errW_some] <;> rfl) | (simp [*, errW_none, errW_some] <;> rfl), by repeat (first | (with_reducible first | exact HB.out | apply below_alloc | apply pw_below_drewN | apply below_drew1 | refine below_set ?_ GE368.out | refine below_set ?_ GE369.out | refine below_set ?_ GE370.out) | exact HB.out)⟩
       ·rw [if_neg c77] at H
        have c77b0 : (t382 == 0) = false := beq_eq_false_iff_ne.mpr c77
        have c77b1 : (t382 != 0) = true := bne_iff_ne.mpr c77
        obtain rfl := Option.some.inj H
        have hnb151 := NB368_369.out
        have hnc151 := NB369_368.out
        have hnb152 := NB368_370.out
        have hnc152 := NB370_368.out
        have hcz153_0 : wc.cell? ⟨gb368, 0, none⟩ = some (.int .i64 a0_0) := (blk_cell BK368.out 0).trans rfl
        have hcz153_1 : wc.cell? ⟨gb368, 1, none⟩ = some (.string a0_1) := (blk_cell BK368.out 1).trans rfl
        have hcz153_2 : wc.cell? ⟨gb368, 2, none⟩ = some (.int .i64 a0_2) := (blk_cell BK368.out 2).trans rfl
        have hcz153_3 : wc.cell? ⟨gb368, 3, none⟩ = some (.slice A0_3 l0_3.length c0_3) := (blk_cell BK368.out 3).trans rfl
        have hfz153_0 := blk_frozen BK368.out 0
        have hfz153_1 := blk_frozen BK368.out 1
        have hfz153_2 := blk_frozen BK368.out 2
        have hfz153_3 := blk_frozen BK368.out 3
        have hnb154 := NB369_370.out
        have hnc154 := NB370_369.out
        have hcz155_0 : wc.cell? ⟨gb369, 0, none⟩ = some (.int .i64 a1_0) := (blk_cell BK369.out 0).trans rfl
        have hcz155_1 : wc.cell? ⟨gb369, 1, none⟩ = some (.string a1_1) := (blk_cell BK369.out 1).trans rfl
        have hcz155_2 : wc.cell? ⟨gb369, 2, none⟩ = some (.int .i64 a1_2) := (blk_cell BK369.out 2).trans rfl
        have hcz155_3 : wc.cell? ⟨gb369, 3, none⟩ = some (.slice A1_3 l1_3.length c1_3) := (blk_cell BK369.out 3).trans rfl
        have hfz155_0 := blk_frozen BK369.out 0
        have hfz155_1 := blk_frozen BK369.out 1
        have hfz155_2 := blk_frozen BK369.out 2
        have hfz155_3 := blk_frozen BK369.out 3
        go_wp2_with (first | ((with_reducible refine gate_callee (f := 9) rfl ?_); refine goesL_ (some 44) rfl rfl Tryd.func9 (by kernel_rfl) rfl #[.agg #[.int .i64 a0_0, .string a0_1, .int .i64 a0_2, .slice A0_3 l0_3.length c0_3], .agg #[.int .i64 a1_0, .string a1_1, .int .i64 a1_2, .slice A1_3 l1_3.length c1_3]] rfl (by (try simp only [List.map_toArray, List.map_cons, List.map_nil]); first | done | rfl | (simp only [List.length_drop, List.length_take]; rfl)) ?_; (with_reducible refine (diff_Cost.calls kj5 a0_0 a0_1 a0_2 _ _ l0_3 a1_0 a1_1 a1_2 _ _ l1_3 t377 t378 _ ?side1 ?side2 ?side3 ?side4 A71.out).mono ?_); (case side1 => exact kc_ HR0_3.out HB.out); (case side2 => exact HC0_3.out); (case side3 => exact kc_ HR1_3.out HB.out); (case side4 => exact HC1_3.out); rintro e w156 ⟨rfl, hb⟩; refine ⟨_, rfl, ?_⟩; have n0_ := Aside0.mk (blk_below (g := gb368) (o := .cells #[.int .i64 a0_0, .string a0_1, .int .i64 a0_2, .slice A0_3 l0_3.length c0_3] 24 (0, 0)) (bk_ BK368.out) hb); have n1_ := Aside0.mk (blk_below (g := gb369) (o := .cells #[.int .i64 a1_0, .string a1_1, .int .i64 a1_2, .slice A1_3 l1_3.length c1_3] 24 (0, 0)) (bk_ BK369.out) hb); have n2_ := Aside0.mk (blk_below (g := gb370) (o := .cells #[.int .i64 a2_0, .string a2_1, .int .i64 a2_2, .slice A2_3 l2_3.length c2_3] 24 (0, 0)) (bk_ BK370.out) hb); have n3_ := Aside0.mk (below_step (by repeat (first | (with_reducible first | exact HB.out | apply below_alloc | apply pw_below_drewN | apply below_drew1 | refine below_set ?_ GE368.out | refine below_set ?_ GE369.out | refine below_set ?_ GE370.out) | exact HB.out)) hb); clear BK368; clear BK369; clear BK370; clear HB; have BK368 := n0_; have BK369 := n1_; have BK370 := n2_; have HB := n3_; clear n0_ n1_ n2_ n3_; (try clear hb); (try clear hb2); (try clear hk); (try clear hi); have hcz157_0 : w156.cell? ⟨gb369, 0, none⟩ = some (.int .i64 a1_0) := (blk_cell BK369.out 0).trans rfl; have hcz157_1 : w156.cell? ⟨gb369, 1, none⟩ = some (.string a1_1) := (blk_cell BK369.out 1).trans rfl; have hcz157_2 : w156.cell? ⟨gb369, 2, none⟩ = some (.int .i64 a1_2) := (blk_cell BK369.out 2).trans rfl; have hcz157_3 : w156.cell? ⟨gb369, 3, none⟩ = some (.slice A1_3 l1_3.length c1_3) := (blk_cell BK369.out 3).trans rfl; have hfz157_0 := blk_frozen BK369.out 0; have hfz157_1 := blk_frozen BK369.out 1; have hfz157_2 := blk_frozen BK369.out 2; have hfz157_3 := blk_frozen BK369.out 3; have hcz158_0 : w156.cell? ⟨gb368, 0, none⟩ = some (.int .i64 a0_0) := (blk_cell BK368.out 0).trans rfl; have hcz158_1 : w156.cell? ⟨gb368, 1, none⟩ = some (.string a0_1) := (blk_cell BK368.out 1).trans rfl; have hcz158_2 : w156.cell? ⟨gb368, 2, none⟩ = some (.int .i64 a0_2) := (blk_cell BK368.out 2).trans rfl; have hcz158_3 : w156.cell? ⟨gb368, 3, none⟩ = some (.slice A0_3 l0_3.length c0_3) := (blk_cell BK368.out 3).trans rfl; have hfz158_0 := blk_frozen BK368.out 0; have hfz158_1 := blk_frozen BK368.out 1; have hfz158_2 := blk_frozen BK368.out 2; have hfz158_3 := blk_frozen BK368.out 3) | ((with_reducible refine gate_callee (f := 9) rfl ?_); refine goesL_ (some 50) rfl rfl Tryd.func9 (by kernel_rfl) rfl #[.agg #[.int .i64 a1_0, .string a1_1, .int .i64 a1_2, .slice A1_3 l1_3.length c1_3], .agg #[.int .i64 a0_0, .string a0_1, .int .i64 a0_2, .slice A0_3 l0_3.length c0_3]] rfl (by (try simp only [List.map_toArray, List.map_cons, List.map_nil]); first | done | rfl | (simp only [List.length_drop, List.length_take]; rfl)) ?_; (with_reducible refine (diff_Cost.calls kj5 a1_0 a1_1 a1_2 _ _ l1_3 a0_0 a0_1 a0_2 _ _ l0_3 t379 t380 _ ?side1 ?side2 ?side3 ?side4 A72.out).mono ?_); (case side1 => exact kc_ HR1_3.out HB.out); (case side2 => exact HC1_3.out); (case side3 => exact kc_ HR0_3.out HB.out); (case side4 => exact HC0_3.out); rintro e w159 ⟨rfl, hb⟩; refine ⟨_, rfl, ?_⟩; have n0_ := Aside0.mk (blk_below (g := gb368) (o := .cells #[.int .i64 a0_0, .string a0_1, .int .i64 a0_2, .slice A0_3 l0_3.length c0_3] 24 (0, 0)) (bk_ BK368.out) hb); have n1_ := Aside0.mk (blk_below (g := gb369) (o := .cells #[.int .i64 a1_0, .string a1_1, .int .i64 a1_2, .slice A1_3 l1_3.length c1_3] 24 (0, 0)) (bk_ BK369.out) hb); have n2_ := Aside0.mk (blk_below (g := gb370) (o := .cells #[.int .i64 a2_0, .string a2_1, .int .i64 a2_2, .slice A2_3 l2_3.length c2_3] 24 (0, 0)) (bk_ BK370.out) hb); have n3_ := Aside0.mk (below_step (by repeat (first | (with_reducible first | exact HB.out | apply below_alloc | apply pw_below_drewN | apply below_drew1 | refine below_set ?_ GE368.out | refine below_set ?_ GE369.out | refine below_set ?_ GE370.out) | exact HB.out)) hb); clear BK368; clear BK369; clear BK370; clear HB; have BK368 := n0_; have BK369 := n1_; have BK370 := n2_; have HB := n3_; clear n0_ n1_ n2_ n3_; (try clear hb); (try clear hb2); (try clear hk); (try clear hi); have hcz160_0 : w159.cell? ⟨gb369, 0, none⟩ = some (.int .i64 a1_0) := (blk_cell BK369.out 0).trans rfl; have hcz160_1 : w159.cell? ⟨gb369, 1, none⟩ = some (.string a1_1) := (blk_cell BK369.out 1).trans rfl; have hcz160_2 : w159.cell? ⟨gb369, 2, none⟩ = some (.int .i64 a1_2) := (blk_cell BK369.out 2).trans rfl; have hcz160_3 : w159.cell? ⟨gb369, 3, none⟩ = some (.slice A1_3 l1_3.length c1_3) := (blk_cell BK369.out 3).trans rfl; have hfz160_0 := blk_frozen BK369.out 0; have hfz160_1 := blk_frozen BK369.out 1; have hfz160_2 := blk_frozen BK369.out 2; have hfz160_3 := blk_frozen BK369.out 3; have hcz161_0 : w159.cell? ⟨gb370, 0, none⟩ = some (.int .i64 a2_0) := (blk_cell BK370.out 0).trans rfl; have hcz161_1 : w159.cell? ⟨gb370, 1, none⟩ = some (.string a2_1) := (blk_cell BK370.out 1).trans rfl; have hcz161_2 : w159.cell? ⟨gb370, 2, none⟩ = some (.int .i64 a2_2) := (blk_cell BK370.out 2).trans rfl; have hcz161_3 : w159.cell? ⟨gb370, 3, none⟩ = some (.slice A2_3 l2_3.length c2_3) := (blk_cell BK370.out 3).trans rfl; have hfz161_0 := blk_frozen BK370.out 0; have hfz161_1 := blk_frozen BK370.out 1; have hfz161_2 := blk_frozen BK370.out 2; have hfz161_3 := blk_frozen BK370.out 3) | ((with_reducible refine gate_callee (f := 9) rfl ?_); refine goesL_ (some 56) rfl rfl Tryd.func9 (by kernel_rfl) rfl #[.agg #[.int .i64 a1_0, .string a1_1, .int .i64 a1_2, .slice A1_3 l1_3.length c1_3], .agg #[.int .i64 a2_0, .string a2_1, .int .i64 a2_2, .slice A2_3 l2_3.length c2_3]] rfl (by (try simp only [List.map_toArray, List.map_cons, List.map_nil]); first | done | rfl | (simp only [List.length_drop, List.length_take]; rfl)) ?_; (with_reducible refine (diff_Cost.calls kj5 a1_0 a1_1 a1_2 _ _ l1_3 a2_0 a2_1 a2_2 _ _ l2_3 t381 t382 _ ?side1 ?side2 ?side3 ?side4 A73.out).mono ?_); (case side1 => exact kc_ HR1_3.out HB.out); (case side2 => exact HC1_3.out); (case side3 => exact kc_ HR2_3.out HB.out); (case side4 => exact HC2_3.out); rintro e w162 ⟨rfl, hb⟩; refine ⟨_, rfl, ?_⟩; have n0_ := Aside0.mk (blk_below (g := gb368) (o := .cells #[.int .i64 a0_0, .string a0_1, .int .i64 a0_2, .slice A0_3 l0_3.length c0_3] 24 (0, 0)) (bk_ BK368.out) hb); have n1_ := Aside0.mk (blk_below (g := gb369) (o := .cells #[.int .i64 a1_0, .string a1_1, .int .i64 a1_2, .slice A1_3 l1_3.length c1_3] 24 (0, 0)) (bk_ BK369.out) hb); have n2_ := Aside0.mk (blk_below (g := gb370) (o := .cells #[.int .i64 a2_0, .string a2_1, .int .i64 a2_2, .slice A2_3 l2_3.length c2_3] 24 (0, 0)) (bk_ BK370.out) hb); have n3_ := Aside0.mk (below_step (by repeat (first | (with_reducible first | exact HB.out | apply below_alloc | apply pw_below_drewN | apply below_drew1 | refine below_set ?_ GE368.out | refine below_set ?_ GE369.out | refine below_set ?_ GE370.out) | exact HB.out)) hb); clear BK368; clear BK369; clear BK370; clear HB; have BK368 := n0_; have BK369 := n1_; have BK370 := n2_; have HB := n3_; clear n0_ n1_ n2_ n3_; (try clear hb); (try clear hb2); (try clear hk); (try clear hi); have hcz163_0 : w162.cell? ⟨gb368, 0, none⟩ = some (.int .i64 a0_0) := (blk_cell BK368.out 0).trans rfl; have hcz163_1 : w162.cell? ⟨gb368, 1, none⟩ = some (.string a0_1) := (blk_cell BK368.out 1).trans rfl; have hcz163_2 : w162.cell? ⟨gb368, 2, none⟩ = some (.int .i64 a0_2) := (blk_cell BK368.out 2).trans rfl; have hcz163_3 : w162.cell? ⟨gb368, 3, none⟩ = some (.slice A0_3 l0_3.length c0_3) := (blk_cell BK368.out 3).trans rfl; have hfz163_0 := blk_frozen BK368.out 0; have hfz163_1 := blk_frozen BK368.out 1; have hfz163_2 := blk_frozen BK368.out 2; have hfz163_3 := blk_frozen BK368.out 3; have hcz164_0 : w162.cell? ⟨gb370, 0, none⟩ = some (.int .i64 a2_0) := (blk_cell BK370.out 0).trans rfl; have hcz164_1 : w162.cell? ⟨gb370, 1, none⟩ = some (.string a2_1) := (blk_cell BK370.out 1).trans rfl; have hcz164_2 : w162.cell? ⟨gb370, 2, none⟩ = some (.int .i64 a2_2) := (blk_cell BK370.out 2).trans rfl; have hcz164_3 : w162.cell? ⟨gb370, 3, none⟩ = some (.slice A2_3 l2_3.length c2_3) := (blk_cell BK370.out 3).trans rfl; have hfz164_0 := blk_frozen BK370.out 0; have hfz164_1 := blk_frozen BK370.out 1; have hfz164_2 := blk_frozen BK370.out 2; have hfz164_3 := blk_frozen BK370.out 3) | ((with_reducible refine gate_callee (f := 9) rfl ?_); refine goesL_ (some 62) rfl rfl Tryd.func9 (by kernel_rfl) rfl #[.agg #[.int .i64 a0_0, .string a0_1, .int .i64 a0_2, .slice A0_3 l0_3.length c0_3], .agg #[.int .i64 a2_0, .string a2_1, .int .i64 a2_2, .slice A2_3 l2_3.length c2_3]] rfl (by (try simp only [List.map_toArray, List.map_cons, List.map_nil]); first | done | rfl | (simp only [List.length_drop, List.length_take]; rfl)) ?_; (with_reducible refine (diff_Cost.calls kj5 a0_0 a0_1 a0_2 _ _ l0_3 a2_0 a2_1 a2_2 _ _ l2_3 t383 t384 _ ?side1 ?side2 ?side3 ?side4 A74.out).mono ?_); (case side1 => exact kc_ HR0_3.out HB.out); (case side2 => exact HC0_3.out); (case side3 => exact kc_ HR2_3.out HB.out); (case side4 => exact HC2_3.out); rintro e w165 ⟨rfl, hb⟩; refine ⟨_, rfl, ?_⟩; have n0_ := Aside0.mk (blk_below (g := gb368) (o := .cells #[.int .i64 a0_0, .string a0_1, .int .i64 a0_2, .slice A0_3 l0_3.length c0_3] 24 (0, 0)) (bk_ BK368.out) hb); have n1_ := Aside0.mk (blk_below (g := gb369) (o := .cells #[.int .i64 a1_0, .string a1_1, .int .i64 a1_2, .slice A1_3 l1_3.length c1_3] 24 (0, 0)) (bk_ BK369.out) hb); have n2_ := Aside0.mk (blk_below (g := gb370) (o := .cells #[.int .i64 a2_0, .string a2_1, .int .i64 a2_2, .slice A2_3 l2_3.length c2_3] 24 (0, 0)) (bk_ BK370.out) hb); have n3_ := Aside0.mk (below_step (by repeat (first | (with_reducible first | exact HB.out | apply below_alloc | apply pw_below_drewN | apply below_drew1 | refine below_set ?_ GE368.out | refine below_set ?_ GE369.out | refine below_set ?_ GE370.out) | exact HB.out)) hb); clear BK368; clear BK369; clear BK370; clear HB; have BK368 := n0_; have BK369 := n1_; have BK370 := n2_; have HB := n3_; clear n0_ n1_ n2_ n3_; (try clear hb); (try clear hb2); (try clear hk); (try clear hi)))
        go_ret
        exact ⟨by first | rfl | (simp [errW_none, errW_some] <;> rfl) | (simp [*, errW_none, errW_some] <;> rfl), by repeat (first | (with_reducible first | exact HB.out | apply below_alloc | apply pw_below_drewN | apply below_drew1 | refine below_set ?_ GE368.out | refine below_set ?_ GE369.out | refine below_set ?_ GE370.out) | exact HB.out)⟩
      ·rw [if_neg c76] at H
       have c76b0 : (t380 == 0) = false := beq_eq_false_iff_ne.mpr c76
       have c76b1 : (t380 != 0) = true := bne_iff_ne.mpr c76
       obtain rfl := Option.some.inj H
       have hnb166 := NB368_369.out
       have hnc166 := NB369_368.out
       have hnb167 := NB368_370.out
       have hnc167 := NB370_368.out
       have hcz168_0 : wc.cell? ⟨gb368, 0, none⟩ = some (.int .i64 a0_0) := (blk_cell BK368.out 0).trans rfl
       have hcz168_1 : wc.cell? ⟨gb368, 1, none⟩ = some (.string a0_1) := (blk_cell BK368.out 1).trans rfl
       have hcz168_2 : wc.cell? ⟨gb368, 2, none⟩ = some (.int .i64 a0_2) := (blk_cell BK368.out 2).trans rfl
       have hcz168_3 : wc.cell? ⟨gb368, 3, none⟩ = some (.slice A0_3 l0_3.length c0_3) := (blk_cell BK368.out 3).trans rfl
       have hfz168_0 := blk_frozen BK368.out 0
       have hfz168_1 := blk_frozen BK368.out 1
       have hfz168_2 := blk_frozen BK368.out 2
       have hfz168_3 := blk_frozen BK368.out 3
       have hnb169 := NB369_370.out
       have hnc169 := NB370_369.out
       have hcz170_0 : wc.cell? ⟨gb369, 0, none⟩ = some (.int .i64 a1_0) := (blk_cell BK369.out 0).trans rfl
       have hcz170_1 : wc.cell? ⟨gb369, 1, none⟩ = some (.string a1_1) := (blk_cell BK369.out 1).trans rfl
       have hcz170_2 : wc.cell? ⟨gb369, 2, none⟩ = some (.int .i64 a1_2) := (blk_cell BK369.out 2).trans rfl
       have hcz170_3 : wc.cell? ⟨gb369, 3, none⟩ = some (.slice A1_3 l1_3.length c1_3) := (blk_cell BK369.out 3).trans rfl
       have hfz170_0 := blk_frozen BK369.out 0
       have hfz170_1 := blk_frozen BK369.out 1
       have hfz170_2 := blk_frozen BK369.out 2
       have hfz170_3 := blk_frozen BK369.out 3
       go_wp2_with (first | ((with_reducible refine gate_callee (f := 9) rfl ?_); refine goesL_ (some 44) rfl rfl Tryd.func9 (by kernel_rfl) rfl #[.agg #[.int .i64 a0_0, .string a0_1, .int .i64 a0_2, .slice A0_3 l0_3.length c0_3], .agg #[.int .i64 a1_0, .string a1_1, .int .i64 a1_2, .slice A1_3 l1_3.length c1_3]] rfl (by (try simp only [List.map_toArray, List.map_cons, List.map_nil]); first | done | rfl | (simp only [List.length_drop, List.length_take]; rfl)) ?_; (with_reducible refine (diff_Cost.calls kj5 a0_0 a0_1 a0_2 _ _ l0_3 a1_0 a1_1 a1_2 _ _ l1_3 t377 t378 _ ?side1 ?side2 ?side3 ?side4 A71.out).mono ?_); (case side1 => exact kc_ HR0_3.out HB.out); (case side2 => exact HC0_3.out); (case side3 => exact kc_ HR1_3.out HB.out); (case side4 => exact HC1_3.out); rintro e w171 ⟨rfl, hb⟩; refine ⟨_, rfl, ?_⟩; have n0_ := Aside0.mk (blk_below (g := gb368) (o := .cells #[.int .i64 a0_0, .string a0_1, .int .i64 a0_2, .slice A0_3 l0_3.length c0_3] 24 (0, 0)) (bk_ BK368.out) hb); have n1_ := Aside0.mk (blk_below (g := gb369) (o := .cells #[.int .i64 a1_0, .string a1_1, .int .i64 a1_2, .slice A1_3 l1_3.length c1_3] 24 (0, 0)) (bk_ BK369.out) hb); have n2_ := Aside0.mk (blk_below (g := gb370) (o := .cells #[.int .i64 a2_0, .string a2_1, .int .i64 a2_2, .slice A2_3 l2_3.length c2_3] 24 (0, 0)) (bk_ BK370.out) hb); have n3_ := Aside0.mk (below_step (by repeat (first | (with_reducible first | exact HB.out | apply below_alloc | apply pw_below_drewN | apply below_drew1 | refine below_set ?_ GE368.out | refine below_set ?_ GE369.out | refine below_set ?_ GE370.out) | exact HB.out)) hb); clear BK368; clear BK369; clear BK370; clear HB; have BK368 := n0_; have BK369 := n1_; have BK370 := n2_; have HB := n3_; clear n0_ n1_ n2_ n3_; (try clear hb); (try clear hb2); (try clear hk); (try clear hi); have hcz172_0 : w171.cell? ⟨gb369, 0, none⟩ = some (.int .i64 a1_0) := (blk_cell BK369.out 0).trans rfl; have hcz172_1 : w171.cell? ⟨gb369, 1, none⟩ = some (.string a1_1) := (blk_cell BK369.out 1).trans rfl; have hcz172_2 : w171.cell? ⟨gb369, 2, none⟩ = some (.int .i64 a1_2) := (blk_cell BK369.out 2).trans rfl; have hcz172_3 : w171.cell? ⟨gb369, 3, none⟩ = some (.slice A1_3 l1_3.length c1_3) := (blk_cell BK369.out 3).trans rfl; have hfz172_0 := blk_frozen BK369.out 0; have hfz172_1 := blk_frozen BK369.out 1; have hfz172_2 := blk_frozen BK369.out 2; have hfz172_3 := blk_frozen BK369.out 3; have hcz173_0 : w171.cell? ⟨gb368, 0, none⟩ = some (.int .i64 a0_0) := (blk_cell BK368.out 0).trans rfl; have hcz173_1 : w171.cell? ⟨gb368, 1, none⟩ = some (.string a0_1) := (blk_cell BK368.out 1).trans rfl; have hcz173_2 : w171.cell? ⟨gb368, 2, none⟩ = some (.int .i64 a0_2) := (blk_cell BK368.out 2).trans rfl; have hcz173_3 : w171.cell? ⟨gb368, 3, none⟩ = some (.slice A0_3 l0_3.length c0_3) := (blk_cell BK368.out 3).trans rfl; have hfz173_0 := blk_frozen BK368.out 0; have hfz173_1 := blk_frozen BK368.out 1; have hfz173_2 := blk_frozen BK368.out 2; have hfz173_3 := blk_frozen BK368.out 3) | ((with_reducible refine gate_callee (f := 9) rfl ?_); refine goesL_ (some 50) rfl rfl Tryd.func9 (by kernel_rfl) rfl #[.agg #[.int .i64 a1_0, .string a1_1, .int .i64 a1_2, .slice A1_3 l1_3.length c1_3], .agg #[.int .i64 a0_0, .string a0_1, .int .i64 a0_2, .slice A0_3 l0_3.length c0_3]] rfl (by (try simp only [List.map_toArray, List.map_cons, List.map_nil]); first | done | rfl | (simp only [List.length_drop, List.length_take]; rfl)) ?_; (with_reducible refine (diff_Cost.calls kj5 a1_0 a1_1 a1_2 _ _ l1_3 a0_0 a0_1 a0_2 _ _ l0_3 t379 t380 _ ?side1 ?side2 ?side3 ?side4 A72.out).mono ?_); (case side1 => exact kc_ HR1_3.out HB.out); (case side2 => exact HC1_3.out); (case side3 => exact kc_ HR0_3.out HB.out); (case side4 => exact HC0_3.out); rintro e w174 ⟨rfl, hb⟩; refine ⟨_, rfl, ?_⟩; have n0_ := Aside0.mk (blk_below (g := gb368) (o := .cells #[.int .i64 a0_0, .string a0_1, .int .i64 a0_2, .slice A0_3 l0_3.length c0_3] 24 (0, 0)) (bk_ BK368.out) hb); have n1_ := Aside0.mk (blk_below (g := gb369) (o := .cells #[.int .i64 a1_0, .string a1_1, .int .i64 a1_2, .slice A1_3 l1_3.length c1_3] 24 (0, 0)) (bk_ BK369.out) hb); have n2_ := Aside0.mk (blk_below (g := gb370) (o := .cells #[.int .i64 a2_0, .string a2_1, .int .i64 a2_2, .slice A2_3 l2_3.length c2_3] 24 (0, 0)) (bk_ BK370.out) hb); have n3_ := Aside0.mk (below_step (by repeat (first | (with_reducible first | exact HB.out | apply below_alloc | apply pw_below_drewN | apply below_drew1 | refine below_set ?_ GE368.out | refine below_set ?_ GE369.out | refine below_set ?_ GE370.out) | exact HB.out)) hb); clear BK368; clear BK369; clear BK370; clear HB; have BK368 := n0_; have BK369 := n1_; have BK370 := n2_; have HB := n3_; clear n0_ n1_ n2_ n3_; (try clear hb); (try clear hb2); (try clear hk); (try clear hi); have hcz175_0 : w174.cell? ⟨gb369, 0, none⟩ = some (.int .i64 a1_0) := (blk_cell BK369.out 0).trans rfl; have hcz175_1 : w174.cell? ⟨gb369, 1, none⟩ = some (.string a1_1) := (blk_cell BK369.out 1).trans rfl; have hcz175_2 : w174.cell? ⟨gb369, 2, none⟩ = some (.int .i64 a1_2) := (blk_cell BK369.out 2).trans rfl; have hcz175_3 : w174.cell? ⟨gb369, 3, none⟩ = some (.slice A1_3 l1_3.length c1_3) := (blk_cell BK369.out 3).trans rfl; have hfz175_0 := blk_frozen BK369.out 0; have hfz175_1 := blk_frozen BK369.out 1; have hfz175_2 := blk_frozen BK369.out 2; have hfz175_3 := blk_frozen BK369.out 3; have hcz176_0 : w174.cell? ⟨gb370, 0, none⟩ = some (.int .i64 a2_0) := (blk_cell BK370.out 0).trans rfl; have hcz176_1 : w174.cell? ⟨gb370, 1, none⟩ = some (.string a2_1) := (blk_cell BK370.out 1).trans rfl; have hcz176_2 : w174.cell? ⟨gb370, 2, none⟩ = some (.int .i64 a2_2) := (blk_cell BK370.out 2).trans rfl; have hcz176_3 : w174.cell? ⟨gb370, 3, none⟩ = some (.slice A2_3 l2_3.length c2_3) := (blk_cell BK370.out 3).trans rfl; have hfz176_0 := blk_frozen BK370.out 0; have hfz176_1 := blk_frozen BK370.out 1; have hfz176_2 := blk_frozen BK370.out 2; have hfz176_3 := blk_frozen BK370.out 3) | ((with_reducible refine gate_callee (f := 9) rfl ?_); refine goesL_ (some 56) rfl rfl Tryd.func9 (by kernel_rfl) rfl #[.agg #[.int .i64 a1_0, .string a1_1, .int .i64 a1_2, .slice A1_3 l1_3.length c1_3], .agg #[.int .i64 a2_0, .string a2_1, .int .i64 a2_2, .slice A2_3 l2_3.length c2_3]] rfl (by (try simp only [List.map_toArray, List.map_cons, List.map_nil]); first | done | rfl | (simp only [List.length_drop, List.length_take]; rfl)) ?_; (with_reducible refine (diff_Cost.calls kj5 a1_0 a1_1 a1_2 _ _ l1_3 a2_0 a2_1 a2_2 _ _ l2_3 t381 t382 _ ?side1 ?side2 ?side3 ?side4 A73.out).mono ?_); (case side1 => exact kc_ HR1_3.out HB.out); (case side2 => exact HC1_3.out); (case side3 => exact kc_ HR2_3.out HB.out); (case side4 => exact HC2_3.out); rintro e w177 ⟨rfl, hb⟩; refine ⟨_, rfl, ?_⟩; have n0_ := Aside0.mk (blk_below (g := gb368) (o := .cells #[.int .i64 a0_0, .string a0_1, .int .i64 a0_2, .slice A0_3 l0_3.length c0_3] 24 (0, 0)) (bk_ BK368.out) hb); have n1_ := Aside0.mk (blk_below (g := gb369) (o := .cells #[.int .i64 a1_0, .string a1_1, .int .i64 a1_2, .slice A1_3 l1_3.length c1_3] 24 (0, 0)) (bk_ BK369.out) hb); have n2_ := Aside0.mk (blk_below (g := gb370) (o := .cells #[.int .i64 a2_0, .string a2_1, .int .i64 a2_2, .slice A2_3 l2_3.length c2_3] 24 (0, 0)) (bk_ BK370.out) hb); have n3_ := Aside0.mk (below_step (by repeat (first | (with_reducible first | exact HB.out | apply below_alloc | apply pw_below_drewN | apply below_drew1 | refine below_set ?_ GE368.out | refine below_set ?_ GE369.out | refine below_set ?_ GE370.out) | exact HB.out)) hb); clear BK368; clear BK369; clear BK370; clear HB; have BK368 := n0_; have BK369 := n1_; have BK370 := n2_; have HB := n3_; clear n0_ n1_ n2_ n3_; (try clear hb); (try clear hb2); (try clear hk); (try clear hi); have hcz178_0 : w177.cell? ⟨gb368, 0, none⟩ = some (.int .i64 a0_0) := (blk_cell BK368.out 0).trans rfl; have hcz178_1 : w177.cell? ⟨gb368, 1, none⟩ = some (.string a0_1) := (blk_cell BK368.out 1).trans rfl; have hcz178_2 : w177.cell? ⟨gb368, 2, none⟩ = some (.int .i64 a0_2) := (blk_cell BK368.out 2).trans rfl; have hcz178_3 : w177.cell? ⟨gb368, 3, none⟩ = some (.slice A0_3 l0_3.length c0_3) := (blk_cell BK368.out 3).trans rfl; have hfz178_0 := blk_frozen BK368.out 0; have hfz178_1 := blk_frozen BK368.out 1; have hfz178_2 := blk_frozen BK368.out 2; have hfz178_3 := blk_frozen BK368.out 3; have hcz179_0 : w177.cell? ⟨gb370, 0, none⟩ = some (.int .i64 a2_0) := (blk_cell BK370.out 0).trans rfl; have hcz179_1 : w177.cell? ⟨gb370, 1, none⟩ = some (.string a2_1) := (blk_cell BK370.out 1).trans rfl; have hcz179_2 : w177.cell? ⟨gb370, 2, none⟩ = some (.int .i64 a2_2) := (blk_cell BK370.out 2).trans rfl; have hcz179_3 : w177.cell? ⟨gb370, 3, none⟩ = some (.slice A2_3 l2_3.length c2_3) := (blk_cell BK370.out 3).trans rfl; have hfz179_0 := blk_frozen BK370.out 0; have hfz179_1 := blk_frozen BK370.out 1; have hfz179_2 := blk_frozen BK370.out 2; have hfz179_3 := blk_frozen BK370.out 3) | ((with_reducible refine gate_callee (f := 9) rfl ?_); refine goesL_ (some 62) rfl rfl Tryd.func9 (by kernel_rfl) rfl #[.agg #[.int .i64 a0_0, .string a0_1, .int .i64 a0_2, .slice A0_3 l0_3.length c0_3], .agg #[.int .i64 a2_0, .string a2_1, .int .i64 a2_2, .slice A2_3 l2_3.length c2_3]] rfl (by (try simp only [List.map_toArray, List.map_cons, List.map_nil]); first | done | rfl | (simp only [List.length_drop, List.length_take]; rfl)) ?_; (with_reducible refine (diff_Cost.calls kj5 a0_0 a0_1 a0_2 _ _ l0_3 a2_0 a2_1 a2_2 _ _ l2_3 t383 t384 _ ?side1 ?side2 ?side3 ?side4 A74.out).mono ?_); (case side1 => exact kc_ HR0_3.out HB.out); (case side2 => exact HC0_3.out); (case side3 => exact kc_ HR2_3.out HB.out); (case side4 => exact HC2_3.out); rintro e w180 ⟨rfl, hb⟩; refine ⟨_, rfl, ?_⟩; have n0_ := Aside0.mk (blk_below (g := gb368) (o := .cells #[.int .i64 a0_0, .string a0_1, .int .i64 a0_2, .slice A0_3 l0_3.length c0_3] 24 (0, 0)) (bk_ BK368.out) hb); have n1_ := Aside0.mk (blk_below (g := gb369) (o := .cells #[.int .i64 a1_0, .string a1_1, .int .i64 a1_2, .slice A1_3 l1_3.length c1_3] 24 (0, 0)) (bk_ BK369.out) hb); have n2_ := Aside0.mk (blk_below (g := gb370) (o := .cells #[.int .i64 a2_0, .string a2_1, .int .i64 a2_2, .slice A2_3 l2_3.length c2_3] 24 (0, 0)) (bk_ BK370.out) hb); have n3_ := Aside0.mk (below_step (by repeat (first | (with_reducible first | exact HB.out | apply below_alloc | apply pw_below_drewN | apply below_drew1 | refine below_set ?_ GE368.out | refine below_set ?_ GE369.out | refine below_set ?_ GE370.out) | exact HB.out)) hb); clear BK368; clear BK369; clear BK370; clear HB; have BK368 := n0_; have BK369 := n1_; have BK370 := n2_; have HB := n3_; clear n0_ n1_ n2_ n3_; (try clear hb); (try clear hb2); (try clear hk); (try clear hi)))
       go_ret
       exact ⟨by first | rfl | (simp [errW_none, errW_some] <;> rfl) | (simp [*, errW_none, errW_some] <;> rfl), by repeat (first | (with_reducible first | exact HB.out | apply below_alloc | apply pw_below_drewN | apply below_drew1 | refine below_set ?_ GE368.out | refine below_set ?_ GE369.out | refine below_set ?_ GE370.out) | exact HB.out)⟩
     ·rw [if_neg c75] at H
      have c75b0 : (t378 == 0) = false := beq_eq_false_iff_ne.mpr c75
      have c75b1 : (t378 != 0) = true := bne_iff_ne.mpr c75
      obtain rfl := Option.some.inj H
      have hnb181 := NB368_369.out
      have hnc181 := NB369_368.out
      have hnb182 := NB368_370.out
      have hnc182 := NB370_368.out
      have hcz183_0 : wc.cell? ⟨gb368, 0, none⟩ = some (.int .i64 a0_0) := (blk_cell BK368.out 0).trans rfl
      have hcz183_1 : wc.cell? ⟨gb368, 1, none⟩ = some (.string a0_1) := (blk_cell BK368.out 1).trans rfl
      have hcz183_2 : wc.cell? ⟨gb368, 2, none⟩ = some (.int .i64 a0_2) := (blk_cell BK368.out 2).trans rfl
      have hcz183_3 : wc.cell? ⟨gb368, 3, none⟩ = some (.slice A0_3 l0_3.length c0_3) := (blk_cell BK368.out 3).trans rfl
      have hfz183_0 := blk_frozen BK368.out 0
      have hfz183_1 := blk_frozen BK368.out 1
      have hfz183_2 := blk_frozen BK368.out 2
      have hfz183_3 := blk_frozen BK368.out 3
      have hnb184 := NB369_370.out
      have hnc184 := NB370_369.out
      have hcz185_0 : wc.cell? ⟨gb369, 0, none⟩ = some (.int .i64 a1_0) := (blk_cell BK369.out 0).trans rfl
      have hcz185_1 : wc.cell? ⟨gb369, 1, none⟩ = some (.string a1_1) := (blk_cell BK369.out 1).trans rfl
      have hcz185_2 : wc.cell? ⟨gb369, 2, none⟩ = some (.int .i64 a1_2) := (blk_cell BK369.out 2).trans rfl
      have hcz185_3 : wc.cell? ⟨gb369, 3, none⟩ = some (.slice A1_3 l1_3.length c1_3) := (blk_cell BK369.out 3).trans rfl
      have hfz185_0 := blk_frozen BK369.out 0
      have hfz185_1 := blk_frozen BK369.out 1
      have hfz185_2 := blk_frozen BK369.out 2
      have hfz185_3 := blk_frozen BK369.out 3
      go_wp2_with (first | ((with_reducible refine gate_callee (f := 9) rfl ?_); refine goesL_ (some 44) rfl rfl Tryd.func9 (by kernel_rfl) rfl #[.agg #[.int .i64 a0_0, .string a0_1, .int .i64 a0_2, .slice A0_3 l0_3.length c0_3], .agg #[.int .i64 a1_0, .string a1_1, .int .i64 a1_2, .slice A1_3 l1_3.length c1_3]] rfl (by (try simp only [List.map_toArray, List.map_cons, List.map_nil]); first | done | rfl | (simp only [List.length_drop, List.length_take]; rfl)) ?_; (with_reducible refine (diff_Cost.calls kj5 a0_0 a0_1 a0_2 _ _ l0_3 a1_0 a1_1 a1_2 _ _ l1_3 t377 t378 _ ?side1 ?side2 ?side3 ?side4 A71.out).mono ?_); (case side1 => exact kc_ HR0_3.out HB.out); (case side2 => exact HC0_3.out); (case side3 => exact kc_ HR1_3.out HB.out); (case side4 => exact HC1_3.out); rintro e w186 ⟨rfl, hb⟩; refine ⟨_, rfl, ?_⟩; have n0_ := Aside0.mk (blk_below (g := gb368) (o := .cells #[.int .i64 a0_0, .string a0_1, .int .i64 a0_2, .slice A0_3 l0_3.length c0_3] 24 (0, 0)) (bk_ BK368.out) hb); have n1_ := Aside0.mk (blk_below (g := gb369) (o := .cells #[.int .i64 a1_0, .string a1_1, .int .i64 a1_2, .slice A1_3 l1_3.length c1_3] 24 (0, 0)) (bk_ BK369.out) hb); have n2_ := Aside0.mk (blk_below (g := gb370) (o := .cells #[.int .i64 a2_0, .string a2_1, .int .i64 a2_2, .slice A2_3 l2_3.length c2_3] 24 (0, 0)) (bk_ BK370.out) hb); have n3_ := Aside0.mk (below_step (by repeat (first | (with_reducible first | exact HB.out | apply below_alloc | apply pw_below_drewN | apply below_drew1 | refine below_set ?_ GE368.out | refine below_set ?_ GE369.out | refine below_set ?_ GE370.out) | exact HB.out)) hb); clear BK368; clear BK369; clear BK370; clear HB; have BK368 := n0_; have BK369 := n1_; have BK370 := n2_; have HB := n3_; clear n0_ n1_ n2_ n3_; (try clear hb); (try clear hb2); (try clear hk); (try clear hi); have hcz187_0 : w186.cell? ⟨gb369, 0, none⟩ = some (.int .i64 a1_0) := (blk_cell BK369.out 0).trans rfl; have hcz187_1 : w186.cell? ⟨gb369, 1, none⟩ = some (.string a1_1) := (blk_cell BK369.out 1).trans rfl; have hcz187_2 : w186.cell? ⟨gb369, 2, none⟩ = some (.int .i64 a1_2) := (blk_cell BK369.out 2).trans rfl; have hcz187_3 : w186.cell? ⟨gb369, 3, none⟩ = some (.slice A1_3 l1_3.length c1_3) := (blk_cell BK369.out 3).trans rfl; have hfz187_0 := blk_frozen BK369.out 0; have hfz187_1 := blk_frozen BK369.out 1; have hfz187_2 := blk_frozen BK369.out 2; have hfz187_3 := blk_frozen BK369.out 3; have hcz188_0 : w186.cell? ⟨gb368, 0, none⟩ = some (.int .i64 a0_0) := (blk_cell BK368.out 0).trans rfl; have hcz188_1 : w186.cell? ⟨gb368, 1, none⟩ = some (.string a0_1) := (blk_cell BK368.out 1).trans rfl; have hcz188_2 : w186.cell? ⟨gb368, 2, none⟩ = some (.int .i64 a0_2) := (blk_cell BK368.out 2).trans rfl; have hcz188_3 : w186.cell? ⟨gb368, 3, none⟩ = some (.slice A0_3 l0_3.length c0_3) := (blk_cell BK368.out 3).trans rfl; have hfz188_0 := blk_frozen BK368.out 0; have hfz188_1 := blk_frozen BK368.out 1; have hfz188_2 := blk_frozen BK368.out 2; have hfz188_3 := blk_frozen BK368.out 3) | ((with_reducible refine gate_callee (f := 9) rfl ?_); refine goesL_ (some 50) rfl rfl Tryd.func9 (by kernel_rfl) rfl #[.agg #[.int .i64 a1_0, .string a1_1, .int .i64 a1_2, .slice A1_3 l1_3.length c1_3], .agg #[.int .i64 a0_0, .string a0_1, .int .i64 a0_2, .slice A0_3 l0_3.length c0_3]] rfl (by (try simp only [List.map_toArray, List.map_cons, List.map_nil]); first | done | rfl | (simp only [List.length_drop, List.length_take]; rfl)) ?_; (with_reducible refine (diff_Cost.calls kj5 a1_0 a1_1 a1_2 _ _ l1_3 a0_0 a0_1 a0_2 _ _ l0_3 t379 t380 _ ?side1 ?side2 ?side3 ?side4 A72.out).mono ?_); (case side1 => exact kc_ HR1_3.out HB.out); (case side2 => exact HC1_3.out); (case side3 => exact kc_ HR0_3.out HB.out); (case side4 => exact HC0_3.out); rintro e w189 ⟨rfl, hb⟩; refine ⟨_, rfl, ?_⟩; have n0_ := Aside0.mk (blk_below (g := gb368) (o := .cells #[.int .i64 a0_0, .string a0_1, .int .i64 a0_2, .slice A0_3 l0_3.length c0_3] 24 (0, 0)) (bk_ BK368.out) hb); have n1_ := Aside0.mk (blk_below (g := gb369) (o := .cells #[.int .i64 a1_0, .string a1_1, .int .i64 a1_2, .slice A1_3 l1_3.length c1_3] 24 (0, 0)) (bk_ BK369.out) hb); have n2_ := Aside0.mk (blk_below (g := gb370) (o := .cells #[.int .i64 a2_0, .string a2_1, .int .i64 a2_2, .slice A2_3 l2_3.length c2_3] 24 (0, 0)) (bk_ BK370.out) hb); have n3_ := Aside0.mk (below_step (by repeat (first | (with_reducible first | exact HB.out | apply below_alloc | apply pw_below_drewN | apply below_drew1 | refine below_set ?_ GE368.out | refine below_set ?_ GE369.out | refine below_set ?_ GE370.out) | exact HB.out)) hb); clear BK368; clear BK369; clear BK370; clear HB; have BK368 := n0_; have BK369 := n1_; have BK370 := n2_; have HB := n3_; clear n0_ n1_ n2_ n3_; (try clear hb); (try clear hb2); (try clear hk); (try clear hi); have hcz190_0 : w189.cell? ⟨gb369, 0, none⟩ = some (.int .i64 a1_0) := (blk_cell BK369.out 0).trans rfl; have hcz190_1 : w189.cell? ⟨gb369, 1, none⟩ = some (.string a1_1) := (blk_cell BK369.out 1).trans rfl; have hcz190_2 : w189.cell? ⟨gb369, 2, none⟩ = some (.int .i64 a1_2) := (blk_cell BK369.out 2).trans rfl; have hcz190_3 : w189.cell? ⟨gb369, 3, none⟩ = some (.slice A1_3 l1_3.length c1_3) := (blk_cell BK369.out 3).trans rfl; have hfz190_0 := blk_frozen BK369.out 0; have hfz190_1 := blk_frozen BK369.out 1; have hfz190_2 := blk_frozen BK369.out 2; have hfz190_3 := blk_frozen BK369.out 3; have hcz191_0 : w189.cell? ⟨gb370, 0, none⟩ = some (.int .i64 a2_0) := (blk_cell BK370.out 0).trans rfl; have hcz191_1 : w189.cell? ⟨gb370, 1, none⟩ = some (.string a2_1) := (blk_cell BK370.out 1).trans rfl; have hcz191_2 : w189.cell? ⟨gb370, 2, none⟩ = some (.int .i64 a2_2) := (blk_cell BK370.out 2).trans rfl; have hcz191_3 : w189.cell? ⟨gb370, 3, none⟩ = some (.slice A2_3 l2_3.length c2_3) := (blk_cell BK370.out 3).trans rfl; have hfz191_0 := blk_frozen BK370.out 0; have hfz191_1 := blk_frozen BK370.out 1; have hfz191_2 := blk_frozen BK370.out 2; have hfz191_3 := blk_frozen BK370.out 3) | ((with_reducible refine gate_callee (f := 9) rfl ?_); refine goesL_ (some 56) rfl rfl Tryd.func9 (by kernel_rfl) rfl #[.agg #[.int .i64 a1_0, .string a1_1, .int .i64 a1_2, .slice A1_3 l1_3.length c1_3], .agg #[.int .i64 a2_0, .string a2_1, .int .i64 a2_2, .slice A2_3 l2_3.length c2_3]] rfl (by (try simp only [List.map_toArray, List.map_cons, List.map_nil]); first | done | rfl | (simp only [List.length_drop, List.length_take]; rfl)) ?_; (with_reducible refine (diff_Cost.calls kj5 a1_0 a1_1 a1_2 _ _ l1_3 a2_0 a2_1 a2_2 _ _ l2_3 t381 t382 _ ?side1 ?side2 ?side3 ?side4 A73.out).mono ?_); (case side1 => exact kc_ HR1_3.out HB.out); (case side2 => exact HC1_3.out); (case side3 => exact kc_ HR2_3.out HB.out); (case side4 => exact HC2_3.out); rintro e w192 ⟨rfl, hb⟩; refine ⟨_, rfl, ?_⟩; have n0_ := Aside0.mk (blk_below (g := gb368) (o := .cells #[.int .i64 a0_0, .string a0_1, .int .i64 a0_2, .slice A0_3 l0_3.length c0_3] 24 (0, 0)) (bk_ BK368.out) hb); have n1_ := Aside0.mk (blk_below (g := gb369) (o := .cells #[.int .i64 a1_0, .string a1_1, .int .i64 a1_2, .slice A1_3 l1_3.length c1_3] 24 (0, 0)) (bk_ BK369.out) hb); have n2_ := Aside0.mk (blk_below (g := gb370) (o := .cells #[.int .i64 a2_0, .string a2_1, .int .i64 a2_2, .slice A2_3 l2_3.length c2_3] 24 (0, 0)) (bk_ BK370.out) hb); have n3_ := Aside0.mk (below_step (by repeat (first | (with_reducible first | exact HB.out | apply below_alloc | apply pw_below_drewN | apply below_drew1 | refine below_set ?_ GE368.out | refine below_set ?_ GE369.out | refine below_set ?_ GE370.out) | exact HB.out)) hb); clear BK368; clear BK369; clear BK370; clear HB; have BK368 := n0_; have BK369 := n1_; have BK370 := n2_; have HB := n3_; clear n0_ n1_ n2_ n3_; (try clear hb); (try clear hb2); (try clear hk); (try clear hi); have hcz193_0 : w192.cell? ⟨gb368, 0, none⟩ = some (.int .i64 a0_0) := (blk_cell BK368.out 0).trans rfl; have hcz193_1 : w192.cell? ⟨gb368, 1, none⟩ = some (.string a0_1) := (blk_cell BK368.out 1).trans rfl; have hcz193_2 : w192.cell? ⟨gb368, 2, none⟩ = some (.int .i64 a0_2) := (blk_cell BK368.out 2).trans rfl; have hcz193_3 : w192.cell? ⟨gb368, 3, none⟩ = some (.slice A0_3 l0_3.length c0_3) := (blk_cell BK368.out 3).trans rfl; have hfz193_0 := blk_frozen BK368.out 0; have hfz193_1 := blk_frozen BK368.out 1; have hfz193_2 := blk_frozen BK368.out 2; have hfz193_3 := blk_frozen BK368.out 3; have hcz194_0 : w192.cell? ⟨gb370, 0, none⟩ = some (.int .i64 a2_0) := (blk_cell BK370.out 0).trans rfl; have hcz194_1 : w192.cell? ⟨gb370, 1, none⟩ = some (.string a2_1) := (blk_cell BK370.out 1).trans rfl; have hcz194_2 : w192.cell? ⟨gb370, 2, none⟩ = some (.int .i64 a2_2) := (blk_cell BK370.out 2).trans rfl; have hcz194_3 : w192.cell? ⟨gb370, 3, none⟩ = some (.slice A2_3 l2_3.length c2_3) := (blk_cell BK370.out 3).trans rfl; have hfz194_0 := blk_frozen BK370.out 0; have hfz194_1 := blk_frozen BK370.out 1; have hfz194_2 := blk_frozen BK370.out 2; have hfz194_3 := blk_frozen BK370.out 3) | ((with_reducible refine gate_callee (f := 9) rfl ?_); refine goesL_ (some 62) rfl rfl Tryd.func9 (by kernel_rfl) rfl #[.agg #[.int .i64 a0_0, .string a0_1, .int .i64 a0_2, .slice A0_3 l0_3.length c0_3], .agg #[.int .i64 a2_0, .string a2_1, .int .i64 a2_2, .slice A2_3 l2_3.length c2_3]] rfl (by (try simp only [List.map_toArray, List.map_cons, List.map_nil]); first | done | rfl | (simp only [List.length_drop, List.length_take]; rfl)) ?_; (with_reducible refine (diff_Cost.calls kj5 a0_0 a0_1 a0_2 _ _ l0_3 a2_0 a2_1 a2_2 _ _ l2_3 t383 t384 _ ?side1 ?side2 ?side3 ?side4 A74.out).mono ?_); (case side1 => exact kc_ HR0_3.out HB.out); (case side2 => exact HC0_3.out); (case side3 => exact kc_ HR2_3.out HB.out); (case side4 => exact HC2_3.out); rintro e w195 ⟨rfl, hb⟩; refine ⟨_, rfl, ?_⟩; have n0_ := Aside0.mk (blk_below (g := gb368) (o := .cells #[.int .i64 a0_0, .string a0_1, .int .i64 a0_2, .slice A0_3 l0_3.length c0_3] 24 (0, 0)) (bk_ BK368.out) hb); have n1_ := Aside0.mk (blk_below (g := gb369) (o := .cells #[.int .i64 a1_0, .string a1_1, .int .i64 a1_2, .slice A1_3 l1_3.length c1_3] 24 (0, 0)) (bk_ BK369.out) hb); have n2_ := Aside0.mk (blk_below (g := gb370) (o := .cells #[.int .i64 a2_0, .string a2_1, .int .i64 a2_2, .slice A2_3 l2_3.length c2_3] 24 (0, 0)) (bk_ BK370.out) hb); have n3_ := Aside0.mk (below_step (by repeat (first | (with_reducible first | exact HB.out | apply below_alloc | apply pw_below_drewN | apply below_drew1 | refine below_set ?_ GE368.out | refine below_set ?_ GE369.out | refine below_set ?_ GE370.out) | exact HB.out)) hb); clear BK368; clear BK369; clear BK370; clear HB; have BK368 := n0_; have BK369 := n1_; have BK370 := n2_; have HB := n3_; clear n0_ n1_ n2_ n3_; (try clear hb); (try clear hb2); (try clear hk); (try clear hi)))
      go_ret
      exact ⟨by first | rfl | (simp [errW_none, errW_some] <;> rfl) | (simp [*, errW_none, errW_some] <;> rfl), by repeat (first | (with_reducible first | exact HB.out | apply below_alloc | apply pw_below_drewN | apply below_drew1 | refine below_set ?_ GE368.out | refine below_set ?_ GE369.out | refine below_set ?_ GE370.out) | exact HB.out)⟩
 ·replace c5 := Bool.eq_false_iff.mpr c5
  subst c5
  have H1 : (some false) = some r := by rw [if_neg (show ¬ (false = true) by decide)] at H; exact H
  clear H
  have H := H1
  clear H1
  obtain rfl := Option.some.inj H
  go_enter Tryd.func5, Tryd.ntmps5
  go_wp2_with (first | ((with_reducible refine gate_dst (N := 3) rfl ?_); refine box_event ?hg (N := 3) ?hd (cs := #[.int .i64 a0_0, .string a0_1, .int .i64 a0_2, .slice A0_3 l0_3.length c0_3]) (t := 24) ?hr ?_; (case hd => rfl); (case hg => rfl); (case hr => first | (go_simp; done) | (go_simp; rfl)); intro gb368 hg w196 hbox hb; have n0_ := Aside0.mk (below_step (bs0_ HB.out) hb); have n1_ := Aside0.mk (hbox); have n2_ := Aside0.mk ((by rw [hg]; exact (below_size (bs0_ HB.out)) : w.heap.size ≤ gb368)); have n3_ := Aside0.mk ((by rw [hg]; exact (below_size (bs0_ HB.out)) : w.heap.size ≤ gb368)); clear HB; have HB := n0_; have BK368 := n1_; have GW368 := n2_; have GE368 := n3_; clear n0_ n1_ n2_ n3_; clear hb hbox hg) | ((with_reducible refine gate_dst (N := 4) rfl ?_); refine box_event ?hg (N := 4) ?hd (cs := #[.int .i64 a1_0, .string a1_1, .int .i64 a1_2, .slice A1_3 l1_3.length c1_3]) (t := 24) ?hr ?_; (case hd => rfl); (case hg => rfl); (case hr => first | (go_simp; done) | (go_simp; rfl)); intro gb369 hg w197 hbox hb; have n0_ := Aside0.mk (blk_below (g := gb368) (o := .cells #[.int .i64 a0_0, .string a0_1, .int .i64 a0_2, .slice A0_3 l0_3.length c0_3] 24 (0, 0)) (bk_ BK368.out) hb); have n1_ := Aside0.mk (below_step (bs1_ HB.out GE368.out) hb); have n2_ := Aside0.mk (hbox); have n3_ := Aside0.mk ((by rw [hg]; exact (below_size (bs1_ HB.out GE368.out)) : w.heap.size ≤ gb369)); have n4_ := Aside0.mk ((by rw [hg]; exact (below_size (bs1_ HB.out GE368.out)) : w.heap.size ≤ gb369)); have n5_ := Aside0.mk ((by rw [hg]; exact Nat.ne_of_lt (blk_lt (g := gb368) (o := .cells #[.int .i64 a0_0, .string a0_1, .int .i64 a0_2, .slice A0_3 l0_3.length c0_3] 24 (0, 0)) (bk_ BK368.out)) : gb368 ≠ gb369)); have n6_ := Aside0.mk ((by rw [hg]; exact Nat.ne_of_gt (blk_lt (g := gb368) (o := .cells #[.int .i64 a0_0, .string a0_1, .int .i64 a0_2, .slice A0_3 l0_3.length c0_3] 24 (0, 0)) (bk_ BK368.out)) : gb369 ≠ gb368)); clear BK368; clear HB; have BK368 := n0_; have HB := n1_; have BK369 := n2_; have GW369 := n3_; have GE369 := n4_; have NB368_369 := n5_; have NB369_368 := n6_; clear n0_ n1_ n2_ n3_ n4_ n5_ n6_; clear hb hbox hg) | ((with_reducible refine gate_dst (N := 5) rfl ?_); refine box_event ?hg (N := 5) ?hd (cs := #[.int .i64 a2_0, .string a2_1, .int .i64 a2_2, .slice A2_3 l2_3.length c2_3]) (t := 24) ?hr ?_; (case hd => rfl); (case hg => rfl); (case hr => first | (go_simp; done) | (go_simp; rfl)); intro gb370 hg w198 hbox hb; have n0_ := Aside0.mk (blk_below (g := gb368) (o := .cells #[.int .i64 a0_0, .string a0_1, .int .i64 a0_2, .slice A0_3 l0_3.length c0_3] 24 (0, 0)) (bk_ BK368.out) hb); have n1_ := Aside0.mk (blk_below (g := gb369) (o := .cells #[.int .i64 a1_0, .string a1_1, .int .i64 a1_2, .slice A1_3 l1_3.length c1_3] 24 (0, 0)) (bk_ BK369.out) hb); have n2_ := Aside0.mk (below_step (bs2_ HB.out GE368.out GE369.out) hb); have n3_ := Aside0.mk (hbox); have n4_ := Aside0.mk ((by rw [hg]; exact (below_size (bs2_ HB.out GE368.out GE369.out)) : w.heap.size ≤ gb370)); have n5_ := Aside0.mk ((by rw [hg]; exact (below_size (bs2_ HB.out GE368.out GE369.out)) : w.heap.size ≤ gb370)); have n6_ := Aside0.mk ((by rw [hg]; exact Nat.ne_of_lt (blk_lt (g := gb368) (o := .cells #[.int .i64 a0_0, .string a0_1, .int .i64 a0_2, .slice A0_3 l0_3.length c0_3] 24 (0, 0)) (bk_ BK368.out)) : gb368 ≠ gb370)); have n7_ := Aside0.mk ((by rw [hg]; exact Nat.ne_of_gt (blk_lt (g := gb368) (o := .cells #[.int .i64 a0_0, .string a0_1, .int .i64 a0_2, .slice A0_3 l0_3.length c0_3] 24 (0, 0)) (bk_ BK368.out)) : gb370 ≠ gb368)); have n8_ := Aside0.mk ((by rw [hg]; exact Nat.ne_of_lt (blk_lt (g := gb369) (o := .cells #[.int .i64 a1_0, .string a1_1, .int .i64 a1_2, .slice A1_3 l1_3.length c1_3] 24 (0, 0)) (bk_ BK369.out)) : gb369 ≠ gb370)); have n9_ := Aside0.mk ((by rw [hg]; exact Nat.ne_of_gt (blk_lt (g := gb369) (o := .cells #[.int .i64 a1_0, .string a1_1, .int .i64 a1_2, .slice A1_3 l1_3.length c1_3] 24 (0, 0)) (bk_ BK369.out)) : gb370 ≠ gb369)); clear BK368; clear BK369; clear HB; have BK368 := n0_; have BK369 := n1_; have HB := n2_; have BK370 := n3_; have GW370 := n4_; have GE370 := n5_; have NB368_370 := n6_; have NB370_368 := n7_; have NB369_370 := n8_; have NB370_369 := n9_; clear n0_ n1_ n2_ n3_ n4_ n5_ n6_ n7_ n8_ n9_; clear hb hbox hg) | ((with_reducible refine gate_callee (f := 7) rfl ?_); refine goesL_ (some 15) rfl rfl Tryd.func7 (by kernel_rfl) rfl #[] rfl (by (try simp only [List.map_toArray, List.map_cons, List.map_nil]); first | done | rfl | (simp only [List.length_drop, List.length_take]; rfl)) ?_; (with_reducible refine (vinculumlaw16_awake.calls k  false _ A4.out).mono ?_); rintro e w199 ⟨rfl, hb⟩; refine ⟨_, rfl, ?_⟩; have n0_ := Aside0.mk (blk_below (g := gb368) (o := .cells #[.int .i64 a0_0, .string a0_1, .int .i64 a0_2, .slice A0_3 l0_3.length c0_3] 24 (0, 0)) (bk_ BK368.out) hb); have n1_ := Aside0.mk (blk_below (g := gb369) (o := .cells #[.int .i64 a1_0, .string a1_1, .int .i64 a1_2, .slice A1_3 l1_3.length c1_3] 24 (0, 0)) (bk_ BK369.out) hb); have n2_ := Aside0.mk (blk_below (g := gb370) (o := .cells #[.int .i64 a2_0, .string a2_1, .int .i64 a2_2, .slice A2_3 l2_3.length c2_3] 24 (0, 0)) (bk_ BK370.out) hb); have n3_ := Aside0.mk (below_step (by repeat (first | (with_reducible first | exact HB.out | apply below_alloc | apply pw_below_drewN | apply below_drew1 | refine below_set ?_ GE368.out | refine below_set ?_ GE369.out | refine below_set ?_ GE370.out) | exact HB.out)) hb); clear BK368; clear BK369; clear BK370; clear HB; have BK368 := n0_; have BK369 := n1_; have BK370 := n2_; have HB := n3_; clear n0_ n1_ n2_ n3_; (try clear hb); (try clear hb2); (try clear hk); (try clear hi)))
  go_ret
  exact ⟨by first | rfl | (simp [errW_none, errW_some] <;> rfl) | (simp [*, errW_none, errW_some] <;> rfl), by repeat (first | (with_reducible first | exact HB.out | apply below_alloc | apply pw_below_drewN | apply below_drew1 | refine below_set ?_ GE368.out | refine below_set ?_ GE369.out | refine below_set ?_ GE370.out) | exact HB.out)⟩

end Go.Proofs.YtihchehmkhnhaaaDoor.A
/- The plain statement of the law DiffMetric: over trees, lists and numbers alone. -/
namespace Go.Proofs.YtihchehmkhnhaaaDoor.A
open Go.RowKit Go.Proofs.YtihchehmkhnhaaaDoorW.PrintWords Go.Proofs.YtihchehmkhnhaaaDoorW.PrintLast Go.Proofs.YtihchehmkhnhaaaDoorW.PrintMore
set_option linter.unusedVariables false
def vinculumlaw16_DiffMetric.Pure : Prop := ∀ (x0 : S24) (x1 : S24) (x2 : S24) (h0 : Wf24 x0) (h1 : Wf24 x1) (h2 : Wf24 x2), ∃ k, vinculumlaw16_DiffMetric.f k x0.f0 x0.f1 x0.f2 x0.f3 x1.f0 x1.f1 x1.f2 x1.f3 x2.f0 x2.f1 x2.f2 x2.f3 = some true
end Go.Proofs.YtihchehmkhnhaaaDoor.A
/- Plain laws: the number of nodes of a tree, Few, Count. -/
namespace Go.Proofs.YtihchehmkhnhaaaDoor.A
open Go.RowKit Go.Proofs.YtihchehmkhnhaaaDoorW.PrintWords Go.Proofs.YtihchehmkhnhaaaDoorW.PrintLast Go.Proofs.YtihchehmkhnhaaaDoorW.PrintMore
set_option linter.unusedVariables false

theorem wrap64_id {x : Int} (h1 : -9223372036854775808 ≤ x) (h2 : x ≤ 9223372036854775807) : wrap64 x = x := by
  unfold wrap64
  omega
mutual
def cnt : S24 → Nat
  | ⟨_, _, _, l⟩ => 1 + cntL l
def cntL : List S24 → Nat
  | [] => 0
  | x :: r => cnt x + cntL r
end
theorem cnt_eq (x : S24) : cnt x = 1 + cntL x.f3 := by
  obtain ⟨f0, f1, f2, f3⟩ := x
  simp [cnt]
theorem cntL_append (a b : List S24) : cntL (a ++ b) = cntL a + cntL b := by
  induction a with
  | nil => simp [cntL]
  | cons x r ih => simp [cntL, ih]; omega
theorem cnt_mem {x : S24} {l : List S24} (h : x ∈ l) : cnt x ≤ cntL l := by
  induction l with
  | nil => cases h
  | cons y r ih =>
    simp only [cntL]
    rcases List.mem_cons.1 h with rfl | h
    · omega
    · have := ih h; omega
theorem length_le_cntL (l : List S24) : l.length ≤ cntL l := by
  induction l with
  | nil => simp [cntL]
  | cons x r ih => have := cnt_eq x; simp only [cntL, List.length_cons]; omega
theorem rd_at {l : List S24} {j : Nat} (h : j < l.length) : rd_T24 l (j : Int) = l[j] := by
  unfold rd_T24
  rw [List.getD_eq_getElem?_getD, Int.toNat_natCast, List.getElem?_eq_getElem h]
  rfl
theorem drop_at {α : Type} {l : List α} {j : Nat} (h : j < l.length) : l.drop j = l[j] :: l.drop (j + 1) := List.drop_eq_getElem_cons h
/-- Induction over trees, by their number of nodes. -/
theorem tree_ind {P : S24 → Prop} (h : ∀ x, (∀ y, y ∈ x.f3 → P y) → P x) : ∀ x, P x := by
  have : ∀ n x, cnt x ≤ n → P x := by
    intro n
    induction n with
    | zero => intro x hx; have := cnt_eq x; omega
    | succ n ih =>
      intro x hx
      refine h x (fun y hy => ih y ?_)
      have := cnt_mem hy; have := cnt_eq x; omega
  exact fun x => this _ x (Nat.le_refl _)

theorem node_Count_ev : ∀ x : S24, cnt x ≤ 4611686018427387904 → Ev (fun k => node_Count.f k x.f0 x.f1 x.f2 x.f3) (cnt x : Int) := by
  refine tree_ind (fun x ih hx => ?_)
  have hce := cnt_eq x
  have loop : ∀ (d j : Nat) (acc : Int), x.f3.length - j = d → j ≤ x.f3.length → 0 ≤ acc → acc + cntL (x.f3.drop j) ≤ 4611686018427387904 → Ev (fun k => node_Count.l0 k acc x.f3 (x.f3.length : Int) (j : Int)) (acc + cntL (x.f3.drop j)) := by
    intro d
    induction d with
    | zero =>
      intro j acc hd hj h0 hb
      obtain rfl : j = x.f3.length := by omega
      refine Ev.step (f := fun _ => some acc) (fun k => by simp only [node_Count.l0]; rw [if_neg (by omega)]) ?_
      rw [List.drop_length]
      simp only [cntL, Int.natCast_zero, Int.add_zero]
      exact Ev.now _
    | succ d ihd =>
      intro j acc hd hj h0 hb
      have hlt : j < x.f3.length := by omega
      rw [drop_at hlt] at hb ⊢
      simp only [cntL] at hb ⊢
      refine Ev.step (f := fun k => (node_Count.f k (rd_T24 x.f3 j).f0 (rd_T24 x.f3 j).f1 (rd_T24 x.f3 j).f2 (rd_T24 x.f3 j).f3).bind fun t => node_Count.l0 k (wrap64 (acc + t)) x.f3 (x.f3.length : Int) (wrap64 ((j : Int) + 1))) (fun k => by simp only [node_Count.l0]; rw [if_pos (by omega), if_pos (by omega), if_pos (by omega)]) ?_
      rw [rd_at hlt]
      refine Ev.bind (ih _ (List.getElem_mem hlt) (by omega)) ?_
      have hl := length_le_cntL x.f3
      rw [wrap64_id (by omega) (by omega), wrap64_id (by omega) (by omega)]
      have := ihd (j + 1) (acc + cnt x.f3[j]) (by omega) (by omega) (by omega) (by omega)
      simpa [Int.add_assoc] using this
  refine Ev.step (f := fun k => node_Count.l0 k 1 x.f3 (x.f3.length : Int) 0) (fun k => by simp only [node_Count.f]) ?_
  have := loop _ 0 1 rfl (by omega) (by omega) (by simp; omega)
  rw [hce]
  simpa using this
theorem vinculumref09_Count_ev : ∀ x : S24, cnt x ≤ 4611686018427387904 → Ev (fun k => vinculumref09_Count.f k x.f0 x.f1 x.f2 x.f3) (cnt x : Int) := by
  refine tree_ind (fun x ih hx => ?_)
  have hce := cnt_eq x
  have loop : ∀ (d j : Nat) (acc : Int), x.f3.length - j = d → j ≤ x.f3.length → 0 ≤ acc → acc + cntL (x.f3.drop j) ≤ 4611686018427387904 → Ev (fun k => vinculumref09_Count.l0 k acc (j : Int) x.f0 x.f1 x.f2 x.f3) (acc + cntL (x.f3.drop j)) := by
    intro d
    induction d with
    | zero =>
      intro j acc hd hj h0 hb
      obtain rfl : j = x.f3.length := by omega
      refine Ev.step (f := fun _ => some acc) (fun k => by simp only [vinculumref09_Count.l0]; rw [if_neg (by omega)]) ?_
      rw [List.drop_length]
      simp only [cntL, Int.natCast_zero, Int.add_zero]
      exact Ev.now _
    | succ d ihd =>
      intro j acc hd hj h0 hb
      have hlt : j < x.f3.length := by omega
      rw [drop_at hlt] at hb ⊢
      simp only [cntL] at hb ⊢
      refine Ev.step (f := fun k => (vinculumref09_Count.f k (rd_T24 x.f3 j).f0 (rd_T24 x.f3 j).f1 (rd_T24 x.f3 j).f2 (rd_T24 x.f3 j).f3).bind fun t => vinculumref09_Count.l0 k (wrap64 (acc + t)) (wrap64 ((j : Int) + 1)) x.f0 x.f1 x.f2 x.f3) (fun k => by simp only [vinculumref09_Count.l0]; rw [if_pos (by omega), if_pos (by omega)]) ?_
      rw [rd_at hlt]
      refine Ev.bind (ih _ (List.getElem_mem hlt) (by omega)) ?_
      have hl := length_le_cntL x.f3
      rw [wrap64_id (by omega) (by omega), wrap64_id (by omega) (by omega)]
      have := ihd (j + 1) (acc + cnt x.f3[j]) (by omega) (by omega) (by omega) (by omega)
      simpa [Int.add_assoc] using this
  refine Ev.step (f := fun k => vinculumref09_Count.l0 k 1 0 x.f0 x.f1 x.f2 x.f3) (fun k => by simp only [vinculumref09_Count.f]) ?_
  have := loop _ 0 1 rfl (by omega) (by omega) (by simp; omega)
  rw [hce]
  simpa using this

/-- What 'left' gives: the number that is left, or -1. -/
def leftZ (m : Int) (n : Nat) : Int := if (n : Int) ≤ m then m - n else -1
theorem leftZ_zero {m : Int} (h : -1 ≤ m) : leftZ m 0 = m := by
  unfold leftZ
  by_cases h1 : ((0 : Nat) : Int) ≤ m
  · rw [if_pos h1]; omega
  · rw [if_neg h1]; omega
theorem leftZ_add (m : Int) (a b : Nat) : leftZ (leftZ m a) b = leftZ m (a + b) := by
  unfold leftZ
  by_cases h1 : (a : Int) ≤ m
  · rw [if_pos h1]
    by_cases h2 : (b : Int) ≤ m - a
    · rw [if_pos h2, if_pos (by omega)]; omega
    · rw [if_neg h2, if_neg (by omega)]
  · rw [if_neg h1, if_neg (by omega), if_neg (by omega)]
theorem leftZ_neg {m : Int} {a : Nat} (h : m = -1) : leftZ m a = -1 := by
  unfold leftZ
  rw [if_neg (by omega)]
theorem vinculumref09_left_ev : ∀ x : S24, Wf24 x → ∀ m : Int, 0 ≤ m → m ≤ 4611686018427387904 → Ev (fun k => vinculumref09_left.f k x.f0 x.f1 x.f2 x.f3 m) (leftZ m (cnt x)) := by
  refine tree_ind (fun x ih hw m hm0 hm1 => ?_)
  have hce := cnt_eq x
  obtain ⟨hwl, hwk⟩ := hw.w3
  unfold maxLen at hwl
  have loop : ∀ (d j : Nat) (m : Int), x.f3.length - j = d → j ≤ x.f3.length → -1 ≤ m → m ≤ 4611686018427387904 → Ev (fun k => vinculumref09_left.l0 k m (j : Int) x.f0 x.f1 x.f2 x.f3) (leftZ m (cntL (x.f3.drop j))) := by
    intro d
    induction d with
    | zero =>
      intro j m hd hj h0 hb
      obtain rfl : j = x.f3.length := by omega
      refine Ev.step (f := fun _ => some m) (fun k => by simp only [vinculumref09_left.l0]; rw [if_neg (by omega)]) ?_
      rw [List.drop_length]
      rw [show cntL ([] : List S24) = 0 from rfl, leftZ_zero h0]
      exact Ev.now _
    | succ d ihd =>
      intro j m hd hj h0 hb
      have hlt : j < x.f3.length := by omega
      by_cases hm : m ≥ 0
      · rw [drop_at hlt]
        refine Ev.step (f := fun k => (vinculumref09_left.f k (rd_T24 x.f3 j).f0 (rd_T24 x.f3 j).f1 (rd_T24 x.f3 j).f2 (rd_T24 x.f3 j).f3 m).bind fun t => vinculumref09_left.l0 k t (wrap64 ((j : Int) + 1)) x.f0 x.f1 x.f2 x.f3) (fun k => by simp only [vinculumref09_left.l0]; rw [if_pos (by omega), if_pos hm, if_pos (by omega)]) ?_
        rw [rd_at hlt]
        refine Ev.bind (ih _ (List.getElem_mem hlt) (hwk _ (List.getElem_mem hlt)) m hm hb) ?_
        rw [wrap64_id (by omega) (by omega)]
        have hr : -1 ≤ leftZ m (cnt x.f3[j]) ∧ leftZ m (cnt x.f3[j]) ≤ m := by unfold leftZ; split <;> omega
        have := ihd (j + 1) (leftZ m (cnt x.f3[j])) (by omega) (by omega) hr.1 (by omega)
        have e : leftZ (leftZ m (cnt x.f3[j])) (cntL (x.f3.drop (j + 1))) = leftZ m (cntL (x.f3[j] :: x.f3.drop (j + 1))) := by
          simp only [cntL]
          exact leftZ_add _ _ _
        rw [e] at this
        exact this
      · refine Ev.step (f := fun _ => some m) (fun k => by simp only [vinculumref09_left.l0]; rw [if_pos (by omega), if_neg hm]) ?_
        have : leftZ m (cntL (x.f3.drop j)) = m := by rw [leftZ_neg (by omega)]; omega
        rw [this]
        exact Ev.now _
  refine Ev.step (f := fun k => vinculumref09_left.l0 k (wrap64 (m - 1)) 0 x.f0 x.f1 x.f2 x.f3) (fun k => by simp only [vinculumref09_left.f]) ?_
  rw [wrap64_id (by omega) (by omega)]
  have := loop _ 0 (m - 1) rfl (by omega) (by omega) (by omega)
  have e : leftZ (m - 1) (cntL (x.f3.drop 0)) = leftZ m (cnt x) := by
    rw [hce, List.drop_zero, ← leftZ_add]
    have : leftZ m 1 = m - 1 := by
      unfold leftZ
      by_cases h1 : ((1 : Nat) : Int) ≤ m
      · rw [if_pos h1]; omega
      · rw [if_neg h1]; omega
    rw [this]
  rw [e] at this
  exact this
theorem vinculumref09_Few_ev (x : S24) (hw : Wf24 x) (m : Int) (h0 : 0 ≤ m) (h1 : m ≤ 4611686018427387904) : Ev (fun k => vinculumref09_Few.f k x.f0 x.f1 x.f2 x.f3 m) (decide ((cnt x : Int) ≤ m)) := by
  unfold vinculumref09_Few.f
  refine Ev.bind (vinculumref09_left_ev x hw m h0 h1) ?_
  have e : decide (leftZ m (cnt x) ≥ 0) = decide ((cnt x : Int) ≤ m) := by
    unfold leftZ
    by_cases h1 : (cnt x : Int) ≤ m
    · rw [if_pos h1, decide_eq_true h1]; simp; omega
    · rw [if_neg h1, decide_eq_false h1]; rfl
  rw [e]
  exact Ev.now _
end Go.Proofs.YtihchehmkhnhaaaDoor.A
/- Plain laws: the texts of nodes, as the program and as the reference tell them. -/
namespace Go.Proofs.YtihchehmkhnhaaaDoor.A
open Go.RowKit Go.Proofs.YtihchehmkhnhaaaDoorW.PrintWords Go.Proofs.YtihchehmkhnhaaaDoorW.PrintLast Go.Proofs.YtihchehmkhnhaaaDoorW.PrintMore
set_option linter.unusedVariables false

abbrev bs (s : ByteArray) : List UInt8 := s.data.toList
theorem bs_len (s : ByteArray) : (bs s).length = s.size := data_length s
theorem bt_bs {s : ByteArray} {j : Nat} (h : j < (bs s).length) : bt s (j : Int) = (((bs s)[j].toNat : Nat) : Int) := by
  have hs := bs_len s
  unfold bt
  rw [dif_pos (by rw [Int.toNat_natCast]; omega)]
  rfl
def ltr (c : UInt8) : Bool := decide (97 ≤ c.toNat ∧ c.toNat ≤ 122) || decide (65 ≤ c.toNat ∧ c.toNat ≤ 90)
theorem letter_ev (c : UInt8) : node_letter.f (c.toNat : Int) = some (ltr c) := by
  unfold node_letter.f ltr
  by_cases h1 : (c.toNat : Int) ≥ 97
  · rw [if_pos h1]
    by_cases h2 : (c.toNat : Int) ≤ 122
    · rw [if_pos h2, decide_eq_true (p := 97 ≤ c.toNat ∧ c.toNat ≤ 122) (by omega)]; rfl
    · rw [if_neg h2, if_pos (by omega), decide_eq_false (p := 97 ≤ c.toNat ∧ c.toNat ≤ 122) (by omega), decide_eq_false (p := 65 ≤ c.toNat ∧ c.toNat ≤ 90) (by omega), decide_eq_false (by omega)]; rfl
  · rw [if_neg h1, decide_eq_false (p := 97 ≤ c.toNat ∧ c.toNat ≤ 122) (by omega)]
    by_cases h3 : (c.toNat : Int) ≥ 65
    · rw [if_pos h3]
      by_cases h4 : (c.toNat : Int) ≤ 90
      · rw [decide_eq_true h4, decide_eq_true (p := 65 ≤ c.toNat ∧ c.toNat ≤ 90) (by omega)]; rfl
      · rw [decide_eq_false h4, decide_eq_false (p := 65 ≤ c.toNat ∧ c.toNat ≤ 90) (by omega)]; rfl
    · rw [if_neg h3, decide_eq_false (p := 65 ≤ c.toNat ∧ c.toNat ≤ 90) (by omega)]; rfl
theorem rletter_ev (c : UInt8) : vinculumref09_Letter.f (c.toNat : Int) = some (ltr c) := letter_ev c
def inB (L : List ByteArray) (s : ByteArray) : Bool := L.any fun t => decide (t.toList = s.toList)
theorem inB_hit {x s : ByteArray} (r : List ByteArray) (h : x.toList = s.toList) : inB (x :: r) s = true := by
  unfold inB
  rw [List.any_cons, decide_eq_true h, Bool.true_or]
theorem inB_miss {x s : ByteArray} (r : List ByteArray) (h : ¬x.toList = s.toList) : inB (x :: r) s = inB r s := by
  unfold inB
  rw [List.any_cons, decide_eq_false h, Bool.false_or]
theorem has_hit {x c : UInt8} (r : List UInt8) (h : x = c) : (x :: r).contains c = true := by
  rw [List.contains_cons, h, beq_self_eq_true, Bool.true_or]
theorem has_miss {x c : UInt8} (r : List UInt8) (h : ¬x = c) : (x :: r).contains c = r.contains c := by
  rw [List.contains_cons, beq_eq_false_iff_ne.2 (Ne.symm h), Bool.false_or]
theorem headD_get {l : List UInt8} (h : 0 < l.length) : l[0] = l.headD 0 := by
  cases l with
  | nil => simp at h
  | cons x r => rfl
theorem rdb_at {l : List ByteArray} {j : Nat} (h : j < l.length) : rdOf ByteArray.empty l (j : Int) = l[j] := by
  unfold rdOf
  rw [List.getD_eq_getElem?_getD, Int.toNat_natCast, List.getElem?_eq_getElem h]
  rfl
theorem in_ev (L : List ByteArray) (s : ByteArray) (hL : L.length ≤ 1000) : Ev (fun k => vinculumref09_In.f k L s) (inB L s) := by
  have loop : ∀ (d j : Nat), L.length - j = d → j ≤ L.length → Ev (fun k => vinculumref09_In.l0 k L s (j : Int)) (inB (L.drop j) s) := by
    intro d
    induction d with
    | zero =>
      intro j hd hj
      obtain rfl : j = L.length := by omega
      apply Ev.step
      · intro k; rw [vinculumref09_In.l0, if_neg (by omega)]
      rw [List.drop_length]
      exact Ev.now _
    | succ d ihd =>
      intro j hd hj
      have hlt : j < L.length := by omega
      rw [drop_at hlt]
      by_cases he : L[j].toList = s.toList
      · apply Ev.step
        · intro k; rw [vinculumref09_In.l0, if_pos (by omega), if_pos (by omega), rdb_at hlt, if_pos he]
        rw [inB_hit _ he]
        exact Ev.now _
      · apply Ev.step
        · intro k; rw [vinculumref09_In.l0, if_pos (by omega), if_pos (by omega), rdb_at hlt, if_neg he, wrap64_id (by omega) (by omega)]
        rw [inB_miss _ he]
        exact ihd (j + 1) (by omega) (by omega)
  have := loop _ 0 rfl (by omega)
  simpa [vinculumref09_In.f] using this
theorem scontains_ev (L : List ByteArray) (s : ByteArray) (hL : L.length ≤ 1000) : Ev (fun k => slices_Contains_string_string.f k L s) (inB L s) := by
  have loop : ∀ (d j : Nat), L.length - j = d → j ≤ L.length → ∃ r : Int, Ev (fun k => slices_Index_string_string.l0 k L s (L.length : Int) (j : Int)) r ∧ decide (r ≥ 0) = inB (L.drop j) s := by
    intro d
    induction d with
    | zero =>
      intro j hd hj
      obtain rfl : j = L.length := by omega
      refine ⟨-1, ?_, ?_⟩
      · apply Ev.step
        · intro k; rw [slices_Index_string_string.l0, if_neg (by omega)]
        exact Ev.now _
      · rw [List.drop_length]; rfl
    | succ d ihd =>
      intro j hd hj
      have hlt : j < L.length := by omega
      rw [drop_at hlt]
      by_cases he : L[j].toList = s.toList
      · refine ⟨(j : Int), ?_, ?_⟩
        · apply Ev.step
          · intro k; rw [slices_Index_string_string.l0, if_pos (by omega), if_pos (by omega), if_pos (by omega), rdb_at hlt, if_pos he.symm]
          exact Ev.now _
        · rw [inB_hit _ he]
          exact decide_eq_true (by omega)
      · obtain ⟨r, h1, h2⟩ := ihd (j + 1) (by omega) (by omega)
        refine ⟨r, ?_, ?_⟩
        · apply Ev.step
          · intro k; rw [slices_Index_string_string.l0, if_pos (by omega), if_pos (by omega), if_pos (by omega), rdb_at hlt, if_neg (fun h => he h.symm), wrap64_id (by omega) (by omega)]
          exact h1
        · rw [h2, inB_miss _ he]
  obtain ⟨r, h1, h2⟩ := loop _ 0 rfl (by omega)
  rw [List.drop_zero] at h2
  unfold slices_Contains_string_string.f
  refine Ev.bind (a := r) (by simpa [slices_Index_string_string.f] using h1) ?_
  rw [h2]
  exact Ev.now _
/-- A set of bytes that contains a byte: strings.Contains at one byte, and the reference's loop. -/
theorem contains_one_ev (S s : ByteArray) (h : s.size = 1) : strings_Contains.f S s = some ((bs S).contains ((bs s).headD 0)) := by
  unfold strings_Contains.f strings_Index.f stringslite_Index.f
  rw [if_pos h, Option.bind_some, Option.bind_some, Lib.contains_iff_indexByte]
theorem has_ev (S : ByteArray) (c : UInt8) (hS : S.size ≤ 1000) : Ev (fun k => vinculumref09_has.f k S (c.toNat : Int)) ((bs S).contains c) := by
  have hl := bs_len S
  have loop : ∀ (d j : Nat), (bs S).length - j = d → j ≤ (bs S).length → Ev (fun k => vinculumref09_has.l0 k S (c.toNat : Int) (j : Int)) (((bs S).drop j).contains c) := by
    intro d
    induction d with
    | zero =>
      intro j hd hj
      obtain rfl : j = (bs S).length := by omega
      apply Ev.step
      · intro k; rw [vinculumref09_has.l0, if_neg (by omega)]
      rw [List.drop_length]
      exact Ev.now _
    | succ d ihd =>
      intro j hd hj
      have hlt : j < (bs S).length := by omega
      rw [drop_at hlt]
      by_cases he : (bs S)[j] = c
      · apply Ev.step
        · intro k; rw [vinculumref09_has.l0, if_pos (by omega), if_pos (by omega), bt_bs hlt, if_pos (by rw [he])]
        rw [has_hit _ he]
        exact Ev.now _
      · apply Ev.step
        · intro k; rw [vinculumref09_has.l0, if_pos (by omega), if_pos (by omega), bt_bs hlt, if_neg (fun h => he (UInt8.toNat.inj (by omega))), wrap64_id (by omega) (by omega)]
        rw [has_miss _ he]
        exact ihd (j + 1) (by omega) (by omega)
  have := loop _ 0 rfl (by omega)
  simpa [vinculumref09_has.f] using this

def KW : List ByteArray := [(⟨#[102, 114, 97, 99]⟩ : ByteArray), (⟨#[114, 111, 111, 116]⟩ : ByteArray), (⟨#[109, 97, 116, 114, 105, 120]⟩ : ByteArray), (⟨#[102, 101, 110, 99, 101]⟩ : ByteArray)]
def AC : List ByteArray := [(⟨#[104, 97, 116]⟩ : ByteArray), (⟨#[98, 97, 114]⟩ : ByteArray), (⟨#[118, 101, 99]⟩ : ByteArray), (⟨#[100, 111, 116]⟩ : ByteArray), (⟨#[116, 105, 108, 100, 101]⟩ : ByteArray), (⟨#[99, 104, 101, 99, 107]⟩ : ByteArray)]
def SY : ByteArray := ⟨#[43, 45, 42, 47, 61, 60, 62, 44, 59, 58, 33, 124, 39, 63, 126, 64]⟩
/-- The texts of symbols. -/
def symT (s : ByteArray) : Bool := if s.size = 1 then ltr ((bs s).headD 0) || (bs SY).contains ((bs s).headD 0) else decide (2 ≤ s.size) && decide (s.size ≤ 16) && !inB AC s && !inB KW s && (bs s).all ltr
theorem bt0 {s : ByteArray} (h : 0 < s.size) : bt s 0 = ((((bs s).headD 0).toNat : Nat) : Int) := by
  have hl := bs_len s
  have := bt_bs (s := s) (j := 0) (by omega)
  rw [show ((0 : Nat) : Int) = 0 from rfl] at this
  rw [this, headD_get]
theorem nSym_ev (s : ByteArray) (hs : s.size ≤ 9223372036854775807) : Ev (fun k => node_Symbol.f k s) (symT s) := by
  have hl := bs_len s
  have loop : ∀ (d j : Nat), (bs s).length - j = d → j ≤ (bs s).length → Ev (fun k => node_Symbol.l0 k s (s.size : Int) (j : Int)) (((bs s).drop j).all ltr) := by
    intro d
    induction d with
    | zero =>
      intro j hd hj
      obtain rfl : j = (bs s).length := by omega
      apply Ev.step
      · intro k; rw [node_Symbol.l0, if_neg (by omega)]
      rw [List.drop_length]
      exact Ev.now _
    | succ d ihd =>
      intro j hd hj
      have hlt : j < (bs s).length := by omega
      rw [drop_at hlt, List.all_cons]
      apply Ev.step
      · intro k; rw [node_Symbol.l0, if_pos (by omega), if_pos (by omega), if_pos (by omega), bt_bs hlt, letter_ev, Option.bind_some, wrap64_id (by omega) (by omega)]
      cases hc : ltr (bs s)[j] with
      | true => simpa using ihd (j + 1) (by omega) (by omega)
      | false => simpa using Ev.now false
  have j0 : ∀ b : Bool, Ev (fun k => node_Symbol.j0 k s b) (!b && (bs s).all ltr) := by
    intro b
    cases b with
    | true =>
      apply Ev.step
      · intro k; rw [node_Symbol.j0, if_pos rfl]
      exact Ev.now _
    | false =>
      apply Ev.step
      · intro k; rw [node_Symbol.j0, if_neg Bool.false_ne_true]
      simpa using loop _ 0 rfl (by omega)
  unfold node_Symbol.f symT
  by_cases h1 : s.size = 1
  · rw [if_pos h1]
    apply Ev.congr
    · intro k; rw [if_pos (by omega), if_pos (by omega), bt0 (by omega), letter_ev, Option.bind_some, contains_one_ev _ s h1, Option.bind_some]
    cases hc : ltr ((bs s).headD 0) with
    | true => exact Ev.now true
    | false => exact Ev.now ((bs SY).contains ((bs s).headD 0))
  · rw [if_neg h1]
    by_cases h2 : s.size < 2
    · apply Ev.congr
      · intro k; rw [if_neg (by omega), if_pos (by omega)]
      rw [decide_eq_false (by omega)]
      simpa using j0 true
    · by_cases h3 : s.size > 16
      · apply Ev.congr
        · intro k; rw [if_neg (by omega), if_neg (by omega), if_pos (by omega)]
        rw [decide_eq_true (show 2 ≤ s.size by omega), decide_eq_false (show ¬ s.size ≤ 16 by omega)]
        simpa using j0 true
      · apply Ev.congr
        · intro k; rw [if_neg (by omega), if_neg (by omega), if_neg (by omega)]
        rw [decide_eq_true (show 2 ≤ s.size by omega), decide_eq_true (show s.size ≤ 16 by omega)]
        unfold node_accent.f
        refine Ev.bind (a := inB AC s) (Ev.bind (scontains_ev AC s (by decide)) (Ev.now _)) ?_
        cases hA : inB AC s with
        | true => simpa using j0 true
        | false =>
          refine Ev.congr (f := fun k => (slices_Contains_string_string.f k KW s).bind fun t => node_Symbol.j0 k s t) (fun k => rfl) ?_
          refine Ev.bind (scontains_ev KW s (by decide)) ?_
          simpa using j0 (inB KW s)
theorem rSym_ev (s : ByteArray) (hs : s.size ≤ 9223372036854775807) : Ev (fun k => vinculumref09_Symbol.f k s) (symT s) := by
  have hl := bs_len s
  have tail : 2 ≤ s.size ∨ s.size = 0 → Ev (fun k => if (s.size : Int) ≥ 2 then (if (s.size : Int) ≤ 16 then ((vinculumref09_Keywords.f).bind fun t261 => ((vinculumref09_In.f k t261 s).bind fun t264 => (if t264 = true then (some false) else ((vinculumref09_Accents.f).bind fun t265 => ((vinculumref09_In.f k t265 s).bind fun t268 => (some (!t268))))))) else (some false)) else (some false)) (decide (2 ≤ s.size) && decide (s.size ≤ 16) && !inB AC s && !inB KW s) := by
    intro _
    by_cases h2 : 2 ≤ s.size
    · by_cases h3 : s.size ≤ 16
      · apply Ev.congr
        · intro k; rw [if_pos (by omega), if_pos (by omega), vinculumref09_Keywords.f, Option.bind_some, vinculumref09_Accents.f, Option.bind_some]
        refine Ev.bind (in_ev KW s (by decide)) ?_
        rw [decide_eq_true h2, decide_eq_true h3]
        cases hK : inB KW s with
        | true => simpa using Ev.now false
        | false =>
          refine Ev.congr (f := fun k => (vinculumref09_In.f k AC s).bind fun t => some (!t)) (fun k => rfl) ?_
          refine Ev.bind (in_ev AC s (by decide)) ?_
          simpa using Ev.now _
      · apply Ev.congr
        · intro k; rw [if_pos (by omega), if_neg (by omega)]
        rw [decide_eq_false h3]
        simpa using Ev.now false
    · apply Ev.congr
      · intro k; rw [if_neg (by omega)]
      rw [decide_eq_false h2]
      simpa using Ev.now false
  unfold vinculumref09_Symbol.f symT
  by_cases h1 : s.size = 1
  · rw [if_pos h1]
    apply Ev.congr
    · intro k; rw [if_pos (by omega), if_pos (by omega), bt0 (by omega), vinculumref09_Character.f, rletter_ev, Option.bind_some]
    cases hc : ltr ((bs s).headD 0) with
    | true => simpa using Ev.now true
    | false =>
      refine Ev.bind (a := (bs SY).contains ((bs s).headD 0)) ?_ (Ev.now _)
      refine Ev.congr (f := fun k => (vinculumref09_has.f k SY (((bs s).headD 0).toNat : Int)).bind fun t => some t) (fun k => rfl) ?_
      exact Ev.bind (has_ev SY _ (by decide)) (Ev.now _)
  · rw [if_neg h1]
    have loop : ∀ (d j : Nat), (bs s).length - j = d → j ≤ (bs s).length → Ev (fun k => vinculumref09_Symbol.l0 k s (j : Int)) (decide (2 ≤ s.size) && decide (s.size ≤ 16) && !inB AC s && !inB KW s && ((bs s).drop j).all ltr) := by
      intro d
      induction d with
      | zero =>
        intro j hd hj
        obtain rfl : j = (bs s).length := by omega
        apply Ev.step
        · intro k; rw [vinculumref09_Symbol.l0, if_neg (by omega)]
        rw [List.drop_length]
        simpa using tail (by omega)
      | succ d ihd =>
        intro j hd hj
        have hlt : j < (bs s).length := by omega
        rw [drop_at hlt, List.all_cons]
        apply Ev.step
        · intro k; rw [vinculumref09_Symbol.l0, if_pos (by omega), if_pos (by omega), bt_bs hlt, rletter_ev, Option.bind_some, wrap64_id (by omega) (by omega)]
        cases hc : ltr (bs s)[j] with
        | true => simpa using ihd (j + 1) (by omega) (by omega)
        | false => simpa using Ev.now false
    apply Ev.congr
    · intro k; rw [if_neg (by omega)]
    simpa using loop _ 0 rfl (by omega)
end Go.Proofs.YtihchehmkhnhaaaDoor.A
/- Plain laws: the texts of numbers, as the program and as the reference tell them. -/
namespace Go.Proofs.YtihchehmkhnhaaaDoor.A
open Go.RowKit Go.Proofs.YtihchehmkhnhaaaDoorW.PrintWords Go.Proofs.YtihchehmkhnhaaaDoorW.PrintLast Go.Proofs.YtihchehmkhnhaaaDoorW.PrintMore
set_option linter.unusedVariables false

def dig (c : UInt8) : Bool := decide (48 ≤ c.toNat ∧ c.toNat ≤ 57)
def digs (l : List UInt8) : Bool := !l.isEmpty && l.all dig
set_option maxRecDepth 100000 in
theorem dig_set (c : UInt8) : ([48, 49, 50, 51, 52, 53, 54, 55, 56, 57] : List UInt8).contains c = dig c := by
  have h : ∀ n, n < 256 → ([48, 49, 50, 51, 52, 53, 54, 55, 56, 57] : List UInt8).contains (UInt8.ofNat n) = dig (UInt8.ofNat n) := by decide
  have := h c.toNat c.toNat_lt
  rwa [UInt8.ofNat_toNat] at this
theorem dropWhile_nil {p : UInt8 → Bool} : ∀ {l : List UInt8}, l.dropWhile p = [] ↔ l.all p = true
  | [] => by simp
  | x :: r => by
    rw [List.dropWhile_cons, List.all_cons]
    cases h : p x with
    | true => simpa using dropWhile_nil (l := r)
    | false => simp
theorem dropWhile_all {p : UInt8 → Bool} : ∀ {l : List UInt8}, (l.dropWhile p).all p = true → l.dropWhile p = []
  | [], _ => rfl
  | x :: r, h => by
    rw [List.dropWhile_cons] at h ⊢
    cases hx : p x with
    | true =>
      rw [hx, if_pos rfl] at h
      rw [if_pos rfl]
      exact dropWhile_all h
    | false =>
      rw [hx, if_neg Bool.false_ne_true, List.all_cons, hx] at h
      simp at h
theorem trimS_nil (l cs : List UInt8) : Lib.trimS l cs = [] ↔ l.all (cs.contains ·) = true := by
  unfold Lib.trimS Lib.trimLeftS Lib.trimRightS
  rw [dropWhile_nil, List.all_reverse]
  constructor
  · intro h
    have h1 := dropWhile_nil.1 (dropWhile_all h)
    rwa [List.all_reverse] at h1
  · intro h
    rw [dropWhile_nil.2 (by rw [List.all_reverse]; exact h)]
    rfl
theorem toList_bs (s : ByteArray) : s.toList = bs s := Lib.toList_data s
theorem digits_ev (s : ByteArray) (hs : s.size ≤ 9223372036854775807) : node_digits.f s = some (digs (bs s)) := by
  unfold node_digits.f digs
  rw [toList_bs]
  by_cases h : bs s = []
  · rw [if_pos h, h]; rfl
  · rw [if_neg h]
    unfold strings_Trim.f
    rw [if_pos hs, if_pos (by decide), if_pos (by decide), Option.bind_some, toList_bs]
    have e : (bs s).all dig = (bs s).all (([48, 49, 50, 51, 52, 53, 54, 55, 56, 57] : List UInt8).contains ·) := by
      congr 1; funext c; exact (dig_set c).symm
    have he : (bs s).isEmpty = false := by cases hb : bs s with
      | nil => exact absurd hb h
      | cons x r => rfl
    rw [he, Bool.not_false, Bool.true_and, e]
    congr 1
    rw [Bool.eq_iff_iff, beq_iff_eq]
    exact trimS_nil (bs s) [48, 49, 50, 51, 52, 53, 54, 55, 56, 57]
/-- A text, cut at its first point. -/
def cutd : List UInt8 → Option (List UInt8 × List UInt8)
  | [] => none
  | c :: r => if c = 46 then some ([], r) else (cutd r).map fun p => (c :: p.1, p.2)
theorem cutd_none : ∀ {l : List UInt8}, Lib.indexByte l 46 = -1 → cutd l = none
  | [], _ => rfl
  | c :: r, h => by
    unfold Lib.indexByte at h
    unfold cutd
    by_cases hc : c = 46
    · simp [hc] at h
    · rw [if_neg hc]
      rw [if_neg (by simpa using hc)] at h
      by_cases h2 : Lib.indexByte r 46 = -1
      · rw [cutd_none h2]; rfl
      · have := Lib.indexByte_ge r 46
        rw [if_neg (by simpa using h2)] at h
        omega
theorem cutd_some : ∀ {l : List UInt8} {i : Nat}, Lib.indexByte l 46 = i → i < l.length ∧ cutd l = some (l.take i, l.drop (i + 1))
  | [], i, h => by simp [Lib.indexByte] at h
  | c :: r, i, h => by
    unfold Lib.indexByte at h
    unfold cutd
    by_cases hc : c = 46
    · rw [if_pos (by simpa using hc)] at h
      obtain rfl : i = 0 := by omega
      rw [if_pos hc]
      exact ⟨by simp, rfl⟩
    · rw [if_neg hc]
      rw [if_neg (by simpa using hc)] at h
      by_cases h2 : Lib.indexByte r 46 = -1
      · rw [if_pos (by simpa using h2)] at h; omega
      · have := Lib.indexByte_ge r 46
        rw [if_neg (by simpa using h2)] at h
        obtain ⟨i, rfl⟩ : ∃ m, i = m + 1 := ⟨i - 1, by omega⟩
        obtain ⟨h3, h4⟩ := cutd_some (l := r) (i := i) (by omega)
        rw [h4]
        exact ⟨by simpa using h3, rfl⟩
/-- The texts of numbers. -/
def numT (l : List UInt8) : Bool := decide (l.length ≤ 20) && match cutd l with
  | none => digs l
  | some p => digs p.1 && digs p.2
theorem bs_extract (s : ByteArray) (i j : Nat) : bs (s.extract i j) = (bs s).extract i j := by
  unfold bs
  rw [ByteArray.data_extract, Array.toList_extract]
theorem nNum_ev (s : ByteArray) : node_Number.f s = some (numT (bs s)) := by
  have hl := bs_len s
  unfold node_Number.f numT
  by_cases h1 : s.size > 20
  · rw [if_pos (by omega), decide_eq_false (by omega)]; rfl
  · rw [if_neg (by omega), decide_eq_true (by omega), Bool.true_and]
    unfold strings_Cut.f stringslite_Cut.f stringslite_Index.f
    rw [if_pos (by rfl), Option.bind_some]
    have hge := Lib.indexByte_ge (bs s) 46
    by_cases h2 : Lib.indexByte (bs s) 46 = -1
    · rw [cutd_none h2]
      rw [if_neg (by show ¬ Lib.indexByte (bs s) 46 ≥ 0; omega), Option.bind_some, Option.bind_some, digits_ev s (by omega), Option.bind_some]
      cases digs (bs s) <;> rfl
    · obtain ⟨i, hi⟩ : ∃ i : Nat, Lib.indexByte (bs s) 46 = i := ⟨(Lib.indexByte (bs s) 46).toNat, by omega⟩
      obtain ⟨h3, h4⟩ := cutd_some hi
      rw [h4]
      have e : Lib.indexByte s.data.toList (((⟨#[46]⟩ : ByteArray).data.toList).headD 0) = (i : Int) := hi
      have w : wrap64 ((i : Int) + (((⟨#[46]⟩ : ByteArray).size : Nat) : Int)) = ((i + 1 : Nat) : Int) := by
        rw [show (((⟨#[46]⟩ : ByteArray).size : Nat) : Int) = 1 from rfl, wrap64_id (by omega) (by omega)]; omega
      rw [e, w, if_pos (by omega), if_pos (by omega), if_pos (by omega), if_pos (by omega), if_pos (by omega), Option.bind_some, Option.bind_some, Int.toNat_natCast, Int.toNat_natCast]
      have z1 : (s.extract 0 i).size ≤ 9223372036854775807 := by rw [ByteArray.size_extract]; omega
      have z2 : (s.extract (i + 1) s.size).size ≤ 9223372036854775807 := by rw [ByteArray.size_extract]; omega
      have e1 : bs (s.extract 0 i) = (bs s).take i := by rw [bs_extract]; simp [List.extract]
      have e2 : bs (s.extract (i + 1) s.size) = (bs s).drop (i + 1) := by
        rw [bs_extract, ← hl]
        show ((bs s).drop (i + 1)).take ((bs s).length - (i + 1)) = _
        exact List.take_of_length_le (by rw [List.length_drop]; omega)
      rw [digits_ev _ z1, Option.bind_some, digits_ev _ z2, e1, e2]
      show _ = some (digs ((bs s).take i) && digs ((bs s).drop (i + 1)))
      generalize digs ((bs s).take i) = b1
      generalize digs ((bs s).drop (i + 1)) = b2
      cases b1 <;> cases b2 <;> rfl
/-- The reference's loop over a text, of n bytes, from the byte j on, after p points. -/
def rN (n : Nat) : Nat → Nat → List UInt8 → Bool
  | _, p, [] => decide (0 < n) && decide (n ≤ 20) && decide (p ≤ 1)
  | j, p, c :: r => if c = 46 ∧ 0 < j ∧ r ≠ [] then rN n (j + 1) (p + 1) r else if dig c = true then rN n (j + 1) p r else false
theorem dig46 : dig 46 = false := by decide
theorem rN_late (n : Nat) : ∀ (l : List UInt8) (j p : Nat), 1 ≤ p → rN n j p l = (decide (p ≤ 1) && l.all dig && decide (0 < n) && decide (n ≤ 20))
  | [], j, p, hp => by
    unfold rN
    simp only [List.all_nil, Bool.and_true]
    cases decide (0 < n) <;> cases decide (n ≤ 20) <;> cases decide (p ≤ 1) <;> rfl
  | c :: r, j, p, hp => by
    unfold rN
    rw [List.all_cons]
    by_cases h : c = 46 ∧ 0 < j ∧ r ≠ []
    · rw [if_pos h, rN_late n r (j + 1) (p + 1) (by omega), h.1, dig46, decide_eq_false (show ¬ p + 1 ≤ 1 by omega)]
      simp
    · rw [if_neg h]
      cases hd : dig c with
      | true => rw [if_pos rfl, rN_late n r (j + 1) p hp, Bool.true_and]
      | false => simp
theorem rN_first (n : Nat) : ∀ (l : List UInt8) (j : Nat), rN n j 0 l = (decide (n ≤ 20) && decide (0 < n) && match cutd l with
    | none => l.all dig
    | some p => p.1.all dig && decide (0 < j + p.1.length) && digs p.2)
  | [], j => by
    unfold rN cutd
    simp only [List.all_nil, Bool.and_true]
    cases decide (0 < n) <;> cases decide (n ≤ 20) <;> rfl
  | c :: r, j => by
    unfold rN cutd
    by_cases hc : c = 46
    · rw [if_pos hc]
      by_cases h : 0 < j ∧ r ≠ []
      · rw [if_pos ⟨hc, h⟩, rN_late n r (j + 1) (0 + 1) (by omega)]
        have hr : r.isEmpty = false := by cases r with
          | nil => exact absurd rfl h.2
          | cons x r => rfl
        simp only [List.all_nil, List.length_nil, Nat.add_zero, decide_eq_true h.1, digs, hr]
        cases r.all dig <;> cases decide (0 < n) <;> cases decide (n ≤ 20) <;> rfl
      · rw [if_neg (fun h' => h h'.2), hc, dig46, if_neg Bool.false_ne_true]
        by_cases hj : 0 < j
        · have hr : r = [] := Classical.byContradiction fun h' => h ⟨hj, h'⟩
          subst hr
          simp [digs]
        · simp only [List.all_nil, List.length_nil, Nat.add_zero, decide_eq_false hj]
          simp
    · rw [if_neg (fun h => hc h.1), if_neg hc]
      cases hd : dig c with
      | true =>
        rw [if_pos rfl, rN_first n r (j + 1)]
        cases cutd r with
        | none => simp [hd]
        | some p => simp [hd, show 0 < j + 1 + p.1.length by omega, show 0 < j + (p.1.length + 1) by omega]
      | false =>
        cases cutd r with
        | none => simp [hd]
        | some p => simp [hd]
theorem rN_num (l : List UInt8) : rN l.length 0 0 l = numT l := by
  rw [rN_first]
  unfold numT
  cases h : cutd l with
  | none =>
    cases l with
    | nil => simp [digs]
    | cons x r => simp [digs]
  | some p =>
    have hl : 0 < l.length := by
      cases l with
      | nil => simp [cutd] at h
      | cons x r => simp
    rw [decide_eq_true hl]
    simp only [digs, Nat.zero_add, Bool.and_true]
    cases p.1 with
    | nil => simp
    | cons x r => simp
theorem rdigit_ev (c : UInt8) : vinculumref09_Digit.f (c.toNat : Int) = some (dig c) := by
  unfold vinculumref09_Digit.f dig
  by_cases h1 : (c.toNat : Int) ≥ 48
  · rw [if_pos h1]
    by_cases h2 : (c.toNat : Int) ≤ 57
    · rw [decide_eq_true h2, decide_eq_true (by omega)]
    · rw [decide_eq_false h2, decide_eq_false (by omega)]
  · rw [if_neg h1, decide_eq_false (by omega)]
theorem rNum_ev (s : ByteArray) (hs : s.size ≤ 9223372036854775807) : Ev (fun k => vinculumref09_Number.f k s) (numT (bs s)) := by
  have hl := bs_len s
  have loop : ∀ (d j p : Nat), (bs s).length - j = d → j ≤ (bs s).length → p ≤ j → Ev (fun k => vinculumref09_Number.l0 k s (p : Int) (j : Int)) (rN (bs s).length j p ((bs s).drop j)) := by
    intro d
    induction d with
    | zero =>
      intro j p hd hj hp
      obtain rfl : j = (bs s).length := by omega
      rw [List.drop_length]
      unfold rN
      by_cases h0 : 0 < s.size
      · by_cases h1 : s.size ≤ 20
        · apply Ev.step
          · intro k; rw [vinculumref09_Number.l0, if_neg (by omega), if_pos (by omega), if_pos (by omega)]
          rw [hl, decide_eq_true h0, decide_eq_true h1, show decide (p ≤ 1) = decide ((p : Int) ≤ 1) by congr 1; rw [eq_iff_iff]; omega]
          exact Ev.now _
        · apply Ev.step
          · intro k; rw [vinculumref09_Number.l0, if_neg (by omega), if_pos (by omega), if_neg (by omega)]
          rw [hl, decide_eq_false h1, Bool.and_false, Bool.false_and]
          exact Ev.now _
      · apply Ev.step
        · intro k; rw [vinculumref09_Number.l0, if_neg (by omega), if_neg (by omega)]
        rw [hl, decide_eq_false h0, Bool.false_and, Bool.false_and]
        exact Ev.now _
    | succ d ihd =>
      intro j p hd hj hp
      have hlt : j < (bs s).length := by omega
      rw [drop_at hlt]
      unfold rN
      have hr : (bs s).drop (j + 1) ≠ [] ↔ j + 1 < (bs s).length := by
        rw [ne_eq, List.drop_eq_nil_iff]; omega
      have w1 : wrap64 ((j : Int) + 1) = ((j + 1 : Nat) : Int) := by rw [wrap64_id (by omega) (by omega)]; omega
      have w2 : wrap64 ((p : Int) + 1) = ((p + 1 : Nat) : Int) := by rw [wrap64_id (by omega) (by omega)]; omega
      have w3 : wrap64 ((s.size : Int) - 1) = (s.size : Int) - 1 := wrap64_id (by omega) (by omega)
      have no : (¬((bs s)[j] = 46 ∧ 0 < j ∧ (bs s).drop (j + 1) ≠ [])) → Ev (fun k => vinculumref09_Number.j1 k s (p : Int) (j : Int) false) (if (bs s)[j] = 46 ∧ 0 < j ∧ (bs s).drop (j + 1) ≠ [] then rN (bs s).length (j + 1) (p + 1) ((bs s).drop (j + 1)) else if dig (bs s)[j] = true then rN (bs s).length (j + 1) p ((bs s).drop (j + 1)) else false) := by
        intro h
        rw [if_neg h]
        apply Ev.step
        · intro k; rw [vinculumref09_Number.j1, if_neg Bool.false_ne_true, if_pos (by omega), if_pos (by omega), bt_bs hlt, rdigit_ev, Option.bind_some, w1]
        cases hd : dig (bs s)[j] with
        | true => exact ihd (j + 1) p (by omega) (by omega) (by omega)
        | false => exact Ev.now false
      by_cases hc : (bs s)[j] = 46
      · have hb : bt s (j : Int) = 46 := by rw [bt_bs hlt, hc]; rfl
        by_cases h0 : 0 < j
        · apply Ev.step
          · intro k; rw [vinculumref09_Number.l0, if_pos (by omega), if_pos (by omega), if_pos hb, if_pos (by omega), w3]
          by_cases h1 : j + 1 < (bs s).length
          · rw [decide_eq_true (by omega), if_pos ⟨hc, h0, hr.2 h1⟩]
            apply Ev.step
            · intro k; rw [vinculumref09_Number.j1, if_pos rfl, w1, w2]
            exact ihd (j + 1) (p + 1) (by omega) (by omega) (by omega)
          · rw [decide_eq_false (by omega)]
            exact no (fun h => h1 (hr.1 h.2.2))
        · apply Ev.step
          · intro k; rw [vinculumref09_Number.l0, if_pos (by omega), if_pos (by omega), if_pos hb, if_neg (by omega)]
          exact no (fun h => h0 h.2.1)
      · have hb : ¬ bt s (j : Int) = 46 := by
          rw [bt_bs hlt]
          intro h
          exact hc (UInt8.toNat.inj (by have : (46 : UInt8).toNat = 46 := rfl; omega))
        apply Ev.step
        · intro k; rw [vinculumref09_Number.l0, if_pos (by omega), if_pos (by omega), if_neg hb]
        exact no (fun h => hc h.1)
  have := loop _ 0 0 rfl (by omega) (by omega)
  rw [List.drop_zero, rN_num] at this
  exact this
end Go.Proofs.YtihchehmkhnhaaaDoor.A
