/- Made for this claim by a program of the session: the Go functions' plain twins and their contracts. Lean checks it. -/
import Derived.Test.YtihchehmkhnhaaaDoorCDiffMetric2
import Derived.Test.YtihchehmkhnhaaaDoorCDiffMetric4
namespace Go.Proofs.YtihchehmkhnhaaaDoor.A
open Go.RowKit Go.Proofs.YtihchehmkhnhaaaDoorW.PrintWords Go.Proofs.YtihchehmkhnhaaaDoorW.PrintLast Go.Proofs.YtihchehmkhnhaaaDoorW.PrintMore
attribute [local go_sem] max2_int min2_int max_two min_two max_three min_three max_four min_four   -- for this text's walks alone
set_option linter.unusedVariables false
set_option linter.unusedSimpArgs false

def vinculumref09_text.f (k : Nat) (a0_0 : Int) (a0_1 : ByteArray) (a0_2 : Int) (l0_3 : List (S24)) : Option (Bool) := if a0_0 = 2 then ((vinculumref09_Symbol.f k a0_1).bind fun t271 => (some t271)) else (if a0_0 = 3 then ((vinculumref09_Number.f k a0_1).bind fun t272 => (some t272)) else (if a0_0 = 4 then (if (a0_1.size : Int) ≤ 200 then ((vinculumref09_Printable.f k a0_1).bind fun t273 => (some t273)) else (some false)) else (if a0_0 = 10 then ((vinculumref09_Accents.f).bind fun t274 => ((vinculumref09_In.f k t274 a0_1).bind fun t277 => (some t277))) else (if a0_0 = 11 then (if (a0_1.size : Int) = 2 then (if 0 < (a0_1.size : Int) then ((vinculumref09_has.f k (⟨#[40, 41, 91, 93, 123, 125, 124, 60, 62, 47, 46]⟩ : ByteArray) (bt a0_1 0)).bind fun t278 => (if t278 = true then (if 1 < (a0_1.size : Int) then ((vinculumref09_has.f k (⟨#[40, 41, 91, 93, 123, 125, 124, 60, 62, 47, 46]⟩ : ByteArray) (bt a0_1 1)).bind fun t279 => (some t279)) else (none)) else (some false))) else (none)) else (some false)) else (some (a0_1.toList == ([] : List UInt8)))))))
theorem vinculumref09_text.mono : ∀ a0 a1 a2 a3 k, LeO (vinculumref09_text.f k a0 a1 a2 a3) (vinculumref09_text.f (k + 1) a0 a1 a2 a3) := by
 intro a0 a1 a2 a3 k
 unfold vinculumref09_text.f
 repeat' first
   | (with_reducible exact vinculumref09_In.mono _ _ _)
   | (with_reducible exact vinculumref09_Number.mono _ _)
   | (with_reducible exact vinculumref09_Printable.mono _ _)
   | (with_reducible exact vinculumref09_Symbol.mono _ _)
   | (with_reducible exact vinculumref09_has.mono _ _ _)
   | (with_reducible exact LeO.refl _)
   | (with_reducible exact LeO.none _)
   | (with_reducible refine LeO.ite ?_ ?_)
   | (with_reducible refine LeO.bind ?_ (fun _ => ?_))
   | exact vinculumref09_In.mono _ _ _
   | exact vinculumref09_Number.mono _ _
   | exact vinculumref09_Printable.mono _ _
   | exact vinculumref09_Symbol.mono _ _
   | exact vinculumref09_has.mono _ _ _
   | exact LeO.none _
   | refine LeO.ite ?_ ?_
   | refine LeO.bind ?_ (fun _ => ?_)
set_option maxHeartbeats 8000000 in
set_option maxRecDepth 100000 in
theorem vinculumref09_text.calls (k : Nat) (a0_0 : Int) (a0_1 : ByteArray) (a0_2 : Int) (A0_3 : Option Addr) (c0_3 : Nat) (l0_3 : List (S24)) (r : Bool) (w : World) (hr0_3 : Kd.C k24 w A0_3 l0_3.length l0_3) (hc0_3 : l0_3.length ≤ c0_3) (h : vinculumref09_text.f k a0_0 a0_1 a0_2 l0_3 = some r) :
  Calls Tryd.prog 32 #[.agg #[.int .i64 a0_0, .string a0_1, .int .i64 a0_2, .slice A0_3 l0_3.length c0_3]] w fun e w' => e = .returned (.bool r) ∧ Below w.heap.size w w' := by
 have hu24 := Tryd.underlying24
 have HR0_3 := Aside0.mk hr0_3
 have HC0_3 := Aside0.mk hc0_3
 clear hr0_3 hc0_3
 have HB := Aside0.mk (Below.refl w.heap.size w)
 have H : (if a0_0 = 2 then ((vinculumref09_Symbol.f k a0_1).bind fun t271 => (some t271)) else (if a0_0 = 3 then ((vinculumref09_Number.f k a0_1).bind fun t272 => (some t272)) else (if a0_0 = 4 then (if (a0_1.size : Int) ≤ 200 then ((vinculumref09_Printable.f k a0_1).bind fun t273 => (some t273)) else (some false)) else (if a0_0 = 10 then ((vinculumref09_Accents.f).bind fun t274 => ((vinculumref09_In.f k t274 a0_1).bind fun t277 => (some t277))) else (if a0_0 = 11 then (if (a0_1.size : Int) = 2 then (if 0 < (a0_1.size : Int) then ((vinculumref09_has.f k (⟨#[40, 41, 91, 93, 123, 125, 124, 60, 62, 47, 46]⟩ : ByteArray) (bt a0_1 0)).bind fun t278 => (if t278 = true then (if 1 < (a0_1.size : Int) then ((vinculumref09_has.f k (⟨#[40, 41, 91, 93, 123, 125, 124, 60, 62, 47, 46]⟩ : ByteArray) (bt a0_1 1)).bind fun t279 => (some t279)) else (none)) else (some false))) else (none)) else (some false)) else (some (a0_1.toList == ([] : List UInt8)))))))) = some r := h
 clear h
 by_cases c2 : a0_0 = 2
 ·rw [if_pos c2] at H
  have c2b0 : (a0_0 == 2) = true := beq_iff_eq.mpr c2
  have c2b1 : (a0_0 != 2) = false := bne_eq_false_iff_eq.mpr c2
  clear c2
  replace H := Option.bind_eq_some_iff.mp H
  obtain ⟨t271, A30, H⟩ := H
  replace H : (some t271) = some r := H
  have A3 := Aside0.mk A30
  clear A30
  obtain rfl := Option.some.inj H
  go_enter Tryd.func32, Tryd.ntmps32
  go_wp2_with (first | ((with_reducible refine gate_dst (N := 1) rfl ?_); refine box_event ?hg (N := 1) ?hd (cs := #[.int .i64 a0_0, .string a0_1, .int .i64 a0_2, .slice A0_3 l0_3.length c0_3]) (t := 24) ?hr ?_; (case hd => rfl); (case hg => rfl); (case hr => first | (go_simp; done) | (go_simp; rfl)); intro gb270 hg w4 hbox hb; have n0_ := Aside0.mk (below_step (bs0_ HB.out) hb); have n1_ := Aside0.mk (hbox); have n2_ := Aside0.mk ((by rw [hg]; exact (below_size (bs0_ HB.out)) : w.heap.size ≤ gb270)); have n3_ := Aside0.mk ((by rw [hg]; exact (below_size (bs0_ HB.out)) : w.heap.size ≤ gb270)); clear HB; have HB := n0_; have BK270 := n1_; have GW270 := n2_; have GE270 := n3_; clear n0_ n1_ n2_ n3_; clear hb hbox hg; have hcz5_0 : w4.cell? ⟨gb270, 0, none⟩ = some (.int .i64 a0_0) := (blk_cell BK270.out 0).trans rfl; have hcz5_1 : w4.cell? ⟨gb270, 1, none⟩ = some (.string a0_1) := (blk_cell BK270.out 1).trans rfl; have hcz5_2 : w4.cell? ⟨gb270, 2, none⟩ = some (.int .i64 a0_2) := (blk_cell BK270.out 2).trans rfl; have hcz5_3 : w4.cell? ⟨gb270, 3, none⟩ = some (.slice A0_3 l0_3.length c0_3) := (blk_cell BK270.out 3).trans rfl; have hfz5_0 := blk_frozen BK270.out 0; have hfz5_1 := blk_frozen BK270.out 1; have hfz5_2 := blk_frozen BK270.out 2; have hfz5_3 := blk_frozen BK270.out 3) | ((with_reducible refine gate_callee (f := 44) rfl ?_); refine goesL_ (some 9) rfl rfl Tryd.func44 (by kernel_rfl) rfl #[.string a0_1] rfl (by (try simp only [List.map_toArray, List.map_cons, List.map_nil]); first | done | rfl | (simp only [List.length_drop, List.length_take]; rfl)) ?_; (with_reducible refine (vinculumref09_Symbol.calls k a0_1 t271 _ A3.out).mono ?_); rintro e w6 ⟨rfl, hb⟩; refine ⟨_, rfl, ?_⟩; have n0_ := Aside0.mk (blk_below (g := gb270) (o := .cells #[.int .i64 a0_0, .string a0_1, .int .i64 a0_2, .slice A0_3 l0_3.length c0_3] 24 (0, 0)) (bk_ BK270.out) hb); have n1_ := Aside0.mk (below_step (bs1_ HB.out GE270.out) hb); clear BK270; clear HB; have BK270 := n0_; have HB := n1_; clear n0_ n1_; (try clear hb); (try clear hb2); (try clear hk); (try clear hi)))
  go_ret
  exact ⟨by first | rfl | (simp [errW_none, errW_some] <;> rfl) | (simp [*, errW_none, errW_some] <;> rfl), bs1_ HB.out GE270.out⟩
 ·rw [if_neg c2] at H
  have c2b0 : (a0_0 == 2) = false := beq_eq_false_iff_ne.mpr c2
  have c2b1 : (a0_0 != 2) = true := bne_iff_ne.mpr c2
  by_cases c7 : a0_0 = 3
  ·rw [if_pos c7] at H
   have c7b0 : (a0_0 == 3) = true := beq_iff_eq.mpr c7
   have c7b1 : (a0_0 != 3) = false := bne_eq_false_iff_eq.mpr c7
   clear c7
   replace H := Option.bind_eq_some_iff.mp H
   obtain ⟨t272, A80, H⟩ := H
   replace H : (some t272) = some r := H
   have A8 := Aside0.mk A80
   clear A80
   obtain rfl := Option.some.inj H
   go_enter Tryd.func32, Tryd.ntmps32
   go_wp2_with (first | ((with_reducible refine gate_dst (N := 1) rfl ?_); refine box_event ?hg (N := 1) ?hd (cs := #[.int .i64 a0_0, .string a0_1, .int .i64 a0_2, .slice A0_3 l0_3.length c0_3]) (t := 24) ?hr ?_; (case hd => rfl); (case hg => rfl); (case hr => first | (go_simp; done) | (go_simp; rfl)); intro gb270 hg w9 hbox hb; have n0_ := Aside0.mk (below_step (bs0_ HB.out) hb); have n1_ := Aside0.mk (hbox); have n2_ := Aside0.mk ((by rw [hg]; exact (below_size (bs0_ HB.out)) : w.heap.size ≤ gb270)); have n3_ := Aside0.mk ((by rw [hg]; exact (below_size (bs0_ HB.out)) : w.heap.size ≤ gb270)); clear HB; have HB := n0_; have BK270 := n1_; have GW270 := n2_; have GE270 := n3_; clear n0_ n1_ n2_ n3_; clear hb hbox hg; have hcz10_0 : w9.cell? ⟨gb270, 0, none⟩ = some (.int .i64 a0_0) := (blk_cell BK270.out 0).trans rfl; have hcz10_1 : w9.cell? ⟨gb270, 1, none⟩ = some (.string a0_1) := (blk_cell BK270.out 1).trans rfl; have hcz10_2 : w9.cell? ⟨gb270, 2, none⟩ = some (.int .i64 a0_2) := (blk_cell BK270.out 2).trans rfl; have hcz10_3 : w9.cell? ⟨gb270, 3, none⟩ = some (.slice A0_3 l0_3.length c0_3) := (blk_cell BK270.out 3).trans rfl; have hfz10_0 := blk_frozen BK270.out 0; have hfz10_1 := blk_frozen BK270.out 1; have hfz10_2 := blk_frozen BK270.out 2; have hfz10_3 := blk_frozen BK270.out 3) | ((with_reducible refine gate_callee (f := 45) rfl ?_); refine goesL_ (some 14) rfl rfl Tryd.func45 (by kernel_rfl) rfl #[.string a0_1] rfl (by (try simp only [List.map_toArray, List.map_cons, List.map_nil]); first | done | rfl | (simp only [List.length_drop, List.length_take]; rfl)) ?_; (with_reducible refine (vinculumref09_Number.calls k a0_1 t272 _ A8.out).mono ?_); rintro e w' ⟨rfl, ⟨nd, rfl⟩⟩; refine ⟨_, rfl, ?_⟩))
   go_ret
   exact ⟨by first | rfl | (simp [errW_none, errW_some] <;> rfl) | (simp [*, errW_none, errW_some] <;> rfl), bs1_ HB.out GE270.out⟩
  ·rw [if_neg c7] at H
   have c7b0 : (a0_0 == 3) = false := beq_eq_false_iff_ne.mpr c7
   have c7b1 : (a0_0 != 3) = true := bne_iff_ne.mpr c7
   by_cases c11 : a0_0 = 4
   ·rw [if_pos c11] at H
    have c11b0 : (a0_0 == 4) = true := beq_iff_eq.mpr c11
    have c11b1 : (a0_0 != 4) = false := bne_eq_false_iff_eq.mpr c11
    clear c11
    by_cases c12 : (a0_1.size : Int) ≤ 200
    ·rw [if_pos c12] at H
     have c12b0 : decide ((a0_1.size : Int) ≤ 200) = true := decide_eq_true c12
     have c12b1 : decide (a0_1.size ≤ 200) = true := decide_eq_true (by omega)
     clear c12
     replace H := Option.bind_eq_some_iff.mp H
     obtain ⟨t273, A130, H⟩ := H
     replace H : (some t273) = some r := H
     have A13 := Aside0.mk A130
     clear A130
     obtain rfl := Option.some.inj H
     go_enter Tryd.func32, Tryd.ntmps32
     go_wp2_with (first | ((with_reducible refine gate_dst (N := 1) rfl ?_); refine box_event ?hg (N := 1) ?hd (cs := #[.int .i64 a0_0, .string a0_1, .int .i64 a0_2, .slice A0_3 l0_3.length c0_3]) (t := 24) ?hr ?_; (case hd => rfl); (case hg => rfl); (case hr => first | (go_simp; done) | (go_simp; rfl)); intro gb270 hg w14 hbox hb; have n0_ := Aside0.mk (below_step (bs0_ HB.out) hb); have n1_ := Aside0.mk (hbox); have n2_ := Aside0.mk ((by rw [hg]; exact (below_size (bs0_ HB.out)) : w.heap.size ≤ gb270)); have n3_ := Aside0.mk ((by rw [hg]; exact (below_size (bs0_ HB.out)) : w.heap.size ≤ gb270)); clear HB; have HB := n0_; have BK270 := n1_; have GW270 := n2_; have GE270 := n3_; clear n0_ n1_ n2_ n3_; clear hb hbox hg; have hcz15_0 : w14.cell? ⟨gb270, 0, none⟩ = some (.int .i64 a0_0) := (blk_cell BK270.out 0).trans rfl; have hcz15_1 : w14.cell? ⟨gb270, 1, none⟩ = some (.string a0_1) := (blk_cell BK270.out 1).trans rfl; have hcz15_2 : w14.cell? ⟨gb270, 2, none⟩ = some (.int .i64 a0_2) := (blk_cell BK270.out 2).trans rfl; have hcz15_3 : w14.cell? ⟨gb270, 3, none⟩ = some (.slice A0_3 l0_3.length c0_3) := (blk_cell BK270.out 3).trans rfl; have hfz15_0 := blk_frozen BK270.out 0; have hfz15_1 := blk_frozen BK270.out 1; have hfz15_2 := blk_frozen BK270.out 2; have hfz15_3 := blk_frozen BK270.out 3) | (go_at_call 46; (with_reducible refine (vinculumref09_Printable.calls k a0_1 t273 _ A13.out).mono ?_); rintro e w' ⟨rfl, ⟨nd, rfl⟩⟩))
     go_ret
     exact ⟨by first | rfl | (simp [errW_none, errW_some] <;> rfl) | (simp [*, errW_none, errW_some] <;> rfl), bs1_ HB.out GE270.out⟩
    ·rw [if_neg c12] at H
     have c12b0 : decide ((a0_1.size : Int) ≤ 200) = false := decide_eq_false c12
     have c12b1 : decide (a0_1.size ≤ 200) = false := decide_eq_false (by omega)
     clear c12
     obtain rfl := Option.some.inj H
     go_enter Tryd.func32, Tryd.ntmps32
     go_wp2_with (first | ((with_reducible refine gate_dst (N := 1) rfl ?_); refine box_event ?hg (N := 1) ?hd (cs := #[.int .i64 a0_0, .string a0_1, .int .i64 a0_2, .slice A0_3 l0_3.length c0_3]) (t := 24) ?hr ?_; (case hd => rfl); (case hg => rfl); (case hr => first | (go_simp; done) | (go_simp; rfl)); intro gb270 hg w16 hbox hb; have n0_ := Aside0.mk (below_step (bs0_ HB.out) hb); have n1_ := Aside0.mk (hbox); have n2_ := Aside0.mk ((by rw [hg]; exact (below_size (bs0_ HB.out)) : w.heap.size ≤ gb270)); have n3_ := Aside0.mk ((by rw [hg]; exact (below_size (bs0_ HB.out)) : w.heap.size ≤ gb270)); clear HB; have HB := n0_; have BK270 := n1_; have GW270 := n2_; have GE270 := n3_; clear n0_ n1_ n2_ n3_; clear hb hbox hg; have hcz17_0 : w16.cell? ⟨gb270, 0, none⟩ = some (.int .i64 a0_0) := (blk_cell BK270.out 0).trans rfl; have hcz17_1 : w16.cell? ⟨gb270, 1, none⟩ = some (.string a0_1) := (blk_cell BK270.out 1).trans rfl; have hcz17_2 : w16.cell? ⟨gb270, 2, none⟩ = some (.int .i64 a0_2) := (blk_cell BK270.out 2).trans rfl; have hcz17_3 : w16.cell? ⟨gb270, 3, none⟩ = some (.slice A0_3 l0_3.length c0_3) := (blk_cell BK270.out 3).trans rfl; have hfz17_0 := blk_frozen BK270.out 0; have hfz17_1 := blk_frozen BK270.out 1; have hfz17_2 := blk_frozen BK270.out 2; have hfz17_3 := blk_frozen BK270.out 3))
     go_ret
     exact ⟨by first | rfl | (simp [errW_none, errW_some] <;> rfl) | (simp [*, errW_none, errW_some] <;> rfl), bs1_ HB.out GE270.out⟩
   ·rw [if_neg c11] at H
    have c11b0 : (a0_0 == 4) = false := beq_eq_false_iff_ne.mpr c11
    have c11b1 : (a0_0 != 4) = true := bne_iff_ne.mpr c11
    by_cases c18 : a0_0 = 10
    ·rw [if_pos c18] at H
     have c18b0 : (a0_0 == 10) = true := beq_iff_eq.mpr c18
     have c18b1 : (a0_0 != 10) = false := bne_eq_false_iff_eq.mpr c18
     clear c18
     replace H := Option.bind_eq_some_iff.mp H
     obtain ⟨t274, A190, H⟩ := H
     replace H : ((vinculumref09_In.f k t274 a0_1).bind fun t277 => (some t277)) = some r := H
     have A19 := Aside0.mk A190
     clear A190
     replace H := Option.bind_eq_some_iff.mp H
     obtain ⟨t277, A200, H⟩ := H
     replace H : (some t277) = some r := H
     have A20 := Aside0.mk A200
     clear A200
     obtain rfl := Option.some.inj H
     go_enter Tryd.func32, Tryd.ntmps32
     try go_wp2_with (first | ((with_reducible refine gate_dst (N := 1) rfl ?_); refine box_event ?hg (N := 1) ?hd (cs := #[.int .i64 a0_0, .string a0_1, .int .i64 a0_2, .slice A0_3 l0_3.length c0_3]) (t := 24) ?hr ?_; (case hd => rfl); (case hg => rfl); (case hr => first | (go_simp; done) | (go_simp; rfl)); intro gb270 hg w21 hbox hb; have n0_ := Aside0.mk (below_step (bs0_ HB.out) hb); have n1_ := Aside0.mk (hbox); have n2_ := Aside0.mk ((by rw [hg]; exact (below_size (bs0_ HB.out)) : w.heap.size ≤ gb270)); have n3_ := Aside0.mk ((by rw [hg]; exact (below_size (bs0_ HB.out)) : w.heap.size ≤ gb270)); clear HB; have HB := n0_; have BK270 := n1_; have GW270 := n2_; have GE270 := n3_; clear n0_ n1_ n2_ n3_; clear hb hbox hg; have hcz22_0 : w21.cell? ⟨gb270, 0, none⟩ = some (.int .i64 a0_0) := (blk_cell BK270.out 0).trans rfl; have hcz22_1 : w21.cell? ⟨gb270, 1, none⟩ = some (.string a0_1) := (blk_cell BK270.out 1).trans rfl; have hcz22_2 : w21.cell? ⟨gb270, 2, none⟩ = some (.int .i64 a0_2) := (blk_cell BK270.out 2).trans rfl; have hcz22_3 : w21.cell? ⟨gb270, 3, none⟩ = some (.slice A0_3 l0_3.length c0_3) := (blk_cell BK270.out 3).trans rfl; have hfz22_0 := blk_frozen BK270.out 0; have hfz22_1 := blk_frozen BK270.out 1; have hfz22_2 := blk_frozen BK270.out 2; have hfz22_3 := blk_frozen BK270.out 3))
     have n0_ := Aside0.mk (blk_drew BK270.out)
     have n1_ := Aside0.mk (below_drew1 HB.out)
     clear BK270; clear HB
     have BK270 := n0_
     have HB := n1_
     clear n0_ n1_
     refine start_ (n := 5) (S := fun w' => w'.cell? ⟨gb270, 0, none⟩ = some (.int .i64 a0_0) ∧ w'.cell? ⟨gb270, 1, none⟩ = some (.string a0_1) ∧ w'.cell? ⟨gb270, 2, none⟩ = some (.int .i64 a0_2) ∧ w'.cell? ⟨gb270, 3, none⟩ = some (.slice A0_3 l0_3.length c0_3)) (ds := []) #[false, false, false, false, false] (by kernel_rfl) rfl rfl ⟨(blk_cell BK270.out 0).trans rfl, (blk_cell BK270.out 1).trans rfl, (blk_cell BK270.out 2).trans rfl, (blk_cell BK270.out 3).trans rfl⟩ (fun hHeld => ?_)
     generalize w21.drew = w23 at BK270 HB hHeld ⊢
     refine pure_ (i := 1) (N := some 29) (v := ?_) (a' := ?_) (mk_ 5 2) rfl rfl (by kernel_rfl) (fun _ _ _ h => h) (Or.inl ⟨by rfl, ?_⟩) ?_ ?_
     rotate_left; (intro w'; go_simp; with_reducible rfl); rotate_left; (simp only [Act.put, sp1_, sp2_]; rfl)
     refine take_ (i := 2) (N := some 30) (v := ?_) (a' := ?_) (mk_ 5 6) rfl rfl (by kernel_rfl) (fun _ _ _ h => h) (Or.inl ⟨by rfl, ?_⟩) hHeld ?_ ?_
     rotate_left
     ·rintro w' ⟨s0, s1, s2, s3⟩
      go_simp
      with_reducible rfl
     rotate_left; (simp only [Act.put, sp1_, sp2_]; rfl)
     refine one_ (i := 0) (N := some 28) (mk_ 5 7) rfl rfl (by kernel_rfl) (by decide) (fun K hK => ?_)
     refine goes_ Tryd.func48 (by kernel_rfl) rfl #[] (by rfl) rfl rfl (by (try simp only [List.map_toArray, List.map_cons, List.map_nil]); first | done | rfl | (simp only [List.length_drop, List.length_take]; rfl)) ?_
     with_reducible refine (vinculumref09_Accents.calls  t274 _ A19.out).mono ?_
     rintro e w24 ⟨v275, rfl, ho0, hb⟩
     refine ⟨_, rfl, ?_⟩
     have n0_ := Aside0.mk (Kd.R_lower ho0 (below_size (bs1_ HB.out GE270.out)))
     have n1_ := Aside0.mk (blk_below (g := gb270) (o := .cells #[.int .i64 a0_0, .string a0_1, .int .i64 a0_2, .slice A0_3 l0_3.length c0_3] 24 (0, 0)) (bk_ BK270.out) hb)
     have n2_ := Aside0.mk (below_step (bs1_ HB.out GE270.out) hb)
     clear BK270; clear HB
     have HO276 := n0_
     have BK270 := n1_
     have HB := n2_
     clear n0_ n1_ n2_
     (try clear hb)
     (try clear hb2)
     (try clear hk)
     (try clear hi)
     (try clear ho0)
     obtain ⟨Ao25, co25, eo25⟩ := Kd.R_slice HO276.out
     (first | subst eo25 | (injection eo25 with f1_ f2_ f3_; have f4_ := f1_.symm; have f5_ := f3_.symm; clear f1_ f2_ f3_; subst f4_; subst f5_))
     refine hK.out _ _ ⟨(blk_cell BK270.out 0).trans rfl, (blk_cell BK270.out 1).trans rfl, (blk_cell BK270.out 2).trans rfl, (blk_cell BK270.out 3).trans rfl⟩ (fun hHeld => ?_)
     clear hK K
     refine norm_ (a' := ?_) ?_ ?_
     rotate_left
     ·show Act.put _ (some 28) _ = _
      simp only [Act.put, sp1_, sp2_]
      rfl
     refine one_ (i := 3) (N := some 31) (mk_ 5 15) rfl rfl (by kernel_rfl) (by decide) (fun K hK => ?_)
     refine goes_ Tryd.func47 (by kernel_rfl) rfl #[.slice Ao25 t274.length co25, .string a0_1] (by rfl) rfl rfl (by (try simp only [List.map_toArray, List.map_cons, List.map_nil]); first | done | rfl | (simp only [List.length_drop, List.length_take]; rfl)) ?_
     with_reducible refine (vinculumref09_In.calls k _ _ t274 a0_1 t277 _ ?side1 ?side2 A20.out).mono ?_
     (case side1 => repeat (first | exact (Kd.R_reads' HO276.out).2.2 | (with_reducible refine Kd.C_alloc ?_ _) | (with_reducible refine Kd.C_drewN ?_ _) | (with_reducible refine Kd.C_drew ?_)))
     (case side2 => exact (Kd.R_reads' HO276.out).2.1)
     rintro e w' ⟨rfl, ⟨nd, rfl⟩⟩
     refine ⟨_, rfl, ?_⟩
     refine hK.out _ _ ⟨(blk_cell BK270.out 0).trans rfl, (blk_cell BK270.out 1).trans rfl, (blk_cell BK270.out 2).trans rfl, (blk_cell BK270.out 3).trans rfl⟩ (fun hHeld => ?_)
     clear hK K
     refine norm_ (a' := ?_) ?_ ?_
     rotate_left
     ·show Act.put _ (some 31) _ = _
      simp only [Act.put, sp1_, sp2_]
      rfl
     refine pure_ (i := 4) (N := some 2) (v := ?_) (a' := ?_) (mk_ 5 31) rfl rfl (by kernel_rfl) (fun _ _ _ h => h) (Or.inl ⟨by rfl, ?_⟩) ?_ ?_
     rotate_left; (intro w'; go_simp; with_reducible rfl); rotate_left; (simp only [Act.put, sp1_, sp2_]; rfl)
     refine done_ (by kernel_rfl) ?_
     try go_wp2
     go_ret
     exact ⟨by first | rfl | (simp [errW_none, errW_some] <;> rfl) | (simp [*, errW_none, errW_some] <;> rfl), bs1_ HB.out GE270.out⟩
    ·rw [if_neg c18] at H
     have c18b0 : (a0_0 == 10) = false := beq_eq_false_iff_ne.mpr c18
     have c18b1 : (a0_0 != 10) = true := bne_iff_ne.mpr c18
     by_cases c26 : a0_0 = 11
     ·rw [if_pos c26] at H
      have c26b0 : (a0_0 == 11) = true := beq_iff_eq.mpr c26
      have c26b1 : (a0_0 != 11) = false := bne_eq_false_iff_eq.mpr c26
      clear c26
      by_cases c27 : (a0_1.size : Int) = 2
      ·rw [if_pos c27] at H
       have c27b0 : ((a0_1.size : Int) == 2) = true := beq_iff_eq.mpr c27
       have c27b1 : ((a0_1.size : Int) != 2) = false := bne_eq_false_iff_eq.mpr c27
       clear c27
       by_cases c28 : 0 < (a0_1.size : Int)
       case neg =>
        rw [if_neg c28] at H
        exact absurd H (by simp)
       rw [if_pos c28] at H
       have c28b0 : decide (0 < (a0_1.size : Int)) = true := decide_eq_true c28
       have c28b1 : decide (0 < a0_1.size) = true := decide_eq_true (by omega)
       clear c28
       replace H := Option.bind_eq_some_iff.mp H
       obtain ⟨t278, A300, H⟩ := H
       replace H : (if t278 = true then (if 1 < (a0_1.size : Int) then ((vinculumref09_has.f k (⟨#[40, 41, 91, 93, 123, 125, 124, 60, 62, 47, 46]⟩ : ByteArray) (bt a0_1 1)).bind fun t279 => (some t279)) else (none)) else (some false)) = some r := H
       have A30 := Aside0.mk A300
       clear A300
       by_cases c31 : t278 = true
       ·subst c31
        have H1 : (if 1 < (a0_1.size : Int) then ((vinculumref09_has.f k (⟨#[40, 41, 91, 93, 123, 125, 124, 60, 62, 47, 46]⟩ : ByteArray) (bt a0_1 1)).bind fun t279 => (some t279)) else (none)) = some r := by rw [if_pos rfl] at H; exact H
        clear H
        have H := H1
        clear H1
        by_cases c32 : 1 < (a0_1.size : Int)
        case neg =>
         rw [if_neg c32] at H
         exact absurd H (by simp)
        rw [if_pos c32] at H
        have c32b0 : decide (1 < (a0_1.size : Int)) = true := decide_eq_true c32
        have c32b1 : decide (1 < a0_1.size) = true := decide_eq_true (by omega)
        clear c32
        replace H := Option.bind_eq_some_iff.mp H
        obtain ⟨t279, A340, H⟩ := H
        replace H : (some t279) = some r := H
        have A34 := Aside0.mk A340
        clear A340
        obtain rfl := Option.some.inj H
        go_enter Tryd.func32, Tryd.ntmps32
        go_wp2_with (first | ((with_reducible refine gate_dst (N := 1) rfl ?_); refine box_event ?hg (N := 1) ?hd (cs := #[.int .i64 a0_0, .string a0_1, .int .i64 a0_2, .slice A0_3 l0_3.length c0_3]) (t := 24) ?hr ?_; (case hd => rfl); (case hg => rfl); (case hr => first | (go_simp; done) | (go_simp; rfl)); intro gb270 hg w35 hbox hb; have n0_ := Aside0.mk (below_step (bs0_ HB.out) hb); have n1_ := Aside0.mk (hbox); have n2_ := Aside0.mk ((by rw [hg]; exact (below_size (bs0_ HB.out)) : w.heap.size ≤ gb270)); have n3_ := Aside0.mk ((by rw [hg]; exact (below_size (bs0_ HB.out)) : w.heap.size ≤ gb270)); clear HB; have HB := n0_; have BK270 := n1_; have GW270 := n2_; have GE270 := n3_; clear n0_ n1_ n2_ n3_; clear hb hbox hg; have hcz36_0 : w35.cell? ⟨gb270, 0, none⟩ = some (.int .i64 a0_0) := (blk_cell BK270.out 0).trans rfl; have hcz36_1 : w35.cell? ⟨gb270, 1, none⟩ = some (.string a0_1) := (blk_cell BK270.out 1).trans rfl; have hcz36_2 : w35.cell? ⟨gb270, 2, none⟩ = some (.int .i64 a0_2) := (blk_cell BK270.out 2).trans rfl; have hcz36_3 : w35.cell? ⟨gb270, 3, none⟩ = some (.slice A0_3 l0_3.length c0_3) := (blk_cell BK270.out 3).trans rfl; have hfz36_0 := blk_frozen BK270.out 0; have hfz36_1 := blk_frozen BK270.out 1; have hfz36_2 := blk_frozen BK270.out 2; have hfz36_3 := blk_frozen BK270.out 3; have p29 : 0 ≤ (0 : Int) := (by omega); have q29 : 0 < a0_1.size := (by have : (0 : Int) < (a0_1.size : Int) := of_decide_eq_true (by first | (with_reducible assumption) | assumption); omega); have hx29 : ∀ h : 0 < a0_1.size, ((a0_1[0]'h).toNat : Int) = bt a0_1 0 := bt_at a0_1 0; clear p29; have qi29 : (0 < (a0_1.size : Int)) = True := eq_true (of_decide_eq_true (by first | (with_reducible assumption) | assumption)); replace q29 := eq_true q29) | (go_at_call 49; (with_reducible refine (vinculumref09_has.calls k (⟨#[40, 41, 91, 93, 123, 125, 124, 60, 62, 47, 46]⟩ : ByteArray) (bt a0_1 0) true _ A30.out).mono ?_); rintro e w' ⟨rfl, ⟨nd, rfl⟩⟩; have p33 : 0 ≤ (1 : Int) := (by omega); have q33 : 1 < a0_1.size := (by have : (1 : Int) < (a0_1.size : Int) := of_decide_eq_true (by first | (with_reducible assumption) | assumption); omega); have hx33 : ∀ h : 1 < a0_1.size, ((a0_1[1]'h).toNat : Int) = bt a0_1 1 := bt_at a0_1 1; clear p33; have qi33 : (1 < (a0_1.size : Int)) = True := eq_true (of_decide_eq_true (by first | (with_reducible assumption) | assumption)); replace q33 := eq_true q33) | (go_at_call 49; (with_reducible refine (vinculumref09_has.calls k (⟨#[40, 41, 91, 93, 123, 125, 124, 60, 62, 47, 46]⟩ : ByteArray) (bt a0_1 1) t279 _ A34.out).mono ?_); rintro e w' ⟨rfl, ⟨nd, rfl⟩⟩))
        go_ret
        exact ⟨by first | rfl | (simp [errW_none, errW_some] <;> rfl) | (simp [*, errW_none, errW_some] <;> rfl), bs1_ HB.out GE270.out⟩
       ·replace c31 := Bool.eq_false_iff.mpr c31
        subst c31
        have H1 : (some false) = some r := by rw [if_neg (show ¬ (false = true) by decide)] at H; exact H
        clear H
        have H := H1
        clear H1
        obtain rfl := Option.some.inj H
        go_enter Tryd.func32, Tryd.ntmps32
        go_wp2_with (first | ((with_reducible refine gate_dst (N := 1) rfl ?_); refine box_event ?hg (N := 1) ?hd (cs := #[.int .i64 a0_0, .string a0_1, .int .i64 a0_2, .slice A0_3 l0_3.length c0_3]) (t := 24) ?hr ?_; (case hd => rfl); (case hg => rfl); (case hr => first | (go_simp; done) | (go_simp; rfl)); intro gb270 hg w37 hbox hb; have n0_ := Aside0.mk (below_step (bs0_ HB.out) hb); have n1_ := Aside0.mk (hbox); have n2_ := Aside0.mk ((by rw [hg]; exact (below_size (bs0_ HB.out)) : w.heap.size ≤ gb270)); have n3_ := Aside0.mk ((by rw [hg]; exact (below_size (bs0_ HB.out)) : w.heap.size ≤ gb270)); clear HB; have HB := n0_; have BK270 := n1_; have GW270 := n2_; have GE270 := n3_; clear n0_ n1_ n2_ n3_; clear hb hbox hg; have hcz38_0 : w37.cell? ⟨gb270, 0, none⟩ = some (.int .i64 a0_0) := (blk_cell BK270.out 0).trans rfl; have hcz38_1 : w37.cell? ⟨gb270, 1, none⟩ = some (.string a0_1) := (blk_cell BK270.out 1).trans rfl; have hcz38_2 : w37.cell? ⟨gb270, 2, none⟩ = some (.int .i64 a0_2) := (blk_cell BK270.out 2).trans rfl; have hcz38_3 : w37.cell? ⟨gb270, 3, none⟩ = some (.slice A0_3 l0_3.length c0_3) := (blk_cell BK270.out 3).trans rfl; have hfz38_0 := blk_frozen BK270.out 0; have hfz38_1 := blk_frozen BK270.out 1; have hfz38_2 := blk_frozen BK270.out 2; have hfz38_3 := blk_frozen BK270.out 3; have p29 : 0 ≤ (0 : Int) := (by omega); have q29 : 0 < a0_1.size := (by have : (0 : Int) < (a0_1.size : Int) := of_decide_eq_true (by first | (with_reducible assumption) | assumption); omega); have hx29 : ∀ h : 0 < a0_1.size, ((a0_1[0]'h).toNat : Int) = bt a0_1 0 := bt_at a0_1 0; clear p29; have qi29 : (0 < (a0_1.size : Int)) = True := eq_true (of_decide_eq_true (by first | (with_reducible assumption) | assumption)); replace q29 := eq_true q29) | (go_at_call 49; (with_reducible refine (vinculumref09_has.calls k (⟨#[40, 41, 91, 93, 123, 125, 124, 60, 62, 47, 46]⟩ : ByteArray) (bt a0_1 0) false _ A30.out).mono ?_); rintro e w' ⟨rfl, ⟨nd, rfl⟩⟩))
        go_ret
        exact ⟨by first | rfl | (simp [errW_none, errW_some] <;> rfl) | (simp [*, errW_none, errW_some] <;> rfl), bs1_ HB.out GE270.out⟩
      ·rw [if_neg c27] at H
       have c27b0 : ((a0_1.size : Int) == 2) = false := beq_eq_false_iff_ne.mpr c27
       have c27b1 : ((a0_1.size : Int) != 2) = true := bne_iff_ne.mpr c27
       obtain rfl := Option.some.inj H
       go_enter Tryd.func32, Tryd.ntmps32
       go_wp2_with (first | ((with_reducible refine gate_dst (N := 1) rfl ?_); refine box_event ?hg (N := 1) ?hd (cs := #[.int .i64 a0_0, .string a0_1, .int .i64 a0_2, .slice A0_3 l0_3.length c0_3]) (t := 24) ?hr ?_; (case hd => rfl); (case hg => rfl); (case hr => first | (go_simp; done) | (go_simp; rfl)); intro gb270 hg w39 hbox hb; have n0_ := Aside0.mk (below_step (bs0_ HB.out) hb); have n1_ := Aside0.mk (hbox); have n2_ := Aside0.mk ((by rw [hg]; exact (below_size (bs0_ HB.out)) : w.heap.size ≤ gb270)); have n3_ := Aside0.mk ((by rw [hg]; exact (below_size (bs0_ HB.out)) : w.heap.size ≤ gb270)); clear HB; have HB := n0_; have BK270 := n1_; have GW270 := n2_; have GE270 := n3_; clear n0_ n1_ n2_ n3_; clear hb hbox hg; have hcz40_0 : w39.cell? ⟨gb270, 0, none⟩ = some (.int .i64 a0_0) := (blk_cell BK270.out 0).trans rfl; have hcz40_1 : w39.cell? ⟨gb270, 1, none⟩ = some (.string a0_1) := (blk_cell BK270.out 1).trans rfl; have hcz40_2 : w39.cell? ⟨gb270, 2, none⟩ = some (.int .i64 a0_2) := (blk_cell BK270.out 2).trans rfl; have hcz40_3 : w39.cell? ⟨gb270, 3, none⟩ = some (.slice A0_3 l0_3.length c0_3) := (blk_cell BK270.out 3).trans rfl; have hfz40_0 := blk_frozen BK270.out 0; have hfz40_1 := blk_frozen BK270.out 1; have hfz40_2 := blk_frozen BK270.out 2; have hfz40_3 := blk_frozen BK270.out 3))
       go_ret
       exact ⟨by first | rfl | (simp [errW_none, errW_some] <;> rfl) | (simp [*, errW_none, errW_some] <;> rfl), bs1_ HB.out GE270.out⟩
     ·rw [if_neg c26] at H
      have c26b0 : (a0_0 == 11) = false := beq_eq_false_iff_ne.mpr c26
      have c26b1 : (a0_0 != 11) = true := bne_iff_ne.mpr c26
      obtain rfl := Option.some.inj H
      go_enter Tryd.func32, Tryd.ntmps32
      go_wp2_with (first | ((with_reducible refine gate_dst (N := 1) rfl ?_); refine box_event ?hg (N := 1) ?hd (cs := #[.int .i64 a0_0, .string a0_1, .int .i64 a0_2, .slice A0_3 l0_3.length c0_3]) (t := 24) ?hr ?_; (case hd => rfl); (case hg => rfl); (case hr => first | (go_simp; done) | (go_simp; rfl)); intro gb270 hg w41 hbox hb; have n0_ := Aside0.mk (below_step (bs0_ HB.out) hb); have n1_ := Aside0.mk (hbox); have n2_ := Aside0.mk ((by rw [hg]; exact (below_size (bs0_ HB.out)) : w.heap.size ≤ gb270)); have n3_ := Aside0.mk ((by rw [hg]; exact (below_size (bs0_ HB.out)) : w.heap.size ≤ gb270)); clear HB; have HB := n0_; have BK270 := n1_; have GW270 := n2_; have GE270 := n3_; clear n0_ n1_ n2_ n3_; clear hb hbox hg; have hcz42_0 : w41.cell? ⟨gb270, 0, none⟩ = some (.int .i64 a0_0) := (blk_cell BK270.out 0).trans rfl; have hcz42_1 : w41.cell? ⟨gb270, 1, none⟩ = some (.string a0_1) := (blk_cell BK270.out 1).trans rfl; have hcz42_2 : w41.cell? ⟨gb270, 2, none⟩ = some (.int .i64 a0_2) := (blk_cell BK270.out 2).trans rfl; have hcz42_3 : w41.cell? ⟨gb270, 3, none⟩ = some (.slice A0_3 l0_3.length c0_3) := (blk_cell BK270.out 3).trans rfl; have hfz42_0 := blk_frozen BK270.out 0; have hfz42_1 := blk_frozen BK270.out 1; have hfz42_2 := blk_frozen BK270.out 2; have hfz42_3 := blk_frozen BK270.out 3))
      go_ret
      exact ⟨by first | rfl | (simp [errW_none, errW_some] <;> rfl) | (simp [*, errW_none, errW_some] <;> rfl), bs1_ HB.out GE270.out⟩

mutual
def vinculumref09_kids.j0 : Nat → Int → Int → Bool → Option (Bool)
 | 0, _, _, _ => none
 | k + 1, x3, x37, x42 => if x42 = true then (some (x3 == 0)) else (if x37 = 5 then (vinculumref09_kids.j1 k x3 x37 (x37 == 5)) else (if x37 = 6 then (vinculumref09_kids.j1 k x3 x37 (x37 == 6)) else (if x37 = 7 then (vinculumref09_kids.j1 k x3 x37 (x37 == 7)) else (vinculumref09_kids.j1 k x3 x37 (x37 == 8)))))
def vinculumref09_kids.j1 : Nat → Int → Int → Bool → Option (Bool)
 | 0, _, _, _ => none
 | k + 1, x3, x37, x48 => if x48 = true then (some (x3 == 2)) else (if x37 = 9 then (some (x3 == 3)) else (if x37 = 10 then (some (x3 == 1)) else (if x37 = 11 then (some (x3 == 1)) else (some false))))
end
def vinculumref09_kids.f (k : Nat) (a0_0 : Int) (a0_1 : ByteArray) (a0_2 : Int) (l0_3 : List (S24)) : Option (Bool) := if a0_0 = 12 then (if a0_2 ≥ 1 then (if a0_2 ≤ 16 then (if (l0_3.length : Int) ≥ 1 then (if (l0_3.length : Int) ≤ 256 then (if a0_2 = 0 then (none) else (some (((l0_3.length : Int) % a0_2) == 0))) else (some false)) else (some false)) else (some false)) else (some false)) else (if a0_2 = 0 then (if a0_0 = 1 then (some (decide ((l0_3.length : Int) ≤ 200))) else (if a0_0 = 2 then (vinculumref09_kids.j0 k (l0_3.length : Int) a0_0 (a0_0 == 2)) else (if a0_0 = 3 then (vinculumref09_kids.j0 k (l0_3.length : Int) a0_0 (a0_0 == 3)) else (vinculumref09_kids.j0 k (l0_3.length : Int) a0_0 (a0_0 == 4))))) else (some false))
theorem vinculumref09_kids.mono_l : ∀ k, (∀ y0 y1 y2, LeO (vinculumref09_kids.j0 k y0 y1 y2) (vinculumref09_kids.j0 (k + 1) y0 y1 y2)) ∧ (∀ y0 y1 y2, LeO (vinculumref09_kids.j1 k y0 y1 y2) (vinculumref09_kids.j1 (k + 1) y0 y1 y2))
 | 0 => ⟨fun _ _ _ r h => by simp [vinculumref09_kids.j0] at h, fun _ _ _ r h => by simp [vinculumref09_kids.j1] at h⟩
 | k + 1 => by
  obtain ⟨ih0, ih1⟩ := vinculumref09_kids.mono_l k
  refine ⟨?_, ?_⟩
  ·intro y0 y1 y2
   unfold vinculumref09_kids.j0
   repeat' first
   | (with_reducible exact ih0 _ _ _)
   | (with_reducible exact ih1 _ _ _)
   | (with_reducible exact LeO.refl _)
   | (with_reducible exact LeO.none _)
   | (with_reducible refine LeO.ite ?_ ?_)
   | (with_reducible refine LeO.bind ?_ (fun _ => ?_))
   | exact ih0 _ _ _
   | exact ih1 _ _ _
   | exact LeO.none _
   | refine LeO.ite ?_ ?_
   | refine LeO.bind ?_ (fun _ => ?_)
  ·intro y0 y1 y2
   unfold vinculumref09_kids.j1
   repeat' first
   | (with_reducible exact ih0 _ _ _)
   | (with_reducible exact ih1 _ _ _)
   | (with_reducible exact LeO.refl _)
   | (with_reducible exact LeO.none _)
   | (with_reducible refine LeO.ite ?_ ?_)
   | (with_reducible refine LeO.bind ?_ (fun _ => ?_))
   | exact ih0 _ _ _
   | exact ih1 _ _ _
   | exact LeO.none _
   | refine LeO.ite ?_ ?_
   | refine LeO.bind ?_ (fun _ => ?_)
theorem vinculumref09_kids.mono : ∀ a0 a1 a2 a3 k, LeO (vinculumref09_kids.f k a0 a1 a2 a3) (vinculumref09_kids.f (k + 1) a0 a1 a2 a3) := by
 intro a0 a1 a2 a3 k
 obtain ⟨ih0, ih1⟩ := vinculumref09_kids.mono_l k
 unfold vinculumref09_kids.f
 repeat' first
   | (with_reducible exact ih0 _ _ _)
   | (with_reducible exact ih1 _ _ _)
   | (with_reducible exact LeO.refl _)
   | (with_reducible exact LeO.none _)
   | (with_reducible refine LeO.ite ?_ ?_)
   | (with_reducible refine LeO.bind ?_ (fun _ => ?_))
   | exact ih0 _ _ _
   | exact ih1 _ _ _
   | exact LeO.none _
   | refine LeO.ite ?_ ?_
   | refine LeO.bind ?_ (fun _ => ?_)
set_option maxHeartbeats 8000000 in
set_option maxRecDepth 100000 in
theorem vinculumref09_kids.calls (k : Nat) (a0_0 : Int) (a0_1 : ByteArray) (a0_2 : Int) (A0_3 : Option Addr) (c0_3 : Nat) (l0_3 : List (S24)) (r : Bool) (w : World) (hr0_3 : Kd.C k24 w A0_3 l0_3.length l0_3) (hc0_3 : l0_3.length ≤ c0_3) (h : vinculumref09_kids.f k a0_0 a0_1 a0_2 l0_3 = some r) :
  Calls Tryd.prog 33 #[.agg #[.int .i64 a0_0, .string a0_1, .int .i64 a0_2, .slice A0_3 l0_3.length c0_3]] w fun e w' => e = .returned (.bool r) ∧ Below w.heap.size w w' := by
 have hu24 := Tryd.underlying24
 have HR0_3 := Aside0.mk hr0_3
 have HC0_3 := Aside0.mk hc0_3
 clear hr0_3 hc0_3
 have HB := Aside0.mk (Below.refl w.heap.size w)
 have H : (if a0_0 = 12 then (if a0_2 ≥ 1 then (if a0_2 ≤ 16 then (if (l0_3.length : Int) ≥ 1 then (if (l0_3.length : Int) ≤ 256 then (if a0_2 = 0 then (none) else (some (((l0_3.length : Int) % a0_2) == 0))) else (some false)) else (some false)) else (some false)) else (some false)) else (if a0_2 = 0 then (if a0_0 = 1 then (some (decide ((l0_3.length : Int) ≤ 200))) else (if a0_0 = 2 then (vinculumref09_kids.j0 k (l0_3.length : Int) a0_0 (a0_0 == 2)) else (if a0_0 = 3 then (vinculumref09_kids.j0 k (l0_3.length : Int) a0_0 (a0_0 == 3)) else (vinculumref09_kids.j0 k (l0_3.length : Int) a0_0 (a0_0 == 4))))) else (some false))) = some r := h
 clear h
 by_cases c2 : a0_0 = 12
 ·rw [if_pos c2] at H
  have c2b0 : (a0_0 == 12) = true := beq_iff_eq.mpr c2
  have c2b1 : (a0_0 != 12) = false := bne_eq_false_iff_eq.mpr c2
  clear c2
  by_cases c3 : a0_2 ≥ 1
  ·rw [if_pos c3] at H
   have c3b0 : decide (1 ≤ a0_2) = true := decide_eq_true c3
   clear c3
   by_cases c4 : a0_2 ≤ 16
   ·rw [if_pos c4] at H
    have c4b0 : decide (a0_2 ≤ 16) = true := decide_eq_true c4
    clear c4
    by_cases c5 : (l0_3.length : Int) ≥ 1
    ·rw [if_pos c5] at H
     have c5b0 : decide (1 ≤ (l0_3.length : Int)) = true := decide_eq_true c5
     have c5b1 : decide (1 ≤ l0_3.length) = true := decide_eq_true (by omega)
     clear c5
     by_cases c6 : (l0_3.length : Int) ≤ 256
     ·rw [if_pos c6] at H
      have c6b0 : decide ((l0_3.length : Int) ≤ 256) = true := decide_eq_true c6
      have c6b1 : decide (l0_3.length ≤ 256) = true := decide_eq_true (by omega)
      clear c6
      by_cases c7 : a0_2 = 0
      ·rw [if_pos c7] at H
       exact absurd H (by simp)
      ·rw [if_neg c7] at H
       have c7b0 : (a0_2 == 0) = false := beq_eq_false_iff_ne.mpr c7
       have c7b1 : (a0_2 != 0) = true := bne_iff_ne.mpr c7
       obtain rfl := Option.some.inj H
       go_enter Tryd.func33, Tryd.ntmps33
       go_wp2_with (first | ((with_reducible refine gate_dst (N := 1) rfl ?_); refine box_event ?hg (N := 1) ?hd (cs := #[.int .i64 a0_0, .string a0_1, .int .i64 a0_2, .slice A0_3 l0_3.length c0_3]) (t := 24) ?hr ?_; (case hd => rfl); (case hg => rfl); (case hr => first | (go_simp; done) | (go_simp; rfl)); intro gb280 hg w8 hbox hb; have n0_ := Aside0.mk (below_step (bs0_ HB.out) hb); have n1_ := Aside0.mk (hbox); have n2_ := Aside0.mk ((by rw [hg]; exact (below_size (bs0_ HB.out)) : w.heap.size ≤ gb280)); have n3_ := Aside0.mk ((by rw [hg]; exact (below_size (bs0_ HB.out)) : w.heap.size ≤ gb280)); clear HB; have HB := n0_; have BK280 := n1_; have GW280 := n2_; have GE280 := n3_; clear n0_ n1_ n2_ n3_; clear hb hbox hg; have hcz9_0 : w8.cell? ⟨gb280, 0, none⟩ = some (.int .i64 a0_0) := (blk_cell BK280.out 0).trans rfl; have hcz9_1 : w8.cell? ⟨gb280, 1, none⟩ = some (.string a0_1) := (blk_cell BK280.out 1).trans rfl; have hcz9_2 : w8.cell? ⟨gb280, 2, none⟩ = some (.int .i64 a0_2) := (blk_cell BK280.out 2).trans rfl; have hcz9_3 : w8.cell? ⟨gb280, 3, none⟩ = some (.slice A0_3 l0_3.length c0_3) := (blk_cell BK280.out 3).trans rfl; have hfz9_0 := blk_frozen BK280.out 0; have hfz9_1 := blk_frozen BK280.out 1; have hfz9_2 := blk_frozen BK280.out 2; have hfz9_3 := blk_frozen BK280.out 3))
       go_ret
       exact ⟨by first | rfl | (simp [errW_none, errW_some] <;> rfl) | (simp [*, errW_none, errW_some] <;> rfl), bs1_ HB.out GE280.out⟩
     ·rw [if_neg c6] at H
      have c6b0 : decide ((l0_3.length : Int) ≤ 256) = false := decide_eq_false c6
      have c6b1 : decide (l0_3.length ≤ 256) = false := decide_eq_false (by omega)
      clear c6
      obtain rfl := Option.some.inj H
      go_enter Tryd.func33, Tryd.ntmps33
      go_wp2_with (first | ((with_reducible refine gate_dst (N := 1) rfl ?_); refine box_event ?hg (N := 1) ?hd (cs := #[.int .i64 a0_0, .string a0_1, .int .i64 a0_2, .slice A0_3 l0_3.length c0_3]) (t := 24) ?hr ?_; (case hd => rfl); (case hg => rfl); (case hr => first | (go_simp; done) | (go_simp; rfl)); intro gb280 hg w10 hbox hb; have n0_ := Aside0.mk (below_step (bs0_ HB.out) hb); have n1_ := Aside0.mk (hbox); have n2_ := Aside0.mk ((by rw [hg]; exact (below_size (bs0_ HB.out)) : w.heap.size ≤ gb280)); have n3_ := Aside0.mk ((by rw [hg]; exact (below_size (bs0_ HB.out)) : w.heap.size ≤ gb280)); clear HB; have HB := n0_; have BK280 := n1_; have GW280 := n2_; have GE280 := n3_; clear n0_ n1_ n2_ n3_; clear hb hbox hg; have hcz11_0 : w10.cell? ⟨gb280, 0, none⟩ = some (.int .i64 a0_0) := (blk_cell BK280.out 0).trans rfl; have hcz11_1 : w10.cell? ⟨gb280, 1, none⟩ = some (.string a0_1) := (blk_cell BK280.out 1).trans rfl; have hcz11_2 : w10.cell? ⟨gb280, 2, none⟩ = some (.int .i64 a0_2) := (blk_cell BK280.out 2).trans rfl; have hcz11_3 : w10.cell? ⟨gb280, 3, none⟩ = some (.slice A0_3 l0_3.length c0_3) := (blk_cell BK280.out 3).trans rfl; have hfz11_0 := blk_frozen BK280.out 0; have hfz11_1 := blk_frozen BK280.out 1; have hfz11_2 := blk_frozen BK280.out 2; have hfz11_3 := blk_frozen BK280.out 3))
      go_ret
      exact ⟨by first | rfl | (simp [errW_none, errW_some] <;> rfl) | (simp [*, errW_none, errW_some] <;> rfl), bs1_ HB.out GE280.out⟩
    ·rw [if_neg c5] at H
     have c5b0 : decide (1 ≤ (l0_3.length : Int)) = false := decide_eq_false c5
     have c5b1 : decide (1 ≤ l0_3.length) = false := decide_eq_false (by omega)
     clear c5
     obtain rfl := Option.some.inj H
     go_enter Tryd.func33, Tryd.ntmps33
     go_wp2_with (first | ((with_reducible refine gate_dst (N := 1) rfl ?_); refine box_event ?hg (N := 1) ?hd (cs := #[.int .i64 a0_0, .string a0_1, .int .i64 a0_2, .slice A0_3 l0_3.length c0_3]) (t := 24) ?hr ?_; (case hd => rfl); (case hg => rfl); (case hr => first | (go_simp; done) | (go_simp; rfl)); intro gb280 hg w12 hbox hb; have n0_ := Aside0.mk (below_step (bs0_ HB.out) hb); have n1_ := Aside0.mk (hbox); have n2_ := Aside0.mk ((by rw [hg]; exact (below_size (bs0_ HB.out)) : w.heap.size ≤ gb280)); have n3_ := Aside0.mk ((by rw [hg]; exact (below_size (bs0_ HB.out)) : w.heap.size ≤ gb280)); clear HB; have HB := n0_; have BK280 := n1_; have GW280 := n2_; have GE280 := n3_; clear n0_ n1_ n2_ n3_; clear hb hbox hg; have hcz13_0 : w12.cell? ⟨gb280, 0, none⟩ = some (.int .i64 a0_0) := (blk_cell BK280.out 0).trans rfl; have hcz13_1 : w12.cell? ⟨gb280, 1, none⟩ = some (.string a0_1) := (blk_cell BK280.out 1).trans rfl; have hcz13_2 : w12.cell? ⟨gb280, 2, none⟩ = some (.int .i64 a0_2) := (blk_cell BK280.out 2).trans rfl; have hcz13_3 : w12.cell? ⟨gb280, 3, none⟩ = some (.slice A0_3 l0_3.length c0_3) := (blk_cell BK280.out 3).trans rfl; have hfz13_0 := blk_frozen BK280.out 0; have hfz13_1 := blk_frozen BK280.out 1; have hfz13_2 := blk_frozen BK280.out 2; have hfz13_3 := blk_frozen BK280.out 3))
     go_ret
     exact ⟨by first | rfl | (simp [errW_none, errW_some] <;> rfl) | (simp [*, errW_none, errW_some] <;> rfl), bs1_ HB.out GE280.out⟩
   ·rw [if_neg c4] at H
    have c4b0 : decide (a0_2 ≤ 16) = false := decide_eq_false c4
    clear c4
    obtain rfl := Option.some.inj H
    go_enter Tryd.func33, Tryd.ntmps33
    go_wp2_with (first | ((with_reducible refine gate_dst (N := 1) rfl ?_); refine box_event ?hg (N := 1) ?hd (cs := #[.int .i64 a0_0, .string a0_1, .int .i64 a0_2, .slice A0_3 l0_3.length c0_3]) (t := 24) ?hr ?_; (case hd => rfl); (case hg => rfl); (case hr => first | (go_simp; done) | (go_simp; rfl)); intro gb280 hg w14 hbox hb; have n0_ := Aside0.mk (below_step (bs0_ HB.out) hb); have n1_ := Aside0.mk (hbox); have n2_ := Aside0.mk ((by rw [hg]; exact (below_size (bs0_ HB.out)) : w.heap.size ≤ gb280)); have n3_ := Aside0.mk ((by rw [hg]; exact (below_size (bs0_ HB.out)) : w.heap.size ≤ gb280)); clear HB; have HB := n0_; have BK280 := n1_; have GW280 := n2_; have GE280 := n3_; clear n0_ n1_ n2_ n3_; clear hb hbox hg; have hcz15_0 : w14.cell? ⟨gb280, 0, none⟩ = some (.int .i64 a0_0) := (blk_cell BK280.out 0).trans rfl; have hcz15_1 : w14.cell? ⟨gb280, 1, none⟩ = some (.string a0_1) := (blk_cell BK280.out 1).trans rfl; have hcz15_2 : w14.cell? ⟨gb280, 2, none⟩ = some (.int .i64 a0_2) := (blk_cell BK280.out 2).trans rfl; have hcz15_3 : w14.cell? ⟨gb280, 3, none⟩ = some (.slice A0_3 l0_3.length c0_3) := (blk_cell BK280.out 3).trans rfl; have hfz15_0 := blk_frozen BK280.out 0; have hfz15_1 := blk_frozen BK280.out 1; have hfz15_2 := blk_frozen BK280.out 2; have hfz15_3 := blk_frozen BK280.out 3))
    go_ret
    exact ⟨by first | rfl | (simp [errW_none, errW_some] <;> rfl) | (simp [*, errW_none, errW_some] <;> rfl), bs1_ HB.out GE280.out⟩
  ·rw [if_neg c3] at H
   have c3b0 : decide (1 ≤ a0_2) = false := decide_eq_false c3
   clear c3
   obtain rfl := Option.some.inj H
   go_enter Tryd.func33, Tryd.ntmps33
   go_wp2_with (first | ((with_reducible refine gate_dst (N := 1) rfl ?_); refine box_event ?hg (N := 1) ?hd (cs := #[.int .i64 a0_0, .string a0_1, .int .i64 a0_2, .slice A0_3 l0_3.length c0_3]) (t := 24) ?hr ?_; (case hd => rfl); (case hg => rfl); (case hr => first | (go_simp; done) | (go_simp; rfl)); intro gb280 hg w16 hbox hb; have n0_ := Aside0.mk (below_step (bs0_ HB.out) hb); have n1_ := Aside0.mk (hbox); have n2_ := Aside0.mk ((by rw [hg]; exact (below_size (bs0_ HB.out)) : w.heap.size ≤ gb280)); have n3_ := Aside0.mk ((by rw [hg]; exact (below_size (bs0_ HB.out)) : w.heap.size ≤ gb280)); clear HB; have HB := n0_; have BK280 := n1_; have GW280 := n2_; have GE280 := n3_; clear n0_ n1_ n2_ n3_; clear hb hbox hg; have hcz17_0 : w16.cell? ⟨gb280, 0, none⟩ = some (.int .i64 a0_0) := (blk_cell BK280.out 0).trans rfl; have hcz17_1 : w16.cell? ⟨gb280, 1, none⟩ = some (.string a0_1) := (blk_cell BK280.out 1).trans rfl; have hcz17_2 : w16.cell? ⟨gb280, 2, none⟩ = some (.int .i64 a0_2) := (blk_cell BK280.out 2).trans rfl; have hcz17_3 : w16.cell? ⟨gb280, 3, none⟩ = some (.slice A0_3 l0_3.length c0_3) := (blk_cell BK280.out 3).trans rfl; have hfz17_0 := blk_frozen BK280.out 0; have hfz17_1 := blk_frozen BK280.out 1; have hfz17_2 := blk_frozen BK280.out 2; have hfz17_3 := blk_frozen BK280.out 3))
   go_ret
   exact ⟨by first | rfl | (simp [errW_none, errW_some] <;> rfl) | (simp [*, errW_none, errW_some] <;> rfl), bs1_ HB.out GE280.out⟩
 ·rw [if_neg c2] at H
  have c2b0 : (a0_0 == 12) = false := beq_eq_false_iff_ne.mpr c2
  have c2b1 : (a0_0 != 12) = true := bne_iff_ne.mpr c2
  by_cases c18 : a0_2 = 0
  ·rw [if_pos c18] at H
   have c18b0 : (a0_2 == 0) = true := beq_iff_eq.mpr c18
   have c18b1 : (a0_2 != 0) = false := bne_eq_false_iff_eq.mpr c18
   clear c18
   by_cases c19 : a0_0 = 1
   ·rw [if_pos c19] at H
    have c19b0 : (a0_0 == 1) = true := beq_iff_eq.mpr c19
    have c19b1 : (a0_0 != 1) = false := bne_eq_false_iff_eq.mpr c19
    clear c19
    obtain rfl := Option.some.inj H
    go_enter Tryd.func33, Tryd.ntmps33
    go_wp2_with (first | ((with_reducible refine gate_dst (N := 1) rfl ?_); refine box_event ?hg (N := 1) ?hd (cs := #[.int .i64 a0_0, .string a0_1, .int .i64 a0_2, .slice A0_3 l0_3.length c0_3]) (t := 24) ?hr ?_; (case hd => rfl); (case hg => rfl); (case hr => first | (go_simp; done) | (go_simp; rfl)); intro gb280 hg w20 hbox hb; have n0_ := Aside0.mk (below_step (bs0_ HB.out) hb); have n1_ := Aside0.mk (hbox); have n2_ := Aside0.mk ((by rw [hg]; exact (below_size (bs0_ HB.out)) : w.heap.size ≤ gb280)); have n3_ := Aside0.mk ((by rw [hg]; exact (below_size (bs0_ HB.out)) : w.heap.size ≤ gb280)); clear HB; have HB := n0_; have BK280 := n1_; have GW280 := n2_; have GE280 := n3_; clear n0_ n1_ n2_ n3_; clear hb hbox hg; have hcz21_0 : w20.cell? ⟨gb280, 0, none⟩ = some (.int .i64 a0_0) := (blk_cell BK280.out 0).trans rfl; have hcz21_1 : w20.cell? ⟨gb280, 1, none⟩ = some (.string a0_1) := (blk_cell BK280.out 1).trans rfl; have hcz21_2 : w20.cell? ⟨gb280, 2, none⟩ = some (.int .i64 a0_2) := (blk_cell BK280.out 2).trans rfl; have hcz21_3 : w20.cell? ⟨gb280, 3, none⟩ = some (.slice A0_3 l0_3.length c0_3) := (blk_cell BK280.out 3).trans rfl; have hfz21_0 := blk_frozen BK280.out 0; have hfz21_1 := blk_frozen BK280.out 1; have hfz21_2 := blk_frozen BK280.out 2; have hfz21_3 := blk_frozen BK280.out 3))
    go_ret
    exact ⟨by first | rfl | (simp [errW_none, errW_some] <;> rfl) | (simp [*, errW_none, errW_some] <;> rfl), bs1_ HB.out GE280.out⟩
   ·rw [if_neg c19] at H
    have c19b0 : (a0_0 == 1) = false := beq_eq_false_iff_ne.mpr c19
    have c19b1 : (a0_0 != 1) = true := bne_iff_ne.mpr c19
    have HC22 := Aside0.mk H
    clear H
    go_enter Tryd.func33, Tryd.ntmps33
    go_upto_if 42 with (first | ((with_reducible refine gate_dst (N := 1) rfl ?_); refine box_event ?hg (N := 1) ?hd (cs := #[.int .i64 a0_0, .string a0_1, .int .i64 a0_2, .slice A0_3 l0_3.length c0_3]) (t := 24) ?hr ?_; (case hd => rfl); (case hg => rfl); (case hr => first | (go_simp; done) | (go_simp; rfl)); intro gb280 hg w23 hbox hb; have n0_ := Aside0.mk (below_step (bs0_ HB.out) hb); have n1_ := Aside0.mk (hbox); have n2_ := Aside0.mk ((by rw [hg]; exact (below_size (bs0_ HB.out)) : w.heap.size ≤ gb280)); have n3_ := Aside0.mk ((by rw [hg]; exact (below_size (bs0_ HB.out)) : w.heap.size ≤ gb280)); clear HB; have HB := n0_; have BK280 := n1_; have GW280 := n2_; have GE280 := n3_; clear n0_ n1_ n2_ n3_; clear hb hbox hg; have hcz24_0 : w23.cell? ⟨gb280, 0, none⟩ = some (.int .i64 a0_0) := (blk_cell BK280.out 0).trans rfl; have hcz24_1 : w23.cell? ⟨gb280, 1, none⟩ = some (.string a0_1) := (blk_cell BK280.out 1).trans rfl; have hcz24_2 : w23.cell? ⟨gb280, 2, none⟩ = some (.int .i64 a0_2) := (blk_cell BK280.out 2).trans rfl; have hcz24_3 : w23.cell? ⟨gb280, 3, none⟩ = some (.slice A0_3 l0_3.length c0_3) := (blk_cell BK280.out 3).trans rfl; have hfz24_0 := blk_frozen BK280.out 0; have hfz24_1 := blk_frozen BK280.out 1; have hfz24_2 := blk_frozen BK280.out 2; have hfz24_3 := blk_frozen BK280.out 3))
    (try simp only [Act.put, List.setIfInBounds_toArray, List.set_cons_zero, List.set_cons_succ])
    go_cut [42] (fun v42 wc => ∃ (kq : Nat) (x42_21 : Bool), v42 = .bool x42_21 ∧ Aside0 (vinculumref09_kids.j0 kq (l0_3.length : Int) a0_0 x42_21 = some r) ∧ Aside0 (kq ≤ k) ∧ Aside0 (wc.heap[gb280]? = some (.cells #[.int .i64 a0_0, .string a0_1, .int .i64 a0_2, (.slice A0_3 l0_3.length c0_3)] 24 (0, 0))) ∧ Aside0 (Below w.heap.size w wc))
    case first =>
     have H := HC22.out
     clear HC22
     by_cases c25 : a0_0 = 2
     ·rw [if_pos c25] at H
      have c25b0 : (a0_0 == 2) = true := beq_iff_eq.mpr c25
      have c25b1 : (a0_0 != 2) = false := bne_eq_false_iff_eq.mpr c25
      clear c25
      (first | rw [c25b0] | (simp only [i64_w, i32_w]; rw [c25b0]) | skip)
      have H' := Aside0.mk H
      clear H
      go_wp2
      go_meet
      case rel => exact ⟨_, ((a0_0 == 2)), (by first | rfl | (simp; done) | (simp [*]; done)), H', ⟨by first | omega | exact Nat.le_refl _⟩, ⟨bk_ BK280.out⟩, ⟨bs1_ HB.out GE280.out⟩⟩
     ·rw [if_neg c25] at H
      have c25b0 : (a0_0 == 2) = false := beq_eq_false_iff_ne.mpr c25
      have c25b1 : (a0_0 != 2) = true := bne_iff_ne.mpr c25
      (first | rw [c25b0] | (simp only [i64_w, i32_w]; rw [c25b0]) | skip)
      by_cases c26 : a0_0 = 3
      ·rw [if_pos c26] at H
       have c26b0 : (a0_0 == 3) = true := beq_iff_eq.mpr c26
       have c26b1 : (a0_0 != 3) = false := bne_eq_false_iff_eq.mpr c26
       clear c26
       have H' := Aside0.mk H
       clear H
       go_wp2
       go_meet
       case rel => exact ⟨_, ((a0_0 == 3)), (by first | rfl | (simp; done) | (simp [*]; done)), H', ⟨by first | omega | exact Nat.le_refl _⟩, ⟨bk_ BK280.out⟩, ⟨bs1_ HB.out GE280.out⟩⟩
      ·rw [if_neg c26] at H
       have c26b0 : (a0_0 == 3) = false := beq_eq_false_iff_ne.mpr c26
       have c26b1 : (a0_0 != 3) = true := bne_iff_ne.mpr c26
       have H' := Aside0.mk H
       clear H
       go_wp2
       go_meet
       case rel => exact ⟨_, ((a0_0 == 4)), (by first | rfl | (simp; done) | (simp [*]; done)), H', ⟨by first | omega | exact Nat.le_refl _⟩, ⟨bk_ BK280.out⟩, ⟨bs1_ HB.out GE280.out⟩⟩
    case rest =>
     clear HC22; (try clear c1); (try clear c2); (try clear c2b0); (try clear c2b1); (try clear p2); (try clear c3); (try clear c3b0); (try clear c4); (try clear c4b0); (try clear c5); (try clear c5b0); (try clear c5b1); (try clear c6); (try clear c6b0); (try clear c6b1); (try clear c7); (try clear c7b0); (try clear c7b1); (try clear c18); (try clear c18b0); (try clear c18b1); (try clear c19); (try clear c19b0); (try clear c19b1); (try clear c25); (try clear c25b0); (try clear c25b1); (try clear c26); (try clear c26b0); (try clear c26b1); (try clear hcz11_0); (try clear hcz11_1); (try clear hcz11_2); (try clear hcz11_3); (try clear hcz13_0); (try clear hcz13_1); (try clear hcz13_2); (try clear hcz13_3); (try clear hcz15_0); (try clear hcz15_1); (try clear hcz15_2); (try clear hcz15_3); (try clear hcz17_0); (try clear hcz17_1); (try clear hcz17_2); (try clear hcz17_3); (try clear hcz21_0); (try clear hcz21_1); (try clear hcz21_2); (try clear hcz21_3); (try clear hcz24_0); (try clear hcz24_1); (try clear hcz24_2); (try clear hcz24_3); (try clear hcz9_0); (try clear hcz9_1); (try clear hcz9_2); (try clear hcz9_3); (try clear hfz11_0); (try clear hfz11_1); (try clear hfz11_2); (try clear hfz11_3); (try clear hfz13_0); (try clear hfz13_1); (try clear hfz13_2); (try clear hfz13_3); (try clear hfz15_0); (try clear hfz15_1); (try clear hfz15_2); (try clear hfz15_3); (try clear hfz17_0); (try clear hfz17_1); (try clear hfz17_2); (try clear hfz17_3); (try clear hfz21_0); (try clear hfz21_1); (try clear hfz21_2); (try clear hfz21_3); (try clear hfz24_0); (try clear hfz24_1); (try clear hfz24_2); (try clear hfz24_3); (try clear hfz9_0); (try clear hfz9_1); (try clear hfz9_2); (try clear hfz9_3)
     obtain ⟨kq, x42_21, rfl, HA, HJ21, BK280, HB⟩ := hcut
     cases kq with
     | zero => exact absurd HA.out (by simp [vinculumref09_kids.j0])
     | succ kj21 =>
      have H := HA.out
      clear HA
      simp only [vinculumref09_kids.j0] at H
      by_cases c27 : x42_21 = true
      ·subst c27
       have H1 : (some ((l0_3.length : Int) == 0)) = some r := by rw [if_pos rfl] at H; exact H
       clear H
       have H := H1
       clear H1
       obtain rfl := Option.some.inj H
       go_wp2
       go_ret
       exact ⟨by first | rfl | (simp [errW_none, errW_some] <;> rfl) | (simp [*, errW_none, errW_some] <;> rfl), bs1_ HB.out GE280.out⟩
      ·replace c27 := Bool.eq_false_iff.mpr c27
       subst c27
       have H1 : (if a0_0 = 5 then (vinculumref09_kids.j1 kj21 (l0_3.length : Int) a0_0 (a0_0 == 5)) else (if a0_0 = 6 then (vinculumref09_kids.j1 kj21 (l0_3.length : Int) a0_0 (a0_0 == 6)) else (if a0_0 = 7 then (vinculumref09_kids.j1 kj21 (l0_3.length : Int) a0_0 (a0_0 == 7)) else (vinculumref09_kids.j1 kj21 (l0_3.length : Int) a0_0 (a0_0 == 8))))) = some r := by rw [if_neg (show ¬ (false = true) by decide)] at H; exact H
       clear H
       have H := H1
       clear H1
       have HC28 := Aside0.mk H
       clear H
       go_upto_if 48 with (fail)
       go_cut [48] (fun v48 wc => ∃ (kq : Nat) (x48_27 : Bool), v48 = .bool x48_27 ∧ Aside0 (vinculumref09_kids.j1 kq (l0_3.length : Int) a0_0 x48_27 = some r) ∧ Aside0 (kq ≤ kj21) ∧ Aside0 (wc.heap[gb280]? = some (.cells #[.int .i64 a0_0, .string a0_1, .int .i64 a0_2, (.slice A0_3 l0_3.length c0_3)] 24 (0, 0))) ∧ Aside0 (Below w.heap.size w wc))
       case first =>
        have H := HC28.out
        clear HC28
        by_cases c29 : a0_0 = 5
        ·rw [if_pos c29] at H
         have c29b0 : (a0_0 == 5) = true := beq_iff_eq.mpr c29
         have c29b1 : (a0_0 != 5) = false := bne_eq_false_iff_eq.mpr c29
         clear c29
         (first | rw [c29b0] | (simp only [i64_w, i32_w]; rw [c29b0]) | skip)
         have H' := Aside0.mk H
         clear H
         go_wp2
         go_meet
         case rel => exact ⟨_, ((a0_0 == 5)), (by first | rfl | (simp; done) | (simp [*]; done)), H', ⟨by have := HJ21.out; first | omega | exact Nat.le_refl _⟩, ⟨bk_ BK280.out⟩, ⟨bs1_ HB.out GE280.out⟩⟩
        ·rw [if_neg c29] at H
         have c29b0 : (a0_0 == 5) = false := beq_eq_false_iff_ne.mpr c29
         have c29b1 : (a0_0 != 5) = true := bne_iff_ne.mpr c29
         (first | rw [c29b0] | (simp only [i64_w, i32_w]; rw [c29b0]) | skip)
         by_cases c30 : a0_0 = 6
         ·rw [if_pos c30] at H
          have c30b0 : (a0_0 == 6) = true := beq_iff_eq.mpr c30
          have c30b1 : (a0_0 != 6) = false := bne_eq_false_iff_eq.mpr c30
          clear c30
          have H' := Aside0.mk H
          clear H
          go_wp2
          go_meet
          case rel => exact ⟨_, ((a0_0 == 6)), (by first | rfl | (simp; done) | (simp [*]; done)), H', ⟨by have := HJ21.out; first | omega | exact Nat.le_refl _⟩, ⟨bk_ BK280.out⟩, ⟨bs1_ HB.out GE280.out⟩⟩
         ·rw [if_neg c30] at H
          have c30b0 : (a0_0 == 6) = false := beq_eq_false_iff_ne.mpr c30
          have c30b1 : (a0_0 != 6) = true := bne_iff_ne.mpr c30
          by_cases c31 : a0_0 = 7
          ·rw [if_pos c31] at H
           have c31b0 : (a0_0 == 7) = true := beq_iff_eq.mpr c31
           have c31b1 : (a0_0 != 7) = false := bne_eq_false_iff_eq.mpr c31
           clear c31
           have H' := Aside0.mk H
           clear H
           go_wp2
           go_meet
           case rel => exact ⟨_, ((a0_0 == 7)), (by first | rfl | (simp; done) | (simp [*]; done)), H', ⟨by have := HJ21.out; first | omega | exact Nat.le_refl _⟩, ⟨bk_ BK280.out⟩, ⟨bs1_ HB.out GE280.out⟩⟩
          ·rw [if_neg c31] at H
           have c31b0 : (a0_0 == 7) = false := beq_eq_false_iff_ne.mpr c31
           have c31b1 : (a0_0 != 7) = true := bne_iff_ne.mpr c31
           have H' := Aside0.mk H
           clear H
           go_wp2
           go_meet
           case rel => exact ⟨_, ((a0_0 == 8)), (by first | rfl | (simp; done) | (simp [*]; done)), H', ⟨by have := HJ21.out; first | omega | exact Nat.le_refl _⟩, ⟨bk_ BK280.out⟩, ⟨bs1_ HB.out GE280.out⟩⟩
       case rest =>
        clear HC28; (try clear c1); (try clear c2); (try clear c2b0); (try clear c2b1); (try clear p2); (try clear c3); (try clear c3b0); (try clear c4); (try clear c4b0); (try clear c5); (try clear c5b0); (try clear c5b1); (try clear c6); (try clear c6b0); (try clear c6b1); (try clear c7); (try clear c7b0); (try clear c7b1); (try clear c18); (try clear c18b0); (try clear c18b1); (try clear c19); (try clear c19b0); (try clear c19b1); (try clear c25); (try clear c25b0); (try clear c25b1); (try clear c26); (try clear c26b0); (try clear c26b1); (try clear c27); (try clear c29); (try clear c29b0); (try clear c29b1); (try clear c30); (try clear c30b0); (try clear c30b1); (try clear c31); (try clear c31b0); (try clear c31b1); (try clear hcz11_0); (try clear hcz11_1); (try clear hcz11_2); (try clear hcz11_3); (try clear hcz13_0); (try clear hcz13_1); (try clear hcz13_2); (try clear hcz13_3); (try clear hcz15_0); (try clear hcz15_1); (try clear hcz15_2); (try clear hcz15_3); (try clear hcz17_0); (try clear hcz17_1); (try clear hcz17_2); (try clear hcz17_3); (try clear hcz21_0); (try clear hcz21_1); (try clear hcz21_2); (try clear hcz21_3); (try clear hcz24_0); (try clear hcz24_1); (try clear hcz24_2); (try clear hcz24_3); (try clear hcz9_0); (try clear hcz9_1); (try clear hcz9_2); (try clear hcz9_3); (try clear hfz11_0); (try clear hfz11_1); (try clear hfz11_2); (try clear hfz11_3); (try clear hfz13_0); (try clear hfz13_1); (try clear hfz13_2); (try clear hfz13_3); (try clear hfz15_0); (try clear hfz15_1); (try clear hfz15_2); (try clear hfz15_3); (try clear hfz17_0); (try clear hfz17_1); (try clear hfz17_2); (try clear hfz17_3); (try clear hfz21_0); (try clear hfz21_1); (try clear hfz21_2); (try clear hfz21_3); (try clear hfz24_0); (try clear hfz24_1); (try clear hfz24_2); (try clear hfz24_3); (try clear hfz9_0); (try clear hfz9_1); (try clear hfz9_2); (try clear hfz9_3); (try clear p2)
        obtain ⟨kq, x48_27, rfl, HA, HJ27, BK280, HB⟩ := hcut
        cases kq with
        | zero => exact absurd HA.out (by simp [vinculumref09_kids.j1])
        | succ kj27 =>
         have H := HA.out
         clear HA
         simp only [vinculumref09_kids.j1] at H
         by_cases c32 : x48_27 = true
         ·subst c32
          have H1 : (some ((l0_3.length : Int) == 2)) = some r := by rw [if_pos rfl] at H; exact H
          clear H
          have H := H1
          clear H1
          obtain rfl := Option.some.inj H
          go_wp2
          go_ret
          exact ⟨by first | rfl | (simp [errW_none, errW_some] <;> rfl) | (simp [*, errW_none, errW_some] <;> rfl), bs1_ HB.out GE280.out⟩
         ·replace c32 := Bool.eq_false_iff.mpr c32
          subst c32
          have H1 : (if a0_0 = 9 then (some ((l0_3.length : Int) == 3)) else (if a0_0 = 10 then (some ((l0_3.length : Int) == 1)) else (if a0_0 = 11 then (some ((l0_3.length : Int) == 1)) else (some false)))) = some r := by rw [if_neg (show ¬ (false = true) by decide)] at H; exact H
          clear H
          have H := H1
          clear H1
          by_cases c33 : a0_0 = 9
          ·rw [if_pos c33] at H
           have c33b0 : (a0_0 == 9) = true := beq_iff_eq.mpr c33
           have c33b1 : (a0_0 != 9) = false := bne_eq_false_iff_eq.mpr c33
           clear c33
           obtain rfl := Option.some.inj H
           go_wp2
           go_ret
           exact ⟨by first | rfl | (simp [errW_none, errW_some] <;> rfl) | (simp [*, errW_none, errW_some] <;> rfl), bs1_ HB.out GE280.out⟩
          ·rw [if_neg c33] at H
           have c33b0 : (a0_0 == 9) = false := beq_eq_false_iff_ne.mpr c33
           have c33b1 : (a0_0 != 9) = true := bne_iff_ne.mpr c33
           by_cases c34 : a0_0 = 10
           ·rw [if_pos c34] at H
            have c34b0 : (a0_0 == 10) = true := beq_iff_eq.mpr c34
            have c34b1 : (a0_0 != 10) = false := bne_eq_false_iff_eq.mpr c34
            clear c34
            obtain rfl := Option.some.inj H
            go_wp2
            go_ret
            exact ⟨by first | rfl | (simp [errW_none, errW_some] <;> rfl) | (simp [*, errW_none, errW_some] <;> rfl), bs1_ HB.out GE280.out⟩
           ·rw [if_neg c34] at H
            have c34b0 : (a0_0 == 10) = false := beq_eq_false_iff_ne.mpr c34
            have c34b1 : (a0_0 != 10) = true := bne_iff_ne.mpr c34
            by_cases c35 : a0_0 = 11
            ·rw [if_pos c35] at H
             have c35b0 : (a0_0 == 11) = true := beq_iff_eq.mpr c35
             have c35b1 : (a0_0 != 11) = false := bne_eq_false_iff_eq.mpr c35
             clear c35
             obtain rfl := Option.some.inj H
             go_wp2
             go_ret
             exact ⟨by first | rfl | (simp [errW_none, errW_some] <;> rfl) | (simp [*, errW_none, errW_some] <;> rfl), bs1_ HB.out GE280.out⟩
            ·rw [if_neg c35] at H
             have c35b0 : (a0_0 == 11) = false := beq_eq_false_iff_ne.mpr c35
             have c35b1 : (a0_0 != 11) = true := bne_iff_ne.mpr c35
             obtain rfl := Option.some.inj H
             go_wp2
             go_ret
             exact ⟨by first | rfl | (simp [errW_none, errW_some] <;> rfl) | (simp [*, errW_none, errW_some] <;> rfl), bs1_ HB.out GE280.out⟩
  ·rw [if_neg c18] at H
   have c18b0 : (a0_2 == 0) = false := beq_eq_false_iff_ne.mpr c18
   have c18b1 : (a0_2 != 0) = true := bne_iff_ne.mpr c18
   obtain rfl := Option.some.inj H
   go_enter Tryd.func33, Tryd.ntmps33
   go_wp2_with (first | ((with_reducible refine gate_dst (N := 1) rfl ?_); refine box_event ?hg (N := 1) ?hd (cs := #[.int .i64 a0_0, .string a0_1, .int .i64 a0_2, .slice A0_3 l0_3.length c0_3]) (t := 24) ?hr ?_; (case hd => rfl); (case hg => rfl); (case hr => first | (go_simp; done) | (go_simp; rfl)); intro gb280 hg w36 hbox hb; have n0_ := Aside0.mk (below_step (bs0_ HB.out) hb); have n1_ := Aside0.mk (hbox); have n2_ := Aside0.mk ((by rw [hg]; exact (below_size (bs0_ HB.out)) : w.heap.size ≤ gb280)); have n3_ := Aside0.mk ((by rw [hg]; exact (below_size (bs0_ HB.out)) : w.heap.size ≤ gb280)); clear HB; have HB := n0_; have BK280 := n1_; have GW280 := n2_; have GE280 := n3_; clear n0_ n1_ n2_ n3_; clear hb hbox hg; have hcz37_0 : w36.cell? ⟨gb280, 0, none⟩ = some (.int .i64 a0_0) := (blk_cell BK280.out 0).trans rfl; have hcz37_1 : w36.cell? ⟨gb280, 1, none⟩ = some (.string a0_1) := (blk_cell BK280.out 1).trans rfl; have hcz37_2 : w36.cell? ⟨gb280, 2, none⟩ = some (.int .i64 a0_2) := (blk_cell BK280.out 2).trans rfl; have hcz37_3 : w36.cell? ⟨gb280, 3, none⟩ = some (.slice A0_3 l0_3.length c0_3) := (blk_cell BK280.out 3).trans rfl; have hfz37_0 := blk_frozen BK280.out 0; have hfz37_1 := blk_frozen BK280.out 1; have hfz37_2 := blk_frozen BK280.out 2; have hfz37_3 := blk_frozen BK280.out 3))
   go_ret
   exact ⟨by first | rfl | (simp [errW_none, errW_some] <;> rfl) | (simp [*, errW_none, errW_some] <;> rfl), bs1_ HB.out GE280.out⟩

end Go.Proofs.YtihchehmkhnhaaaDoor.A
/- Made for this claim by a program of the session: the Go functions' plain twins and their contracts. Lean checks it. -/
namespace Go.Proofs.YtihchehmkhnhaaaDoor.A
open Go.RowKit Go.Proofs.YtihchehmkhnhaaaDoorW.PrintWords Go.Proofs.YtihchehmkhnhaaaDoorW.PrintLast Go.Proofs.YtihchehmkhnhaaaDoorW.PrintMore
attribute [local go_sem] max2_int min2_int max_two min_two max_three min_three max_four min_four   -- for this text's walks alone
set_option linter.unusedVariables false
set_option linter.unusedSimpArgs false

mutual
def vinculumref09_form.j0 : Nat → Bool → Int → ByteArray → Int → List (S24) → Option (Bool)
 | 0, _, _, _, _, _ => none
 | k + 1, x11, x282000, x282001, x282002, x282003 => if x11 = true then (some false) else (vinculumref09_form.l0 k 0 x282000 x282001 x282002 x282003)
def vinculumref09_form.l0 : Nat → Int → Int → ByteArray → Int → List (S24) → Option (Bool)
 | 0, _, _, _, _, _ => none
 | k + 1, x3, x282000, x282001, x282002, x282003 => if x3 < (x282003.length : Int) then (if 0 ≤ x3 then (if ((((rd_T24 x282003 x3).f0) == 1) == (x282000 == 1)) = true then (some false) else ((vinculumref09_form.f k ((rd_T24 x282003 x3).f0) ((rd_T24 x282003 x3).f1) ((rd_T24 x282003 x3).f2) ((rd_T24 x282003 x3).f3)).bind fun t286 => (if t286 = true then (vinculumref09_form.l0 k (wrap64 (x3 + 1)) x282000 x282001 x282002 x282003) else (some false)))) else (none)) else (some true)
def vinculumref09_form.f : Nat → Int → ByteArray → Int → List (S24) → Option (Bool)
 | 0, _, _, _, _ => none
 | k + 1, a0_0, a0_1, a0_2, l0_3 => (vinculumref09_text.f k a0_0 a0_1 a0_2 l0_3).bind fun t282 => (if t282 = true then ((vinculumref09_kids.f k a0_0 a0_1 a0_2 l0_3).bind fun t283 => (vinculumref09_form.j0 k (!t283) a0_0 a0_1 a0_2 l0_3)) else (vinculumref09_form.j0 k true a0_0 a0_1 a0_2 l0_3))
end
theorem vinculumref09_form.mono_l : ∀ k, (∀ y0 y1 y2 y3, LeO (vinculumref09_form.f k y0 y1 y2 y3) (vinculumref09_form.f (k + 1) y0 y1 y2 y3)) ∧ (∀ y0 y1 y2 y3 y4, LeO (vinculumref09_form.j0 k y0 y1 y2 y3 y4) (vinculumref09_form.j0 (k + 1) y0 y1 y2 y3 y4)) ∧ (∀ y0 y1 y2 y3 y4, LeO (vinculumref09_form.l0 k y0 y1 y2 y3 y4) (vinculumref09_form.l0 (k + 1) y0 y1 y2 y3 y4))
 | 0 => ⟨fun _ _ _ _ r h => by simp [vinculumref09_form.f] at h, fun _ _ _ _ _ r h => by simp [vinculumref09_form.j0] at h, fun _ _ _ _ _ r h => by simp [vinculumref09_form.l0] at h⟩
 | k + 1 => by
  obtain ⟨ih0, ih1, ih2⟩ := vinculumref09_form.mono_l k
  refine ⟨?_, ?_, ?_⟩
  ·intro y0 y1 y2 y3
   unfold vinculumref09_form.f
   repeat' first
   | (with_reducible exact ih0 _ _ _ _)
   | (with_reducible exact ih1 _ _ _ _ _)
   | (with_reducible exact ih2 _ _ _ _ _)
   | (with_reducible exact vinculumref09_kids.mono _ _ _ _ _)
   | (with_reducible exact vinculumref09_text.mono _ _ _ _ _)
   | (with_reducible exact LeO.refl _)
   | (with_reducible exact LeO.none _)
   | (with_reducible refine LeO.ite ?_ ?_)
   | (with_reducible refine LeO.bind ?_ (fun _ => ?_))
   | exact ih0 _ _ _ _
   | exact ih1 _ _ _ _ _
   | exact ih2 _ _ _ _ _
   | exact vinculumref09_kids.mono _ _ _ _ _
   | exact vinculumref09_text.mono _ _ _ _ _
   | exact LeO.none _
   | refine LeO.ite ?_ ?_
   | refine LeO.bind ?_ (fun _ => ?_)
  ·intro y0 y1 y2 y3 y4
   unfold vinculumref09_form.j0
   repeat' first
   | (with_reducible exact ih0 _ _ _ _)
   | (with_reducible exact ih1 _ _ _ _ _)
   | (with_reducible exact ih2 _ _ _ _ _)
   | (with_reducible exact vinculumref09_kids.mono _ _ _ _ _)
   | (with_reducible exact vinculumref09_text.mono _ _ _ _ _)
   | (with_reducible exact LeO.refl _)
   | (with_reducible exact LeO.none _)
   | (with_reducible refine LeO.ite ?_ ?_)
   | (with_reducible refine LeO.bind ?_ (fun _ => ?_))
   | exact ih0 _ _ _ _
   | exact ih1 _ _ _ _ _
   | exact ih2 _ _ _ _ _
   | exact vinculumref09_kids.mono _ _ _ _ _
   | exact vinculumref09_text.mono _ _ _ _ _
   | exact LeO.none _
   | refine LeO.ite ?_ ?_
   | refine LeO.bind ?_ (fun _ => ?_)
  ·intro y0 y1 y2 y3 y4
   unfold vinculumref09_form.l0
   repeat' first
   | (with_reducible exact ih0 _ _ _ _)
   | (with_reducible exact ih1 _ _ _ _ _)
   | (with_reducible exact ih2 _ _ _ _ _)
   | (with_reducible exact vinculumref09_kids.mono _ _ _ _ _)
   | (with_reducible exact vinculumref09_text.mono _ _ _ _ _)
   | (with_reducible exact LeO.refl _)
   | (with_reducible exact LeO.none _)
   | (with_reducible refine LeO.ite ?_ ?_)
   | (with_reducible refine LeO.bind ?_ (fun _ => ?_))
   | exact ih0 _ _ _ _
   | exact ih1 _ _ _ _ _
   | exact ih2 _ _ _ _ _
   | exact vinculumref09_kids.mono _ _ _ _ _
   | exact vinculumref09_text.mono _ _ _ _ _
   | exact LeO.none _
   | refine LeO.ite ?_ ?_
   | refine LeO.bind ?_ (fun _ => ?_)
theorem vinculumref09_form.mono : ∀ a0 a1 a2 a3 k, LeO (vinculumref09_form.f k a0 a1 a2 a3) (vinculumref09_form.f (k + 1) a0 a1 a2 a3) := by
 intro a0 a1 a2 a3 k
 obtain ⟨ih0, ih1, ih2⟩ := vinculumref09_form.mono_l k
 exact ih0 a0 a1 a2 a3
def vinculumref09_form.T6 : Bool × List (List Nat × List Nat) := (true, [([], []), ([0], [0]), ([], []), ([1, 2], [1, 2]), ([3], [3]), ([4], [4]), ([5], [5]), ([], []), ([7], [7]), ([8], [8]), ([6, 9], [6, 9]), ([10], [10]), ([11], [11]), ([12, 11], [11, 12]), ([11], [11]), ([13, 14, 11], [11, 13, 14]), ([15, 11], [11, 15]), ([16, 11, 11], [11, 16]), ([17, 11], [11, 17]), ([11, 18], [11, 18])])
def vinculumref09_form.B6 : List Nat := [0, 1, 0, 7, 15, 31, 63, 0, 128, 384, 1023, 2047, 4095, 8191, 4095, 32767, 65535, 131071, 262143, 524287]
theorem vinculumref09_form.tab6 : rtab .any (opsOf Tryd.f22 6) = vinculumref09_form.T6 := by kernel_rfl
theorem vinculumref09_form.bits6 : waitsOk vinculumref09_form.T6.2 vinculumref09_form.B6 = true := by kernel_rfl
set_option maxHeartbeats 8000000 in
set_option maxRecDepth 100000 in
theorem vinculumref09_form.calls (k : Nat) : ∀ (a0_0 : Int) (a0_1 : ByteArray) (a0_2 : Int) (A0_3 : Option Addr) (c0_3 : Nat) (l0_3 : List (S24)) (r : Bool) (w : World) (hr0_3 : Kd.C k24 w A0_3 l0_3.length l0_3) (hc0_3 : l0_3.length ≤ c0_3) (h : vinculumref09_form.f k a0_0 a0_1 a0_2 l0_3 = some r),
  Calls Tryd.prog 22 #[.agg #[.int .i64 a0_0, .string a0_1, .int .i64 a0_2, .slice A0_3 l0_3.length c0_3]] w fun e w' => e = .returned (.bool r) ∧ Below w.heap.size w w' := by
 induction k using Nat.strongRecOn with
 | _ k ih =>
 intro a0_0 a0_1 a0_2 A0_3 c0_3 l0_3 r w hr0_3 hc0_3 h
 cases k with
 | zero => exact absurd h (by simp [vinculumref09_form.f])
 | succ k =>
 simp only [vinculumref09_form.f] at h
 have hu24 := Tryd.underlying24
 have HR0_3 := Aside0.mk hr0_3
 have HC0_3 := Aside0.mk hc0_3
 clear hr0_3 hc0_3
 have HB := Aside0.mk (Below.refl w.heap.size w)
 have H : ((vinculumref09_text.f k a0_0 a0_1 a0_2 l0_3).bind fun t282 => (if t282 = true then ((vinculumref09_kids.f k a0_0 a0_1 a0_2 l0_3).bind fun t283 => (vinculumref09_form.j0 k (!t283) a0_0 a0_1 a0_2 l0_3)) else (vinculumref09_form.j0 k true a0_0 a0_1 a0_2 l0_3))) = some r := h
 clear h
 have HC2 := Aside0.mk H
 clear H
 go_enter Tryd.func22, Tryd.ntmps22
 go_upto_region 1 with (first | ((with_reducible refine gate_dst (N := 1) rfl ?_); refine box_event ?hg (N := 1) ?hd (cs := #[.int .i64 a0_0, .string a0_1, .int .i64 a0_2, .slice A0_3 l0_3.length c0_3]) (t := 24) ?hr ?_; (case hd => rfl); (case hg => rfl); (case hr => first | (go_simp; done) | (go_simp; rfl)); intro gb281 hg w3 hbox hb; have n0_ := Aside0.mk (below_step (bs0_ HB.out) hb); have n1_ := Aside0.mk (hbox); have n2_ := Aside0.mk ((by rw [hg]; exact (below_size (bs0_ HB.out)) : w.heap.size ≤ gb281)); have n3_ := Aside0.mk ((by rw [hg]; exact (below_size (bs0_ HB.out)) : w.heap.size ≤ gb281)); clear HB; have HB := n0_; have BK281 := n1_; have GW281 := n2_; have GE281 := n3_; clear n0_ n1_ n2_ n3_; clear hb hbox hg))
 (try simp only [Act.put, List.setIfInBounds_toArray, List.set_cons_zero, List.set_cons_succ])
 go_cut [11] (fun v11 wc => ∃ (kq : Nat) (x11_1 : Bool), v11 = .bool x11_1 ∧ Aside0 (vinculumref09_form.j0 kq x11_1 a0_0 a0_1 a0_2 l0_3 = some r) ∧ Aside0 (kq ≤ k) ∧ Aside0 (wc.heap[gb281]? = some (.cells #[.int .i64 a0_0, .string a0_1, .int .i64 a0_2, (.slice A0_3 l0_3.length c0_3)] 24 (0, 0))) ∧ Aside0 (Below w.heap.size w wc))
 case first =>
  have H := HC2.out
  clear HC2
  replace H := Option.bind_eq_some_iff.mp H
  obtain ⟨t282, A40, H⟩ := H
  replace H : (if t282 = true then ((vinculumref09_kids.f k a0_0 a0_1 a0_2 l0_3).bind fun t283 => (vinculumref09_form.j0 k (!t283) a0_0 a0_1 a0_2 l0_3)) else (vinculumref09_form.j0 k true a0_0 a0_1 a0_2 l0_3)) = some r := H
  have A4 := Aside0.mk A40
  clear A40
  by_cases c5 : t282 = true
  ·subst c5
   have H1 : ((vinculumref09_kids.f k a0_0 a0_1 a0_2 l0_3).bind fun t283 => (vinculumref09_form.j0 k (!t283) a0_0 a0_1 a0_2 l0_3)) = some r := by rw [if_pos rfl] at H; exact H
   clear H
   have H := H1
   clear H1
   replace H := Option.bind_eq_some_iff.mp H
   obtain ⟨t283, A60, H⟩ := H
   replace H : (vinculumref09_form.j0 k (!t283) a0_0 a0_1 a0_2 l0_3) = some r := H
   have A6 := Aside0.mk A60
   clear A60
   have H' := Aside0.mk H
   clear H
   have hcz7_0 : w3.cell? ⟨gb281, 0, none⟩ = some (.int .i64 a0_0) := (blk_cell BK281.out 0).trans rfl
   have hcz7_1 : w3.cell? ⟨gb281, 1, none⟩ = some (.string a0_1) := (blk_cell BK281.out 1).trans rfl
   have hcz7_2 : w3.cell? ⟨gb281, 2, none⟩ = some (.int .i64 a0_2) := (blk_cell BK281.out 2).trans rfl
   have hcz7_3 : w3.cell? ⟨gb281, 3, none⟩ = some (.slice A0_3 l0_3.length c0_3) := (blk_cell BK281.out 3).trans rfl
   have hfz7_0 := blk_frozen BK281.out 0
   have hfz7_1 := blk_frozen BK281.out 1
   have hfz7_2 := blk_frozen BK281.out 2
   have hfz7_3 := blk_frozen BK281.out 3
   go_wp2_with (first | ((with_reducible refine gate_callee (f := 32) rfl ?_); refine goesL_ (some 5) rfl rfl Tryd.func32 (by kernel_rfl) rfl #[.agg #[.int .i64 a0_0, .string a0_1, .int .i64 a0_2, .slice A0_3 l0_3.length c0_3]] rfl (by (try simp only [List.map_toArray, List.map_cons, List.map_nil]); first | done | rfl | (simp only [List.length_drop, List.length_take]; rfl)) ?_; (with_reducible refine (vinculumref09_text.calls k a0_0 a0_1 a0_2 _ _ l0_3 true _ ?side1 ?side2 A4.out).mono ?_); (case side1 => exact kc_ HR0_3.out HB.out); (case side2 => exact HC0_3.out); rintro e w8 ⟨rfl, hb⟩; refine ⟨_, rfl, ?_⟩; have n0_ := Aside0.mk (blk_below (g := gb281) (o := .cells #[.int .i64 a0_0, .string a0_1, .int .i64 a0_2, .slice A0_3 l0_3.length c0_3] 24 (0, 0)) (bk_ BK281.out) hb); have n1_ := Aside0.mk (below_step (bs1_ HB.out GE281.out) hb); clear BK281; clear HB; have BK281 := n0_; have HB := n1_; clear n0_ n1_; (try clear hb); (try clear hb2); (try clear hk); (try clear hi); have hcz9_0 : w8.cell? ⟨gb281, 0, none⟩ = some (.int .i64 a0_0) := (blk_cell BK281.out 0).trans rfl; have hcz9_1 : w8.cell? ⟨gb281, 1, none⟩ = some (.string a0_1) := (blk_cell BK281.out 1).trans rfl; have hcz9_2 : w8.cell? ⟨gb281, 2, none⟩ = some (.int .i64 a0_2) := (blk_cell BK281.out 2).trans rfl; have hcz9_3 : w8.cell? ⟨gb281, 3, none⟩ = some (.slice A0_3 l0_3.length c0_3) := (blk_cell BK281.out 3).trans rfl; have hfz9_0 := blk_frozen BK281.out 0; have hfz9_1 := blk_frozen BK281.out 1; have hfz9_2 := blk_frozen BK281.out 2; have hfz9_3 := blk_frozen BK281.out 3) | (go_at_call 33; (with_reducible refine (vinculumref09_kids.calls k a0_0 a0_1 a0_2 _ _ l0_3 t283 _ ?side1 ?side2 A6.out).mono ?_); (case side1 => exact kc_ HR0_3.out HB.out); (case side2 => exact HC0_3.out); rintro e w10 ⟨rfl, hb⟩; have n0_ := Aside0.mk (blk_below (g := gb281) (o := .cells #[.int .i64 a0_0, .string a0_1, .int .i64 a0_2, .slice A0_3 l0_3.length c0_3] 24 (0, 0)) (bk_ BK281.out) hb); have n1_ := Aside0.mk (below_step (bs1_ HB.out GE281.out) hb); clear BK281; clear HB; have BK281 := n0_; have HB := n1_; clear n0_ n1_; (try clear hb); (try clear hb2); (try clear hk); (try clear hi)))
   go_meet
   case rel => exact ⟨_, (!t283), (by first | rfl | (simp; done) | (simp [*]; done)), H', ⟨by first | omega | exact Nat.le_refl _⟩, ⟨bk_ BK281.out⟩, ⟨bs1_ HB.out GE281.out⟩⟩
  ·replace c5 := Bool.eq_false_iff.mpr c5
   subst c5
   have H1 : (vinculumref09_form.j0 k true a0_0 a0_1 a0_2 l0_3) = some r := by rw [if_neg (show ¬ (false = true) by decide)] at H; exact H
   clear H
   have H := H1
   clear H1
   have H' := Aside0.mk H
   clear H
   have hcz11_0 : w3.cell? ⟨gb281, 0, none⟩ = some (.int .i64 a0_0) := (blk_cell BK281.out 0).trans rfl
   have hcz11_1 : w3.cell? ⟨gb281, 1, none⟩ = some (.string a0_1) := (blk_cell BK281.out 1).trans rfl
   have hcz11_2 : w3.cell? ⟨gb281, 2, none⟩ = some (.int .i64 a0_2) := (blk_cell BK281.out 2).trans rfl
   have hcz11_3 : w3.cell? ⟨gb281, 3, none⟩ = some (.slice A0_3 l0_3.length c0_3) := (blk_cell BK281.out 3).trans rfl
   have hfz11_0 := blk_frozen BK281.out 0
   have hfz11_1 := blk_frozen BK281.out 1
   have hfz11_2 := blk_frozen BK281.out 2
   have hfz11_3 := blk_frozen BK281.out 3
   go_wp2_with (first | ((with_reducible refine gate_callee (f := 32) rfl ?_); refine goesL_ (some 5) rfl rfl Tryd.func32 (by kernel_rfl) rfl #[.agg #[.int .i64 a0_0, .string a0_1, .int .i64 a0_2, .slice A0_3 l0_3.length c0_3]] rfl (by (try simp only [List.map_toArray, List.map_cons, List.map_nil]); first | done | rfl | (simp only [List.length_drop, List.length_take]; rfl)) ?_; (with_reducible refine (vinculumref09_text.calls k a0_0 a0_1 a0_2 _ _ l0_3 false _ ?side1 ?side2 A4.out).mono ?_); (case side1 => exact kc_ HR0_3.out HB.out); (case side2 => exact HC0_3.out); rintro e w12 ⟨rfl, hb⟩; refine ⟨_, rfl, ?_⟩; have n0_ := Aside0.mk (blk_below (g := gb281) (o := .cells #[.int .i64 a0_0, .string a0_1, .int .i64 a0_2, .slice A0_3 l0_3.length c0_3] 24 (0, 0)) (bk_ BK281.out) hb); have n1_ := Aside0.mk (below_step (bs1_ HB.out GE281.out) hb); clear BK281; clear HB; have BK281 := n0_; have HB := n1_; clear n0_ n1_; (try clear hb); (try clear hb2); (try clear hk); (try clear hi)))
   go_meet
   case rel => exact ⟨_, (true), (by first | rfl | (simp; done) | (simp [*]; done)), H', ⟨by first | omega | exact Nat.le_refl _⟩, ⟨bk_ BK281.out⟩, ⟨bs1_ HB.out GE281.out⟩⟩
 case rest =>
  clear HC2; (try clear c2); (try clear p2); (try clear c3); (try clear c5); (try clear hcz11_0); (try clear hcz11_1); (try clear hcz11_2); (try clear hcz11_3); (try clear hcz7_0); (try clear hcz7_1); (try clear hcz7_2); (try clear hcz7_3); (try clear hcz9_0); (try clear hcz9_1); (try clear hcz9_2); (try clear hcz9_3); (try clear hfz11_0); (try clear hfz11_1); (try clear hfz11_2); (try clear hfz11_3); (try clear hfz7_0); (try clear hfz7_1); (try clear hfz7_2); (try clear hfz7_3); (try clear hfz9_0); (try clear hfz9_1); (try clear hfz9_2); (try clear hfz9_3)
  obtain ⟨kq, x11_1, rfl, HA, HJ1, BK281, HB⟩ := hcut
  cases kq with
  | zero => exact absurd HA.out (by simp [vinculumref09_form.j0])
  | succ kj1 =>
   have H := HA.out
   clear HA
   simp only [vinculumref09_form.j0] at H
   by_cases c13 : x11_1 = true
   ·subst c13
    have H1 : (some false) = some r := by rw [if_pos rfl] at H; exact H
    clear H
    have H := H1
    clear H1
    obtain rfl := Option.some.inj H
    go_wp2
    go_ret
    exact ⟨by first | rfl | (simp [errW_none, errW_some] <;> rfl) | (simp [*, errW_none, errW_some] <;> rfl), bs1_ HB.out GE281.out⟩
   ·replace c13 := Bool.eq_false_iff.mpr c13
    subst c13
    have H1 : (vinculumref09_form.l0 kj1 0 a0_0 a0_1 a0_2 l0_3) = some r := by rw [if_neg (show ¬ (false = true) by decide)] at H; exact H
    clear H
    have H := H1
    clear H1
    have H' := Aside0.mk H
    clear H
    go_wp2
    go_loopg [3] kj1 (fun kq v3 w' => ∃ (x3_2 : Int), v3 = .int .i64 x3_2 ∧ Aside0 (vinculumref09_form.l0 kq x3_2 a0_0 a0_1 a0_2 l0_3 = some r) ∧ Aside0 (kq ≤ kj1) ∧ Aside0 (w'.heap[gb281]? = some (.cells #[.int .i64 a0_0, .string a0_1, .int .i64 a0_2, (.slice A0_3 l0_3.length c0_3)] 24 (0, 0))) ∧ Aside0 (Below w.heap.size w w'))
    case atStart => exact ⟨(0), (by first | rfl | (simp; done) | (simp [*]; done)), H', ⟨Nat.le_refl _⟩, ⟨bk_ BK281.out⟩, ⟨bs1_ HB.out GE281.out⟩⟩
    case round =>
     clear H'; (try clear c1); (try clear c2); (try clear p2); (try clear c3); (try clear c5); (try clear c13); (try clear hcz11_0); (try clear hcz11_1); (try clear hcz11_2); (try clear hcz11_3); (try clear hcz7_0); (try clear hcz7_1); (try clear hcz7_2); (try clear hcz7_3); (try clear hcz9_0); (try clear hcz9_1); (try clear hcz9_2); (try clear hcz9_3); (try clear hfz11_0); (try clear hfz11_1); (try clear hfz11_2); (try clear hfz11_3); (try clear hfz7_0); (try clear hfz7_1); (try clear hfz7_2); (try clear hfz7_3); (try clear hfz9_0); (try clear hfz9_1); (try clear hfz9_2); (try clear hfz9_3); (try clear p2)
     obtain ⟨x3_2, rfl, HA, HK2, BK281, HB⟩ := hrel
     cases gk with
     | zero => exact absurd HA.out (by simp [vinculumref09_form.l0])
     | succ k2 =>
      have H := HA.out
      clear HA
      simp only [vinculumref09_form.l0] at H
      by_cases c14 : x3_2 < (l0_3.length : Int)
      ·rw [if_pos c14] at H
       have c14b0 : decide (x3_2 < (l0_3.length : Int)) = true := decide_eq_true c14
       clear c14
       by_cases c15 : 0 ≤ x3_2
       case neg =>
        rw [if_neg c15] at H
        exact absurd H (by simp)
       rw [if_pos c15] at H
       have c15b0 : decide (0 ≤ x3_2) = true := decide_eq_true c15
       clear c15
       by_cases c16 : ((((rd_T24 l0_3 x3_2).f0) == 1) == (a0_0 == 1)) = true
       ·rw [if_pos c16] at H
        have c16b0 : ((((rd_T24 l0_3 x3_2).f0) == 1) == (a0_0 == 1)) = true := c16
        (try (have c16b1 : decide ((((rd_T24 l0_3 x3_2).f0) == 1) = (a0_0 == 1)) = true := by simpa using c16))
        (try (have c16b2 : ((((rd_T24 l0_3 x3_2).f0) == 1) == (a0_0 == 1)) = true := by simpa using c16))
        clear c16
        obtain rfl := Option.some.inj H
        have hcz17_0 : wr.cell? ⟨gb281, 0, none⟩ = some (.int .i64 a0_0) := (blk_cell BK281.out 0).trans rfl
        have hcz17_1 : wr.cell? ⟨gb281, 1, none⟩ = some (.string a0_1) := (blk_cell BK281.out 1).trans rfl
        have hcz17_2 : wr.cell? ⟨gb281, 2, none⟩ = some (.int .i64 a0_2) := (blk_cell BK281.out 2).trans rfl
        have hcz17_3 : wr.cell? ⟨gb281, 3, none⟩ = some (.slice A0_3 l0_3.length c0_3) := (blk_cell BK281.out 3).trans rfl
        have hfz17_0 := blk_frozen BK281.out 0
        have hfz17_1 := blk_frozen BK281.out 1
        have hfz17_2 := blk_frozen BK281.out 2
        have hfz17_3 := blk_frozen BK281.out 3
        try go_wp2
        have n0_ := Aside0.mk (blk_drew BK281.out)
        have n1_ := Aside0.mk (below_drew1 HB.out)
        clear BK281; clear HB
        have BK281 := n0_
        have HB := n1_
        clear n0_ n1_
        have p284 : 0 ≤ (x3_2 : Int) := of_decide_eq_true (by first | (with_reducible assumption) | assumption)
        have q284 : x3_2 < (l0_3.length : Int) := of_decide_eq_true (by first | (with_reducible assumption) | assumption)
        obtain ⟨ad284, A284_3, c284_3, e284, hx284_0, hx284_1, hx284_2, hx284_3, hl284_3, hi284_3⟩ := at_T24 HR0_3.out x3_2 p284 q284
        have hw284_3 := hx284_3
        have hw284_2 := hx284_2
        have hw284_1 := hx284_1
        have hw284_0 := hx284_0
        cases e284
        replace hx284_0 := (cl_ HB.out hx284_0).trans hx284_0
        replace hx284_1 := (cl_ HB.out hx284_1).trans hx284_1
        replace hx284_2 := (cl_ HB.out hx284_2).trans hx284_2
        replace hx284_3 := (cl_ HB.out hx284_3).trans hx284_3
        have HR284_3 := Aside0.mk hi284_3
        have HC284_3 := Aside0.mk hl284_3
        clear hi284_3 hl284_3
        replace p284 := eq_true p284
        replace q284 := eq_true q284
        refine start_ (n := 20) (S := fun w' => w'.cell? ⟨gb281, 0, none⟩ = some (.int .i64 a0_0) ∧ w'.cell? ⟨gb281, 1, none⟩ = some (.string a0_1) ∧ w'.cell? ⟨gb281, 2, none⟩ = some (.int .i64 a0_2) ∧ w'.cell? ⟨gb281, 3, none⟩ = some (.slice (some ad284) l0_3.length c0_3) ∧ w'.cell? (ad284.add ((x3_2).toNat * 4)) = some (.int .i64 ((rd_T24 l0_3 x3_2).f0)) ∧ w'.cell? ⟨(ad284.add ((x3_2).toNat * 4)).block, (ad284.add ((x3_2).toNat * 4)).off + 1, none⟩ = some (.string ((rd_T24 l0_3 x3_2).f1)) ∧ w'.cell? ⟨(ad284.add ((x3_2).toNat * 4)).block, (ad284.add ((x3_2).toNat * 4)).off + 2, none⟩ = some (.int .i64 ((rd_T24 l0_3 x3_2).f2)) ∧ w'.cell? ⟨(ad284.add ((x3_2).toNat * 4)).block, (ad284.add ((x3_2).toNat * 4)).off + 3, none⟩ = some (.slice A284_3 ((rd_T24 l0_3 x3_2).f3).length c284_3)) (ds := []) #[false, false, false, false, false, false, false, false, false, false, false, false, false, false, false, false, false, false, false, false] (by kernel_rfl) rfl rfl ⟨(blk_cell BK281.out 0).trans rfl, (blk_cell BK281.out 1).trans rfl, (blk_cell BK281.out 2).trans rfl, (blk_cell BK281.out 3).trans rfl, (ck_ HB.out hw284_0), (ck_ HB.out hw284_1), (ck_ HB.out hw284_2), (ck_ HB.out hw284_3)⟩ (fun hHeld => ?_); refine with_tabW vinculumref09_form.tab6 vinculumref09_form.bits6 (fun HT_ HW_ => ?_)
        generalize wr.drew = w18 at BK281 HB HR284_3 hx284_0 hx284_1 hx284_2 hx284_3 hHeld ⊢
        refine pure_ (i := 0) (N := some 19) (v := ?_) (a' := ?_) (mk_ 20 1) rfl rfl (an_ HT_.out) (fun _ _ _ h => h) (Or.inl ⟨by rfl, ?_⟩) ?_ ?_
        rotate_left; (intro w'; go_simp; with_reducible rfl); rotate_left; (simp only [Act.put, sp1_, sp2_]; rfl)
        refine pure_ (i := 2) (N := some 21) (v := ?_) (a' := ?_) (mk_ 20 5) rfl rfl (an_ HT_.out) (fun _ _ _ h => h) (Or.inl ⟨by rfl, ?_⟩) ?_ ?_
        rotate_left; (intro w'; go_simp; with_reducible rfl); rotate_left; (simp only [Act.put, sp1_, sp2_]; rfl)
        refine pure_ (i := 7) (N := some 26) (v := ?_) (a' := ?_) (mk_ 20 133) rfl rfl (an_ HT_.out) (fun _ _ _ h => h) (Or.inl ⟨by rfl, ?_⟩) ?_ ?_
        rotate_left; (intro w'; go_simp; with_reducible rfl); rotate_left; (simp only [Act.put, sp1_, sp2_]; rfl)
        refine take_ (i := 1) (N := some 20) (v := ?_) (a' := ?_) (mk_ 20 135) rfl rfl (take_ofW HT_.out HW_.out (by kernel_rfl)) (fun _ _ _ h => h) (Or.inl ⟨by rfl, ?_⟩) hHeld ?_ ?_
        rotate_left
        ·rintro w' ⟨s0, s1, s2, s3, s4, s5, s6, s7⟩
         go_simp
         with_reducible rfl
        rotate_left; (simp only [Act.put, sp1_, sp2_]; rfl)
        refine pure_ (i := 3) (N := some 22) (v := ?_) (a' := ?_) (mk_ 20 143) rfl rfl (an_ HT_.out) (fun _ _ _ h => h) (Or.inl ⟨by rfl, ?_⟩) ?_ ?_
        rotate_left; (intro w'; go_simp; with_reducible rfl); rotate_left; (simp only [Act.put, sp1_, sp2_]; rfl)
        refine pure_ (i := 4) (N := some 23) (v := ?_) (a' := ?_) (mk_ 20 159) rfl rfl (an_ HT_.out) (fun _ _ _ h => h) (Or.inl ⟨by rfl, ?_⟩) ?_ ?_
        rotate_left; (intro w'; go_simp; with_reducible rfl); rotate_left; (simp only [Act.put, sp1_, sp2_]; rfl)
        refine take_ (i := 5) (N := some 24) (v := ?_) (a' := ?_) (mk_ 20 191) rfl rfl (take_ofW HT_.out HW_.out (by kernel_rfl)) (fun _ _ _ h => h) (Or.inl ⟨by rfl, ?_⟩) hHeld ?_ ?_
        rotate_left
        ·rintro w' ⟨s0, s1, s2, s3, s4, s5, s6, s7⟩
         go_simp
         with_reducible rfl
        rotate_left; (simp only [Act.put, sp1_, sp2_]; rfl)
        refine pure_ (i := 6) (N := some 25) (v := ?_) (a' := ?_) (mk_ 20 255) rfl rfl (an_ HT_.out) (fun _ _ _ h => h) (Or.inl ⟨by rfl, ?_⟩) ?_ ?_
        rotate_left; (intro w'; go_simp; with_reducible rfl); rotate_left; (simp only [Act.put, sp1_, sp2_]; rfl)
        refine take_ (i := 8) (N := some 27) (v := ?_) (a' := ?_) (mk_ 20 511) rfl rfl (take_ofW HT_.out HW_.out (by kernel_rfl)) (fun _ _ _ h => h) (Or.inl ⟨by rfl, ?_⟩) hHeld ?_ ?_
        rotate_left
        ·rintro w' ⟨s0, s1, s2, s3, s4, s5, s6, s7⟩
         go_simp
         with_reducible rfl
        rotate_left; (simp only [Act.put, sp1_, sp2_]; rfl)
        refine pure_ (i := 9) (N := some 28) (v := ?_) (a' := ?_) (mk_ 20 1023) rfl rfl (an_ HT_.out) (fun _ _ _ h => h) (Or.inl ⟨by rfl, ?_⟩) ?_ ?_
        rotate_left; (intro w'; go_simp; with_reducible rfl); rotate_left; (simp only [Act.put, sp1_, sp2_]; rfl)
        refine pure_ (i := 10) (N := some 29) (v := ?_) (a' := ?_) (mk_ 20 2047) rfl rfl (an_ HT_.out) (fun _ _ _ h => h) (Or.inl ⟨by rfl, ?_⟩) ?_ ?_
        rotate_left; (intro w'; go_simp; with_reducible rfl); rotate_left; (simp only [Act.put, sp1_, sp2_]; rfl)
        refine pure_ (i := 11) (N := some 30) (v := ?_) (a' := ?_) (mk_ 20 4095) rfl rfl (an_ HT_.out) (fun _ _ _ h => h) (Or.inl ⟨by rfl, ?_⟩) ?_ ?_
        rotate_left; (intro w'; go_simp; with_reducible rfl); rotate_left; (simp only [Act.put, sp1_, sp2_]; rfl)
        refine pure_ (i := 12) (N := some 31) (v := undef) (a' := ?_) (mk_ 20 8191) rfl rfl (an_ HT_.out) (fun _ _ _ h => h) (Or.inr ⟨by rfl, rfl⟩) ?_ ?_
        rotate_left; (simp only [Act.put, sp1_, sp2_]; rfl)
        refine pure_ (i := 13) (N := some 32) (v := undef) (a' := ?_) (mk_ 20 16383) rfl rfl (an_ HT_.out) (fun _ _ _ h => h) (Or.inr ⟨by rfl, rfl⟩) ?_ ?_
        rotate_left; (simp only [Act.put, sp1_, sp2_]; rfl)
        refine pure_ (i := 14) (N := some 33) (v := undef) (a' := ?_) (mk_ 20 32767) rfl rfl (an_ HT_.out) (fun _ _ _ h => h) (Or.inr ⟨by rfl, rfl⟩) ?_ ?_
        rotate_left; (simp only [Act.put, sp1_, sp2_]; rfl)
        refine pure_ (i := 15) (N := some 34) (v := undef) (a' := ?_) (mk_ 20 65535) rfl rfl (an_ HT_.out) (fun _ _ _ h => h) (Or.inr ⟨by rfl, rfl⟩) ?_ ?_
        rotate_left; (simp only [Act.put, sp1_, sp2_]; rfl)
        refine pure_ (i := 16) (N := some 35) (v := undef) (a' := ?_) (mk_ 20 131071) rfl rfl (an_ HT_.out) (fun _ _ _ h => h) (Or.inr ⟨by rfl, rfl⟩) ?_ ?_
        rotate_left; (simp only [Act.put, sp1_, sp2_]; rfl)
        refine pure_ (i := 17) (N := some 36) (v := undef) (a' := ?_) (mk_ 20 262143) rfl rfl (an_ HT_.out) (fun _ _ _ h => h) (Or.inr ⟨by rfl, rfl⟩) ?_ ?_
        rotate_left; (simp only [Act.put, sp1_, sp2_]; rfl)
        refine pure_ (i := 18) (N := some 37) (v := undef) (a' := ?_) (mk_ 20 524287) rfl rfl (an_ HT_.out) (fun _ _ _ h => h) (Or.inr ⟨by rfl, rfl⟩) ?_ ?_
        rotate_left; (simp only [Act.put, sp1_, sp2_]; rfl)
        refine pure_ (i := 19) (N := some 38) (v := ?_) (a' := ?_) (mk_ 20 1048575) rfl rfl (an_ HT_.out) (fun _ _ _ h => h) (Or.inl ⟨by rfl, ?_⟩) ?_ ?_
        rotate_left; (intro w'; go_simp; with_reducible rfl); rotate_left; (simp only [Act.put, sp1_, sp2_]; rfl)
        refine done_ (done_of HT_.out (by kernel_rfl)) ?_
        try go_wp2
        go_ret
        exact ⟨by first | rfl | (simp [errW_none, errW_some] <;> rfl) | (simp [*, errW_none, errW_some] <;> rfl), bs1_ HB.out GE281.out⟩
       ·rw [if_neg c16] at H
        have c16b0 : ((((rd_T24 l0_3 x3_2).f0) == 1) == (a0_0 == 1)) = false := by simpa using c16
        (try (have c16b1 : decide ((((rd_T24 l0_3 x3_2).f0) == 1) = (a0_0 == 1)) = false := by simpa using c16))
        (try (have c16b2 : ((((rd_T24 l0_3 x3_2).f0) == 1) == (a0_0 == 1)) = false := by simpa using c16))
        (try (have c16b3 : ¬ ((((rd_T24 l0_3 x3_2).f0) == 1) = (a0_0 == 1)) := by simpa using c16))
        clear c16
        replace H := Option.bind_eq_some_iff.mp H
        obtain ⟨t286, A190, H⟩ := H
        replace H : (if t286 = true then (vinculumref09_form.l0 k2 (wrap64 (x3_2 + 1)) a0_0 a0_1 a0_2 l0_3) else (some false)) = some r := H
        have A19 := Aside0.mk A190
        clear A190
        by_cases c20 : t286 = true
        ·subst c20
         have H1 : (vinculumref09_form.l0 k2 (wrap64 (x3_2 + 1)) a0_0 a0_1 a0_2 l0_3) = some r := by rw [if_pos rfl] at H; exact H
         clear H
         have H := H1
         clear H1
         have H' := Aside0.mk H
         clear H
         have hcz21_0 : wr.cell? ⟨gb281, 0, none⟩ = some (.int .i64 a0_0) := (blk_cell BK281.out 0).trans rfl
         have hcz21_1 : wr.cell? ⟨gb281, 1, none⟩ = some (.string a0_1) := (blk_cell BK281.out 1).trans rfl
         have hcz21_2 : wr.cell? ⟨gb281, 2, none⟩ = some (.int .i64 a0_2) := (blk_cell BK281.out 2).trans rfl
         have hcz21_3 : wr.cell? ⟨gb281, 3, none⟩ = some (.slice A0_3 l0_3.length c0_3) := (blk_cell BK281.out 3).trans rfl
         have hfz21_0 := blk_frozen BK281.out 0
         have hfz21_1 := blk_frozen BK281.out 1
         have hfz21_2 := blk_frozen BK281.out 2
         have hfz21_3 := blk_frozen BK281.out 3
         try go_wp2
         have n0_ := Aside0.mk (blk_drew BK281.out)
         have n1_ := Aside0.mk (below_drew1 HB.out)
         clear BK281; clear HB
         have BK281 := n0_
         have HB := n1_
         clear n0_ n1_
         have p284 : 0 ≤ (x3_2 : Int) := of_decide_eq_true (by first | (with_reducible assumption) | assumption)
         have q284 : x3_2 < (l0_3.length : Int) := of_decide_eq_true (by first | (with_reducible assumption) | assumption)
         obtain ⟨ad284, A284_3, c284_3, e284, hx284_0, hx284_1, hx284_2, hx284_3, hl284_3, hi284_3⟩ := at_T24 HR0_3.out x3_2 p284 q284
         have hw284_3 := hx284_3
         have hw284_2 := hx284_2
         have hw284_1 := hx284_1
         have hw284_0 := hx284_0
         cases e284
         replace hx284_0 := (cl_ HB.out hx284_0).trans hx284_0
         replace hx284_1 := (cl_ HB.out hx284_1).trans hx284_1
         replace hx284_2 := (cl_ HB.out hx284_2).trans hx284_2
         replace hx284_3 := (cl_ HB.out hx284_3).trans hx284_3
         have HR284_3 := Aside0.mk hi284_3
         have HC284_3 := Aside0.mk hl284_3
         clear hi284_3 hl284_3
         replace p284 := eq_true p284
         replace q284 := eq_true q284
         have p285 : 0 ≤ (x3_2 : Int) := of_decide_eq_true (by first | (with_reducible assumption) | assumption)
         have q285 : x3_2 < (l0_3.length : Int) := of_decide_eq_true (by first | (with_reducible assumption) | assumption)
         obtain ⟨ad285, A285_3, c285_3, e285, hx285_0, hx285_1, hx285_2, hx285_3, hl285_3, hi285_3⟩ := at_T24 HR0_3.out x3_2 p285 q285
         have hw285_3 := hx285_3
         have hw285_2 := hx285_2
         have hw285_1 := hx285_1
         have hw285_0 := hx285_0
         obtain rfl : ad284 = ad285 := (by injection e285)
         replace hx285_0 := (cl_ HB.out hx285_0).trans hx285_0
         replace hx285_1 := (cl_ HB.out hx285_1).trans hx285_1
         replace hx285_2 := (cl_ HB.out hx285_2).trans hx285_2
         replace hx285_3 := (cl_ HB.out hx285_3).trans hx285_3
         have HR285_3 := Aside0.mk hi285_3
         have HC285_3 := Aside0.mk hl285_3
         clear hi285_3 hl285_3
         replace p285 := eq_true p285
         replace q285 := eq_true q285
         have ea_ := Option.some.inj (hx284_3.symm.trans hx285_3)
         injection ea_ with ea_ en_ ec_
         subst ea_
         subst ec_
         clear en_
         refine start_ (n := 20) (S := fun w' => w'.cell? ⟨gb281, 0, none⟩ = some (.int .i64 a0_0) ∧ w'.cell? ⟨gb281, 1, none⟩ = some (.string a0_1) ∧ w'.cell? ⟨gb281, 2, none⟩ = some (.int .i64 a0_2) ∧ w'.cell? ⟨gb281, 3, none⟩ = some (.slice (some ad284) l0_3.length c0_3) ∧ w'.cell? (ad284.add ((x3_2).toNat * 4)) = some (.int .i64 ((rd_T24 l0_3 x3_2).f0)) ∧ w'.cell? ⟨(ad284.add ((x3_2).toNat * 4)).block, (ad284.add ((x3_2).toNat * 4)).off + 1, none⟩ = some (.string ((rd_T24 l0_3 x3_2).f1)) ∧ w'.cell? ⟨(ad284.add ((x3_2).toNat * 4)).block, (ad284.add ((x3_2).toNat * 4)).off + 2, none⟩ = some (.int .i64 ((rd_T24 l0_3 x3_2).f2)) ∧ w'.cell? ⟨(ad284.add ((x3_2).toNat * 4)).block, (ad284.add ((x3_2).toNat * 4)).off + 3, none⟩ = some (.slice A284_3 ((rd_T24 l0_3 x3_2).f3).length c284_3) ∧ w'.cell? (ad284.add ((x3_2).toNat * 4)) = some (.int .i64 ((rd_T24 l0_3 x3_2).f0)) ∧ w'.cell? ⟨(ad284.add ((x3_2).toNat * 4)).block, (ad284.add ((x3_2).toNat * 4)).off + 1, none⟩ = some (.string ((rd_T24 l0_3 x3_2).f1)) ∧ w'.cell? ⟨(ad284.add ((x3_2).toNat * 4)).block, (ad284.add ((x3_2).toNat * 4)).off + 2, none⟩ = some (.int .i64 ((rd_T24 l0_3 x3_2).f2)) ∧ w'.cell? ⟨(ad284.add ((x3_2).toNat * 4)).block, (ad284.add ((x3_2).toNat * 4)).off + 3, none⟩ = some (.slice A284_3 ((rd_T24 l0_3 x3_2).f3).length c284_3)) (ds := []) #[false, false, false, false, false, false, false, false, false, false, false, false, false, false, false, false, false, false, false, false] (by kernel_rfl) rfl rfl ⟨(blk_cell BK281.out 0).trans rfl, (blk_cell BK281.out 1).trans rfl, (blk_cell BK281.out 2).trans rfl, (blk_cell BK281.out 3).trans rfl, (ck_ HB.out hw284_0), (ck_ HB.out hw284_1), (ck_ HB.out hw284_2), (ck_ HB.out hw284_3), (ck_ HB.out hw285_0), (ck_ HB.out hw285_1), (ck_ HB.out hw285_2), (ck_ HB.out hw285_3)⟩ (fun hHeld => ?_); refine with_tabW vinculumref09_form.tab6 vinculumref09_form.bits6 (fun HT_ HW_ => ?_)
         generalize wr.drew = w22 at BK281 HB HR284_3 HR285_3 hx284_0 hx284_1 hx284_2 hx284_3 hx285_0 hx285_1 hx285_2 hx285_3 hHeld ⊢
         refine pure_ (i := 0) (N := some 19) (v := ?_) (a' := ?_) (mk_ 20 1) rfl rfl (an_ HT_.out) (fun _ _ _ h => h) (Or.inl ⟨by rfl, ?_⟩) ?_ ?_
         rotate_left; (intro w'; go_simp; with_reducible rfl); rotate_left; (simp only [Act.put, sp1_, sp2_]; rfl)
         refine pure_ (i := 2) (N := some 21) (v := ?_) (a' := ?_) (mk_ 20 5) rfl rfl (an_ HT_.out) (fun _ _ _ h => h) (Or.inl ⟨by rfl, ?_⟩) ?_ ?_
         rotate_left; (intro w'; go_simp; with_reducible rfl); rotate_left; (simp only [Act.put, sp1_, sp2_]; rfl)
         refine pure_ (i := 7) (N := some 26) (v := ?_) (a' := ?_) (mk_ 20 133) rfl rfl (an_ HT_.out) (fun _ _ _ h => h) (Or.inl ⟨by rfl, ?_⟩) ?_ ?_
         rotate_left; (intro w'; go_simp; with_reducible rfl); rotate_left; (simp only [Act.put, sp1_, sp2_]; rfl)
         refine take_ (i := 1) (N := some 20) (v := ?_) (a' := ?_) (mk_ 20 135) rfl rfl (take_ofW HT_.out HW_.out (by kernel_rfl)) (fun _ _ _ h => h) (Or.inl ⟨by rfl, ?_⟩) hHeld ?_ ?_
         rotate_left
         ·rintro w' ⟨s0, s1, s2, s3, s4, s5, s6, s7, s8, s9, s10, s11⟩
          go_simp
          with_reducible rfl
         rotate_left; (simp only [Act.put, sp1_, sp2_]; rfl)
         refine pure_ (i := 3) (N := some 22) (v := ?_) (a' := ?_) (mk_ 20 143) rfl rfl (an_ HT_.out) (fun _ _ _ h => h) (Or.inl ⟨by rfl, ?_⟩) ?_ ?_
         rotate_left; (intro w'; go_simp; with_reducible rfl); rotate_left; (simp only [Act.put, sp1_, sp2_]; rfl)
         refine pure_ (i := 4) (N := some 23) (v := ?_) (a' := ?_) (mk_ 20 159) rfl rfl (an_ HT_.out) (fun _ _ _ h => h) (Or.inl ⟨by rfl, ?_⟩) ?_ ?_
         rotate_left; (intro w'; go_simp; with_reducible rfl); rotate_left; (simp only [Act.put, sp1_, sp2_]; rfl)
         refine take_ (i := 5) (N := some 24) (v := ?_) (a' := ?_) (mk_ 20 191) rfl rfl (take_ofW HT_.out HW_.out (by kernel_rfl)) (fun _ _ _ h => h) (Or.inl ⟨by rfl, ?_⟩) hHeld ?_ ?_
         rotate_left
         ·rintro w' ⟨s0, s1, s2, s3, s4, s5, s6, s7, s8, s9, s10, s11⟩
          go_simp
          with_reducible rfl
         rotate_left; (simp only [Act.put, sp1_, sp2_]; rfl)
         refine pure_ (i := 6) (N := some 25) (v := ?_) (a' := ?_) (mk_ 20 255) rfl rfl (an_ HT_.out) (fun _ _ _ h => h) (Or.inl ⟨by rfl, ?_⟩) ?_ ?_
         rotate_left; (intro w'; go_simp; with_reducible rfl); rotate_left; (simp only [Act.put, sp1_, sp2_]; rfl)
         refine take_ (i := 8) (N := some 27) (v := ?_) (a' := ?_) (mk_ 20 511) rfl rfl (take_ofW HT_.out HW_.out (by kernel_rfl)) (fun _ _ _ h => h) (Or.inl ⟨by rfl, ?_⟩) hHeld ?_ ?_
         rotate_left
         ·rintro w' ⟨s0, s1, s2, s3, s4, s5, s6, s7, s8, s9, s10, s11⟩
          go_simp
          with_reducible rfl
         rotate_left; (simp only [Act.put, sp1_, sp2_]; rfl)
         refine pure_ (i := 9) (N := some 28) (v := ?_) (a' := ?_) (mk_ 20 1023) rfl rfl (an_ HT_.out) (fun _ _ _ h => h) (Or.inl ⟨by rfl, ?_⟩) ?_ ?_
         rotate_left; (intro w'; go_simp; with_reducible rfl); rotate_left; (simp only [Act.put, sp1_, sp2_]; rfl)
         refine pure_ (i := 10) (N := some 29) (v := ?_) (a' := ?_) (mk_ 20 2047) rfl rfl (an_ HT_.out) (fun _ _ _ h => h) (Or.inl ⟨by rfl, ?_⟩) ?_ ?_
         rotate_left; (intro w'; go_simp; with_reducible rfl); rotate_left; (simp only [Act.put, sp1_, sp2_]; rfl)
         refine pure_ (i := 11) (N := some 30) (v := ?_) (a' := ?_) (mk_ 20 4095) rfl rfl (an_ HT_.out) (fun _ _ _ h => h) (Or.inl ⟨by rfl, ?_⟩) ?_ ?_
         rotate_left; (intro w'; go_simp; with_reducible rfl); rotate_left; (simp only [Act.put, sp1_, sp2_]; rfl)
         refine pure_ (i := 12) (N := some 31) (v := ?_) (a' := ?_) (mk_ 20 8191) rfl rfl (an_ HT_.out) (fun _ _ _ h => h) (Or.inl ⟨by rfl, ?_⟩) ?_ ?_
         rotate_left; (intro w'; go_simp; with_reducible rfl); rotate_left; (simp only [Act.put, sp1_, sp2_]; rfl)
         refine pure_ (i := 14) (N := some 33) (v := ?_) (a' := ?_) (mk_ 20 24575) rfl rfl (an_ HT_.out) (fun _ _ _ h => h) (Or.inl ⟨by rfl, ?_⟩) ?_ ?_
         rotate_left; (intro w'; go_simp; with_reducible rfl); rotate_left; (simp only [Act.put, sp1_, sp2_]; rfl)
         refine take_ (i := 13) (N := some 32) (v := ?_) (a' := ?_) (mk_ 20 32767) rfl rfl (take_ofW HT_.out HW_.out (by kernel_rfl)) (fun _ _ _ h => h) (Or.inl ⟨by rfl, ?_⟩) hHeld ?_ ?_
         rotate_left
         ·rintro w' ⟨s0, s1, s2, s3, s4, s5, s6, s7, s8, s9, s10, s11⟩
          go_simp
          with_reducible rfl
         rotate_left; (simp only [Act.put, sp1_, sp2_]; rfl)
         refine pure_ (i := 15) (N := some 34) (v := ?_) (a' := ?_) (mk_ 20 65535) rfl rfl (an_ HT_.out) (fun _ _ _ h => h) (Or.inl ⟨by rfl, ?_⟩) ?_ ?_
         rotate_left; (intro w'; go_simp; with_reducible rfl); rotate_left; (simp only [Act.put, sp1_, sp2_]; rfl)
         refine take_ (i := 16) (N := some 35) (v := ?_) (a' := ?_) (mk_ 20 131071) rfl rfl (take_ofW HT_.out HW_.out (by kernel_rfl)) (fun _ _ _ h => h) (Or.inl ⟨by rfl, ?_⟩) hHeld ?_ ?_
         rotate_left
         ·rintro w' ⟨s0, s1, s2, s3, s4, s5, s6, s7, s8, s9, s10, s11⟩
          go_simp
          with_reducible rfl
         rotate_left; (simp only [Act.put, sp1_, sp2_]; rfl)
         refine one_ (i := 17) (N := some 36) (mk_ 20 262143) rfl rfl (one_of HT_.out (by kernel_rfl)) (by decide) (fun K hK => ?_)
         refine goes_ Tryd.func22 (by kernel_rfl) rfl #[.agg #[.int .i64 ((rd_T24 l0_3 x3_2).f0), .string ((rd_T24 l0_3 x3_2).f1), .int .i64 ((rd_T24 l0_3 x3_2).f2), .slice A284_3 ((rd_T24 l0_3 x3_2).f3).length c284_3]] (by rfl) rfl rfl (by (try simp only [List.map_toArray, List.map_cons, List.map_nil]); first | done | rfl | (simp only [List.length_drop, List.length_take]; rfl)) ?_
         with_reducible refine (ih k2 (by have := HJ1.out; have := HK2.out; omega) ((rd_T24 l0_3 x3_2).f0) ((rd_T24 l0_3 x3_2).f1) ((rd_T24 l0_3 x3_2).f2) _ _ ((rd_T24 l0_3 x3_2).f3) true _ ?side1 ?side2 A19.out).mono ?_
         (case side1 => exact kc_ HR285_3.out HB.out)
         (case side2 => exact HC285_3.out)
         rintro e w23 ⟨rfl, hb⟩
         refine ⟨_, rfl, ?_⟩
         have n0_ := Aside0.mk (blk_below (g := gb281) (o := .cells #[.int .i64 a0_0, .string a0_1, .int .i64 a0_2, .slice (some ad284) l0_3.length c0_3] 24 (0, 0)) (bk_ BK281.out) hb)
         have n1_ := Aside0.mk (below_step (bs1_ HB.out GE281.out) hb)
         clear BK281; clear HB
         have BK281 := n0_
         have HB := n1_
         clear n0_ n1_
         (try clear hb)
         (try clear hb2)
         (try clear hk)
         (try clear hi)
         refine hK.out _ _ ⟨(blk_cell BK281.out 0).trans rfl, (blk_cell BK281.out 1).trans rfl, (blk_cell BK281.out 2).trans rfl, (blk_cell BK281.out 3).trans rfl, (ck_ HB.out hw284_0), (ck_ HB.out hw284_1), (ck_ HB.out hw284_2), (ck_ HB.out hw284_3), (ck_ HB.out hw285_0), (ck_ HB.out hw285_1), (ck_ HB.out hw285_2), (ck_ HB.out hw285_3)⟩ (fun hHeld => ?_)
         clear hK K
         refine norm_ (a' := ?_) ?_ ?_
         rotate_left
         ·show Act.put _ (some 36) _ = _
          simp only [Act.put, sp1_, sp2_]
          rfl
         refine pure_ (i := 18) (N := some 37) (v := ?_) (a' := ?_) (mk_ 20 524287) rfl rfl (an_ HT_.out) (fun _ _ _ h => h) (Or.inl ⟨by rfl, ?_⟩) ?_ ?_
         rotate_left; (intro w'; go_simp; with_reducible rfl); rotate_left; (simp only [Act.put, sp1_, sp2_]; rfl)
         refine pure_ (i := 19) (N := some 38) (v := ?_) (a' := ?_) (mk_ 20 1048575) rfl rfl (an_ HT_.out) (fun _ _ _ h => h) (Or.inl ⟨by rfl, ?_⟩) ?_ ?_
         rotate_left; (intro w'; go_simp; with_reducible rfl); rotate_left; (simp only [Act.put, sp1_, sp2_]; rfl)
         refine done_ (done_of HT_.out (by kernel_rfl)) ?_
         try go_wp2
         go_roundg k2
         case measure => have := HJ1.out; have := HK2.out; omega
         case rel => exact ⟨(wrap64 (x3_2 + 1)), (by first | rfl | (simp; done) | (simp [*]; done)), H', ⟨by have := HJ1.out; have := HK2.out; omega⟩, ⟨bk_ BK281.out⟩, ⟨bs1_ HB.out GE281.out⟩⟩
        ·replace c20 := Bool.eq_false_iff.mpr c20
         subst c20
         have H1 : (some false) = some r := by rw [if_neg (show ¬ (false = true) by decide)] at H; exact H
         clear H
         have H := H1
         clear H1
         obtain rfl := Option.some.inj H
         have hcz24_0 : wr.cell? ⟨gb281, 0, none⟩ = some (.int .i64 a0_0) := (blk_cell BK281.out 0).trans rfl
         have hcz24_1 : wr.cell? ⟨gb281, 1, none⟩ = some (.string a0_1) := (blk_cell BK281.out 1).trans rfl
         have hcz24_2 : wr.cell? ⟨gb281, 2, none⟩ = some (.int .i64 a0_2) := (blk_cell BK281.out 2).trans rfl
         have hcz24_3 : wr.cell? ⟨gb281, 3, none⟩ = some (.slice A0_3 l0_3.length c0_3) := (blk_cell BK281.out 3).trans rfl
         have hfz24_0 := blk_frozen BK281.out 0
         have hfz24_1 := blk_frozen BK281.out 1
         have hfz24_2 := blk_frozen BK281.out 2
         have hfz24_3 := blk_frozen BK281.out 3
         try go_wp2
         have n0_ := Aside0.mk (blk_drew BK281.out)
         have n1_ := Aside0.mk (below_drew1 HB.out)
         clear BK281; clear HB
         have BK281 := n0_
         have HB := n1_
         clear n0_ n1_
         have p284 : 0 ≤ (x3_2 : Int) := of_decide_eq_true (by first | (with_reducible assumption) | assumption)
         have q284 : x3_2 < (l0_3.length : Int) := of_decide_eq_true (by first | (with_reducible assumption) | assumption)
         obtain ⟨ad284, A284_3, c284_3, e284, hx284_0, hx284_1, hx284_2, hx284_3, hl284_3, hi284_3⟩ := at_T24 HR0_3.out x3_2 p284 q284
         have hw284_3 := hx284_3
         have hw284_2 := hx284_2
         have hw284_1 := hx284_1
         have hw284_0 := hx284_0
         cases e284
         replace hx284_0 := (cl_ HB.out hx284_0).trans hx284_0
         replace hx284_1 := (cl_ HB.out hx284_1).trans hx284_1
         replace hx284_2 := (cl_ HB.out hx284_2).trans hx284_2
         replace hx284_3 := (cl_ HB.out hx284_3).trans hx284_3
         have HR284_3 := Aside0.mk hi284_3
         have HC284_3 := Aside0.mk hl284_3
         clear hi284_3 hl284_3
         replace p284 := eq_true p284
         replace q284 := eq_true q284
         have p285 : 0 ≤ (x3_2 : Int) := of_decide_eq_true (by first | (with_reducible assumption) | assumption)
         have q285 : x3_2 < (l0_3.length : Int) := of_decide_eq_true (by first | (with_reducible assumption) | assumption)
         obtain ⟨ad285, A285_3, c285_3, e285, hx285_0, hx285_1, hx285_2, hx285_3, hl285_3, hi285_3⟩ := at_T24 HR0_3.out x3_2 p285 q285
         have hw285_3 := hx285_3
         have hw285_2 := hx285_2
         have hw285_1 := hx285_1
         have hw285_0 := hx285_0
         obtain rfl : ad284 = ad285 := (by injection e285)
         replace hx285_0 := (cl_ HB.out hx285_0).trans hx285_0
         replace hx285_1 := (cl_ HB.out hx285_1).trans hx285_1
         replace hx285_2 := (cl_ HB.out hx285_2).trans hx285_2
         replace hx285_3 := (cl_ HB.out hx285_3).trans hx285_3
         have HR285_3 := Aside0.mk hi285_3
         have HC285_3 := Aside0.mk hl285_3
         clear hi285_3 hl285_3
         replace p285 := eq_true p285
         replace q285 := eq_true q285
         have ea_ := Option.some.inj (hx284_3.symm.trans hx285_3)
         injection ea_ with ea_ en_ ec_
         subst ea_
         subst ec_
         clear en_
         refine start_ (n := 20) (S := fun w' => w'.cell? ⟨gb281, 0, none⟩ = some (.int .i64 a0_0) ∧ w'.cell? ⟨gb281, 1, none⟩ = some (.string a0_1) ∧ w'.cell? ⟨gb281, 2, none⟩ = some (.int .i64 a0_2) ∧ w'.cell? ⟨gb281, 3, none⟩ = some (.slice (some ad284) l0_3.length c0_3) ∧ w'.cell? (ad284.add ((x3_2).toNat * 4)) = some (.int .i64 ((rd_T24 l0_3 x3_2).f0)) ∧ w'.cell? ⟨(ad284.add ((x3_2).toNat * 4)).block, (ad284.add ((x3_2).toNat * 4)).off + 1, none⟩ = some (.string ((rd_T24 l0_3 x3_2).f1)) ∧ w'.cell? ⟨(ad284.add ((x3_2).toNat * 4)).block, (ad284.add ((x3_2).toNat * 4)).off + 2, none⟩ = some (.int .i64 ((rd_T24 l0_3 x3_2).f2)) ∧ w'.cell? ⟨(ad284.add ((x3_2).toNat * 4)).block, (ad284.add ((x3_2).toNat * 4)).off + 3, none⟩ = some (.slice A284_3 ((rd_T24 l0_3 x3_2).f3).length c284_3) ∧ w'.cell? (ad284.add ((x3_2).toNat * 4)) = some (.int .i64 ((rd_T24 l0_3 x3_2).f0)) ∧ w'.cell? ⟨(ad284.add ((x3_2).toNat * 4)).block, (ad284.add ((x3_2).toNat * 4)).off + 1, none⟩ = some (.string ((rd_T24 l0_3 x3_2).f1)) ∧ w'.cell? ⟨(ad284.add ((x3_2).toNat * 4)).block, (ad284.add ((x3_2).toNat * 4)).off + 2, none⟩ = some (.int .i64 ((rd_T24 l0_3 x3_2).f2)) ∧ w'.cell? ⟨(ad284.add ((x3_2).toNat * 4)).block, (ad284.add ((x3_2).toNat * 4)).off + 3, none⟩ = some (.slice A284_3 ((rd_T24 l0_3 x3_2).f3).length c284_3)) (ds := []) #[false, false, false, false, false, false, false, false, false, false, false, false, false, false, false, false, false, false, false, false] (by kernel_rfl) rfl rfl ⟨(blk_cell BK281.out 0).trans rfl, (blk_cell BK281.out 1).trans rfl, (blk_cell BK281.out 2).trans rfl, (blk_cell BK281.out 3).trans rfl, (ck_ HB.out hw284_0), (ck_ HB.out hw284_1), (ck_ HB.out hw284_2), (ck_ HB.out hw284_3), (ck_ HB.out hw285_0), (ck_ HB.out hw285_1), (ck_ HB.out hw285_2), (ck_ HB.out hw285_3)⟩ (fun hHeld => ?_); refine with_tabW vinculumref09_form.tab6 vinculumref09_form.bits6 (fun HT_ HW_ => ?_)
         generalize wr.drew = w25 at BK281 HB HR284_3 HR285_3 hx284_0 hx284_1 hx284_2 hx284_3 hx285_0 hx285_1 hx285_2 hx285_3 hHeld ⊢
         refine pure_ (i := 0) (N := some 19) (v := ?_) (a' := ?_) (mk_ 20 1) rfl rfl (an_ HT_.out) (fun _ _ _ h => h) (Or.inl ⟨by rfl, ?_⟩) ?_ ?_
         rotate_left; (intro w'; go_simp; with_reducible rfl); rotate_left; (simp only [Act.put, sp1_, sp2_]; rfl)
         refine pure_ (i := 2) (N := some 21) (v := ?_) (a' := ?_) (mk_ 20 5) rfl rfl (an_ HT_.out) (fun _ _ _ h => h) (Or.inl ⟨by rfl, ?_⟩) ?_ ?_
         rotate_left; (intro w'; go_simp; with_reducible rfl); rotate_left; (simp only [Act.put, sp1_, sp2_]; rfl)
         refine pure_ (i := 7) (N := some 26) (v := ?_) (a' := ?_) (mk_ 20 133) rfl rfl (an_ HT_.out) (fun _ _ _ h => h) (Or.inl ⟨by rfl, ?_⟩) ?_ ?_
         rotate_left; (intro w'; go_simp; with_reducible rfl); rotate_left; (simp only [Act.put, sp1_, sp2_]; rfl)
         refine take_ (i := 1) (N := some 20) (v := ?_) (a' := ?_) (mk_ 20 135) rfl rfl (take_ofW HT_.out HW_.out (by kernel_rfl)) (fun _ _ _ h => h) (Or.inl ⟨by rfl, ?_⟩) hHeld ?_ ?_
         rotate_left
         ·rintro w' ⟨s0, s1, s2, s3, s4, s5, s6, s7, s8, s9, s10, s11⟩
          go_simp
          with_reducible rfl
         rotate_left; (simp only [Act.put, sp1_, sp2_]; rfl)
         refine pure_ (i := 3) (N := some 22) (v := ?_) (a' := ?_) (mk_ 20 143) rfl rfl (an_ HT_.out) (fun _ _ _ h => h) (Or.inl ⟨by rfl, ?_⟩) ?_ ?_
         rotate_left; (intro w'; go_simp; with_reducible rfl); rotate_left; (simp only [Act.put, sp1_, sp2_]; rfl)
         refine pure_ (i := 4) (N := some 23) (v := ?_) (a' := ?_) (mk_ 20 159) rfl rfl (an_ HT_.out) (fun _ _ _ h => h) (Or.inl ⟨by rfl, ?_⟩) ?_ ?_
         rotate_left; (intro w'; go_simp; with_reducible rfl); rotate_left; (simp only [Act.put, sp1_, sp2_]; rfl)
         refine take_ (i := 5) (N := some 24) (v := ?_) (a' := ?_) (mk_ 20 191) rfl rfl (take_ofW HT_.out HW_.out (by kernel_rfl)) (fun _ _ _ h => h) (Or.inl ⟨by rfl, ?_⟩) hHeld ?_ ?_
         rotate_left
         ·rintro w' ⟨s0, s1, s2, s3, s4, s5, s6, s7, s8, s9, s10, s11⟩
          go_simp
          with_reducible rfl
         rotate_left; (simp only [Act.put, sp1_, sp2_]; rfl)
         refine pure_ (i := 6) (N := some 25) (v := ?_) (a' := ?_) (mk_ 20 255) rfl rfl (an_ HT_.out) (fun _ _ _ h => h) (Or.inl ⟨by rfl, ?_⟩) ?_ ?_
         rotate_left; (intro w'; go_simp; with_reducible rfl); rotate_left; (simp only [Act.put, sp1_, sp2_]; rfl)
         refine take_ (i := 8) (N := some 27) (v := ?_) (a' := ?_) (mk_ 20 511) rfl rfl (take_ofW HT_.out HW_.out (by kernel_rfl)) (fun _ _ _ h => h) (Or.inl ⟨by rfl, ?_⟩) hHeld ?_ ?_
         rotate_left
         ·rintro w' ⟨s0, s1, s2, s3, s4, s5, s6, s7, s8, s9, s10, s11⟩
          go_simp
          with_reducible rfl
         rotate_left; (simp only [Act.put, sp1_, sp2_]; rfl)
         refine pure_ (i := 9) (N := some 28) (v := ?_) (a' := ?_) (mk_ 20 1023) rfl rfl (an_ HT_.out) (fun _ _ _ h => h) (Or.inl ⟨by rfl, ?_⟩) ?_ ?_
         rotate_left; (intro w'; go_simp; with_reducible rfl); rotate_left; (simp only [Act.put, sp1_, sp2_]; rfl)
         refine pure_ (i := 10) (N := some 29) (v := ?_) (a' := ?_) (mk_ 20 2047) rfl rfl (an_ HT_.out) (fun _ _ _ h => h) (Or.inl ⟨by rfl, ?_⟩) ?_ ?_
         rotate_left; (intro w'; go_simp; with_reducible rfl); rotate_left; (simp only [Act.put, sp1_, sp2_]; rfl)
         refine pure_ (i := 11) (N := some 30) (v := ?_) (a' := ?_) (mk_ 20 4095) rfl rfl (an_ HT_.out) (fun _ _ _ h => h) (Or.inl ⟨by rfl, ?_⟩) ?_ ?_
         rotate_left; (intro w'; go_simp; with_reducible rfl); rotate_left; (simp only [Act.put, sp1_, sp2_]; rfl)
         refine pure_ (i := 12) (N := some 31) (v := ?_) (a' := ?_) (mk_ 20 8191) rfl rfl (an_ HT_.out) (fun _ _ _ h => h) (Or.inl ⟨by rfl, ?_⟩) ?_ ?_
         rotate_left; (intro w'; go_simp; with_reducible rfl); rotate_left; (simp only [Act.put, sp1_, sp2_]; rfl)
         refine pure_ (i := 14) (N := some 33) (v := ?_) (a' := ?_) (mk_ 20 24575) rfl rfl (an_ HT_.out) (fun _ _ _ h => h) (Or.inl ⟨by rfl, ?_⟩) ?_ ?_
         rotate_left; (intro w'; go_simp; with_reducible rfl); rotate_left; (simp only [Act.put, sp1_, sp2_]; rfl)
         refine take_ (i := 13) (N := some 32) (v := ?_) (a' := ?_) (mk_ 20 32767) rfl rfl (take_ofW HT_.out HW_.out (by kernel_rfl)) (fun _ _ _ h => h) (Or.inl ⟨by rfl, ?_⟩) hHeld ?_ ?_
         rotate_left
         ·rintro w' ⟨s0, s1, s2, s3, s4, s5, s6, s7, s8, s9, s10, s11⟩
          go_simp
          with_reducible rfl
         rotate_left; (simp only [Act.put, sp1_, sp2_]; rfl)
         refine pure_ (i := 15) (N := some 34) (v := ?_) (a' := ?_) (mk_ 20 65535) rfl rfl (an_ HT_.out) (fun _ _ _ h => h) (Or.inl ⟨by rfl, ?_⟩) ?_ ?_
         rotate_left; (intro w'; go_simp; with_reducible rfl); rotate_left; (simp only [Act.put, sp1_, sp2_]; rfl)
         refine take_ (i := 16) (N := some 35) (v := ?_) (a' := ?_) (mk_ 20 131071) rfl rfl (take_ofW HT_.out HW_.out (by kernel_rfl)) (fun _ _ _ h => h) (Or.inl ⟨by rfl, ?_⟩) hHeld ?_ ?_
         rotate_left
         ·rintro w' ⟨s0, s1, s2, s3, s4, s5, s6, s7, s8, s9, s10, s11⟩
          go_simp
          with_reducible rfl
         rotate_left; (simp only [Act.put, sp1_, sp2_]; rfl)
         refine one_ (i := 17) (N := some 36) (mk_ 20 262143) rfl rfl (one_of HT_.out (by kernel_rfl)) (by decide) (fun K hK => ?_)
         refine goes_ Tryd.func22 (by kernel_rfl) rfl #[.agg #[.int .i64 ((rd_T24 l0_3 x3_2).f0), .string ((rd_T24 l0_3 x3_2).f1), .int .i64 ((rd_T24 l0_3 x3_2).f2), .slice A284_3 ((rd_T24 l0_3 x3_2).f3).length c284_3]] (by rfl) rfl rfl (by (try simp only [List.map_toArray, List.map_cons, List.map_nil]); first | done | rfl | (simp only [List.length_drop, List.length_take]; rfl)) ?_
         with_reducible refine (ih k2 (by have := HJ1.out; have := HK2.out; omega) ((rd_T24 l0_3 x3_2).f0) ((rd_T24 l0_3 x3_2).f1) ((rd_T24 l0_3 x3_2).f2) _ _ ((rd_T24 l0_3 x3_2).f3) false _ ?side1 ?side2 A19.out).mono ?_
         (case side1 => exact kc_ HR285_3.out HB.out)
         (case side2 => exact HC285_3.out)
         rintro e w26 ⟨rfl, hb⟩
         refine ⟨_, rfl, ?_⟩
         have n0_ := Aside0.mk (blk_below (g := gb281) (o := .cells #[.int .i64 a0_0, .string a0_1, .int .i64 a0_2, .slice (some ad284) l0_3.length c0_3] 24 (0, 0)) (bk_ BK281.out) hb)
         have n1_ := Aside0.mk (below_step (bs1_ HB.out GE281.out) hb)
         clear BK281; clear HB
         have BK281 := n0_
         have HB := n1_
         clear n0_ n1_
         (try clear hb)
         (try clear hb2)
         (try clear hk)
         (try clear hi)
         refine hK.out _ _ ⟨(blk_cell BK281.out 0).trans rfl, (blk_cell BK281.out 1).trans rfl, (blk_cell BK281.out 2).trans rfl, (blk_cell BK281.out 3).trans rfl, (ck_ HB.out hw284_0), (ck_ HB.out hw284_1), (ck_ HB.out hw284_2), (ck_ HB.out hw284_3), (ck_ HB.out hw285_0), (ck_ HB.out hw285_1), (ck_ HB.out hw285_2), (ck_ HB.out hw285_3)⟩ (fun hHeld => ?_)
         clear hK K
         refine norm_ (a' := ?_) ?_ ?_
         rotate_left
         ·show Act.put _ (some 36) _ = _
          simp only [Act.put, sp1_, sp2_]
          rfl
         refine pure_ (i := 18) (N := some 37) (v := ?_) (a' := ?_) (mk_ 20 524287) rfl rfl (an_ HT_.out) (fun _ _ _ h => h) (Or.inl ⟨by rfl, ?_⟩) ?_ ?_
         rotate_left; (intro w'; go_simp; with_reducible rfl); rotate_left; (simp only [Act.put, sp1_, sp2_]; rfl)
         refine pure_ (i := 19) (N := some 38) (v := ?_) (a' := ?_) (mk_ 20 1048575) rfl rfl (an_ HT_.out) (fun _ _ _ h => h) (Or.inl ⟨by rfl, ?_⟩) ?_ ?_
         rotate_left; (intro w'; go_simp; with_reducible rfl); rotate_left; (simp only [Act.put, sp1_, sp2_]; rfl)
         refine done_ (done_of HT_.out (by kernel_rfl)) ?_
         try go_wp2
         go_ret
         exact ⟨by first | rfl | (simp [errW_none, errW_some] <;> rfl) | (simp [*, errW_none, errW_some] <;> rfl), bs1_ HB.out GE281.out⟩
      ·rw [if_neg c14] at H
       have c14b0 : decide (x3_2 < (l0_3.length : Int)) = false := decide_eq_false c14
       clear c14
       obtain rfl := Option.some.inj H
       have hcz27_0 : wr.cell? ⟨gb281, 0, none⟩ = some (.int .i64 a0_0) := (blk_cell BK281.out 0).trans rfl
       have hcz27_1 : wr.cell? ⟨gb281, 1, none⟩ = some (.string a0_1) := (blk_cell BK281.out 1).trans rfl
       have hcz27_2 : wr.cell? ⟨gb281, 2, none⟩ = some (.int .i64 a0_2) := (blk_cell BK281.out 2).trans rfl
       have hcz27_3 : wr.cell? ⟨gb281, 3, none⟩ = some (.slice A0_3 l0_3.length c0_3) := (blk_cell BK281.out 3).trans rfl
       have hfz27_0 := blk_frozen BK281.out 0
       have hfz27_1 := blk_frozen BK281.out 1
       have hfz27_2 := blk_frozen BK281.out 2
       have hfz27_3 := blk_frozen BK281.out 3
       go_wp2
       go_ret
       exact ⟨by first | rfl | (simp [errW_none, errW_some] <;> rfl) | (simp [*, errW_none, errW_some] <;> rfl), bs1_ HB.out GE281.out⟩

end Go.Proofs.YtihchehmkhnhaaaDoor.A
/- Made for this claim by a program of the session: the Go functions' plain twins and their contracts. Lean checks it. -/
namespace Go.Proofs.YtihchehmkhnhaaaDoor.A
open Go.RowKit Go.Proofs.YtihchehmkhnhaaaDoorW.PrintWords Go.Proofs.YtihchehmkhnhaaaDoorW.PrintLast Go.Proofs.YtihchehmkhnhaaaDoorW.PrintMore
attribute [local go_sem] max2_int min2_int max_two min_two max_three min_three max_four min_four   -- for this text's walks alone
set_option linter.unusedVariables false
set_option linter.unusedSimpArgs false

mutual
def vinculumref09_Depth.l0 : Nat → Int → Int → Int → ByteArray → Int → List (S24) → Option (Int)
 | 0, _, _, _, _, _, _ => none
 | k + 1, x3, x4, x288000, x288001, x288002, x288003 => if x4 < (x288003.length : Int) then (if 0 ≤ x4 then ((vinculumref09_Depth.f k ((rd_T24 x288003 x4).f0) ((rd_T24 x288003 x4).f1) ((rd_T24 x288003 x4).f2) ((rd_T24 x288003 x4).f3)).bind fun t289 => (vinculumref09_Depth.l0 k (mx x3 t289) (wrap64 (x4 + 1)) x288000 x288001 x288002 x288003)) else (none)) else (some (wrap64 (x3 + 1)))
def vinculumref09_Depth.f : Nat → Int → ByteArray → Int → List (S24) → Option (Int)
 | 0, _, _, _, _ => none
 | k + 1, a0_0, a0_1, a0_2, l0_3 => vinculumref09_Depth.l0 k 0 0 a0_0 a0_1 a0_2 l0_3
end
theorem vinculumref09_Depth.mono_l : ∀ k, (∀ y0 y1 y2 y3, LeO (vinculumref09_Depth.f k y0 y1 y2 y3) (vinculumref09_Depth.f (k + 1) y0 y1 y2 y3)) ∧ (∀ y0 y1 y2 y3 y4 y5, LeO (vinculumref09_Depth.l0 k y0 y1 y2 y3 y4 y5) (vinculumref09_Depth.l0 (k + 1) y0 y1 y2 y3 y4 y5))
 | 0 => ⟨fun _ _ _ _ r h => by simp [vinculumref09_Depth.f] at h, fun _ _ _ _ _ _ r h => by simp [vinculumref09_Depth.l0] at h⟩
 | k + 1 => by
  obtain ⟨ih0, ih1⟩ := vinculumref09_Depth.mono_l k
  refine ⟨?_, ?_⟩
  ·intro y0 y1 y2 y3
   unfold vinculumref09_Depth.f
   repeat' first
   | (with_reducible exact ih0 _ _ _ _)
   | (with_reducible exact ih1 _ _ _ _ _ _)
   | (with_reducible exact LeO.refl _)
   | (with_reducible exact LeO.none _)
   | (with_reducible refine LeO.ite ?_ ?_)
   | (with_reducible refine LeO.bind ?_ (fun _ => ?_))
   | exact ih0 _ _ _ _
   | exact ih1 _ _ _ _ _ _
   | exact LeO.none _
   | refine LeO.ite ?_ ?_
   | refine LeO.bind ?_ (fun _ => ?_)
  ·intro y0 y1 y2 y3 y4 y5
   unfold vinculumref09_Depth.l0
   repeat' first
   | (with_reducible exact ih0 _ _ _ _)
   | (with_reducible exact ih1 _ _ _ _ _ _)
   | (with_reducible exact LeO.refl _)
   | (with_reducible exact LeO.none _)
   | (with_reducible refine LeO.ite ?_ ?_)
   | (with_reducible refine LeO.bind ?_ (fun _ => ?_))
   | exact ih0 _ _ _ _
   | exact ih1 _ _ _ _ _ _
   | exact LeO.none _
   | refine LeO.ite ?_ ?_
   | refine LeO.bind ?_ (fun _ => ?_)
theorem vinculumref09_Depth.mono : ∀ a0 a1 a2 a3 k, LeO (vinculumref09_Depth.f k a0 a1 a2 a3) (vinculumref09_Depth.f (k + 1) a0 a1 a2 a3) := by
 intro a0 a1 a2 a3 k
 obtain ⟨ih0, ih1⟩ := vinculumref09_Depth.mono_l k
 exact ih0 a0 a1 a2 a3
set_option maxHeartbeats 8000000 in
set_option maxRecDepth 100000 in
theorem vinculumref09_Depth.calls (k : Nat) : ∀ (a0_0 : Int) (a0_1 : ByteArray) (a0_2 : Int) (A0_3 : Option Addr) (c0_3 : Nat) (l0_3 : List (S24)) (r : Int) (w : World) (hr0_3 : Kd.C k24 w A0_3 l0_3.length l0_3) (hc0_3 : l0_3.length ≤ c0_3) (h : vinculumref09_Depth.f k a0_0 a0_1 a0_2 l0_3 = some r),
  Calls Tryd.prog 24 #[.agg #[.int .i64 a0_0, .string a0_1, .int .i64 a0_2, .slice A0_3 l0_3.length c0_3]] w fun e w' => e = .returned (.int .i64 r) ∧ Below w.heap.size w w' := by
 induction k using Nat.strongRecOn with
 | _ k ih =>
 intro a0_0 a0_1 a0_2 A0_3 c0_3 l0_3 r w hr0_3 hc0_3 h
 cases k with
 | zero => exact absurd h (by simp [vinculumref09_Depth.f])
 | succ k =>
 simp only [vinculumref09_Depth.f] at h
 have hu24 := Tryd.underlying24
 have HR0_3 := Aside0.mk hr0_3
 have HC0_3 := Aside0.mk hc0_3
 clear hr0_3 hc0_3
 have HB := Aside0.mk (Below.refl w.heap.size w)
 have H : (vinculumref09_Depth.l0 k 0 0 a0_0 a0_1 a0_2 l0_3) = some r := h
 clear h
 have H' := Aside0.mk H
 clear H
 go_enter Tryd.func24, Tryd.ntmps24
 go_wp2_with (first | ((with_reducible refine gate_dst (N := 1) rfl ?_); refine box_event ?hg (N := 1) ?hd (cs := #[.int .i64 a0_0, .string a0_1, .int .i64 a0_2, .slice A0_3 l0_3.length c0_3]) (t := 24) ?hr ?_; (case hd => rfl); (case hg => rfl); (case hr => first | (go_simp; done) | (go_simp; rfl)); intro gb287 hg w2 hbox hb; have n0_ := Aside0.mk (below_step (bs0_ HB.out) hb); have n1_ := Aside0.mk (hbox); have n2_ := Aside0.mk ((by rw [hg]; exact (below_size (bs0_ HB.out)) : w.heap.size ≤ gb287)); have n3_ := Aside0.mk ((by rw [hg]; exact (below_size (bs0_ HB.out)) : w.heap.size ≤ gb287)); clear HB; have HB := n0_; have BK287 := n1_; have GW287 := n2_; have GE287 := n3_; clear n0_ n1_ n2_ n3_; clear hb hbox hg))
 go_loopg [3, 4] k (fun kq v3 v4 w' => ∃ (x3_1 : Int) (x4_1 : Int), v3 = .int .i64 x3_1 ∧ v4 = .int .i64 x4_1 ∧ Aside0 (vinculumref09_Depth.l0 kq x3_1 x4_1 a0_0 a0_1 a0_2 l0_3 = some r) ∧ Aside0 (kq ≤ k) ∧ Aside0 (w'.heap[gb287]? = some (.cells #[.int .i64 a0_0, .string a0_1, .int .i64 a0_2, (.slice A0_3 l0_3.length c0_3)] 24 (0, 0))) ∧ Aside0 (Below w.heap.size w w'))
 case atStart => exact ⟨(0), (0), (by first | rfl | (simp; done) | (simp [*]; done)), (by first | rfl | (simp; done) | (simp [*]; done)), H', ⟨Nat.le_refl _⟩, ⟨bk_ BK287.out⟩, ⟨bs1_ HB.out GE287.out⟩⟩
 case round =>
  clear H'; (try clear c2); (try clear p2)
  obtain ⟨x3_1, x4_1, rfl, rfl, HA, HK1, BK287, HB⟩ := hrel
  cases gk with
  | zero => exact absurd HA.out (by simp [vinculumref09_Depth.l0])
  | succ k1 =>
   have H := HA.out
   clear HA
   simp only [vinculumref09_Depth.l0] at H
   by_cases c3 : x4_1 < (l0_3.length : Int)
   ·rw [if_pos c3] at H
    have c3b0 : decide (x4_1 < (l0_3.length : Int)) = true := decide_eq_true c3
    clear c3
    by_cases c4 : 0 ≤ x4_1
    case neg =>
     rw [if_neg c4] at H
     exact absurd H (by simp)
    rw [if_pos c4] at H
    have c4b0 : decide (0 ≤ x4_1) = true := decide_eq_true c4
    clear c4
    replace H := Option.bind_eq_some_iff.mp H
    obtain ⟨t289, A50, H⟩ := H
    replace H : (vinculumref09_Depth.l0 k1 (mx x3_1 t289) (wrap64 (x4_1 + 1)) a0_0 a0_1 a0_2 l0_3) = some r := H
    have A5 := Aside0.mk A50
    clear A50
    obtain ⟨ji6, hji6⟩ : ∃ j_ : Int, (mx x3_1 t289) = j_ := ⟨_, rfl⟩
    replace H : (vinculumref09_Depth.l0 k1 ji6 (wrap64 (x4_1 + 1)) a0_0 a0_1 a0_2 l0_3) = some r := by first | (rw [hji6] at H; exact H) | (simp only [hji6] at H ⊢; exact H)
    (try rw [hji6] at A5)
    have hji6_ : (if x3_1 < t289 then t289 else x3_1) = ji6 := hji6
    have H' := Aside0.mk H
    clear H
    have hcz7_0 : wr.cell? ⟨gb287, 0, none⟩ = some (.int .i64 a0_0) := (blk_cell BK287.out 0).trans rfl
    have hcz7_1 : wr.cell? ⟨gb287, 1, none⟩ = some (.string a0_1) := (blk_cell BK287.out 1).trans rfl
    have hcz7_2 : wr.cell? ⟨gb287, 2, none⟩ = some (.int .i64 a0_2) := (blk_cell BK287.out 2).trans rfl
    have hcz7_3 : wr.cell? ⟨gb287, 3, none⟩ = some (.slice A0_3 l0_3.length c0_3) := (blk_cell BK287.out 3).trans rfl
    have hfz7_0 := blk_frozen BK287.out 0
    have hfz7_1 := blk_frozen BK287.out 1
    have hfz7_2 := blk_frozen BK287.out 2
    have hfz7_3 := blk_frozen BK287.out 3
    have p288 : 0 ≤ (x4_1 : Int) := of_decide_eq_true (by first | (with_reducible assumption) | assumption)
    have q288 : x4_1 < (l0_3.length : Int) := of_decide_eq_true (by first | (with_reducible assumption) | assumption)
    obtain ⟨ad288, A288_3, c288_3, e288, hx288_0, hx288_1, hx288_2, hx288_3, hl288_3, hi288_3⟩ := at_T24 HR0_3.out x4_1 p288 q288
    cases e288
    replace hx288_0 := (cl_ HB.out hx288_0).trans hx288_0
    replace hx288_1 := (cl_ HB.out hx288_1).trans hx288_1
    replace hx288_2 := (cl_ HB.out hx288_2).trans hx288_2
    replace hx288_3 := (cl_ HB.out hx288_3).trans hx288_3
    have HR288_3 := Aside0.mk hi288_3
    have HC288_3 := Aside0.mk hl288_3
    clear hi288_3 hl288_3
    replace p288 := eq_true p288
    replace q288 := eq_true q288
    go_wp2_with (first | ((with_reducible refine gate_callee (f := 24) rfl ?_); refine goesL_ (some 18) rfl rfl Tryd.func24 (by kernel_rfl) rfl #[.agg #[.int .i64 ((rd_T24 l0_3 x4_1).f0), .string ((rd_T24 l0_3 x4_1).f1), .int .i64 ((rd_T24 l0_3 x4_1).f2), .slice A288_3 ((rd_T24 l0_3 x4_1).f3).length c288_3]] rfl (by (try simp only [List.map_toArray, List.map_cons, List.map_nil]); first | done | rfl | (simp only [List.length_drop, List.length_take]; rfl)) ?_; (with_reducible refine (ih k1 (by have := HK1.out; omega) ((rd_T24 l0_3 x4_1).f0) ((rd_T24 l0_3 x4_1).f1) ((rd_T24 l0_3 x4_1).f2) _ _ ((rd_T24 l0_3 x4_1).f3) t289 _ ?side1 ?side2 A5.out).mono ?_); (case side1 => exact kc_ HR288_3.out HB.out); (case side2 => exact HC288_3.out); rintro e w8 ⟨rfl, hb⟩; refine ⟨_, rfl, ?_⟩; have n0_ := Aside0.mk (blk_below (g := gb287) (o := .cells #[.int .i64 a0_0, .string a0_1, .int .i64 a0_2, .slice (some ad288) l0_3.length c0_3] 24 (0, 0)) (bk_ BK287.out) hb); have n1_ := Aside0.mk (below_step (bs1_ HB.out GE287.out) hb); clear BK287; clear HB; have BK287 := n0_; have HB := n1_; clear n0_ n1_; (try clear hb); (try clear hb2); (try clear hk); (try clear hi)))
    go_roundg k1
    case measure => have := HK1.out; omega
    case rel => exact ⟨(ji6), (wrap64 (x4_1 + 1)), (by first | rfl | (simp; done) | (simp only [← hji6] <;> (first | rfl | simp)) | (simp [*]; done)), (by first | rfl | (simp; done) | (simp [*]; done)), H', ⟨by have := HK1.out; omega⟩, ⟨bk_ BK287.out⟩, ⟨bs1_ HB.out GE287.out⟩⟩
   ·rw [if_neg c3] at H
    have c3b0 : decide (x4_1 < (l0_3.length : Int)) = false := decide_eq_false c3
    clear c3
    obtain rfl := Option.some.inj H
    have hcz9_0 : wr.cell? ⟨gb287, 0, none⟩ = some (.int .i64 a0_0) := (blk_cell BK287.out 0).trans rfl
    have hcz9_1 : wr.cell? ⟨gb287, 1, none⟩ = some (.string a0_1) := (blk_cell BK287.out 1).trans rfl
    have hcz9_2 : wr.cell? ⟨gb287, 2, none⟩ = some (.int .i64 a0_2) := (blk_cell BK287.out 2).trans rfl
    have hcz9_3 : wr.cell? ⟨gb287, 3, none⟩ = some (.slice A0_3 l0_3.length c0_3) := (blk_cell BK287.out 3).trans rfl
    have hfz9_0 := blk_frozen BK287.out 0
    have hfz9_1 := blk_frozen BK287.out 1
    have hfz9_2 := blk_frozen BK287.out 2
    have hfz9_3 := blk_frozen BK287.out 3
    go_wp2
    go_ret
    exact ⟨by first | rfl | (simp [errW_none, errW_some] <;> rfl) | (simp [*, errW_none, errW_some] <;> rfl), bs1_ HB.out GE287.out⟩

def vinculumref09_Valid.f (k : Nat) (a0_0 : Int) (a0_1 : ByteArray) (a0_2 : Int) (l0_3 : List (S24)) : Option (Bool) := if a0_0 = 1 then ((vinculumref09_form.f k a0_0 a0_1 a0_2 l0_3).bind fun t291 => (if t291 = true then ((vinculumref09_Count.f k a0_0 a0_1 a0_2 l0_3).bind fun t292 => (if t292 ≤ 1000 then ((vinculumref09_Depth.f k a0_0 a0_1 a0_2 l0_3).bind fun t293 => (some (decide (t293 ≤ 24)))) else (some false))) else (some false))) else (some false)
theorem vinculumref09_Valid.mono : ∀ a0 a1 a2 a3 k, LeO (vinculumref09_Valid.f k a0 a1 a2 a3) (vinculumref09_Valid.f (k + 1) a0 a1 a2 a3) := by
 intro a0 a1 a2 a3 k
 unfold vinculumref09_Valid.f
 repeat' first
   | (with_reducible exact vinculumref09_Count.mono _ _ _ _ _)
   | (with_reducible exact vinculumref09_Depth.mono _ _ _ _ _)
   | (with_reducible exact vinculumref09_form.mono _ _ _ _ _)
   | (with_reducible exact LeO.refl _)
   | (with_reducible exact LeO.none _)
   | (with_reducible refine LeO.ite ?_ ?_)
   | (with_reducible refine LeO.bind ?_ (fun _ => ?_))
   | exact vinculumref09_Count.mono _ _ _ _ _
   | exact vinculumref09_Depth.mono _ _ _ _ _
   | exact vinculumref09_form.mono _ _ _ _ _
   | exact LeO.none _
   | refine LeO.ite ?_ ?_
   | refine LeO.bind ?_ (fun _ => ?_)
set_option maxHeartbeats 8000000 in
set_option maxRecDepth 100000 in
theorem vinculumref09_Valid.calls (k : Nat) (a0_0 : Int) (a0_1 : ByteArray) (a0_2 : Int) (A0_3 : Option Addr) (c0_3 : Nat) (l0_3 : List (S24)) (r : Bool) (w : World) (hr0_3 : Kd.C k24 w A0_3 l0_3.length l0_3) (hc0_3 : l0_3.length ≤ c0_3) (h : vinculumref09_Valid.f k a0_0 a0_1 a0_2 l0_3 = some r) :
  Calls Tryd.prog 10 #[.agg #[.int .i64 a0_0, .string a0_1, .int .i64 a0_2, .slice A0_3 l0_3.length c0_3]] w fun e w' => e = .returned (.bool r) ∧ Below w.heap.size w w' := by
 have hu24 := Tryd.underlying24
 have HR0_3 := Aside0.mk hr0_3
 have HC0_3 := Aside0.mk hc0_3
 clear hr0_3 hc0_3
 have HB := Aside0.mk (Below.refl w.heap.size w)
 have H : (if a0_0 = 1 then ((vinculumref09_form.f k a0_0 a0_1 a0_2 l0_3).bind fun t291 => (if t291 = true then ((vinculumref09_Count.f k a0_0 a0_1 a0_2 l0_3).bind fun t292 => (if t292 ≤ 1000 then ((vinculumref09_Depth.f k a0_0 a0_1 a0_2 l0_3).bind fun t293 => (some (decide (t293 ≤ 24)))) else (some false))) else (some false))) else (some false)) = some r := h
 clear h
 by_cases c2 : a0_0 = 1
 ·rw [if_pos c2] at H
  have c2b0 : (a0_0 == 1) = true := beq_iff_eq.mpr c2
  have c2b1 : (a0_0 != 1) = false := bne_eq_false_iff_eq.mpr c2
  clear c2
  replace H := Option.bind_eq_some_iff.mp H
  obtain ⟨t291, A30, H⟩ := H
  replace H : (if t291 = true then ((vinculumref09_Count.f k a0_0 a0_1 a0_2 l0_3).bind fun t292 => (if t292 ≤ 1000 then ((vinculumref09_Depth.f k a0_0 a0_1 a0_2 l0_3).bind fun t293 => (some (decide (t293 ≤ 24)))) else (some false))) else (some false)) = some r := H
  have A3 := Aside0.mk A30
  clear A30
  by_cases c4 : t291 = true
  ·subst c4
   have H1 : ((vinculumref09_Count.f k a0_0 a0_1 a0_2 l0_3).bind fun t292 => (if t292 ≤ 1000 then ((vinculumref09_Depth.f k a0_0 a0_1 a0_2 l0_3).bind fun t293 => (some (decide (t293 ≤ 24)))) else (some false))) = some r := by rw [if_pos rfl] at H; exact H
   clear H
   have H := H1
   clear H1
   replace H := Option.bind_eq_some_iff.mp H
   obtain ⟨t292, A50, H⟩ := H
   replace H : (if t292 ≤ 1000 then ((vinculumref09_Depth.f k a0_0 a0_1 a0_2 l0_3).bind fun t293 => (some (decide (t293 ≤ 24)))) else (some false)) = some r := H
   have A5 := Aside0.mk A50
   clear A50
   by_cases c6 : t292 ≤ 1000
   ·rw [if_pos c6] at H
    have c6b0 : decide (t292 ≤ 1000) = true := decide_eq_true c6
    clear c6
    replace H := Option.bind_eq_some_iff.mp H
    obtain ⟨t293, A70, H⟩ := H
    replace H : (some (decide (t293 ≤ 24))) = some r := H
    have A7 := Aside0.mk A70
    clear A70
    obtain rfl := Option.some.inj H
    go_enter Tryd.func10, Tryd.ntmps10
    go_wp2_with (first | ((with_reducible refine gate_dst (N := 1) rfl ?_); refine box_event ?hg (N := 1) ?hd (cs := #[.int .i64 a0_0, .string a0_1, .int .i64 a0_2, .slice A0_3 l0_3.length c0_3]) (t := 24) ?hr ?_; (case hd => rfl); (case hg => rfl); (case hr => first | (go_simp; done) | (go_simp; rfl)); intro gb290 hg w8 hbox hb; have n0_ := Aside0.mk (below_step (bs0_ HB.out) hb); have n1_ := Aside0.mk (hbox); have n2_ := Aside0.mk ((by rw [hg]; exact (below_size (bs0_ HB.out)) : w.heap.size ≤ gb290)); have n3_ := Aside0.mk ((by rw [hg]; exact (below_size (bs0_ HB.out)) : w.heap.size ≤ gb290)); clear HB; have HB := n0_; have BK290 := n1_; have GW290 := n2_; have GE290 := n3_; clear n0_ n1_ n2_ n3_; clear hb hbox hg; have hcz9_0 : w8.cell? ⟨gb290, 0, none⟩ = some (.int .i64 a0_0) := (blk_cell BK290.out 0).trans rfl; have hcz9_1 : w8.cell? ⟨gb290, 1, none⟩ = some (.string a0_1) := (blk_cell BK290.out 1).trans rfl; have hcz9_2 : w8.cell? ⟨gb290, 2, none⟩ = some (.int .i64 a0_2) := (blk_cell BK290.out 2).trans rfl; have hcz9_3 : w8.cell? ⟨gb290, 3, none⟩ = some (.slice A0_3 l0_3.length c0_3) := (blk_cell BK290.out 3).trans rfl; have hfz9_0 := blk_frozen BK290.out 0; have hfz9_1 := blk_frozen BK290.out 1; have hfz9_2 := blk_frozen BK290.out 2; have hfz9_3 := blk_frozen BK290.out 3) | (go_at_call 22; (with_reducible refine (vinculumref09_form.calls k a0_0 a0_1 a0_2 _ _ l0_3 true _ ?side1 ?side2 A3.out).mono ?_); (case side1 => exact kc_ HR0_3.out HB.out); (case side2 => exact HC0_3.out); rintro e w10 ⟨rfl, hb⟩; have n0_ := Aside0.mk (blk_below (g := gb290) (o := .cells #[.int .i64 a0_0, .string a0_1, .int .i64 a0_2, .slice A0_3 l0_3.length c0_3] 24 (0, 0)) (bk_ BK290.out) hb); have n1_ := Aside0.mk (below_step (bs1_ HB.out GE290.out) hb); clear BK290; clear HB; have BK290 := n0_; have HB := n1_; clear n0_ n1_; (try clear hb); (try clear hb2); (try clear hk); (try clear hi); have hcz11_0 : w10.cell? ⟨gb290, 0, none⟩ = some (.int .i64 a0_0) := (blk_cell BK290.out 0).trans rfl; have hcz11_1 : w10.cell? ⟨gb290, 1, none⟩ = some (.string a0_1) := (blk_cell BK290.out 1).trans rfl; have hcz11_2 : w10.cell? ⟨gb290, 2, none⟩ = some (.int .i64 a0_2) := (blk_cell BK290.out 2).trans rfl; have hcz11_3 : w10.cell? ⟨gb290, 3, none⟩ = some (.slice A0_3 l0_3.length c0_3) := (blk_cell BK290.out 3).trans rfl; have hfz11_0 := blk_frozen BK290.out 0; have hfz11_1 := blk_frozen BK290.out 1; have hfz11_2 := blk_frozen BK290.out 2; have hfz11_3 := blk_frozen BK290.out 3) | (go_at_call 23; (with_reducible refine (vinculumref09_Count.calls k a0_0 a0_1 a0_2 _ _ l0_3 t292 _ ?side1 ?side2 A5.out).mono ?_); (case side1 => exact kc_ HR0_3.out HB.out); (case side2 => exact HC0_3.out); rintro e w12 ⟨rfl, hb⟩; have n0_ := Aside0.mk (blk_below (g := gb290) (o := .cells #[.int .i64 a0_0, .string a0_1, .int .i64 a0_2, .slice A0_3 l0_3.length c0_3] 24 (0, 0)) (bk_ BK290.out) hb); have n1_ := Aside0.mk (below_step (bs1_ HB.out GE290.out) hb); clear BK290; clear HB; have BK290 := n0_; have HB := n1_; clear n0_ n1_; (try clear hb); (try clear hb2); (try clear hk); (try clear hi); have hcz13_0 : w12.cell? ⟨gb290, 0, none⟩ = some (.int .i64 a0_0) := (blk_cell BK290.out 0).trans rfl; have hcz13_1 : w12.cell? ⟨gb290, 1, none⟩ = some (.string a0_1) := (blk_cell BK290.out 1).trans rfl; have hcz13_2 : w12.cell? ⟨gb290, 2, none⟩ = some (.int .i64 a0_2) := (blk_cell BK290.out 2).trans rfl; have hcz13_3 : w12.cell? ⟨gb290, 3, none⟩ = some (.slice A0_3 l0_3.length c0_3) := (blk_cell BK290.out 3).trans rfl; have hfz13_0 := blk_frozen BK290.out 0; have hfz13_1 := blk_frozen BK290.out 1; have hfz13_2 := blk_frozen BK290.out 2; have hfz13_3 := blk_frozen BK290.out 3) | (go_at_call 24; (with_reducible refine (vinculumref09_Depth.calls k a0_0 a0_1 a0_2 _ _ l0_3 t293 _ ?side1 ?side2 A7.out).mono ?_); (case side1 => exact kc_ HR0_3.out HB.out); (case side2 => exact HC0_3.out); rintro e w14 ⟨rfl, hb⟩; have n0_ := Aside0.mk (blk_below (g := gb290) (o := .cells #[.int .i64 a0_0, .string a0_1, .int .i64 a0_2, .slice A0_3 l0_3.length c0_3] 24 (0, 0)) (bk_ BK290.out) hb); have n1_ := Aside0.mk (below_step (bs1_ HB.out GE290.out) hb); clear BK290; clear HB; have BK290 := n0_; have HB := n1_; clear n0_ n1_; (try clear hb); (try clear hb2); (try clear hk); (try clear hi)))
    go_ret
    exact ⟨by first | rfl | (simp [errW_none, errW_some] <;> rfl) | (simp [*, errW_none, errW_some] <;> rfl), bs1_ HB.out GE290.out⟩
   ·rw [if_neg c6] at H
    have c6b0 : decide (t292 ≤ 1000) = false := decide_eq_false c6
    clear c6
    obtain rfl := Option.some.inj H
    go_enter Tryd.func10, Tryd.ntmps10
    go_wp2_with (first | ((with_reducible refine gate_dst (N := 1) rfl ?_); refine box_event ?hg (N := 1) ?hd (cs := #[.int .i64 a0_0, .string a0_1, .int .i64 a0_2, .slice A0_3 l0_3.length c0_3]) (t := 24) ?hr ?_; (case hd => rfl); (case hg => rfl); (case hr => first | (go_simp; done) | (go_simp; rfl)); intro gb290 hg w15 hbox hb; have n0_ := Aside0.mk (below_step (bs0_ HB.out) hb); have n1_ := Aside0.mk (hbox); have n2_ := Aside0.mk ((by rw [hg]; exact (below_size (bs0_ HB.out)) : w.heap.size ≤ gb290)); have n3_ := Aside0.mk ((by rw [hg]; exact (below_size (bs0_ HB.out)) : w.heap.size ≤ gb290)); clear HB; have HB := n0_; have BK290 := n1_; have GW290 := n2_; have GE290 := n3_; clear n0_ n1_ n2_ n3_; clear hb hbox hg; have hcz16_0 : w15.cell? ⟨gb290, 0, none⟩ = some (.int .i64 a0_0) := (blk_cell BK290.out 0).trans rfl; have hcz16_1 : w15.cell? ⟨gb290, 1, none⟩ = some (.string a0_1) := (blk_cell BK290.out 1).trans rfl; have hcz16_2 : w15.cell? ⟨gb290, 2, none⟩ = some (.int .i64 a0_2) := (blk_cell BK290.out 2).trans rfl; have hcz16_3 : w15.cell? ⟨gb290, 3, none⟩ = some (.slice A0_3 l0_3.length c0_3) := (blk_cell BK290.out 3).trans rfl; have hfz16_0 := blk_frozen BK290.out 0; have hfz16_1 := blk_frozen BK290.out 1; have hfz16_2 := blk_frozen BK290.out 2; have hfz16_3 := blk_frozen BK290.out 3) | (go_at_call 22; (with_reducible refine (vinculumref09_form.calls k a0_0 a0_1 a0_2 _ _ l0_3 true _ ?side1 ?side2 A3.out).mono ?_); (case side1 => exact kc_ HR0_3.out HB.out); (case side2 => exact HC0_3.out); rintro e w17 ⟨rfl, hb⟩; have n0_ := Aside0.mk (blk_below (g := gb290) (o := .cells #[.int .i64 a0_0, .string a0_1, .int .i64 a0_2, .slice A0_3 l0_3.length c0_3] 24 (0, 0)) (bk_ BK290.out) hb); have n1_ := Aside0.mk (below_step (bs1_ HB.out GE290.out) hb); clear BK290; clear HB; have BK290 := n0_; have HB := n1_; clear n0_ n1_; (try clear hb); (try clear hb2); (try clear hk); (try clear hi); have hcz18_0 : w17.cell? ⟨gb290, 0, none⟩ = some (.int .i64 a0_0) := (blk_cell BK290.out 0).trans rfl; have hcz18_1 : w17.cell? ⟨gb290, 1, none⟩ = some (.string a0_1) := (blk_cell BK290.out 1).trans rfl; have hcz18_2 : w17.cell? ⟨gb290, 2, none⟩ = some (.int .i64 a0_2) := (blk_cell BK290.out 2).trans rfl; have hcz18_3 : w17.cell? ⟨gb290, 3, none⟩ = some (.slice A0_3 l0_3.length c0_3) := (blk_cell BK290.out 3).trans rfl; have hfz18_0 := blk_frozen BK290.out 0; have hfz18_1 := blk_frozen BK290.out 1; have hfz18_2 := blk_frozen BK290.out 2; have hfz18_3 := blk_frozen BK290.out 3) | (go_at_call 23; (with_reducible refine (vinculumref09_Count.calls k a0_0 a0_1 a0_2 _ _ l0_3 t292 _ ?side1 ?side2 A5.out).mono ?_); (case side1 => exact kc_ HR0_3.out HB.out); (case side2 => exact HC0_3.out); rintro e w19 ⟨rfl, hb⟩; have n0_ := Aside0.mk (blk_below (g := gb290) (o := .cells #[.int .i64 a0_0, .string a0_1, .int .i64 a0_2, .slice A0_3 l0_3.length c0_3] 24 (0, 0)) (bk_ BK290.out) hb); have n1_ := Aside0.mk (below_step (bs1_ HB.out GE290.out) hb); clear BK290; clear HB; have BK290 := n0_; have HB := n1_; clear n0_ n1_; (try clear hb); (try clear hb2); (try clear hk); (try clear hi)))
    go_ret
    exact ⟨by first | rfl | (simp [errW_none, errW_some] <;> rfl) | (simp [*, errW_none, errW_some] <;> rfl), bs1_ HB.out GE290.out⟩
  ·replace c4 := Bool.eq_false_iff.mpr c4
   subst c4
   have H1 : (some false) = some r := by rw [if_neg (show ¬ (false = true) by decide)] at H; exact H
   clear H
   have H := H1
   clear H1
   obtain rfl := Option.some.inj H
   go_enter Tryd.func10, Tryd.ntmps10
   go_wp2_with (first | ((with_reducible refine gate_dst (N := 1) rfl ?_); refine box_event ?hg (N := 1) ?hd (cs := #[.int .i64 a0_0, .string a0_1, .int .i64 a0_2, .slice A0_3 l0_3.length c0_3]) (t := 24) ?hr ?_; (case hd => rfl); (case hg => rfl); (case hr => first | (go_simp; done) | (go_simp; rfl)); intro gb290 hg w20 hbox hb; have n0_ := Aside0.mk (below_step (bs0_ HB.out) hb); have n1_ := Aside0.mk (hbox); have n2_ := Aside0.mk ((by rw [hg]; exact (below_size (bs0_ HB.out)) : w.heap.size ≤ gb290)); have n3_ := Aside0.mk ((by rw [hg]; exact (below_size (bs0_ HB.out)) : w.heap.size ≤ gb290)); clear HB; have HB := n0_; have BK290 := n1_; have GW290 := n2_; have GE290 := n3_; clear n0_ n1_ n2_ n3_; clear hb hbox hg; have hcz21_0 : w20.cell? ⟨gb290, 0, none⟩ = some (.int .i64 a0_0) := (blk_cell BK290.out 0).trans rfl; have hcz21_1 : w20.cell? ⟨gb290, 1, none⟩ = some (.string a0_1) := (blk_cell BK290.out 1).trans rfl; have hcz21_2 : w20.cell? ⟨gb290, 2, none⟩ = some (.int .i64 a0_2) := (blk_cell BK290.out 2).trans rfl; have hcz21_3 : w20.cell? ⟨gb290, 3, none⟩ = some (.slice A0_3 l0_3.length c0_3) := (blk_cell BK290.out 3).trans rfl; have hfz21_0 := blk_frozen BK290.out 0; have hfz21_1 := blk_frozen BK290.out 1; have hfz21_2 := blk_frozen BK290.out 2; have hfz21_3 := blk_frozen BK290.out 3) | (go_at_call 22; (with_reducible refine (vinculumref09_form.calls k a0_0 a0_1 a0_2 _ _ l0_3 false _ ?side1 ?side2 A3.out).mono ?_); (case side1 => exact kc_ HR0_3.out HB.out); (case side2 => exact HC0_3.out); rintro e w22 ⟨rfl, hb⟩; have n0_ := Aside0.mk (blk_below (g := gb290) (o := .cells #[.int .i64 a0_0, .string a0_1, .int .i64 a0_2, .slice A0_3 l0_3.length c0_3] 24 (0, 0)) (bk_ BK290.out) hb); have n1_ := Aside0.mk (below_step (bs1_ HB.out GE290.out) hb); clear BK290; clear HB; have BK290 := n0_; have HB := n1_; clear n0_ n1_; (try clear hb); (try clear hb2); (try clear hk); (try clear hi)))
   go_ret
   exact ⟨by first | rfl | (simp [errW_none, errW_some] <;> rfl) | (simp [*, errW_none, errW_some] <;> rfl), bs1_ HB.out GE290.out⟩
 ·rw [if_neg c2] at H
  have c2b0 : (a0_0 == 1) = false := beq_eq_false_iff_ne.mpr c2
  have c2b1 : (a0_0 != 1) = true := bne_iff_ne.mpr c2
  obtain rfl := Option.some.inj H
  go_enter Tryd.func10, Tryd.ntmps10
  go_wp2_with (first | ((with_reducible refine gate_dst (N := 1) rfl ?_); refine box_event ?hg (N := 1) ?hd (cs := #[.int .i64 a0_0, .string a0_1, .int .i64 a0_2, .slice A0_3 l0_3.length c0_3]) (t := 24) ?hr ?_; (case hd => rfl); (case hg => rfl); (case hr => first | (go_simp; done) | (go_simp; rfl)); intro gb290 hg w23 hbox hb; have n0_ := Aside0.mk (below_step (bs0_ HB.out) hb); have n1_ := Aside0.mk (hbox); have n2_ := Aside0.mk ((by rw [hg]; exact (below_size (bs0_ HB.out)) : w.heap.size ≤ gb290)); have n3_ := Aside0.mk ((by rw [hg]; exact (below_size (bs0_ HB.out)) : w.heap.size ≤ gb290)); clear HB; have HB := n0_; have BK290 := n1_; have GW290 := n2_; have GE290 := n3_; clear n0_ n1_ n2_ n3_; clear hb hbox hg; have hcz24_0 : w23.cell? ⟨gb290, 0, none⟩ = some (.int .i64 a0_0) := (blk_cell BK290.out 0).trans rfl; have hcz24_1 : w23.cell? ⟨gb290, 1, none⟩ = some (.string a0_1) := (blk_cell BK290.out 1).trans rfl; have hcz24_2 : w23.cell? ⟨gb290, 2, none⟩ = some (.int .i64 a0_2) := (blk_cell BK290.out 2).trans rfl; have hcz24_3 : w23.cell? ⟨gb290, 3, none⟩ = some (.slice A0_3 l0_3.length c0_3) := (blk_cell BK290.out 3).trans rfl; have hfz24_0 := blk_frozen BK290.out 0; have hfz24_1 := blk_frozen BK290.out 1; have hfz24_2 := blk_frozen BK290.out 2; have hfz24_3 := blk_frozen BK290.out 3))
  go_ret
  exact ⟨by first | rfl | (simp [errW_none, errW_some] <;> rfl) | (simp [*, errW_none, errW_some] <;> rfl), bs1_ HB.out GE290.out⟩

end Go.Proofs.YtihchehmkhnhaaaDoor.A
/- Made for this claim by a program of the session: the Go functions' plain twins and their contracts. Lean checks it. -/
namespace Go.Proofs.YtihchehmkhnhaaaDoor.A
open Go.RowKit Go.Proofs.YtihchehmkhnhaaaDoorW.PrintWords Go.Proofs.YtihchehmkhnhaaaDoorW.PrintLast Go.Proofs.YtihchehmkhnhaaaDoorW.PrintMore
attribute [local go_sem] max2_int min2_int max_two min_two max_three min_three max_four min_four   -- for this text's walks alone
set_option linter.unusedVariables false
set_option linter.unusedSimpArgs false

def vinculumref09_SameItems.T6 : Bool × List (List Nat × List Nat) := (true, [([], []), ([], []), ([0, 1], [0, 1]), ([2], [2]), ([], []), ([], []), ([4, 5], [4, 5]), ([6], [6]), ([3, 7], [3, 7]), ([8], [8])])
def vinculumref09_SameItems.B6 : List Nat := [0, 0, 3, 7, 0, 0, 48, 112, 255, 511]
theorem vinculumref09_SameItems.tab6 : rtab .any (opsOf Tryd.f28 6) = vinculumref09_SameItems.T6 := by kernel_rfl
theorem vinculumref09_SameItems.bits6 : waitsOk vinculumref09_SameItems.T6.2 vinculumref09_SameItems.B6 = true := by kernel_rfl
mutual
def vinculumref09_SameItems.l0 : Nat → List (S24) → List (S24) → Int → Option (Bool)
 | 0, _, _, _ => none
 | k + 1, x0, x1, x5 => if x5 < (x0.length : Int) then (if 0 ≤ x5 then (if x5 < (x1.length : Int) then ((vinculumref09_Equal.f k ((rd_T24 x0 x5).f0) ((rd_T24 x0 x5).f1) ((rd_T24 x0 x5).f2) ((rd_T24 x0 x5).f3) ((rd_T24 x1 x5).f0) ((rd_T24 x1 x5).f1) ((rd_T24 x1 x5).f2) ((rd_T24 x1 x5).f3)).bind fun t364 => (if t364 = true then (vinculumref09_SameItems.l0 k x0 x1 (wrap64 (x5 + 1))) else (some false))) else (none)) else (none)) else (some true)
def vinculumref09_SameItems.f : Nat → List (S24) → List (S24) → Option (Bool)
 | 0, _, _ => none
 | k + 1, l0, l1 => if (l0.length : Int) = (l1.length : Int) then (vinculumref09_SameItems.l0 k l0 l1 0) else (some false)
def vinculumref09_Equal.f : Nat → Int → ByteArray → Int → List (S24) → Int → ByteArray → Int → List (S24) → Option (Bool)
 | 0, _, _, _, _, _, _, _, _ => none
 | k + 1, a0_0, a0_1, a0_2, l0_3, a1_0, a1_1, a1_2, l1_3 => if a0_0 = a1_0 then (if a0_1.toList = a1_1.toList then (if a0_2 = a1_2 then ((vinculumref09_SameItems.f k l0_3 l1_3).bind fun t367 => (some t367)) else (some false)) else (some false)) else (some false)
end
theorem vinculumref09_Equal.mono_g : ∀ k, (∀ y0 y1, LeO (vinculumref09_SameItems.f k y0 y1) (vinculumref09_SameItems.f (k + 1) y0 y1)) ∧ (∀ y0 y1 y2, LeO (vinculumref09_SameItems.l0 k y0 y1 y2) (vinculumref09_SameItems.l0 (k + 1) y0 y1 y2)) ∧ (∀ y0 y1 y2 y3 y4 y5 y6 y7, LeO (vinculumref09_Equal.f k y0 y1 y2 y3 y4 y5 y6 y7) (vinculumref09_Equal.f (k + 1) y0 y1 y2 y3 y4 y5 y6 y7))
 | 0 => ⟨fun _ _ r h => by simp [vinculumref09_SameItems.f] at h, fun _ _ _ r h => by simp [vinculumref09_SameItems.l0] at h, fun _ _ _ _ _ _ _ _ r h => by simp [vinculumref09_Equal.f] at h⟩
 | k + 1 => by
  obtain ⟨ih0, ih1, ih2⟩ := vinculumref09_Equal.mono_g k
  refine ⟨?_, ?_, ?_⟩
  ·intro y0 y1
   unfold vinculumref09_SameItems.f
   repeat' first
   | (with_reducible exact ih0 _ _)
   | (with_reducible exact ih1 _ _ _)
   | (with_reducible exact ih2 _ _ _ _ _ _ _ _)
   | (with_reducible exact LeO.refl _)
   | (with_reducible exact LeO.none _)
   | (with_reducible refine LeO.ite ?_ ?_)
   | (with_reducible refine LeO.bind ?_ (fun _ => ?_))
   | exact ih0 _ _
   | exact ih1 _ _ _
   | exact ih2 _ _ _ _ _ _ _ _
   | exact LeO.none _
   | refine LeO.ite ?_ ?_
   | refine LeO.bind ?_ (fun _ => ?_)
  ·intro y0 y1 y2
   unfold vinculumref09_SameItems.l0
   repeat' first
   | (with_reducible exact ih0 _ _)
   | (with_reducible exact ih1 _ _ _)
   | (with_reducible exact ih2 _ _ _ _ _ _ _ _)
   | (with_reducible exact LeO.refl _)
   | (with_reducible exact LeO.none _)
   | (with_reducible refine LeO.ite ?_ ?_)
   | (with_reducible refine LeO.bind ?_ (fun _ => ?_))
   | exact ih0 _ _
   | exact ih1 _ _ _
   | exact ih2 _ _ _ _ _ _ _ _
   | exact LeO.none _
   | refine LeO.ite ?_ ?_
   | refine LeO.bind ?_ (fun _ => ?_)
  ·intro y0 y1 y2 y3 y4 y5 y6 y7
   unfold vinculumref09_Equal.f
   repeat' first
   | (with_reducible exact ih0 _ _)
   | (with_reducible exact ih1 _ _ _)
   | (with_reducible exact ih2 _ _ _ _ _ _ _ _)
   | (with_reducible exact LeO.refl _)
   | (with_reducible exact LeO.none _)
   | (with_reducible refine LeO.ite ?_ ?_)
   | (with_reducible refine LeO.bind ?_ (fun _ => ?_))
   | exact ih0 _ _
   | exact ih1 _ _ _
   | exact ih2 _ _ _ _ _ _ _ _
   | exact LeO.none _
   | refine LeO.ite ?_ ?_
   | refine LeO.bind ?_ (fun _ => ?_)
theorem vinculumref09_Equal.mono : ∀ a0 a1 a2 a3 a4 a5 a6 a7 k, LeO (vinculumref09_Equal.f k a0 a1 a2 a3 a4 a5 a6 a7) (vinculumref09_Equal.f (k + 1) a0 a1 a2 a3 a4 a5 a6 a7) := by
 intro a0 a1 a2 a3 a4 a5 a6 a7 k
 obtain ⟨ih0, ih1, ih2⟩ := vinculumref09_Equal.mono_g k
 exact ih2 a0 a1 a2 a3 a4 a5 a6 a7

set_option maxHeartbeats 8000000 in
set_option maxRecDepth 100000 in
theorem vinculumref09_SameItems.step (k : Nat) (ih_28 : ∀ m_, m_ < k → ∀ (A0 : Option Addr) (c0 : Nat) (l0 : List (S24)) (A1 : Option Addr) (c1 : Nat) (l1 : List (S24)) (r : Bool) (w : World) (hr0 : Kd.C k24 w A0 l0.length l0) (hc0 : l0.length ≤ c0) (hr1 : Kd.C k24 w A1 l1.length l1) (hc1 : l1.length ≤ c1) (h : vinculumref09_SameItems.f m_ l0 l1 = some r),
  Calls Tryd.prog 28 #[.slice A0 l0.length c0, .slice A1 l1.length c1] w fun e w' => e = .returned (.bool r) ∧ Below w.heap.size w w') (ih_16 : ∀ m_, m_ < k → ∀ (a0_0 : Int) (a0_1 : ByteArray) (a0_2 : Int) (A0_3 : Option Addr) (c0_3 : Nat) (l0_3 : List (S24)) (a1_0 : Int) (a1_1 : ByteArray) (a1_2 : Int) (A1_3 : Option Addr) (c1_3 : Nat) (l1_3 : List (S24)) (r : Bool) (w : World) (hr0_3 : Kd.C k24 w A0_3 l0_3.length l0_3) (hc0_3 : l0_3.length ≤ c0_3) (hr1_3 : Kd.C k24 w A1_3 l1_3.length l1_3) (hc1_3 : l1_3.length ≤ c1_3) (h : vinculumref09_Equal.f m_ a0_0 a0_1 a0_2 l0_3 a1_0 a1_1 a1_2 l1_3 = some r),
  Calls Tryd.prog 16 #[.agg #[.int .i64 a0_0, .string a0_1, .int .i64 a0_2, .slice A0_3 l0_3.length c0_3], .agg #[.int .i64 a1_0, .string a1_1, .int .i64 a1_2, .slice A1_3 l1_3.length c1_3]] w fun e w' => e = .returned (.bool r) ∧ Below w.heap.size w w') : ∀ (A0 : Option Addr) (c0 : Nat) (l0 : List (S24)) (A1 : Option Addr) (c1 : Nat) (l1 : List (S24)) (r : Bool) (w : World) (hr0 : Kd.C k24 w A0 l0.length l0) (hc0 : l0.length ≤ c0) (hr1 : Kd.C k24 w A1 l1.length l1) (hc1 : l1.length ≤ c1) (h : vinculumref09_SameItems.f k l0 l1 = some r),
  Calls Tryd.prog 28 #[.slice A0 l0.length c0, .slice A1 l1.length c1] w fun e w' => e = .returned (.bool r) ∧ Below w.heap.size w w' := by
 intro A0 c0 l0 A1 c1 l1 r w hr0 hc0 hr1 hc1 h
 cases k with
 | zero => exact absurd h (by simp [vinculumref09_SameItems.f])
 | succ k =>
 simp only [vinculumref09_SameItems.f] at h
 have hu24 := Tryd.underlying24
 have HR0 := Aside0.mk hr0
 have HC0 := Aside0.mk hc0
 clear hr0 hc0
 have HR1 := Aside0.mk hr1
 have HC1 := Aside0.mk hc1
 clear hr1 hc1
 have HB := Aside0.mk (Below.refl w.heap.size w)
 have H : (if (l0.length : Int) = (l1.length : Int) then (vinculumref09_SameItems.l0 k l0 l1 0) else (some false)) = some r := h
 clear h
 by_cases c3 : (l0.length : Int) = (l1.length : Int)
 ·rw [if_pos c3] at H
  have c3b0 : ((l0.length : Int) == (l1.length : Int)) = true := beq_iff_eq.mpr c3
  have c3b1 : ((l0.length : Int) != (l1.length : Int)) = false := bne_eq_false_iff_eq.mpr c3
  have c3b2 : (l0.length == l1.length) = true := by first | simpa using c3 | (simp at c3 ⊢; omega)
  clear c3
  have H' := Aside0.mk H
  clear H
  go_enter Tryd.func28, Tryd.ntmps28
  go_wp2
  go_loopg [5] k (fun kq v5 w' => ∃ (x5_1 : Int), v5 = .int .i64 x5_1 ∧ Aside0 (vinculumref09_SameItems.l0 kq l0 l1 x5_1 = some r) ∧ Aside0 (kq ≤ k) ∧ Aside0 (Below w.heap.size w w'))
  case atStart => exact ⟨(0), (by first | rfl | (simp; done) | (simp [*]; done)), H', ⟨Nat.le_refl _⟩, ⟨bs0_ HB.out⟩⟩
  case round =>
   clear H'; (try clear c1); (try clear c2); (try clear p2); (try clear c3); (try clear c3b0); (try clear c3b1); (try clear c3b2)
   obtain ⟨x5_1, rfl, HA, HK1, HB⟩ := hrel
   cases gk with
   | zero => exact absurd HA.out (by simp [vinculumref09_SameItems.l0])
   | succ k1 =>
    have H := HA.out
    clear HA
    simp only [vinculumref09_SameItems.l0] at H
    by_cases c4 : x5_1 < (l0.length : Int)
    ·rw [if_pos c4] at H
     have c4b0 : decide (x5_1 < (l0.length : Int)) = true := decide_eq_true c4
     clear c4
     by_cases c5 : 0 ≤ x5_1
     case neg =>
      rw [if_neg c5] at H
      exact absurd H (by simp)
     rw [if_pos c5] at H
     have c5b0 : decide (0 ≤ x5_1) = true := decide_eq_true c5
     clear c5
     by_cases c6 : x5_1 < (l1.length : Int)
     case neg =>
      rw [if_neg c6] at H
      exact absurd H (by simp)
     rw [if_pos c6] at H
     have c6b0 : decide (x5_1 < (l1.length : Int)) = true := decide_eq_true c6
     clear c6
     replace H := Option.bind_eq_some_iff.mp H
     obtain ⟨t364, A70, H⟩ := H
     replace H : (if t364 = true then (vinculumref09_SameItems.l0 k1 l0 l1 (wrap64 (x5_1 + 1))) else (some false)) = some r := H
     have A7 := Aside0.mk A70
     clear A70
     by_cases c8 : t364 = true
     ·subst c8
      have H1 : (vinculumref09_SameItems.l0 k1 l0 l1 (wrap64 (x5_1 + 1))) = some r := by rw [if_pos rfl] at H; exact H
      clear H
      have H := H1
      clear H1
      have H' := Aside0.mk H
      clear H
      try go_wp2
      have n0_ := Aside0.mk (below_drew1 HB.out)
      clear HB
      have HB := n0_
      clear n0_
      have p362 : 0 ≤ (x5_1 : Int) := of_decide_eq_true (by first | (with_reducible assumption) | assumption)
      have q362 : x5_1 < (l0.length : Int) := of_decide_eq_true (by first | (with_reducible assumption) | assumption)
      obtain ⟨ad362, A362_3, c362_3, e362, hx362_0, hx362_1, hx362_2, hx362_3, hl362_3, hi362_3⟩ := at_T24 HR0.out x5_1 p362 q362
      have hw362_3 := hx362_3
      have hw362_2 := hx362_2
      have hw362_1 := hx362_1
      have hw362_0 := hx362_0
      cases e362
      replace hx362_0 := (cl_ HB.out hx362_0).trans hx362_0
      replace hx362_1 := (cl_ HB.out hx362_1).trans hx362_1
      replace hx362_2 := (cl_ HB.out hx362_2).trans hx362_2
      replace hx362_3 := (cl_ HB.out hx362_3).trans hx362_3
      have HR362_3 := Aside0.mk hi362_3
      have HC362_3 := Aside0.mk hl362_3
      clear hi362_3 hl362_3
      replace p362 := eq_true p362
      replace q362 := eq_true q362
      have p363 : 0 ≤ (x5_1 : Int) := of_decide_eq_true (by first | (with_reducible assumption) | assumption)
      have q363 : x5_1 < (l1.length : Int) := of_decide_eq_true (by first | (with_reducible assumption) | assumption)
      obtain ⟨ad363, A363_3, c363_3, e363, hx363_0, hx363_1, hx363_2, hx363_3, hl363_3, hi363_3⟩ := at_T24 HR1.out x5_1 p363 q363
      have hw363_3 := hx363_3
      have hw363_2 := hx363_2
      have hw363_1 := hx363_1
      have hw363_0 := hx363_0
      cases e363
      replace hx363_0 := (cl_ HB.out hx363_0).trans hx363_0
      replace hx363_1 := (cl_ HB.out hx363_1).trans hx363_1
      replace hx363_2 := (cl_ HB.out hx363_2).trans hx363_2
      replace hx363_3 := (cl_ HB.out hx363_3).trans hx363_3
      have HR363_3 := Aside0.mk hi363_3
      have HC363_3 := Aside0.mk hl363_3
      clear hi363_3 hl363_3
      replace p363 := eq_true p363
      replace q363 := eq_true q363
      refine start_ (n := 10) (S := fun w' => w'.cell? (ad362.add ((x5_1).toNat * 4)) = some (.int .i64 ((rd_T24 l0 x5_1).f0)) ∧ w'.cell? ⟨(ad362.add ((x5_1).toNat * 4)).block, (ad362.add ((x5_1).toNat * 4)).off + 1, none⟩ = some (.string ((rd_T24 l0 x5_1).f1)) ∧ w'.cell? ⟨(ad362.add ((x5_1).toNat * 4)).block, (ad362.add ((x5_1).toNat * 4)).off + 2, none⟩ = some (.int .i64 ((rd_T24 l0 x5_1).f2)) ∧ w'.cell? ⟨(ad362.add ((x5_1).toNat * 4)).block, (ad362.add ((x5_1).toNat * 4)).off + 3, none⟩ = some (.slice A362_3 ((rd_T24 l0 x5_1).f3).length c362_3) ∧ w'.cell? (ad363.add ((x5_1).toNat * 4)) = some (.int .i64 ((rd_T24 l1 x5_1).f0)) ∧ w'.cell? ⟨(ad363.add ((x5_1).toNat * 4)).block, (ad363.add ((x5_1).toNat * 4)).off + 1, none⟩ = some (.string ((rd_T24 l1 x5_1).f1)) ∧ w'.cell? ⟨(ad363.add ((x5_1).toNat * 4)).block, (ad363.add ((x5_1).toNat * 4)).off + 2, none⟩ = some (.int .i64 ((rd_T24 l1 x5_1).f2)) ∧ w'.cell? ⟨(ad363.add ((x5_1).toNat * 4)).block, (ad363.add ((x5_1).toNat * 4)).off + 3, none⟩ = some (.slice A363_3 ((rd_T24 l1 x5_1).f3).length c363_3)) (ds := []) #[false, false, false, false, false, false, false, false, false, false] (by kernel_rfl) rfl rfl ⟨(ck_ HB.out hw362_0), (ck_ HB.out hw362_1), (ck_ HB.out hw362_2), (ck_ HB.out hw362_3), (ck_ HB.out hw363_0), (ck_ HB.out hw363_1), (ck_ HB.out hw363_2), (ck_ HB.out hw363_3)⟩ (fun hHeld => ?_); refine with_tabW vinculumref09_SameItems.tab6 vinculumref09_SameItems.bits6 (fun HT_ HW_ => ?_)
      generalize wr.drew = w9 at HB HR362_3 HR363_3 hx362_0 hx362_1 hx362_2 hx362_3 hx363_0 hx363_1 hx363_2 hx363_3 hHeld ⊢
      refine pure_ (i := 0) (N := some 17) (v := ?_) (a' := ?_) (mk_ 10 1) rfl rfl (an_ HT_.out) (fun _ _ _ h => h) (Or.inl ⟨by rfl, ?_⟩) ?_ ?_
      rotate_left; (intro w'; go_simp; with_reducible rfl); rotate_left; (simp only [Act.put, sp1_, sp2_]; rfl)
      refine pure_ (i := 1) (N := some 18) (v := ?_) (a' := ?_) (mk_ 10 3) rfl rfl (an_ HT_.out) (fun _ _ _ h => h) (Or.inl ⟨by rfl, ?_⟩) ?_ ?_
      rotate_left; (intro w'; go_simp; with_reducible rfl); rotate_left; (simp only [Act.put, sp1_, sp2_]; rfl)
      refine pure_ (i := 2) (N := some 19) (v := ?_) (a' := ?_) (mk_ 10 7) rfl rfl (an_ HT_.out) (fun _ _ _ h => h) (Or.inl ⟨by rfl, ?_⟩) ?_ ?_
      rotate_left; (intro w'; go_simp; with_reducible rfl); rotate_left; (simp only [Act.put, sp1_, sp2_]; rfl)
      refine pure_ (i := 4) (N := some 21) (v := ?_) (a' := ?_) (mk_ 10 23) rfl rfl (an_ HT_.out) (fun _ _ _ h => h) (Or.inl ⟨by rfl, ?_⟩) ?_ ?_
      rotate_left; (intro w'; go_simp; with_reducible rfl); rotate_left; (simp only [Act.put, sp1_, sp2_]; rfl)
      refine pure_ (i := 5) (N := some 22) (v := ?_) (a' := ?_) (mk_ 10 55) rfl rfl (an_ HT_.out) (fun _ _ _ h => h) (Or.inl ⟨by rfl, ?_⟩) ?_ ?_
      rotate_left; (intro w'; go_simp; with_reducible rfl); rotate_left; (simp only [Act.put, sp1_, sp2_]; rfl)
      refine pure_ (i := 6) (N := some 23) (v := ?_) (a' := ?_) (mk_ 10 119) rfl rfl (an_ HT_.out) (fun _ _ _ h => h) (Or.inl ⟨by rfl, ?_⟩) ?_ ?_
      rotate_left; (intro w'; go_simp; with_reducible rfl); rotate_left; (simp only [Act.put, sp1_, sp2_]; rfl)
      refine take_ (i := 3) (N := some 20) (v := ?_) (a' := ?_) (mk_ 10 127) rfl rfl (take_ofW HT_.out HW_.out (by kernel_rfl)) (fun _ _ _ h => h) (Or.inl ⟨by rfl, ?_⟩) hHeld ?_ ?_
      rotate_left
      ·rintro w' ⟨s0, s1, s2, s3, s4, s5, s6, s7⟩
       go_simp
       with_reducible rfl
      rotate_left; (simp only [Act.put, sp1_, sp2_]; rfl)
      refine take_ (i := 7) (N := some 24) (v := ?_) (a' := ?_) (mk_ 10 255) rfl rfl (take_ofW HT_.out HW_.out (by kernel_rfl)) (fun _ _ _ h => h) (Or.inl ⟨by rfl, ?_⟩) hHeld ?_ ?_
      rotate_left
      ·rintro w' ⟨s0, s1, s2, s3, s4, s5, s6, s7⟩
       go_simp
       with_reducible rfl
      rotate_left; (simp only [Act.put, sp1_, sp2_]; rfl)
      refine one_ (i := 8) (N := some 25) (mk_ 10 511) rfl rfl (one_of HT_.out (by kernel_rfl)) (by decide) (fun K hK => ?_)
      refine goes_ Tryd.func16 (by kernel_rfl) rfl #[.agg #[.int .i64 ((rd_T24 l0 x5_1).f0), .string ((rd_T24 l0 x5_1).f1), .int .i64 ((rd_T24 l0 x5_1).f2), .slice A362_3 ((rd_T24 l0 x5_1).f3).length c362_3], .agg #[.int .i64 ((rd_T24 l1 x5_1).f0), .string ((rd_T24 l1 x5_1).f1), .int .i64 ((rd_T24 l1 x5_1).f2), .slice A363_3 ((rd_T24 l1 x5_1).f3).length c363_3]] (by rfl) rfl rfl (by (try simp only [List.map_toArray, List.map_cons, List.map_nil]); first | done | rfl | (simp only [List.length_drop, List.length_take]; rfl)) ?_
      with_reducible refine (ih_16 k1 (by have := HK1.out; omega) ((rd_T24 l0 x5_1).f0) ((rd_T24 l0 x5_1).f1) ((rd_T24 l0 x5_1).f2) _ _ ((rd_T24 l0 x5_1).f3) ((rd_T24 l1 x5_1).f0) ((rd_T24 l1 x5_1).f1) ((rd_T24 l1 x5_1).f2) _ _ ((rd_T24 l1 x5_1).f3) true _ ?side1 ?side2 ?side3 ?side4 A7.out).mono ?_
      (case side1 => exact kc_ HR362_3.out HB.out)
      (case side2 => exact HC362_3.out)
      (case side3 => exact kc_ HR363_3.out HB.out)
      (case side4 => exact HC363_3.out)
      rintro e w10 ⟨rfl, hb⟩
      refine ⟨_, rfl, ?_⟩
      have n0_ := Aside0.mk (below_step (bs0_ HB.out) hb)
      clear HB
      have HB := n0_
      clear n0_
      (try clear hb)
      (try clear hb2)
      (try clear hk)
      (try clear hi)
      refine hK.out _ _ ⟨(ck_ HB.out hw362_0), (ck_ HB.out hw362_1), (ck_ HB.out hw362_2), (ck_ HB.out hw362_3), (ck_ HB.out hw363_0), (ck_ HB.out hw363_1), (ck_ HB.out hw363_2), (ck_ HB.out hw363_3)⟩ (fun hHeld => ?_)
      clear hK K
      refine norm_ (a' := ?_) ?_ ?_
      rotate_left
      ·show Act.put _ (some 25) _ = _
       simp only [Act.put, sp1_, sp2_]
       rfl
      refine pure_ (i := 9) (N := some 26) (v := ?_) (a' := ?_) (mk_ 10 1023) rfl rfl (an_ HT_.out) (fun _ _ _ h => h) (Or.inl ⟨by rfl, ?_⟩) ?_ ?_
      rotate_left; (intro w'; go_simp; with_reducible rfl); rotate_left; (simp only [Act.put, sp1_, sp2_]; rfl)
      refine done_ (done_of HT_.out (by kernel_rfl)) ?_
      try go_wp2
      go_roundg k1
      case measure => have := HK1.out; omega
      case rel => exact ⟨(wrap64 (x5_1 + 1)), (by first | rfl | (simp; done) | (simp [*]; done)), H', ⟨by have := HK1.out; omega⟩, ⟨bs0_ HB.out⟩⟩
     ·replace c8 := Bool.eq_false_iff.mpr c8
      subst c8
      have H1 : (some false) = some r := by rw [if_neg (show ¬ (false = true) by decide)] at H; exact H
      clear H
      have H := H1
      clear H1
      obtain rfl := Option.some.inj H
      try go_wp2
      have n0_ := Aside0.mk (below_drew1 HB.out)
      clear HB
      have HB := n0_
      clear n0_
      have p362 : 0 ≤ (x5_1 : Int) := of_decide_eq_true (by first | (with_reducible assumption) | assumption)
      have q362 : x5_1 < (l0.length : Int) := of_decide_eq_true (by first | (with_reducible assumption) | assumption)
      obtain ⟨ad362, A362_3, c362_3, e362, hx362_0, hx362_1, hx362_2, hx362_3, hl362_3, hi362_3⟩ := at_T24 HR0.out x5_1 p362 q362
      have hw362_3 := hx362_3
      have hw362_2 := hx362_2
      have hw362_1 := hx362_1
      have hw362_0 := hx362_0
      cases e362
      replace hx362_0 := (cl_ HB.out hx362_0).trans hx362_0
      replace hx362_1 := (cl_ HB.out hx362_1).trans hx362_1
      replace hx362_2 := (cl_ HB.out hx362_2).trans hx362_2
      replace hx362_3 := (cl_ HB.out hx362_3).trans hx362_3
      have HR362_3 := Aside0.mk hi362_3
      have HC362_3 := Aside0.mk hl362_3
      clear hi362_3 hl362_3
      replace p362 := eq_true p362
      replace q362 := eq_true q362
      have p363 : 0 ≤ (x5_1 : Int) := of_decide_eq_true (by first | (with_reducible assumption) | assumption)
      have q363 : x5_1 < (l1.length : Int) := of_decide_eq_true (by first | (with_reducible assumption) | assumption)
      obtain ⟨ad363, A363_3, c363_3, e363, hx363_0, hx363_1, hx363_2, hx363_3, hl363_3, hi363_3⟩ := at_T24 HR1.out x5_1 p363 q363
      have hw363_3 := hx363_3
      have hw363_2 := hx363_2
      have hw363_1 := hx363_1
      have hw363_0 := hx363_0
      cases e363
      replace hx363_0 := (cl_ HB.out hx363_0).trans hx363_0
      replace hx363_1 := (cl_ HB.out hx363_1).trans hx363_1
      replace hx363_2 := (cl_ HB.out hx363_2).trans hx363_2
      replace hx363_3 := (cl_ HB.out hx363_3).trans hx363_3
      have HR363_3 := Aside0.mk hi363_3
      have HC363_3 := Aside0.mk hl363_3
      clear hi363_3 hl363_3
      replace p363 := eq_true p363
      replace q363 := eq_true q363
      refine start_ (n := 10) (S := fun w' => w'.cell? (ad362.add ((x5_1).toNat * 4)) = some (.int .i64 ((rd_T24 l0 x5_1).f0)) ∧ w'.cell? ⟨(ad362.add ((x5_1).toNat * 4)).block, (ad362.add ((x5_1).toNat * 4)).off + 1, none⟩ = some (.string ((rd_T24 l0 x5_1).f1)) ∧ w'.cell? ⟨(ad362.add ((x5_1).toNat * 4)).block, (ad362.add ((x5_1).toNat * 4)).off + 2, none⟩ = some (.int .i64 ((rd_T24 l0 x5_1).f2)) ∧ w'.cell? ⟨(ad362.add ((x5_1).toNat * 4)).block, (ad362.add ((x5_1).toNat * 4)).off + 3, none⟩ = some (.slice A362_3 ((rd_T24 l0 x5_1).f3).length c362_3) ∧ w'.cell? (ad363.add ((x5_1).toNat * 4)) = some (.int .i64 ((rd_T24 l1 x5_1).f0)) ∧ w'.cell? ⟨(ad363.add ((x5_1).toNat * 4)).block, (ad363.add ((x5_1).toNat * 4)).off + 1, none⟩ = some (.string ((rd_T24 l1 x5_1).f1)) ∧ w'.cell? ⟨(ad363.add ((x5_1).toNat * 4)).block, (ad363.add ((x5_1).toNat * 4)).off + 2, none⟩ = some (.int .i64 ((rd_T24 l1 x5_1).f2)) ∧ w'.cell? ⟨(ad363.add ((x5_1).toNat * 4)).block, (ad363.add ((x5_1).toNat * 4)).off + 3, none⟩ = some (.slice A363_3 ((rd_T24 l1 x5_1).f3).length c363_3)) (ds := []) #[false, false, false, false, false, false, false, false, false, false] (by kernel_rfl) rfl rfl ⟨(ck_ HB.out hw362_0), (ck_ HB.out hw362_1), (ck_ HB.out hw362_2), (ck_ HB.out hw362_3), (ck_ HB.out hw363_0), (ck_ HB.out hw363_1), (ck_ HB.out hw363_2), (ck_ HB.out hw363_3)⟩ (fun hHeld => ?_); refine with_tabW vinculumref09_SameItems.tab6 vinculumref09_SameItems.bits6 (fun HT_ HW_ => ?_)
      generalize wr.drew = w11 at HB HR362_3 HR363_3 hx362_0 hx362_1 hx362_2 hx362_3 hx363_0 hx363_1 hx363_2 hx363_3 hHeld ⊢
      refine pure_ (i := 0) (N := some 17) (v := ?_) (a' := ?_) (mk_ 10 1) rfl rfl (an_ HT_.out) (fun _ _ _ h => h) (Or.inl ⟨by rfl, ?_⟩) ?_ ?_
      rotate_left; (intro w'; go_simp; with_reducible rfl); rotate_left; (simp only [Act.put, sp1_, sp2_]; rfl)
      refine pure_ (i := 1) (N := some 18) (v := ?_) (a' := ?_) (mk_ 10 3) rfl rfl (an_ HT_.out) (fun _ _ _ h => h) (Or.inl ⟨by rfl, ?_⟩) ?_ ?_
      rotate_left; (intro w'; go_simp; with_reducible rfl); rotate_left; (simp only [Act.put, sp1_, sp2_]; rfl)
      refine pure_ (i := 2) (N := some 19) (v := ?_) (a' := ?_) (mk_ 10 7) rfl rfl (an_ HT_.out) (fun _ _ _ h => h) (Or.inl ⟨by rfl, ?_⟩) ?_ ?_
      rotate_left; (intro w'; go_simp; with_reducible rfl); rotate_left; (simp only [Act.put, sp1_, sp2_]; rfl)
      refine pure_ (i := 4) (N := some 21) (v := ?_) (a' := ?_) (mk_ 10 23) rfl rfl (an_ HT_.out) (fun _ _ _ h => h) (Or.inl ⟨by rfl, ?_⟩) ?_ ?_
      rotate_left; (intro w'; go_simp; with_reducible rfl); rotate_left; (simp only [Act.put, sp1_, sp2_]; rfl)
      refine pure_ (i := 5) (N := some 22) (v := ?_) (a' := ?_) (mk_ 10 55) rfl rfl (an_ HT_.out) (fun _ _ _ h => h) (Or.inl ⟨by rfl, ?_⟩) ?_ ?_
      rotate_left; (intro w'; go_simp; with_reducible rfl); rotate_left; (simp only [Act.put, sp1_, sp2_]; rfl)
      refine pure_ (i := 6) (N := some 23) (v := ?_) (a' := ?_) (mk_ 10 119) rfl rfl (an_ HT_.out) (fun _ _ _ h => h) (Or.inl ⟨by rfl, ?_⟩) ?_ ?_
      rotate_left; (intro w'; go_simp; with_reducible rfl); rotate_left; (simp only [Act.put, sp1_, sp2_]; rfl)
      refine take_ (i := 3) (N := some 20) (v := ?_) (a' := ?_) (mk_ 10 127) rfl rfl (take_ofW HT_.out HW_.out (by kernel_rfl)) (fun _ _ _ h => h) (Or.inl ⟨by rfl, ?_⟩) hHeld ?_ ?_
      rotate_left
      ·rintro w' ⟨s0, s1, s2, s3, s4, s5, s6, s7⟩
       go_simp
       with_reducible rfl
      rotate_left; (simp only [Act.put, sp1_, sp2_]; rfl)
      refine take_ (i := 7) (N := some 24) (v := ?_) (a' := ?_) (mk_ 10 255) rfl rfl (take_ofW HT_.out HW_.out (by kernel_rfl)) (fun _ _ _ h => h) (Or.inl ⟨by rfl, ?_⟩) hHeld ?_ ?_
      rotate_left
      ·rintro w' ⟨s0, s1, s2, s3, s4, s5, s6, s7⟩
       go_simp
       with_reducible rfl
      rotate_left; (simp only [Act.put, sp1_, sp2_]; rfl)
      refine one_ (i := 8) (N := some 25) (mk_ 10 511) rfl rfl (one_of HT_.out (by kernel_rfl)) (by decide) (fun K hK => ?_)
      refine goes_ Tryd.func16 (by kernel_rfl) rfl #[.agg #[.int .i64 ((rd_T24 l0 x5_1).f0), .string ((rd_T24 l0 x5_1).f1), .int .i64 ((rd_T24 l0 x5_1).f2), .slice A362_3 ((rd_T24 l0 x5_1).f3).length c362_3], .agg #[.int .i64 ((rd_T24 l1 x5_1).f0), .string ((rd_T24 l1 x5_1).f1), .int .i64 ((rd_T24 l1 x5_1).f2), .slice A363_3 ((rd_T24 l1 x5_1).f3).length c363_3]] (by rfl) rfl rfl (by (try simp only [List.map_toArray, List.map_cons, List.map_nil]); first | done | rfl | (simp only [List.length_drop, List.length_take]; rfl)) ?_
      with_reducible refine (ih_16 k1 (by have := HK1.out; omega) ((rd_T24 l0 x5_1).f0) ((rd_T24 l0 x5_1).f1) ((rd_T24 l0 x5_1).f2) _ _ ((rd_T24 l0 x5_1).f3) ((rd_T24 l1 x5_1).f0) ((rd_T24 l1 x5_1).f1) ((rd_T24 l1 x5_1).f2) _ _ ((rd_T24 l1 x5_1).f3) false _ ?side1 ?side2 ?side3 ?side4 A7.out).mono ?_
      (case side1 => exact kc_ HR362_3.out HB.out)
      (case side2 => exact HC362_3.out)
      (case side3 => exact kc_ HR363_3.out HB.out)
      (case side4 => exact HC363_3.out)
      rintro e w12 ⟨rfl, hb⟩
      refine ⟨_, rfl, ?_⟩
      have n0_ := Aside0.mk (below_step (bs0_ HB.out) hb)
      clear HB
      have HB := n0_
      clear n0_
      (try clear hb)
      (try clear hb2)
      (try clear hk)
      (try clear hi)
      refine hK.out _ _ ⟨(ck_ HB.out hw362_0), (ck_ HB.out hw362_1), (ck_ HB.out hw362_2), (ck_ HB.out hw362_3), (ck_ HB.out hw363_0), (ck_ HB.out hw363_1), (ck_ HB.out hw363_2), (ck_ HB.out hw363_3)⟩ (fun hHeld => ?_)
      clear hK K
      refine norm_ (a' := ?_) ?_ ?_
      rotate_left
      ·show Act.put _ (some 25) _ = _
       simp only [Act.put, sp1_, sp2_]
       rfl
      refine pure_ (i := 9) (N := some 26) (v := ?_) (a' := ?_) (mk_ 10 1023) rfl rfl (an_ HT_.out) (fun _ _ _ h => h) (Or.inl ⟨by rfl, ?_⟩) ?_ ?_
      rotate_left; (intro w'; go_simp; with_reducible rfl); rotate_left; (simp only [Act.put, sp1_, sp2_]; rfl)
      refine done_ (done_of HT_.out (by kernel_rfl)) ?_
      try go_wp2
      go_ret
      exact ⟨by first | rfl | (simp [errW_none, errW_some] <;> rfl) | (simp [*, errW_none, errW_some] <;> rfl), bs0_ HB.out⟩
    ·rw [if_neg c4] at H
     have c4b0 : decide (x5_1 < (l0.length : Int)) = false := decide_eq_false c4
     clear c4
     obtain rfl := Option.some.inj H
     go_wp2
     go_ret
     exact ⟨by first | rfl | (simp [errW_none, errW_some] <;> rfl) | (simp [*, errW_none, errW_some] <;> rfl), bs0_ HB.out⟩
 ·rw [if_neg c3] at H
  have c3b0 : ((l0.length : Int) == (l1.length : Int)) = false := beq_eq_false_iff_ne.mpr c3
  have c3b1 : ((l0.length : Int) != (l1.length : Int)) = true := bne_iff_ne.mpr c3
  have c3b2 : (l0.length == l1.length) = false := by first | simpa using c3 | (simp at c3 ⊢; omega)
  obtain rfl := Option.some.inj H
  go_enter Tryd.func28, Tryd.ntmps28
  go_wp2
  go_ret
  exact ⟨by first | rfl | (simp [errW_none, errW_some] <;> rfl) | (simp [*, errW_none, errW_some] <;> rfl), bs0_ HB.out⟩


set_option maxHeartbeats 8000000 in
set_option maxRecDepth 100000 in
theorem vinculumref09_Equal.step (k : Nat) (ih_28 : ∀ m_, m_ < k → ∀ (A0 : Option Addr) (c0 : Nat) (l0 : List (S24)) (A1 : Option Addr) (c1 : Nat) (l1 : List (S24)) (r : Bool) (w : World) (hr0 : Kd.C k24 w A0 l0.length l0) (hc0 : l0.length ≤ c0) (hr1 : Kd.C k24 w A1 l1.length l1) (hc1 : l1.length ≤ c1) (h : vinculumref09_SameItems.f m_ l0 l1 = some r),
  Calls Tryd.prog 28 #[.slice A0 l0.length c0, .slice A1 l1.length c1] w fun e w' => e = .returned (.bool r) ∧ Below w.heap.size w w') (ih_16 : ∀ m_, m_ < k → ∀ (a0_0 : Int) (a0_1 : ByteArray) (a0_2 : Int) (A0_3 : Option Addr) (c0_3 : Nat) (l0_3 : List (S24)) (a1_0 : Int) (a1_1 : ByteArray) (a1_2 : Int) (A1_3 : Option Addr) (c1_3 : Nat) (l1_3 : List (S24)) (r : Bool) (w : World) (hr0_3 : Kd.C k24 w A0_3 l0_3.length l0_3) (hc0_3 : l0_3.length ≤ c0_3) (hr1_3 : Kd.C k24 w A1_3 l1_3.length l1_3) (hc1_3 : l1_3.length ≤ c1_3) (h : vinculumref09_Equal.f m_ a0_0 a0_1 a0_2 l0_3 a1_0 a1_1 a1_2 l1_3 = some r),
  Calls Tryd.prog 16 #[.agg #[.int .i64 a0_0, .string a0_1, .int .i64 a0_2, .slice A0_3 l0_3.length c0_3], .agg #[.int .i64 a1_0, .string a1_1, .int .i64 a1_2, .slice A1_3 l1_3.length c1_3]] w fun e w' => e = .returned (.bool r) ∧ Below w.heap.size w w') : ∀ (a0_0 : Int) (a0_1 : ByteArray) (a0_2 : Int) (A0_3 : Option Addr) (c0_3 : Nat) (l0_3 : List (S24)) (a1_0 : Int) (a1_1 : ByteArray) (a1_2 : Int) (A1_3 : Option Addr) (c1_3 : Nat) (l1_3 : List (S24)) (r : Bool) (w : World) (hr0_3 : Kd.C k24 w A0_3 l0_3.length l0_3) (hc0_3 : l0_3.length ≤ c0_3) (hr1_3 : Kd.C k24 w A1_3 l1_3.length l1_3) (hc1_3 : l1_3.length ≤ c1_3) (h : vinculumref09_Equal.f k a0_0 a0_1 a0_2 l0_3 a1_0 a1_1 a1_2 l1_3 = some r),
  Calls Tryd.prog 16 #[.agg #[.int .i64 a0_0, .string a0_1, .int .i64 a0_2, .slice A0_3 l0_3.length c0_3], .agg #[.int .i64 a1_0, .string a1_1, .int .i64 a1_2, .slice A1_3 l1_3.length c1_3]] w fun e w' => e = .returned (.bool r) ∧ Below w.heap.size w w' := by
 intro a0_0 a0_1 a0_2 A0_3 c0_3 l0_3 a1_0 a1_1 a1_2 A1_3 c1_3 l1_3 r w hr0_3 hc0_3 hr1_3 hc1_3 h
 cases k with
 | zero => exact absurd h (by simp [vinculumref09_Equal.f])
 | succ k =>
 simp only [vinculumref09_Equal.f] at h
 have hu24 := Tryd.underlying24
 have HR0_3 := Aside0.mk hr0_3
 have HC0_3 := Aside0.mk hc0_3
 clear hr0_3 hc0_3
 have HR1_3 := Aside0.mk hr1_3
 have HC1_3 := Aside0.mk hc1_3
 clear hr1_3 hc1_3
 have HB := Aside0.mk (Below.refl w.heap.size w)
 have H : (if a0_0 = a1_0 then (if a0_1.toList = a1_1.toList then (if a0_2 = a1_2 then ((vinculumref09_SameItems.f k l0_3 l1_3).bind fun t367 => (some t367)) else (some false)) else (some false)) else (some false)) = some r := h
 clear h
 by_cases c3 : a0_0 = a1_0
 ·rw [if_pos c3] at H
  have c3b0 : (a0_0 == a1_0) = true := beq_iff_eq.mpr c3
  have c3b1 : (a0_0 != a1_0) = false := bne_eq_false_iff_eq.mpr c3
  clear c3
  by_cases c4 : a0_1.toList = a1_1.toList
  ·rw [if_pos c4] at H
   have c4b0 : (a0_1.toList == a1_1.toList) = true := beq_iff_eq.mpr c4
   have c4b1 : (a0_1.toList != a1_1.toList) = false := bne_eq_false_iff_eq.mpr c4
   clear c4
   by_cases c5 : a0_2 = a1_2
   ·rw [if_pos c5] at H
    have c5b0 : (a0_2 == a1_2) = true := beq_iff_eq.mpr c5
    have c5b1 : (a0_2 != a1_2) = false := bne_eq_false_iff_eq.mpr c5
    clear c5
    replace H := Option.bind_eq_some_iff.mp H
    obtain ⟨t367, A60, H⟩ := H
    replace H : (some t367) = some r := H
    have A6 := Aside0.mk A60
    clear A60
    obtain rfl := Option.some.inj H
    go_enter Tryd.func16, Tryd.ntmps16
    go_wp2_with (first | ((with_reducible refine gate_dst (N := 2) rfl ?_); refine box_event ?hg (N := 2) ?hd (cs := #[.int .i64 a0_0, .string a0_1, .int .i64 a0_2, .slice A0_3 l0_3.length c0_3]) (t := 24) ?hr ?_; (case hd => rfl); (case hg => rfl); (case hr => first | (go_simp; done) | (go_simp; rfl)); intro gb365 hg w7 hbox hb; have n0_ := Aside0.mk (below_step (bs0_ HB.out) hb); have n1_ := Aside0.mk (hbox); have n2_ := Aside0.mk ((by rw [hg]; exact (below_size (bs0_ HB.out)) : w.heap.size ≤ gb365)); have n3_ := Aside0.mk ((by rw [hg]; exact (below_size (bs0_ HB.out)) : w.heap.size ≤ gb365)); clear HB; have HB := n0_; have BK365 := n1_; have GW365 := n2_; have GE365 := n3_; clear n0_ n1_ n2_ n3_; clear hb hbox hg) | ((with_reducible refine gate_dst (N := 3) rfl ?_); refine box_event ?hg (N := 3) ?hd (cs := #[.int .i64 a1_0, .string a1_1, .int .i64 a1_2, .slice A1_3 l1_3.length c1_3]) (t := 24) ?hr ?_; (case hd => rfl); (case hg => rfl); (case hr => first | (go_simp; done) | (go_simp; rfl)); intro gb366 hg w8 hbox hb; have n0_ := Aside0.mk (blk_below (g := gb365) (o := .cells #[.int .i64 a0_0, .string a0_1, .int .i64 a0_2, .slice A0_3 l0_3.length c0_3] 24 (0, 0)) (bk_ BK365.out) hb); have n1_ := Aside0.mk (below_step (bs1_ HB.out GE365.out) hb); have n2_ := Aside0.mk (hbox); have n3_ := Aside0.mk ((by rw [hg]; exact (below_size (bs1_ HB.out GE365.out)) : w.heap.size ≤ gb366)); have n4_ := Aside0.mk ((by rw [hg]; exact (below_size (bs1_ HB.out GE365.out)) : w.heap.size ≤ gb366)); have n5_ := Aside0.mk ((by rw [hg]; exact Nat.ne_of_lt (blk_lt (g := gb365) (o := .cells #[.int .i64 a0_0, .string a0_1, .int .i64 a0_2, .slice A0_3 l0_3.length c0_3] 24 (0, 0)) (bk_ BK365.out)) : gb365 ≠ gb366)); have n6_ := Aside0.mk ((by rw [hg]; exact Nat.ne_of_gt (blk_lt (g := gb365) (o := .cells #[.int .i64 a0_0, .string a0_1, .int .i64 a0_2, .slice A0_3 l0_3.length c0_3] 24 (0, 0)) (bk_ BK365.out)) : gb366 ≠ gb365)); clear BK365; clear HB; have BK365 := n0_; have HB := n1_; have BK366 := n2_; have GW366 := n3_; have GE366 := n4_; have NB365_366 := n5_; have NB366_365 := n6_; clear n0_ n1_ n2_ n3_ n4_ n5_ n6_; clear hb hbox hg; have hnb9 := NB365_366.out; have hnc9 := NB366_365.out; have hcz10_0 : w8.cell? ⟨gb365, 0, none⟩ = some (.int .i64 a0_0) := (blk_cell BK365.out 0).trans rfl; have hcz10_1 : w8.cell? ⟨gb365, 1, none⟩ = some (.string a0_1) := (blk_cell BK365.out 1).trans rfl; have hcz10_2 : w8.cell? ⟨gb365, 2, none⟩ = some (.int .i64 a0_2) := (blk_cell BK365.out 2).trans rfl; have hcz10_3 : w8.cell? ⟨gb365, 3, none⟩ = some (.slice A0_3 l0_3.length c0_3) := (blk_cell BK365.out 3).trans rfl; have hfz10_0 := blk_frozen BK365.out 0; have hfz10_1 := blk_frozen BK365.out 1; have hfz10_2 := blk_frozen BK365.out 2; have hfz10_3 := blk_frozen BK365.out 3; have hcz11_0 : w8.cell? ⟨gb366, 0, none⟩ = some (.int .i64 a1_0) := (blk_cell BK366.out 0).trans rfl; have hcz11_1 : w8.cell? ⟨gb366, 1, none⟩ = some (.string a1_1) := (blk_cell BK366.out 1).trans rfl; have hcz11_2 : w8.cell? ⟨gb366, 2, none⟩ = some (.int .i64 a1_2) := (blk_cell BK366.out 2).trans rfl; have hcz11_3 : w8.cell? ⟨gb366, 3, none⟩ = some (.slice A1_3 l1_3.length c1_3) := (blk_cell BK366.out 3).trans rfl; have hfz11_0 := blk_frozen BK366.out 0; have hfz11_1 := blk_frozen BK366.out 1; have hfz11_2 := blk_frozen BK366.out 2; have hfz11_3 := blk_frozen BK366.out 3) | (go_at_call 28; (with_reducible refine (ih_28 k (by omega) _ _ l0_3 _ _ l1_3 t367 _ ?side1 ?side2 ?side3 ?side4 A6.out).mono ?_); (case side1 => exact kc_ HR0_3.out HB.out); (case side2 => exact HC0_3.out); (case side3 => exact kc_ HR1_3.out HB.out); (case side4 => exact HC1_3.out); rintro e w12 ⟨rfl, hb⟩; have n0_ := Aside0.mk (blk_below (g := gb365) (o := .cells #[.int .i64 a0_0, .string a0_1, .int .i64 a0_2, .slice A0_3 l0_3.length c0_3] 24 (0, 0)) (bk_ BK365.out) hb); have n1_ := Aside0.mk (blk_below (g := gb366) (o := .cells #[.int .i64 a1_0, .string a1_1, .int .i64 a1_2, .slice A1_3 l1_3.length c1_3] 24 (0, 0)) (bk_ BK366.out) hb); have n2_ := Aside0.mk (below_step (bs2_ HB.out GE365.out GE366.out) hb); clear BK365; clear BK366; clear HB; have BK365 := n0_; have BK366 := n1_; have HB := n2_; clear n0_ n1_ n2_; (try clear hb); (try clear hb2); (try clear hk); (try clear hi)))
    go_ret
    exact ⟨by first | rfl | (simp [errW_none, errW_some] <;> rfl) | (simp [*, errW_none, errW_some] <;> rfl), bs2_ HB.out GE365.out GE366.out⟩
   ·rw [if_neg c5] at H
    have c5b0 : (a0_2 == a1_2) = false := beq_eq_false_iff_ne.mpr c5
    have c5b1 : (a0_2 != a1_2) = true := bne_iff_ne.mpr c5
    obtain rfl := Option.some.inj H
    go_enter Tryd.func16, Tryd.ntmps16
    go_wp2_with (first | ((with_reducible refine gate_dst (N := 2) rfl ?_); refine box_event ?hg (N := 2) ?hd (cs := #[.int .i64 a0_0, .string a0_1, .int .i64 a0_2, .slice A0_3 l0_3.length c0_3]) (t := 24) ?hr ?_; (case hd => rfl); (case hg => rfl); (case hr => first | (go_simp; done) | (go_simp; rfl)); intro gb365 hg w13 hbox hb; have n0_ := Aside0.mk (below_step (bs0_ HB.out) hb); have n1_ := Aside0.mk (hbox); have n2_ := Aside0.mk ((by rw [hg]; exact (below_size (bs0_ HB.out)) : w.heap.size ≤ gb365)); have n3_ := Aside0.mk ((by rw [hg]; exact (below_size (bs0_ HB.out)) : w.heap.size ≤ gb365)); clear HB; have HB := n0_; have BK365 := n1_; have GW365 := n2_; have GE365 := n3_; clear n0_ n1_ n2_ n3_; clear hb hbox hg) | ((with_reducible refine gate_dst (N := 3) rfl ?_); refine box_event ?hg (N := 3) ?hd (cs := #[.int .i64 a1_0, .string a1_1, .int .i64 a1_2, .slice A1_3 l1_3.length c1_3]) (t := 24) ?hr ?_; (case hd => rfl); (case hg => rfl); (case hr => first | (go_simp; done) | (go_simp; rfl)); intro gb366 hg w14 hbox hb; have n0_ := Aside0.mk (blk_below (g := gb365) (o := .cells #[.int .i64 a0_0, .string a0_1, .int .i64 a0_2, .slice A0_3 l0_3.length c0_3] 24 (0, 0)) (bk_ BK365.out) hb); have n1_ := Aside0.mk (below_step (bs1_ HB.out GE365.out) hb); have n2_ := Aside0.mk (hbox); have n3_ := Aside0.mk ((by rw [hg]; exact (below_size (bs1_ HB.out GE365.out)) : w.heap.size ≤ gb366)); have n4_ := Aside0.mk ((by rw [hg]; exact (below_size (bs1_ HB.out GE365.out)) : w.heap.size ≤ gb366)); have n5_ := Aside0.mk ((by rw [hg]; exact Nat.ne_of_lt (blk_lt (g := gb365) (o := .cells #[.int .i64 a0_0, .string a0_1, .int .i64 a0_2, .slice A0_3 l0_3.length c0_3] 24 (0, 0)) (bk_ BK365.out)) : gb365 ≠ gb366)); have n6_ := Aside0.mk ((by rw [hg]; exact Nat.ne_of_gt (blk_lt (g := gb365) (o := .cells #[.int .i64 a0_0, .string a0_1, .int .i64 a0_2, .slice A0_3 l0_3.length c0_3] 24 (0, 0)) (bk_ BK365.out)) : gb366 ≠ gb365)); clear BK365; clear HB; have BK365 := n0_; have HB := n1_; have BK366 := n2_; have GW366 := n3_; have GE366 := n4_; have NB365_366 := n5_; have NB366_365 := n6_; clear n0_ n1_ n2_ n3_ n4_ n5_ n6_; clear hb hbox hg; have hnb15 := NB365_366.out; have hnc15 := NB366_365.out; have hcz16_0 : w14.cell? ⟨gb365, 0, none⟩ = some (.int .i64 a0_0) := (blk_cell BK365.out 0).trans rfl; have hcz16_1 : w14.cell? ⟨gb365, 1, none⟩ = some (.string a0_1) := (blk_cell BK365.out 1).trans rfl; have hcz16_2 : w14.cell? ⟨gb365, 2, none⟩ = some (.int .i64 a0_2) := (blk_cell BK365.out 2).trans rfl; have hcz16_3 : w14.cell? ⟨gb365, 3, none⟩ = some (.slice A0_3 l0_3.length c0_3) := (blk_cell BK365.out 3).trans rfl; have hfz16_0 := blk_frozen BK365.out 0; have hfz16_1 := blk_frozen BK365.out 1; have hfz16_2 := blk_frozen BK365.out 2; have hfz16_3 := blk_frozen BK365.out 3; have hcz17_0 : w14.cell? ⟨gb366, 0, none⟩ = some (.int .i64 a1_0) := (blk_cell BK366.out 0).trans rfl; have hcz17_1 : w14.cell? ⟨gb366, 1, none⟩ = some (.string a1_1) := (blk_cell BK366.out 1).trans rfl; have hcz17_2 : w14.cell? ⟨gb366, 2, none⟩ = some (.int .i64 a1_2) := (blk_cell BK366.out 2).trans rfl; have hcz17_3 : w14.cell? ⟨gb366, 3, none⟩ = some (.slice A1_3 l1_3.length c1_3) := (blk_cell BK366.out 3).trans rfl; have hfz17_0 := blk_frozen BK366.out 0; have hfz17_1 := blk_frozen BK366.out 1; have hfz17_2 := blk_frozen BK366.out 2; have hfz17_3 := blk_frozen BK366.out 3))
    go_ret
    exact ⟨by first | rfl | (simp [errW_none, errW_some] <;> rfl) | (simp [*, errW_none, errW_some] <;> rfl), bs2_ HB.out GE365.out GE366.out⟩
  ·rw [if_neg c4] at H
   have c4b0 : (a0_1.toList == a1_1.toList) = false := beq_eq_false_iff_ne.mpr c4
   have c4b1 : (a0_1.toList != a1_1.toList) = true := bne_iff_ne.mpr c4
   obtain rfl := Option.some.inj H
   go_enter Tryd.func16, Tryd.ntmps16
   go_wp2_with (first | ((with_reducible refine gate_dst (N := 2) rfl ?_); refine box_event ?hg (N := 2) ?hd (cs := #[.int .i64 a0_0, .string a0_1, .int .i64 a0_2, .slice A0_3 l0_3.length c0_3]) (t := 24) ?hr ?_; (case hd => rfl); (case hg => rfl); (case hr => first | (go_simp; done) | (go_simp; rfl)); intro gb365 hg w18 hbox hb; have n0_ := Aside0.mk (below_step (bs0_ HB.out) hb); have n1_ := Aside0.mk (hbox); have n2_ := Aside0.mk ((by rw [hg]; exact (below_size (bs0_ HB.out)) : w.heap.size ≤ gb365)); have n3_ := Aside0.mk ((by rw [hg]; exact (below_size (bs0_ HB.out)) : w.heap.size ≤ gb365)); clear HB; have HB := n0_; have BK365 := n1_; have GW365 := n2_; have GE365 := n3_; clear n0_ n1_ n2_ n3_; clear hb hbox hg) | ((with_reducible refine gate_dst (N := 3) rfl ?_); refine box_event ?hg (N := 3) ?hd (cs := #[.int .i64 a1_0, .string a1_1, .int .i64 a1_2, .slice A1_3 l1_3.length c1_3]) (t := 24) ?hr ?_; (case hd => rfl); (case hg => rfl); (case hr => first | (go_simp; done) | (go_simp; rfl)); intro gb366 hg w19 hbox hb; have n0_ := Aside0.mk (blk_below (g := gb365) (o := .cells #[.int .i64 a0_0, .string a0_1, .int .i64 a0_2, .slice A0_3 l0_3.length c0_3] 24 (0, 0)) (bk_ BK365.out) hb); have n1_ := Aside0.mk (below_step (bs1_ HB.out GE365.out) hb); have n2_ := Aside0.mk (hbox); have n3_ := Aside0.mk ((by rw [hg]; exact (below_size (bs1_ HB.out GE365.out)) : w.heap.size ≤ gb366)); have n4_ := Aside0.mk ((by rw [hg]; exact (below_size (bs1_ HB.out GE365.out)) : w.heap.size ≤ gb366)); have n5_ := Aside0.mk ((by rw [hg]; exact Nat.ne_of_lt (blk_lt (g := gb365) (o := .cells #[.int .i64 a0_0, .string a0_1, .int .i64 a0_2, .slice A0_3 l0_3.length c0_3] 24 (0, 0)) (bk_ BK365.out)) : gb365 ≠ gb366)); have n6_ := Aside0.mk ((by rw [hg]; exact Nat.ne_of_gt (blk_lt (g := gb365) (o := .cells #[.int .i64 a0_0, .string a0_1, .int .i64 a0_2, .slice A0_3 l0_3.length c0_3] 24 (0, 0)) (bk_ BK365.out)) : gb366 ≠ gb365)); clear BK365; clear HB; have BK365 := n0_; have HB := n1_; have BK366 := n2_; have GW366 := n3_; have GE366 := n4_; have NB365_366 := n5_; have NB366_365 := n6_; clear n0_ n1_ n2_ n3_ n4_ n5_ n6_; clear hb hbox hg; have hnb20 := NB365_366.out; have hnc20 := NB366_365.out; have hcz21_0 : w19.cell? ⟨gb365, 0, none⟩ = some (.int .i64 a0_0) := (blk_cell BK365.out 0).trans rfl; have hcz21_1 : w19.cell? ⟨gb365, 1, none⟩ = some (.string a0_1) := (blk_cell BK365.out 1).trans rfl; have hcz21_2 : w19.cell? ⟨gb365, 2, none⟩ = some (.int .i64 a0_2) := (blk_cell BK365.out 2).trans rfl; have hcz21_3 : w19.cell? ⟨gb365, 3, none⟩ = some (.slice A0_3 l0_3.length c0_3) := (blk_cell BK365.out 3).trans rfl; have hfz21_0 := blk_frozen BK365.out 0; have hfz21_1 := blk_frozen BK365.out 1; have hfz21_2 := blk_frozen BK365.out 2; have hfz21_3 := blk_frozen BK365.out 3; have hcz22_0 : w19.cell? ⟨gb366, 0, none⟩ = some (.int .i64 a1_0) := (blk_cell BK366.out 0).trans rfl; have hcz22_1 : w19.cell? ⟨gb366, 1, none⟩ = some (.string a1_1) := (blk_cell BK366.out 1).trans rfl; have hcz22_2 : w19.cell? ⟨gb366, 2, none⟩ = some (.int .i64 a1_2) := (blk_cell BK366.out 2).trans rfl; have hcz22_3 : w19.cell? ⟨gb366, 3, none⟩ = some (.slice A1_3 l1_3.length c1_3) := (blk_cell BK366.out 3).trans rfl; have hfz22_0 := blk_frozen BK366.out 0; have hfz22_1 := blk_frozen BK366.out 1; have hfz22_2 := blk_frozen BK366.out 2; have hfz22_3 := blk_frozen BK366.out 3))
   go_ret
   exact ⟨by first | rfl | (simp [errW_none, errW_some] <;> rfl) | (simp [*, errW_none, errW_some] <;> rfl), bs2_ HB.out GE365.out GE366.out⟩
 ·rw [if_neg c3] at H
  have c3b0 : (a0_0 == a1_0) = false := beq_eq_false_iff_ne.mpr c3
  have c3b1 : (a0_0 != a1_0) = true := bne_iff_ne.mpr c3
  obtain rfl := Option.some.inj H
  go_enter Tryd.func16, Tryd.ntmps16
  go_wp2_with (first | ((with_reducible refine gate_dst (N := 2) rfl ?_); refine box_event ?hg (N := 2) ?hd (cs := #[.int .i64 a0_0, .string a0_1, .int .i64 a0_2, .slice A0_3 l0_3.length c0_3]) (t := 24) ?hr ?_; (case hd => rfl); (case hg => rfl); (case hr => first | (go_simp; done) | (go_simp; rfl)); intro gb365 hg w23 hbox hb; have n0_ := Aside0.mk (below_step (bs0_ HB.out) hb); have n1_ := Aside0.mk (hbox); have n2_ := Aside0.mk ((by rw [hg]; exact (below_size (bs0_ HB.out)) : w.heap.size ≤ gb365)); have n3_ := Aside0.mk ((by rw [hg]; exact (below_size (bs0_ HB.out)) : w.heap.size ≤ gb365)); clear HB; have HB := n0_; have BK365 := n1_; have GW365 := n2_; have GE365 := n3_; clear n0_ n1_ n2_ n3_; clear hb hbox hg) | ((with_reducible refine gate_dst (N := 3) rfl ?_); refine box_event ?hg (N := 3) ?hd (cs := #[.int .i64 a1_0, .string a1_1, .int .i64 a1_2, .slice A1_3 l1_3.length c1_3]) (t := 24) ?hr ?_; (case hd => rfl); (case hg => rfl); (case hr => first | (go_simp; done) | (go_simp; rfl)); intro gb366 hg w24 hbox hb; have n0_ := Aside0.mk (blk_below (g := gb365) (o := .cells #[.int .i64 a0_0, .string a0_1, .int .i64 a0_2, .slice A0_3 l0_3.length c0_3] 24 (0, 0)) (bk_ BK365.out) hb); have n1_ := Aside0.mk (below_step (bs1_ HB.out GE365.out) hb); have n2_ := Aside0.mk (hbox); have n3_ := Aside0.mk ((by rw [hg]; exact (below_size (bs1_ HB.out GE365.out)) : w.heap.size ≤ gb366)); have n4_ := Aside0.mk ((by rw [hg]; exact (below_size (bs1_ HB.out GE365.out)) : w.heap.size ≤ gb366)); have n5_ := Aside0.mk ((by rw [hg]; exact Nat.ne_of_lt (blk_lt (g := gb365) (o := .cells #[.int .i64 a0_0, .string a0_1, .int .i64 a0_2, .slice A0_3 l0_3.length c0_3] 24 (0, 0)) (bk_ BK365.out)) : gb365 ≠ gb366)); have n6_ := Aside0.mk ((by rw [hg]; exact Nat.ne_of_gt (blk_lt (g := gb365) (o := .cells #[.int .i64 a0_0, .string a0_1, .int .i64 a0_2, .slice A0_3 l0_3.length c0_3] 24 (0, 0)) (bk_ BK365.out)) : gb366 ≠ gb365)); clear BK365; clear HB; have BK365 := n0_; have HB := n1_; have BK366 := n2_; have GW366 := n3_; have GE366 := n4_; have NB365_366 := n5_; have NB366_365 := n6_; clear n0_ n1_ n2_ n3_ n4_ n5_ n6_; clear hb hbox hg; have hnb25 := NB365_366.out; have hnc25 := NB366_365.out; have hcz26_0 : w24.cell? ⟨gb365, 0, none⟩ = some (.int .i64 a0_0) := (blk_cell BK365.out 0).trans rfl; have hcz26_1 : w24.cell? ⟨gb365, 1, none⟩ = some (.string a0_1) := (blk_cell BK365.out 1).trans rfl; have hcz26_2 : w24.cell? ⟨gb365, 2, none⟩ = some (.int .i64 a0_2) := (blk_cell BK365.out 2).trans rfl; have hcz26_3 : w24.cell? ⟨gb365, 3, none⟩ = some (.slice A0_3 l0_3.length c0_3) := (blk_cell BK365.out 3).trans rfl; have hfz26_0 := blk_frozen BK365.out 0; have hfz26_1 := blk_frozen BK365.out 1; have hfz26_2 := blk_frozen BK365.out 2; have hfz26_3 := blk_frozen BK365.out 3; have hcz27_0 : w24.cell? ⟨gb366, 0, none⟩ = some (.int .i64 a1_0) := (blk_cell BK366.out 0).trans rfl; have hcz27_1 : w24.cell? ⟨gb366, 1, none⟩ = some (.string a1_1) := (blk_cell BK366.out 1).trans rfl; have hcz27_2 : w24.cell? ⟨gb366, 2, none⟩ = some (.int .i64 a1_2) := (blk_cell BK366.out 2).trans rfl; have hcz27_3 : w24.cell? ⟨gb366, 3, none⟩ = some (.slice A1_3 l1_3.length c1_3) := (blk_cell BK366.out 3).trans rfl; have hfz27_0 := blk_frozen BK366.out 0; have hfz27_1 := blk_frozen BK366.out 1; have hfz27_2 := blk_frozen BK366.out 2; have hfz27_3 := blk_frozen BK366.out 3))
  go_ret
  exact ⟨by first | rfl | (simp [errW_none, errW_some] <;> rfl) | (simp [*, errW_none, errW_some] <;> rfl), bs2_ HB.out GE365.out GE366.out⟩


theorem vinculumref09_Equal.all_ (k : Nat) : (∀ (A0 : Option Addr) (c0 : Nat) (l0 : List (S24)) (A1 : Option Addr) (c1 : Nat) (l1 : List (S24)) (r : Bool) (w : World) (hr0 : Kd.C k24 w A0 l0.length l0) (hc0 : l0.length ≤ c0) (hr1 : Kd.C k24 w A1 l1.length l1) (hc1 : l1.length ≤ c1) (h : vinculumref09_SameItems.f k l0 l1 = some r),
  Calls Tryd.prog 28 #[.slice A0 l0.length c0, .slice A1 l1.length c1] w fun e w' => e = .returned (.bool r) ∧ Below w.heap.size w w') ∧ (∀ (a0_0 : Int) (a0_1 : ByteArray) (a0_2 : Int) (A0_3 : Option Addr) (c0_3 : Nat) (l0_3 : List (S24)) (a1_0 : Int) (a1_1 : ByteArray) (a1_2 : Int) (A1_3 : Option Addr) (c1_3 : Nat) (l1_3 : List (S24)) (r : Bool) (w : World) (hr0_3 : Kd.C k24 w A0_3 l0_3.length l0_3) (hc0_3 : l0_3.length ≤ c0_3) (hr1_3 : Kd.C k24 w A1_3 l1_3.length l1_3) (hc1_3 : l1_3.length ≤ c1_3) (h : vinculumref09_Equal.f k a0_0 a0_1 a0_2 l0_3 a1_0 a1_1 a1_2 l1_3 = some r),
  Calls Tryd.prog 16 #[.agg #[.int .i64 a0_0, .string a0_1, .int .i64 a0_2, .slice A0_3 l0_3.length c0_3], .agg #[.int .i64 a1_0, .string a1_1, .int .i64 a1_2, .slice A1_3 l1_3.length c1_3]] w fun e w' => e = .returned (.bool r) ∧ Below w.heap.size w w') := by
 induction k using Nat.strongRecOn with
 | _ k ih =>
 exact ⟨vinculumref09_SameItems.step k (fun m_ h_ => (ih m_ h_).1) (fun m_ h_ => (ih m_ h_).2), vinculumref09_Equal.step k (fun m_ h_ => (ih m_ h_).1) (fun m_ h_ => (ih m_ h_).2)⟩
theorem vinculumref09_Equal.calls (k : Nat) : ∀ (a0_0 : Int) (a0_1 : ByteArray) (a0_2 : Int) (A0_3 : Option Addr) (c0_3 : Nat) (l0_3 : List (S24)) (a1_0 : Int) (a1_1 : ByteArray) (a1_2 : Int) (A1_3 : Option Addr) (c1_3 : Nat) (l1_3 : List (S24)) (r : Bool) (w : World) (hr0_3 : Kd.C k24 w A0_3 l0_3.length l0_3) (hc0_3 : l0_3.length ≤ c0_3) (hr1_3 : Kd.C k24 w A1_3 l1_3.length l1_3) (hc1_3 : l1_3.length ≤ c1_3) (h : vinculumref09_Equal.f k a0_0 a0_1 a0_2 l0_3 a1_0 a1_1 a1_2 l1_3 = some r),
  Calls Tryd.prog 16 #[.agg #[.int .i64 a0_0, .string a0_1, .int .i64 a0_2, .slice A0_3 l0_3.length c0_3], .agg #[.int .i64 a1_0, .string a1_1, .int .i64 a1_2, .slice A1_3 l1_3.length c1_3]] w fun e w' => e = .returned (.bool r) ∧ Below w.heap.size w w' := (vinculumref09_Equal.all_ k).2

end Go.Proofs.YtihchehmkhnhaaaDoor.A
