/- Made for this claim by a program of the session: the Go functions' plain twins and their contracts. Lean checks it. -/
import Derived.Test.YtihchehmkhnhaaaDoorCDiffMetric2
namespace Go.Proofs.YtihchehmkhnhaaaDoor.A
open Go.RowKit Go.Proofs.YtihchehmkhnhaaaDoorW.PrintWords Go.Proofs.YtihchehmkhnhaaaDoorW.PrintLast Go.Proofs.YtihchehmkhnhaaaDoorW.PrintMore
attribute [local go_sem] max2_int min2_int max_two min_two max_three min_three max_four min_four   -- for this text's walks alone
set_option linter.unusedVariables false
set_option linter.unusedSimpArgs false

set_option maxHeartbeats 8000000 in
set_option maxRecDepth 100000 in
theorem diff_best.step (k : Nat) (ih_43 : ∀ m_, m_ < k → ∀ (a0_0 : Int) (a0_1 : ByteArray) (a0_2 : Int) (A0_3 : Option Addr) (c0_3 : Nat) (l0_3 : List (S24)) (a1_0 : Int) (a1_1 : ByteArray) (a1_2 : Int) (A1_3 : Option Addr) (c1_3 : Nat) (l1_3 : List (S24)) (r : Int) (w : World) (hr0_3 : Kd.C k24 w A0_3 l0_3.length l0_3) (hc0_3 : l0_3.length ≤ c0_3) (hr1_3 : Kd.C k24 w A1_3 l1_3.length l1_3) (hc1_3 : l1_3.length ≤ c1_3) (h : diff_pair.f m_ a0_0 a0_1 a0_2 l0_3 a1_0 a1_1 a1_2 l1_3 = some r),
  Calls Tryd.prog 43 #[.agg #[.int .i64 a0_0, .string a0_1, .int .i64 a0_2, .slice A0_3 l0_3.length c0_3], .agg #[.int .i64 a1_0, .string a1_1, .int .i64 a1_2, .slice A1_3 l1_3.length c1_3]] w fun e w' => e = .returned (.int .i64 r) ∧ Below w.heap.size w w') (ih_31 : ∀ m_, m_ < k → ∀ (A0 : Option Addr) (c0 : Nat) (l0 : List (S24)) (A1 : Option Addr) (c1 : Nat) (l1 : List (S24)) (A2 : Option Addr) (c2 : Nat) (l2 : List (List (S47))) (a3 : Int) (a4 : Int) (r1 : Int) (r2 : Bool) (w : World) (hr0 : Kd.C k24 w A0 l0.length l0) (hc0 : l0.length ≤ c0) (hr1 : Kd.C k24 w A1 l1.length l1) (hc1 : l1.length ≤ c1) (hr2 : Kd.C (Kd.slice 47 k47) w A2 l2.length l2) (hc2 : l2.length ≤ c2) (h : diff_best.f m_ l0 l1 l2 a3 a4 = some (r1, r2)),
  Calls Tryd.prog 31 #[.slice A0 l0.length c0, .slice A1 l1.length c1, .slice A2 l2.length c2, .int .i64 a3, .int .i64 a4] w fun e w' => e = .returned (.agg #[.int .i64 r1, .bool r2]) ∧ Below w.heap.size w w') (ih_21 : ∀ m_, m_ < k → ∀ (A0 : Option Addr) (c0 : Nat) (l0 : List (S24)) (A1 : Option Addr) (c1 : Nat) (l1 : List (S24)) (r : List (List (S47))) (w : World) (hr0 : Kd.C k24 w A0 l0.length l0) (hc0 : l0.length ≤ c0) (hr1 : Kd.C k24 w A1 l1.length l1) (hc1 : l1.length ≤ c1) (h : diff_table.f m_ l0 l1 = some r),
  Calls Tryd.prog 21 #[.slice A0 l0.length c0, .slice A1 l1.length c1] w fun e w' => ∃ v0_ : Value, e = .returned (v0_) ∧ Kd.S (Kd.slice 47 k47) 48 w' w.heap.size (fun _ => True) v0_ r ∧ Below w.heap.size w w') : ∀ (A0 : Option Addr) (c0 : Nat) (l0 : List (S24)) (A1 : Option Addr) (c1 : Nat) (l1 : List (S24)) (A2 : Option Addr) (c2 : Nat) (l2 : List (List (S47))) (a3 : Int) (a4 : Int) (r1 : Int) (r2 : Bool) (w : World) (hr0 : Kd.C k24 w A0 l0.length l0) (hc0 : l0.length ≤ c0) (hr1 : Kd.C k24 w A1 l1.length l1) (hc1 : l1.length ≤ c1) (hr2 : Kd.C (Kd.slice 47 k47) w A2 l2.length l2) (hc2 : l2.length ≤ c2) (h : diff_best.f k l0 l1 l2 a3 a4 = some (r1, r2)),
  Calls Tryd.prog 31 #[.slice A0 l0.length c0, .slice A1 l1.length c1, .slice A2 l2.length c2, .int .i64 a3, .int .i64 a4] w fun e w' => e = .returned (.agg #[.int .i64 r1, .bool r2]) ∧ Below w.heap.size w w' := by
 intro A0 c0 l0 A1 c1 l1 A2 c2 l2 a3 a4 r1 r2 w hr0 hc0 hr1 hc1 hr2 hc2 h
 cases k with
 | zero => exact absurd h (by simp [diff_best.f])
 | succ k =>
 simp only [diff_best.f] at h
 have hu47 := Tryd.underlying47
 have hu24 := Tryd.underlying24
 have HR0 := Aside0.mk hr0
 have HC0 := Aside0.mk hc0
 clear hr0 hc0
 have HR1 := Aside0.mk hr1
 have HC1 := Aside0.mk hc1
 clear hr1 hc1
 have HR2 := Aside0.mk hr2
 have HC2 := Aside0.mk hc2
 clear hr2 hc2
 have HB := Aside0.mk (Below.refl w.heap.size w)
 have H : (if a3 = (l0.length : Int) then (diff_best.j0 k l0 l1 l2 a3 a4 (a4 == (l1.length : Int))) else (diff_best.j0 k l0 l1 l2 a3 a4 false)) = some (r1, r2) := h
 clear h
 have HC6 := Aside0.mk H
 clear H
 go_enter Tryd.func31, Tryd.ntmps31
 go_upto_region 1 with (first | ((with_reducible refine gate_dst (N := 10) rfl ?_); (try (refine gate_guard (by rfl) ?_; dsimp only)); refine box_event ?hg (N := 10) ?hd (cs := #[.int .i64 0, .bool false]) (t := 47) ?hr ?_; (case hd => rfl); (case hg => rfl); (case hr => first | (go_simp; done) | (go_simp; rfl)); intro gb148 hg w7 hbox hb; have n0_ := Aside0.mk (below_step (bs0_ HB.out) hb); have n1_ := Aside0.mk (hbox); have n2_ := Aside0.mk ((by rw [hg]; exact (below_size (bs0_ HB.out)) : w.heap.size ≤ gb148)); have n3_ := Aside0.mk ((by rw [hg]; exact (below_size (bs0_ HB.out)) : w.heap.size ≤ gb148)); clear HB; have HB := n0_; have BK148 := n1_; have GW148 := n2_; have GE148 := n3_; clear n0_ n1_ n2_ n3_; clear hb hbox hg))
 (try simp only [Act.put, List.setIfInBounds_toArray, List.set_cons_zero, List.set_cons_succ])
 go_cut [13] (fun v13 wc => ∃ (kq : Nat) (x13_5 : Bool), v13 = .bool x13_5 ∧ Aside0 (diff_best.j0 kq l0 l1 l2 a3 a4 x13_5 = some (r1, r2)) ∧ Aside0 (kq ≤ k) ∧ Aside0 (wc.heap[gb148]? = some (.cells #[.int .i64 0, .bool false] 47 (0, 0))) ∧ Aside0 (Below w.heap.size w wc))
 case first =>
  have H := HC6.out
  clear HC6
  by_cases c8 : a3 = (l0.length : Int)
  ·rw [if_pos c8] at H
   have c8b0 : (a3 == (l0.length : Int)) = true := beq_iff_eq.mpr c8
   have c8b1 : (a3 != (l0.length : Int)) = false := bne_eq_false_iff_eq.mpr c8
   clear c8
   (first | rw [c8b0] | (simp only [i64_w, i32_w]; rw [c8b0]) | skip)
   have H' := Aside0.mk H
   clear H
   go_wp2
   go_meet
   case rel => exact ⟨_, ((a4 == (l1.length : Int))), (by first | rfl | (simp; done) | (simp [*]; done)), H', ⟨by first | omega | exact Nat.le_refl _⟩, ⟨bk_ BK148.out⟩, ⟨bs1_ HB.out GE148.out⟩⟩
  ·rw [if_neg c8] at H
   have c8b0 : (a3 == (l0.length : Int)) = false := beq_eq_false_iff_ne.mpr c8
   have c8b1 : (a3 != (l0.length : Int)) = true := bne_iff_ne.mpr c8
   (first | rw [c8b0] | (simp only [i64_w, i32_w]; rw [c8b0]) | skip)
   have H' := Aside0.mk H
   clear H
   go_wp2
   go_meet
   case rel => exact ⟨_, (false), (by first | rfl | (simp; done) | (simp [*]; done)), H', ⟨by first | omega | exact Nat.le_refl _⟩, ⟨bk_ BK148.out⟩, ⟨bs1_ HB.out GE148.out⟩⟩
 case rest =>
  clear HC6; (try clear c1); (try clear c2); (try clear p2); (try clear c3); (try clear c8); (try clear c8b0); (try clear c8b1)
  obtain ⟨kq, x13_5, rfl, HA, HJ5, BK148, HB⟩ := hcut
  cases kq with
  | zero => exact absurd HA.out (by simp [diff_best.j0])
  | succ kj5 =>
   have H := HA.out
   clear HA
   simp only [diff_best.j0] at H
   by_cases c9 : x13_5 = true
   ·subst c9
    have H1 : (some (0, false)) = some (r1, r2) := by rw [if_pos rfl] at H; exact H
    clear H
    have H := H1
    clear H1
    simp only [Option.some.injEq, Prod.mk.injEq] at H
    obtain ⟨rfl, rfl⟩ := H
    have hcz10_0 : wc.cell? ⟨gb148, 0, none⟩ = some (.int .i64 0) := (blk_cell BK148.out 0).trans rfl
    have hcz10_1 : wc.cell? ⟨gb148, 1, none⟩ = some (.bool false) := (blk_cell BK148.out 1).trans rfl
    have hfz10_0 := blk_frozen BK148.out 0
    have hfz10_1 := blk_frozen BK148.out 1
    go_wp2
    refine bodyPost_ret (results_cell_row rfl _ _ gb148 47 #[.int .i64 0, .bool false] (0, 0) _ rfl (by (with_reducible repeat (first | refine blk_drewN ?_ _ | refine blk_drew ?_ | refine blk_alloc ?_ _)); refine blk_put (cs := #[.int .i64 0, .bool false]) ?_ 1 _ rfl; (with_reducible repeat (first | refine blk_drewN ?_ _ | refine blk_drew ?_ | refine blk_alloc ?_ _)); refine blk_put (cs := #[.int .i64 0, .bool false]) ?_ 0 _ rfl; (with_reducible repeat (first | refine blk_drewN ?_ _ | refine blk_drew ?_ | refine blk_alloc ?_ _)); exact BK148.out) Tryd.underlying47 rfl (by kernel_rfl)) rfl ?_
    exact ⟨by first | rfl | (simp [errW_none, errW_some] <;> rfl) | (simp [*, errW_none, errW_some] <;> rfl), bs1_ HB.out GE148.out⟩
   ·replace c9 := Bool.eq_false_iff.mpr c9
    subst c9
    have H1 : (if a3 = (l0.length : Int) then (if 0 ≤ a4 then (if a4 < (l1.length : Int) then ((node_Count.f kj5 ((rd_T24 l1 a4).f0) ((rd_T24 l1 a4).f1) ((rd_T24 l1 a4).f2) ((rd_T24 l1 a4).f3)).bind fun t150 => (if 0 ≤ a3 then (if a3 < (l2.length : Int) then (if 0 ≤ (wrap64 (a4 + 1)) then (if (wrap64 (a4 + 1)) < ((rd_L5 l2 a3).length : Int) then (some (wrap64 (t150 + ((rd_T47 (rd_L5 l2 a3) (wrap64 (a4 + 1))).f0)), false)) else (none)) else (none)) else (none)) else (none))) else (none)) else (none)) else (if a4 = (l1.length : Int) then (if 0 ≤ a3 then (if a3 < (l0.length : Int) then ((node_Count.f kj5 ((rd_T24 l0 a3).f0) ((rd_T24 l0 a3).f1) ((rd_T24 l0 a3).f2) ((rd_T24 l0 a3).f3)).bind fun t154 => (if 0 ≤ (wrap64 (a3 + 1)) then (if (wrap64 (a3 + 1)) < (l2.length : Int) then (if 0 ≤ a4 then (if a4 < ((rd_L5 l2 (wrap64 (a3 + 1))).length : Int) then (some (wrap64 (t154 + ((rd_T47 (rd_L5 l2 (wrap64 (a3 + 1))) a4).f0)), false)) else (none)) else (none)) else (none)) else (none))) else (none)) else (none)) else (if 0 ≤ a3 then (if a3 < (l0.length : Int) then ((node_Count.f kj5 ((rd_T24 l0 a3).f0) ((rd_T24 l0 a3).f1) ((rd_T24 l0 a3).f2) ((rd_T24 l0 a3).f3)).bind fun t158 => (if 0 ≤ (wrap64 (a3 + 1)) then (if (wrap64 (a3 + 1)) < (l2.length : Int) then (if 0 ≤ a4 then (if a4 < ((rd_L5 l2 (wrap64 (a3 + 1))).length : Int) then (if a4 < (l1.length : Int) then ((node_Count.f kj5 ((rd_T24 l1 a4).f0) ((rd_T24 l1 a4).f1) ((rd_T24 l1 a4).f2) ((rd_T24 l1 a4).f3)).bind fun t162 => (if a3 < (l2.length : Int) then (if 0 ≤ (wrap64 (a4 + 1)) then (if (wrap64 (a4 + 1)) < ((rd_L5 l2 a3).length : Int) then ((diff_alike.f ((rd_T24 l0 a3).f0) ((rd_T24 l0 a3).f1) ((rd_T24 l0 a3).f2) ((rd_T24 l0 a3).f3) ((rd_T24 l1 a4).f0) ((rd_T24 l1 a4).f1) ((rd_T24 l1 a4).f2) ((rd_T24 l1 a4).f3)).bind fun t168 => (if t168 = true then ((diff_pair.f kj5 ((rd_T24 l0 a3).f0) ((rd_T24 l0 a3).f1) ((rd_T24 l0 a3).f2) ((rd_T24 l0 a3).f3) ((rd_T24 l1 a4).f0) ((rd_T24 l1 a4).f1) ((rd_T24 l1 a4).f2) ((rd_T24 l1 a4).f3)).bind fun t171 => (if (wrap64 (a4 + 1)) < ((rd_L5 l2 (wrap64 (a3 + 1))).length : Int) then (if (wrap64 (t171 + ((rd_T47 (rd_L5 l2 (wrap64 (a3 + 1))) (wrap64 (a4 + 1))).f0))) ≤ (mn (wrap64 (t158 + ((rd_T47 (rd_L5 l2 (wrap64 (a3 + 1))) a4).f0))) (wrap64 (t162 + ((rd_T47 (rd_L5 l2 a3) (wrap64 (a4 + 1))).f0)))) then (some (wrap64 (t171 + ((rd_T47 (rd_L5 l2 (wrap64 (a3 + 1))) (wrap64 (a4 + 1))).f0)), true)) else (some (mn (wrap64 (t158 + ((rd_T47 (rd_L5 l2 (wrap64 (a3 + 1))) a4).f0))) (wrap64 (t162 + ((rd_T47 (rd_L5 l2 a3) (wrap64 (a4 + 1))).f0))), false))) else (none))) else (some (mn (wrap64 (t158 + ((rd_T47 (rd_L5 l2 (wrap64 (a3 + 1))) a4).f0))) (wrap64 (t162 + ((rd_T47 (rd_L5 l2 a3) (wrap64 (a4 + 1))).f0))), false)))) else (none)) else (none)) else (none))) else (none)) else (none)) else (none)) else (none)) else (none))) else (none)) else (none)))) = some (r1, r2) := by rw [if_neg (show ¬ (false = true) by decide)] at H; exact H
    clear H
    have H := H1
    clear H1
    by_cases c11 : a3 = (l0.length : Int)
    ·rw [if_pos c11] at H
     have c11b0 : (a3 == (l0.length : Int)) = true := beq_iff_eq.mpr c11
     have c11b1 : (a3 != (l0.length : Int)) = false := bne_eq_false_iff_eq.mpr c11
     clear c11
     by_cases c12 : 0 ≤ a4
     case neg =>
      rw [if_neg c12] at H
      exact absurd H (by simp)
     rw [if_pos c12] at H
     have c12b0 : decide (0 ≤ a4) = true := decide_eq_true c12
     clear c12
     by_cases c13 : a4 < (l1.length : Int)
     case neg =>
      rw [if_neg c13] at H
      exact absurd H (by simp)
     rw [if_pos c13] at H
     have c13b0 : decide (a4 < (l1.length : Int)) = true := decide_eq_true c13
     clear c13
     replace H := Option.bind_eq_some_iff.mp H
     obtain ⟨t150, A140, H⟩ := H
     replace H : (if 0 ≤ a3 then (if a3 < (l2.length : Int) then (if 0 ≤ (wrap64 (a4 + 1)) then (if (wrap64 (a4 + 1)) < ((rd_L5 l2 a3).length : Int) then (some (wrap64 (t150 + ((rd_T47 (rd_L5 l2 a3) (wrap64 (a4 + 1))).f0)), false)) else (none)) else (none)) else (none)) else (none)) = some (r1, r2) := H
     have A14 := Aside0.mk A140
     clear A140
     by_cases c15 : 0 ≤ a3
     case neg =>
      rw [if_neg c15] at H
      exact absurd H (by simp)
     rw [if_pos c15] at H
     have c15b0 : decide (0 ≤ a3) = true := decide_eq_true c15
     clear c15
     by_cases c16 : a3 < (l2.length : Int)
     case neg =>
      rw [if_neg c16] at H
      exact absurd H (by simp)
     rw [if_pos c16] at H
     have c16b0 : decide (a3 < (l2.length : Int)) = true := decide_eq_true c16
     clear c16
     obtain ⟨ji17, hji17⟩ : ∃ j_ : Int, (wrap64 (a4 + 1)) = j_ := ⟨_, rfl⟩
     replace H : (if 0 ≤ (ji17) then (if (ji17) < ((rd_L5 l2 a3).length : Int) then (some (wrap64 (t150 + ((rd_T47 (rd_L5 l2 a3) (ji17)).f0)), false)) else (none)) else (none)) = some (r1, r2) := by first | (rw [hji17] at H; exact H) | (simp only [hji17] at H ⊢; exact H)
     (try rw [hji17] at A14)
     have hji17w : (IntKind.i64.wrap (a4 + 1)) = ji17 := (i64_w _).trans hji17
     by_cases c18 : 0 ≤ (ji17)
     case neg =>
      rw [if_neg c18] at H
      exact absurd H (by simp)
     rw [if_pos c18] at H
     have c18b0 : decide (0 ≤ (ji17)) = true := decide_eq_true c18
     clear c18
     by_cases c19 : (ji17) < ((rd_L5 l2 a3).length : Int)
     case neg =>
      rw [if_neg c19] at H
      exact absurd H (by simp)
     rw [if_pos c19] at H
     have c19b0 : decide ((ji17) < ((rd_L5 l2 a3).length : Int)) = true := decide_eq_true c19
     clear c19
     simp only [Option.some.injEq, Prod.mk.injEq] at H
     obtain ⟨rfl, rfl⟩ := H
     try go_wp2
     have n0_ := Aside0.mk (blk_drew BK148.out)
     have n1_ := Aside0.mk (below_drew1 HB.out)
     clear BK148; clear HB
     have BK148 := n0_
     have HB := n1_
     clear n0_ n1_
     have p149 : 0 ≤ (a4 : Int) := of_decide_eq_true (by first | (with_reducible assumption) | assumption)
     have q149 : a4 < (l1.length : Int) := of_decide_eq_true (by first | (with_reducible assumption) | assumption)
     obtain ⟨ad149, A149_3, c149_3, e149, hx149_0, hx149_1, hx149_2, hx149_3, hl149_3, hi149_3⟩ := at_T24 HR1.out a4 p149 q149
     have hw149_3 := hx149_3
     have hw149_2 := hx149_2
     have hw149_1 := hx149_1
     have hw149_0 := hx149_0
     cases e149
     replace hx149_0 := (cl_ HB.out hx149_0).trans hx149_0
     replace hx149_1 := (cl_ HB.out hx149_1).trans hx149_1
     replace hx149_2 := (cl_ HB.out hx149_2).trans hx149_2
     replace hx149_3 := (cl_ HB.out hx149_3).trans hx149_3
     have HR149_3 := Aside0.mk hi149_3
     have HC149_3 := Aside0.mk hl149_3
     clear hi149_3 hl149_3
     replace p149 := eq_true p149
     replace q149 := eq_true q149
     have p151 : 0 ≤ (a3 : Int) := of_decide_eq_true (by first | (with_reducible assumption) | assumption)
     have q151 : a3 < (l2.length : Int) := of_decide_eq_true (by first | (with_reducible assumption) | assumption)
     obtain ⟨ad151, A151_0, c151_0, e151, hx151_0, hl151_0, hi151_0⟩ := at_L5 HR2.out a3 p151 q151
     have hw151_0 := hx151_0
     cases e151
     replace hx151_0 := (cl_ HB.out hx151_0).trans hx151_0
     have HR151_0 := Aside0.mk hi151_0
     have HC151_0 := Aside0.mk hl151_0
     clear hi151_0 hl151_0
     replace p151 := eq_true p151
     replace q151 := eq_true q151
     have p152 : 0 ≤ ((ji17) : Int) := of_decide_eq_true (by first | (with_reducible assumption) | assumption)
     have q152 : (ji17) < ((rd_L5 l2 a3).length : Int) := of_decide_eq_true (by first | (with_reducible assumption) | assumption)
     obtain ⟨ad152, e152, hx152_0, hx152_1⟩ := at_T47 HR151_0.out (ji17) p152 q152
     have hw152_1 := hx152_1
     have hw152_0 := hx152_0
     cases e152
     replace hx152_0 := (cl_ HB.out hx152_0).trans hx152_0
     replace hx152_1 := (cl_ HB.out hx152_1).trans hx152_1
     replace p152 := eq_true p152
     replace q152 := eq_true q152
     refine start_ (n := 17) (S := fun w' => w'.cell? (ad149.add ((a4).toNat * 4)) = some (.int .i64 ((rd_T24 l1 a4).f0)) ∧ w'.cell? ⟨(ad149.add ((a4).toNat * 4)).block, (ad149.add ((a4).toNat * 4)).off + 1, none⟩ = some (.string ((rd_T24 l1 a4).f1)) ∧ w'.cell? ⟨(ad149.add ((a4).toNat * 4)).block, (ad149.add ((a4).toNat * 4)).off + 2, none⟩ = some (.int .i64 ((rd_T24 l1 a4).f2)) ∧ w'.cell? ⟨(ad149.add ((a4).toNat * 4)).block, (ad149.add ((a4).toNat * 4)).off + 3, none⟩ = some (.slice A149_3 ((rd_T24 l1 a4).f3).length c149_3) ∧ w'.cell? (ad151.add (a3).toNat) = some (.slice (some ad152) (rd_L5 l2 a3).length c151_0) ∧ w'.cell? (ad152.add (((ji17)).toNat * 2)) = some (.int .i64 ((rd_T47 (rd_L5 l2 a3) (ji17)).f0)) ∧ w'.cell? ⟨(ad152.add (((ji17)).toNat * 2)).block, (ad152.add (((ji17)).toNat * 2)).off + 1, none⟩ = some (.bool ((rd_T47 (rd_L5 l2 a3) (ji17)).f1))) (ds := []) #[false, false, false, false, false, false, false, false, false, false, false, false, false, false, false, false, false] (by kernel_rfl) rfl rfl ⟨(ck_ HB.out hw149_0), (ck_ HB.out hw149_1), (ck_ HB.out hw149_2), (ck_ HB.out hw149_3), (ck_ HB.out hw151_0), (ck_ HB.out hw152_0), (ck_ HB.out hw152_1)⟩ (fun hHeld => ?_); refine with_tabW diff_best.tab4 diff_best.bits4 (fun HT_ HW_ => ?_)
     generalize wc.drew = w20 at BK148 HB HR149_3 HR151_0 hx149_0 hx149_1 hx149_2 hx149_3 hx151_0 hx152_0 hx152_1 hHeld ⊢
     refine pure_ (i := 0) (N := some 30) (v := ?_) (a' := ?_) (mk_ 17 1) rfl rfl (an_ HT_.out) (fun _ _ _ h => h) (Or.inl ⟨by rfl, ?_⟩) ?_ ?_
     rotate_left; (intro w'; go_simp; with_reducible rfl); rotate_left; (simp only [Act.put, sp1_, sp2_]; rfl)
     refine pure_ (i := 1) (N := some 31) (v := ?_) (a' := ?_) (mk_ 17 3) rfl rfl (an_ HT_.out) (fun _ _ _ h => h) (Or.inl ⟨by rfl, ?_⟩) ?_ ?_
     rotate_left; (intro w'; go_simp; with_reducible rfl); rotate_left; (simp only [Act.put, sp1_, sp2_]; rfl)
     refine pure_ (i := 2) (N := some 32) (v := ?_) (a' := ?_) (mk_ 17 7) rfl rfl (an_ HT_.out) (fun _ _ _ h => h) (Or.inl ⟨by rfl, ?_⟩) ?_ ?_
     rotate_left; (intro w'; go_simp; with_reducible rfl); rotate_left; (simp only [Act.put, sp1_, sp2_]; rfl)
     refine pure_ (i := 5) (N := some 35) (v := ?_) (a' := ?_) (mk_ 17 39) rfl rfl (an_ HT_.out) (fun _ _ _ h => h) (Or.inl ⟨by rfl, ?_⟩) ?_ ?_
     rotate_left; (intro w'; go_simp; with_reducible rfl); rotate_left; (simp only [Act.put, sp1_, sp2_]; rfl)
     refine pure_ (i := 6) (N := some 36) (v := ?_) (a' := ?_) (mk_ 17 103) rfl rfl (an_ HT_.out) (fun _ _ _ h => h) (Or.inl ⟨by rfl, ?_⟩) ?_ ?_
     rotate_left; (intro w'; go_simp; with_reducible rfl); rotate_left; (simp only [Act.put, sp1_, sp2_]; rfl)
     refine pure_ (i := 7) (N := some 37) (v := ?_) (a' := ?_) (mk_ 17 231) rfl rfl (an_ HT_.out) (fun _ _ _ h => h) (Or.inl ⟨by rfl, ?_⟩) ?_ ?_
     rotate_left; (intro w'; go_simp; with_reducible rfl); rotate_left; (simp only [Act.put, sp1_, sp2_]; rfl)
     refine pure_ (i := 9) (N := some 39) (v := ?_) (a' := ?_) (mk_ 17 743) rfl rfl (an_ HT_.out) (fun _ _ _ h => h) (Or.inl ⟨by rfl, ?_⟩) ?_ ?_
     rotate_left; (intro w'; go_simp; with_reducible rfl); rotate_left; (simp only [Act.put, sp1_, sp2_]; rfl)
     refine pure_ (i := 10) (N := some 40) (v := ?_) (a' := ?_) (mk_ 17 1767) rfl rfl (an_ HT_.out) (fun _ _ _ h => h) (Or.inl ⟨by rfl, ?_⟩) ?_ ?_
     rotate_left; (intro w'; go_simp; with_reducible rfl); rotate_left; (simp only [Act.put, sp1_, sp2_]; rfl)
     refine take_ (i := 3) (N := some 33) (v := ?_) (a' := ?_) (mk_ 17 1775) rfl rfl (take_ofW HT_.out HW_.out (by kernel_rfl)) (fun _ _ _ h => h) (Or.inl ⟨by rfl, ?_⟩) hHeld ?_ ?_
     rotate_left
     ·rintro w' ⟨s0, s1, s2, s3, s4, s5, s6⟩
      go_simp
      with_reducible rfl
     rotate_left; (simp only [Act.put, sp1_, sp2_]; rfl)
     refine take_ (i := 8) (N := some 38) (v := ?_) (a' := ?_) (mk_ 17 2031) rfl rfl (take_ofW HT_.out HW_.out (by kernel_rfl)) (fun _ _ _ h => h) (Or.inl ⟨by rfl, ?_⟩) hHeld ?_ ?_
     rotate_left
     ·rintro w' ⟨s0, s1, s2, s3, s4, s5, s6⟩
      go_simp
      with_reducible rfl
     rotate_left; (simp only [Act.put, sp1_, sp2_]; rfl)
     refine pure_ (i := 11) (N := some 41) (v := ?_) (a' := ?_) (mk_ 17 4079) rfl rfl (an_ HT_.out) (fun _ _ _ h => h) (Or.inl ⟨by rfl, ?_⟩) ?_ ?_
     rotate_left; (intro w'; go_simp; with_reducible rfl); rotate_left; (simp only [Act.put, sp1_, sp2_]; rfl)
     refine pure_ (i := 12) (N := some 42) (v := ?_) (a' := ?_) (mk_ 17 8175) rfl rfl (an_ HT_.out) (fun _ _ _ h => h) (Or.inl ⟨by rfl, ?_⟩) ?_ ?_
     rotate_left; (intro w'; go_simp; with_reducible rfl); rotate_left; (simp only [Act.put, sp1_, sp2_]; rfl)
     refine take_ (i := 13) (N := some 43) (v := ?_) (a' := ?_) (mk_ 17 16367) rfl rfl (take_ofW HT_.out HW_.out (by kernel_rfl)) (fun _ _ _ h => h) (Or.inl ⟨by rfl, ?_⟩) hHeld ?_ ?_
     rotate_left
     ·rintro w' ⟨s0, s1, s2, s3, s4, s5, s6⟩
      go_simp
      with_reducible rfl
     rotate_left; (simp only [Act.put, sp1_, sp2_]; rfl)
     refine one_ (i := 4) (N := some 34) (mk_ 17 16383) rfl rfl (one_of HT_.out (by kernel_rfl)) (by decide) (fun K hK => ?_)
     refine goes_ Tryd.func29 (by kernel_rfl) rfl #[.agg #[.int .i64 ((rd_T24 l1 a4).f0), .string ((rd_T24 l1 a4).f1), .int .i64 ((rd_T24 l1 a4).f2), .slice A149_3 ((rd_T24 l1 a4).f3).length c149_3]] (by rfl) rfl rfl (by (try simp only [List.map_toArray, List.map_cons, List.map_nil]); first | done | rfl | (simp only [List.length_drop, List.length_take]; rfl)) ?_
     with_reducible refine (node_Count.calls kj5 ((rd_T24 l1 a4).f0) ((rd_T24 l1 a4).f1) ((rd_T24 l1 a4).f2) _ _ ((rd_T24 l1 a4).f3) t150 _ ?side1 ?side2 A14.out).mono ?_
     (case side1 => exact kc_ HR149_3.out HB.out)
     (case side2 => exact HC149_3.out)
     rintro e w21 ⟨rfl, hb⟩
     refine ⟨_, rfl, ?_⟩
     have n0_ := Aside0.mk (blk_below (g := gb148) (o := .cells #[.int .i64 0, .bool false] 47 (0, 0)) (bk_ BK148.out) hb)
     have n1_ := Aside0.mk (below_step (bs1_ HB.out GE148.out) hb)
     clear BK148; clear HB
     have BK148 := n0_
     have HB := n1_
     clear n0_ n1_
     (try clear hb)
     (try clear hb2)
     (try clear hk)
     (try clear hi)
     refine hK.out _ _ ⟨(ck_ HB.out hw149_0), (ck_ HB.out hw149_1), (ck_ HB.out hw149_2), (ck_ HB.out hw149_3), (ck_ HB.out hw151_0), (ck_ HB.out hw152_0), (ck_ HB.out hw152_1)⟩ (fun hHeld => ?_)
     clear hK K
     refine norm_ (a' := ?_) ?_ ?_
     rotate_left
     ·show Act.put _ (some 34) _ = _
      simp only [Act.put, sp1_, sp2_]
      rfl
     refine pure_ (i := 14) (N := some 44) (v := ?_) (a' := ?_) (mk_ 17 32767) rfl rfl (an_ HT_.out) (fun _ _ _ h => h) (Or.inl ⟨by rfl, ?_⟩) ?_ ?_
     rotate_left; (intro w'; go_simp; with_reducible rfl); rotate_left; (simp only [Act.put, sp1_, sp2_]; rfl)
     refine pure_ (i := 15) (N := some 45) (v := ?_) (a' := ?_) (mk_ 17 65535) rfl rfl (an_ HT_.out) (fun _ _ _ h => h) (Or.inl ⟨by rfl, ?_⟩) ?_ ?_
     rotate_left; (intro w'; go_simp; with_reducible rfl); rotate_left; (simp only [Act.put, sp1_, sp2_]; rfl)
     refine one_ (i := 16) (N := none) (mk_ 17 131071) rfl rfl (one_of HT_.out (by kernel_rfl)) (by decide) (fun K hK => ?_)
     have hs22 : w21.cell? ⟨gb148, 0, none⟩ = some (.int .i64 0) := (blk_cell BK148.out 0).trans rfl
     have hfs22 := blk_frozen BK148.out 0
     have hs23 : w21.cell? ⟨gb148, 1, none⟩ = some (.bool false) := (blk_cell BK148.out 1).trans rfl
     have hfs23 := blk_frozen BK148.out 1
     refine skip_ (w1 := ?_) (by rfl) rfl ?_ ?_
     rotate_left
     ·go_simp
      rfl
     refine hK.out _ _ ⟨((cf_ GW148.out hw149_0 _).trans (((cf_ GW148.out hw149_0 _).trans (hHeld.1)))), ((cf_ GW148.out hw149_1 _).trans (((cf_ GW148.out hw149_1 _).trans (hHeld.2.1)))), ((cf_ GW148.out hw149_2 _).trans (((cf_ GW148.out hw149_2 _).trans (hHeld.2.2.1)))), ((cf_ GW148.out hw149_3 _).trans (((cf_ GW148.out hw149_3 _).trans (hHeld.2.2.2.1)))), ((cf_ GW148.out hw151_0 _).trans (((cf_ GW148.out hw151_0 _).trans (hHeld.2.2.2.2.1)))), ((cf_ GW148.out hw152_0 _).trans (((cf_ GW148.out hw152_0 _).trans (hHeld.2.2.2.2.2.1)))), ((cf_ GW148.out hw152_1 _).trans (((cf_ GW148.out hw152_1 _).trans (hHeld.2.2.2.2.2.2))))⟩ (fun hHeld => ?_)
     clear hK K
     refine done_ (done_of HT_.out (by kernel_rfl)) ?_
     try go_wp2
     refine bodyPost_ret (results_cell_row rfl _ _ gb148 47 #[.int .i64 (wrap64 (t150 + ((rd_T47 (rd_L5 l2 a3) (ji17)).f0))), .bool false] (0, 0) _ rfl (by (with_reducible repeat (first | refine blk_drewN ?_ _ | refine blk_drew ?_ | refine blk_alloc ?_ _)); refine blk_put (cs := #[.int .i64 (wrap64 (t150 + ((rd_T47 (rd_L5 l2 a3) (ji17)).f0))), .bool false]) ?_ 1 _ rfl; (with_reducible repeat (first | refine blk_drewN ?_ _ | refine blk_drew ?_ | refine blk_alloc ?_ _)); refine blk_put (cs := #[.int .i64 0, .bool false]) ?_ 0 _ rfl; (with_reducible repeat (first | refine blk_drewN ?_ _ | refine blk_drew ?_ | refine blk_alloc ?_ _)); exact BK148.out) Tryd.underlying47 rfl (by kernel_rfl)) rfl ?_
     exact ⟨by first | rfl | (simp [errW_none, errW_some] <;> rfl) | (simp only [← hji17]; first | rfl | (simp [errW_none, errW_some] <;> rfl)) | (simp [*, errW_none, errW_some] <;> rfl), bs1_ HB.out GE148.out⟩
    ·rw [if_neg c11] at H
     have c11b0 : (a3 == (l0.length : Int)) = false := beq_eq_false_iff_ne.mpr c11
     have c11b1 : (a3 != (l0.length : Int)) = true := bne_iff_ne.mpr c11
     by_cases c24 : a4 = (l1.length : Int)
     ·rw [if_pos c24] at H
      have c24b0 : (a4 == (l1.length : Int)) = true := beq_iff_eq.mpr c24
      have c24b1 : (a4 != (l1.length : Int)) = false := bne_eq_false_iff_eq.mpr c24
      clear c24
      by_cases c25 : 0 ≤ a3
      case neg =>
       rw [if_neg c25] at H
       exact absurd H (by simp)
      rw [if_pos c25] at H
      have c25b0 : decide (0 ≤ a3) = true := decide_eq_true c25
      clear c25
      by_cases c26 : a3 < (l0.length : Int)
      case neg =>
       rw [if_neg c26] at H
       exact absurd H (by simp)
      rw [if_pos c26] at H
      have c26b0 : decide (a3 < (l0.length : Int)) = true := decide_eq_true c26
      clear c26
      replace H := Option.bind_eq_some_iff.mp H
      obtain ⟨t154, A270, H⟩ := H
      replace H : (if 0 ≤ (wrap64 (a3 + 1)) then (if (wrap64 (a3 + 1)) < (l2.length : Int) then (if 0 ≤ a4 then (if a4 < ((rd_L5 l2 (wrap64 (a3 + 1))).length : Int) then (some (wrap64 (t154 + ((rd_T47 (rd_L5 l2 (wrap64 (a3 + 1))) a4).f0)), false)) else (none)) else (none)) else (none)) else (none)) = some (r1, r2) := H
      have A27 := Aside0.mk A270
      clear A270
      obtain ⟨ji28, hji28⟩ : ∃ j_ : Int, (wrap64 (a3 + 1)) = j_ := ⟨_, rfl⟩
      replace H : (if 0 ≤ (ji28) then (if (ji28) < (l2.length : Int) then (if 0 ≤ a4 then (if a4 < ((rd_L5 l2 (ji28)).length : Int) then (some (wrap64 (t154 + ((rd_T47 (rd_L5 l2 (ji28)) a4).f0)), false)) else (none)) else (none)) else (none)) else (none)) = some (r1, r2) := by first | (rw [hji28] at H; exact H) | (simp only [hji28] at H ⊢; exact H)
      (try rw [hji28] at A27)
      have hji28w : (IntKind.i64.wrap (a3 + 1)) = ji28 := (i64_w _).trans hji28
      by_cases c29 : 0 ≤ (ji28)
      case neg =>
       rw [if_neg c29] at H
       exact absurd H (by simp)
      rw [if_pos c29] at H
      have c29b0 : decide (0 ≤ (ji28)) = true := decide_eq_true c29
      clear c29
      by_cases c30 : (ji28) < (l2.length : Int)
      case neg =>
       rw [if_neg c30] at H
       exact absurd H (by simp)
      rw [if_pos c30] at H
      have c30b0 : decide ((ji28) < (l2.length : Int)) = true := decide_eq_true c30
      clear c30
      by_cases c31 : 0 ≤ a4
      case neg =>
       rw [if_neg c31] at H
       exact absurd H (by simp)
      rw [if_pos c31] at H
      have c31b0 : decide (0 ≤ a4) = true := decide_eq_true c31
      clear c31
      by_cases c32 : a4 < ((rd_L5 l2 (ji28)).length : Int)
      case neg =>
       rw [if_neg c32] at H
       exact absurd H (by simp)
      rw [if_pos c32] at H
      have c32b0 : decide (a4 < ((rd_L5 l2 (ji28)).length : Int)) = true := decide_eq_true c32
      clear c32
      simp only [Option.some.injEq, Prod.mk.injEq] at H
      obtain ⟨rfl, rfl⟩ := H
      try go_wp2
      have n0_ := Aside0.mk (blk_drew BK148.out)
      have n1_ := Aside0.mk (below_drew1 HB.out)
      clear BK148; clear HB
      have BK148 := n0_
      have HB := n1_
      clear n0_ n1_
      have p153 : 0 ≤ (a3 : Int) := of_decide_eq_true (by first | (with_reducible assumption) | assumption)
      have q153 : a3 < (l0.length : Int) := of_decide_eq_true (by first | (with_reducible assumption) | assumption)
      obtain ⟨ad153, A153_3, c153_3, e153, hx153_0, hx153_1, hx153_2, hx153_3, hl153_3, hi153_3⟩ := at_T24 HR0.out a3 p153 q153
      have hw153_3 := hx153_3
      have hw153_2 := hx153_2
      have hw153_1 := hx153_1
      have hw153_0 := hx153_0
      cases e153
      replace hx153_0 := (cl_ HB.out hx153_0).trans hx153_0
      replace hx153_1 := (cl_ HB.out hx153_1).trans hx153_1
      replace hx153_2 := (cl_ HB.out hx153_2).trans hx153_2
      replace hx153_3 := (cl_ HB.out hx153_3).trans hx153_3
      have HR153_3 := Aside0.mk hi153_3
      have HC153_3 := Aside0.mk hl153_3
      clear hi153_3 hl153_3
      replace p153 := eq_true p153
      replace q153 := eq_true q153
      have p155 : 0 ≤ ((ji28) : Int) := of_decide_eq_true (by first | (with_reducible assumption) | assumption)
      have q155 : (ji28) < (l2.length : Int) := of_decide_eq_true (by first | (with_reducible assumption) | assumption)
      obtain ⟨ad155, A155_0, c155_0, e155, hx155_0, hl155_0, hi155_0⟩ := at_L5 HR2.out (ji28) p155 q155
      have hw155_0 := hx155_0
      cases e155
      replace hx155_0 := (cl_ HB.out hx155_0).trans hx155_0
      have HR155_0 := Aside0.mk hi155_0
      have HC155_0 := Aside0.mk hl155_0
      clear hi155_0 hl155_0
      replace p155 := eq_true p155
      replace q155 := eq_true q155
      have p156 : 0 ≤ (a4 : Int) := of_decide_eq_true (by first | (with_reducible assumption) | assumption)
      have q156 : a4 < ((rd_L5 l2 (ji28)).length : Int) := of_decide_eq_true (by first | (with_reducible assumption) | assumption)
      obtain ⟨ad156, e156, hx156_0, hx156_1⟩ := at_T47 HR155_0.out a4 p156 q156
      have hw156_1 := hx156_1
      have hw156_0 := hx156_0
      cases e156
      replace hx156_0 := (cl_ HB.out hx156_0).trans hx156_0
      replace hx156_1 := (cl_ HB.out hx156_1).trans hx156_1
      replace p156 := eq_true p156
      replace q156 := eq_true q156
      refine start_ (n := 17) (S := fun w' => w'.cell? (ad153.add ((a3).toNat * 4)) = some (.int .i64 ((rd_T24 l0 a3).f0)) ∧ w'.cell? ⟨(ad153.add ((a3).toNat * 4)).block, (ad153.add ((a3).toNat * 4)).off + 1, none⟩ = some (.string ((rd_T24 l0 a3).f1)) ∧ w'.cell? ⟨(ad153.add ((a3).toNat * 4)).block, (ad153.add ((a3).toNat * 4)).off + 2, none⟩ = some (.int .i64 ((rd_T24 l0 a3).f2)) ∧ w'.cell? ⟨(ad153.add ((a3).toNat * 4)).block, (ad153.add ((a3).toNat * 4)).off + 3, none⟩ = some (.slice A153_3 ((rd_T24 l0 a3).f3).length c153_3) ∧ w'.cell? (ad155.add ((ji28)).toNat) = some (.slice (some ad156) (rd_L5 l2 (ji28)).length c155_0) ∧ w'.cell? (ad156.add ((a4).toNat * 2)) = some (.int .i64 ((rd_T47 (rd_L5 l2 (ji28)) a4).f0)) ∧ w'.cell? ⟨(ad156.add ((a4).toNat * 2)).block, (ad156.add ((a4).toNat * 2)).off + 1, none⟩ = some (.bool ((rd_T47 (rd_L5 l2 (ji28)) a4).f1))) (ds := []) #[false, false, false, false, false, false, false, false, false, false, false, false, false, false, false, false, false] (by kernel_rfl) rfl rfl ⟨(ck_ HB.out hw153_0), (ck_ HB.out hw153_1), (ck_ HB.out hw153_2), (ck_ HB.out hw153_3), (ck_ HB.out hw155_0), (ck_ HB.out hw156_0), (ck_ HB.out hw156_1)⟩ (fun hHeld => ?_); refine with_tabW diff_best.tab6 diff_best.bits6 (fun HT_ HW_ => ?_)
      generalize wc.drew = w33 at BK148 HB HR153_3 HR155_0 hx153_0 hx153_1 hx153_2 hx153_3 hx155_0 hx156_0 hx156_1 hHeld ⊢
      refine pure_ (i := 0) (N := some 51) (v := ?_) (a' := ?_) (mk_ 17 1) rfl rfl (an_ HT_.out) (fun _ _ _ h => h) (Or.inl ⟨by rfl, ?_⟩) ?_ ?_
      rotate_left; (intro w'; go_simp; with_reducible rfl); rotate_left; (simp only [Act.put, sp1_, sp2_]; rfl)
      refine pure_ (i := 1) (N := some 52) (v := ?_) (a' := ?_) (mk_ 17 3) rfl rfl (an_ HT_.out) (fun _ _ _ h => h) (Or.inl ⟨by rfl, ?_⟩) ?_ ?_
      rotate_left; (intro w'; go_simp; with_reducible rfl); rotate_left; (simp only [Act.put, sp1_, sp2_]; rfl)
      refine pure_ (i := 2) (N := some 53) (v := ?_) (a' := ?_) (mk_ 17 7) rfl rfl (an_ HT_.out) (fun _ _ _ h => h) (Or.inl ⟨by rfl, ?_⟩) ?_ ?_
      rotate_left; (intro w'; go_simp; with_reducible rfl); rotate_left; (simp only [Act.put, sp1_, sp2_]; rfl)
      refine pure_ (i := 5) (N := some 56) (v := ?_) (a' := ?_) (mk_ 17 39) rfl rfl (an_ HT_.out) (fun _ _ _ h => h) (Or.inl ⟨by rfl, ?_⟩) ?_ ?_
      rotate_left; (intro w'; go_simp; with_reducible rfl); rotate_left; (simp only [Act.put, sp1_, sp2_]; rfl)
      refine pure_ (i := 6) (N := some 57) (v := ?_) (a' := ?_) (mk_ 17 103) rfl rfl (an_ HT_.out) (fun _ _ _ h => h) (Or.inl ⟨by rfl, ?_⟩) ?_ ?_
      rotate_left; (intro w'; go_simp; with_reducible rfl); rotate_left; (simp only [Act.put, sp1_, sp2_]; rfl)
      refine pure_ (i := 7) (N := some 58) (v := ?_) (a' := ?_) (mk_ 17 231) rfl rfl (an_ HT_.out) (fun _ _ _ h => h) (Or.inl ⟨by rfl, ?_⟩) ?_ ?_
      rotate_left; (intro w'; go_simp; with_reducible rfl); rotate_left; (simp only [Act.put, sp1_, sp2_]; rfl)
      refine pure_ (i := 8) (N := some 59) (v := ?_) (a' := ?_) (mk_ 17 487) rfl rfl (an_ HT_.out) (fun _ _ _ h => h) (Or.inl ⟨by rfl, ?_⟩) ?_ ?_
      rotate_left; (intro w'; go_simp; with_reducible rfl); rotate_left; (simp only [Act.put, sp1_, sp2_]; rfl)
      refine pure_ (i := 10) (N := some 61) (v := ?_) (a' := ?_) (mk_ 17 1511) rfl rfl (an_ HT_.out) (fun _ _ _ h => h) (Or.inl ⟨by rfl, ?_⟩) ?_ ?_
      rotate_left; (intro w'; go_simp; with_reducible rfl); rotate_left; (simp only [Act.put, sp1_, sp2_]; rfl)
      refine take_ (i := 3) (N := some 54) (v := ?_) (a' := ?_) (mk_ 17 1519) rfl rfl (take_ofW HT_.out HW_.out (by kernel_rfl)) (fun _ _ _ h => h) (Or.inl ⟨by rfl, ?_⟩) hHeld ?_ ?_
      rotate_left
      ·rintro w' ⟨s0, s1, s2, s3, s4, s5, s6⟩
       go_simp
       with_reducible rfl
      rotate_left; (simp only [Act.put, sp1_, sp2_]; rfl)
      refine take_ (i := 9) (N := some 60) (v := ?_) (a' := ?_) (mk_ 17 2031) rfl rfl (take_ofW HT_.out HW_.out (by kernel_rfl)) (fun _ _ _ h => h) (Or.inl ⟨by rfl, ?_⟩) hHeld ?_ ?_
      rotate_left
      ·rintro w' ⟨s0, s1, s2, s3, s4, s5, s6⟩
       go_simp
       with_reducible rfl
      rotate_left; (simp only [Act.put, sp1_, sp2_]; rfl)
      refine pure_ (i := 11) (N := some 62) (v := ?_) (a' := ?_) (mk_ 17 4079) rfl rfl (an_ HT_.out) (fun _ _ _ h => h) (Or.inl ⟨by rfl, ?_⟩) ?_ ?_
      rotate_left; (intro w'; go_simp; with_reducible rfl); rotate_left; (simp only [Act.put, sp1_, sp2_]; rfl)
      refine pure_ (i := 12) (N := some 63) (v := ?_) (a' := ?_) (mk_ 17 8175) rfl rfl (an_ HT_.out) (fun _ _ _ h => h) (Or.inl ⟨by rfl, ?_⟩) ?_ ?_
      rotate_left; (intro w'; go_simp; with_reducible rfl); rotate_left; (simp only [Act.put, sp1_, sp2_]; rfl)
      refine take_ (i := 13) (N := some 64) (v := ?_) (a' := ?_) (mk_ 17 16367) rfl rfl (take_ofW HT_.out HW_.out (by kernel_rfl)) (fun _ _ _ h => h) (Or.inl ⟨by rfl, ?_⟩) hHeld ?_ ?_
      rotate_left
      ·rintro w' ⟨s0, s1, s2, s3, s4, s5, s6⟩
       go_simp
       with_reducible rfl
      rotate_left; (simp only [Act.put, sp1_, sp2_]; rfl)
      refine one_ (i := 4) (N := some 55) (mk_ 17 16383) rfl rfl (one_of HT_.out (by kernel_rfl)) (by decide) (fun K hK => ?_)
      refine goes_ Tryd.func29 (by kernel_rfl) rfl #[.agg #[.int .i64 ((rd_T24 l0 a3).f0), .string ((rd_T24 l0 a3).f1), .int .i64 ((rd_T24 l0 a3).f2), .slice A153_3 ((rd_T24 l0 a3).f3).length c153_3]] (by rfl) rfl rfl (by (try simp only [List.map_toArray, List.map_cons, List.map_nil]); first | done | rfl | (simp only [List.length_drop, List.length_take]; rfl)) ?_
      with_reducible refine (node_Count.calls kj5 ((rd_T24 l0 a3).f0) ((rd_T24 l0 a3).f1) ((rd_T24 l0 a3).f2) _ _ ((rd_T24 l0 a3).f3) t154 _ ?side1 ?side2 A27.out).mono ?_
      (case side1 => exact kc_ HR153_3.out HB.out)
      (case side2 => exact HC153_3.out)
      rintro e w34 ⟨rfl, hb⟩
      refine ⟨_, rfl, ?_⟩
      have n0_ := Aside0.mk (blk_below (g := gb148) (o := .cells #[.int .i64 0, .bool false] 47 (0, 0)) (bk_ BK148.out) hb)
      have n1_ := Aside0.mk (below_step (bs1_ HB.out GE148.out) hb)
      clear BK148; clear HB
      have BK148 := n0_
      have HB := n1_
      clear n0_ n1_
      (try clear hb)
      (try clear hb2)
      (try clear hk)
      (try clear hi)
      refine hK.out _ _ ⟨(ck_ HB.out hw153_0), (ck_ HB.out hw153_1), (ck_ HB.out hw153_2), (ck_ HB.out hw153_3), (ck_ HB.out hw155_0), (ck_ HB.out hw156_0), (ck_ HB.out hw156_1)⟩ (fun hHeld => ?_)
      clear hK K
      refine norm_ (a' := ?_) ?_ ?_
      rotate_left
      ·show Act.put _ (some 55) _ = _
       simp only [Act.put, sp1_, sp2_]
       rfl
      refine pure_ (i := 14) (N := some 65) (v := ?_) (a' := ?_) (mk_ 17 32767) rfl rfl (an_ HT_.out) (fun _ _ _ h => h) (Or.inl ⟨by rfl, ?_⟩) ?_ ?_
      rotate_left; (intro w'; go_simp; with_reducible rfl); rotate_left; (simp only [Act.put, sp1_, sp2_]; rfl)
      refine pure_ (i := 15) (N := some 66) (v := ?_) (a' := ?_) (mk_ 17 65535) rfl rfl (an_ HT_.out) (fun _ _ _ h => h) (Or.inl ⟨by rfl, ?_⟩) ?_ ?_
      rotate_left; (intro w'; go_simp; with_reducible rfl); rotate_left; (simp only [Act.put, sp1_, sp2_]; rfl)
      refine one_ (i := 16) (N := none) (mk_ 17 131071) rfl rfl (one_of HT_.out (by kernel_rfl)) (by decide) (fun K hK => ?_)
      have hs35 : w34.cell? ⟨gb148, 0, none⟩ = some (.int .i64 0) := (blk_cell BK148.out 0).trans rfl
      have hfs35 := blk_frozen BK148.out 0
      have hs36 : w34.cell? ⟨gb148, 1, none⟩ = some (.bool false) := (blk_cell BK148.out 1).trans rfl
      have hfs36 := blk_frozen BK148.out 1
      refine skip_ (w1 := ?_) (by rfl) rfl ?_ ?_
      rotate_left
      ·go_simp
       rfl
      refine hK.out _ _ ⟨((cf_ GW148.out hw153_0 _).trans (((cf_ GW148.out hw153_0 _).trans (hHeld.1)))), ((cf_ GW148.out hw153_1 _).trans (((cf_ GW148.out hw153_1 _).trans (hHeld.2.1)))), ((cf_ GW148.out hw153_2 _).trans (((cf_ GW148.out hw153_2 _).trans (hHeld.2.2.1)))), ((cf_ GW148.out hw153_3 _).trans (((cf_ GW148.out hw153_3 _).trans (hHeld.2.2.2.1)))), ((cf_ GW148.out hw155_0 _).trans (((cf_ GW148.out hw155_0 _).trans (hHeld.2.2.2.2.1)))), ((cf_ GW148.out hw156_0 _).trans (((cf_ GW148.out hw156_0 _).trans (hHeld.2.2.2.2.2.1)))), ((cf_ GW148.out hw156_1 _).trans (((cf_ GW148.out hw156_1 _).trans (hHeld.2.2.2.2.2.2))))⟩ (fun hHeld => ?_)
      clear hK K
      refine done_ (done_of HT_.out (by kernel_rfl)) ?_
      try go_wp2
      refine bodyPost_ret (results_cell_row rfl _ _ gb148 47 #[.int .i64 (wrap64 (t154 + ((rd_T47 (rd_L5 l2 (ji28)) a4).f0))), .bool false] (0, 0) _ rfl (by (with_reducible repeat (first | refine blk_drewN ?_ _ | refine blk_drew ?_ | refine blk_alloc ?_ _)); refine blk_put (cs := #[.int .i64 (wrap64 (t154 + ((rd_T47 (rd_L5 l2 (ji28)) a4).f0))), .bool false]) ?_ 1 _ rfl; (with_reducible repeat (first | refine blk_drewN ?_ _ | refine blk_drew ?_ | refine blk_alloc ?_ _)); refine blk_put (cs := #[.int .i64 0, .bool false]) ?_ 0 _ rfl; (with_reducible repeat (first | refine blk_drewN ?_ _ | refine blk_drew ?_ | refine blk_alloc ?_ _)); exact BK148.out) Tryd.underlying47 rfl (by kernel_rfl)) rfl ?_
      exact ⟨by first | rfl | (simp [errW_none, errW_some] <;> rfl) | (simp only [← hji28]; first | rfl | (simp [errW_none, errW_some] <;> rfl)) | (simp [*, errW_none, errW_some] <;> rfl), bs1_ HB.out GE148.out⟩
     ·rw [if_neg c24] at H
      have c24b0 : (a4 == (l1.length : Int)) = false := beq_eq_false_iff_ne.mpr c24
      have c24b1 : (a4 != (l1.length : Int)) = true := bne_iff_ne.mpr c24
      by_cases c37 : 0 ≤ a3
      case neg =>
       rw [if_neg c37] at H
       exact absurd H (by simp)


      rw [if_pos c37] at H
      have c37b0 : decide (0 ≤ a3) = true := decide_eq_true c37
      clear c37
      by_cases c38 : a3 < (l0.length : Int)
      case neg =>
       rw [if_neg c38] at H
       exact absurd H (by simp)
      rw [if_pos c38] at H
      have c38b0 : decide (a3 < (l0.length : Int)) = true := decide_eq_true c38
      clear c38
      replace H := Option.bind_eq_some_iff.mp H
      obtain ⟨t158, A390, H⟩ := H
      replace H : (if 0 ≤ (wrap64 (a3 + 1)) then (if (wrap64 (a3 + 1)) < (l2.length : Int) then (if 0 ≤ a4 then (if a4 < ((rd_L5 l2 (wrap64 (a3 + 1))).length : Int) then (if a4 < (l1.length : Int) then ((node_Count.f kj5 ((rd_T24 l1 a4).f0) ((rd_T24 l1 a4).f1) ((rd_T24 l1 a4).f2) ((rd_T24 l1 a4).f3)).bind fun t162 => (if a3 < (l2.length : Int) then (if 0 ≤ (wrap64 (a4 + 1)) then (if (wrap64 (a4 + 1)) < ((rd_L5 l2 a3).length : Int) then ((diff_alike.f ((rd_T24 l0 a3).f0) ((rd_T24 l0 a3).f1) ((rd_T24 l0 a3).f2) ((rd_T24 l0 a3).f3) ((rd_T24 l1 a4).f0) ((rd_T24 l1 a4).f1) ((rd_T24 l1 a4).f2) ((rd_T24 l1 a4).f3)).bind fun t168 => (if t168 = true then ((diff_pair.f kj5 ((rd_T24 l0 a3).f0) ((rd_T24 l0 a3).f1) ((rd_T24 l0 a3).f2) ((rd_T24 l0 a3).f3) ((rd_T24 l1 a4).f0) ((rd_T24 l1 a4).f1) ((rd_T24 l1 a4).f2) ((rd_T24 l1 a4).f3)).bind fun t171 => (if (wrap64 (a4 + 1)) < ((rd_L5 l2 (wrap64 (a3 + 1))).length : Int) then (if (wrap64 (t171 + ((rd_T47 (rd_L5 l2 (wrap64 (a3 + 1))) (wrap64 (a4 + 1))).f0))) ≤ (mn (wrap64 (t158 + ((rd_T47 (rd_L5 l2 (wrap64 (a3 + 1))) a4).f0))) (wrap64 (t162 + ((rd_T47 (rd_L5 l2 a3) (wrap64 (a4 + 1))).f0)))) then (some (wrap64 (t171 + ((rd_T47 (rd_L5 l2 (wrap64 (a3 + 1))) (wrap64 (a4 + 1))).f0)), true)) else (some (mn (wrap64 (t158 + ((rd_T47 (rd_L5 l2 (wrap64 (a3 + 1))) a4).f0))) (wrap64 (t162 + ((rd_T47 (rd_L5 l2 a3) (wrap64 (a4 + 1))).f0))), false))) else (none))) else (some (mn (wrap64 (t158 + ((rd_T47 (rd_L5 l2 (wrap64 (a3 + 1))) a4).f0))) (wrap64 (t162 + ((rd_T47 (rd_L5 l2 a3) (wrap64 (a4 + 1))).f0))), false)))) else (none)) else (none)) else (none))) else (none)) else (none)) else (none)) else (none)) else (none)) = some (r1, r2) := H
      have A39 := Aside0.mk A390
      clear A390
      obtain ⟨ji40, hji40⟩ : ∃ j_ : Int, (wrap64 (a3 + 1)) = j_ := ⟨_, rfl⟩
      replace H : (if 0 ≤ (ji40) then (if (ji40) < (l2.length : Int) then (if 0 ≤ a4 then (if a4 < ((rd_L5 l2 (ji40)).length : Int) then (if a4 < (l1.length : Int) then ((node_Count.f kj5 ((rd_T24 l1 a4).f0) ((rd_T24 l1 a4).f1) ((rd_T24 l1 a4).f2) ((rd_T24 l1 a4).f3)).bind fun t162 => (if a3 < (l2.length : Int) then (if 0 ≤ (wrap64 (a4 + 1)) then (if (wrap64 (a4 + 1)) < ((rd_L5 l2 a3).length : Int) then ((diff_alike.f ((rd_T24 l0 a3).f0) ((rd_T24 l0 a3).f1) ((rd_T24 l0 a3).f2) ((rd_T24 l0 a3).f3) ((rd_T24 l1 a4).f0) ((rd_T24 l1 a4).f1) ((rd_T24 l1 a4).f2) ((rd_T24 l1 a4).f3)).bind fun t168 => (if t168 = true then ((diff_pair.f kj5 ((rd_T24 l0 a3).f0) ((rd_T24 l0 a3).f1) ((rd_T24 l0 a3).f2) ((rd_T24 l0 a3).f3) ((rd_T24 l1 a4).f0) ((rd_T24 l1 a4).f1) ((rd_T24 l1 a4).f2) ((rd_T24 l1 a4).f3)).bind fun t171 => (if (wrap64 (a4 + 1)) < ((rd_L5 l2 (ji40)).length : Int) then (if (wrap64 (t171 + ((rd_T47 (rd_L5 l2 (ji40)) (wrap64 (a4 + 1))).f0))) ≤ (mn (wrap64 (t158 + ((rd_T47 (rd_L5 l2 (ji40)) a4).f0))) (wrap64 (t162 + ((rd_T47 (rd_L5 l2 a3) (wrap64 (a4 + 1))).f0)))) then (some (wrap64 (t171 + ((rd_T47 (rd_L5 l2 (ji40)) (wrap64 (a4 + 1))).f0)), true)) else (some (mn (wrap64 (t158 + ((rd_T47 (rd_L5 l2 (ji40)) a4).f0))) (wrap64 (t162 + ((rd_T47 (rd_L5 l2 a3) (wrap64 (a4 + 1))).f0))), false))) else (none))) else (some (mn (wrap64 (t158 + ((rd_T47 (rd_L5 l2 (ji40)) a4).f0))) (wrap64 (t162 + ((rd_T47 (rd_L5 l2 a3) (wrap64 (a4 + 1))).f0))), false)))) else (none)) else (none)) else (none))) else (none)) else (none)) else (none)) else (none)) else (none)) = some (r1, r2) := by first | (rw [hji40] at H; exact H) | (simp only [hji40] at H ⊢; exact H)
      (try rw [hji40] at A39)
      have hji40w : (IntKind.i64.wrap (a3 + 1)) = ji40 := (i64_w _).trans hji40
      by_cases c41 : 0 ≤ (ji40)
      case neg =>
       rw [if_neg c41] at H
       exact absurd H (by simp)
      rw [if_pos c41] at H
      have c41b0 : decide (0 ≤ (ji40)) = true := decide_eq_true c41
      clear c41
      by_cases c42 : (ji40) < (l2.length : Int)
      case neg =>
       rw [if_neg c42] at H
       exact absurd H (by simp)
      rw [if_pos c42] at H
      have c42b0 : decide ((ji40) < (l2.length : Int)) = true := decide_eq_true c42
      clear c42
      by_cases c43 : 0 ≤ a4
      case neg =>
       rw [if_neg c43] at H
       exact absurd H (by simp)
      rw [if_pos c43] at H
      have c43b0 : decide (0 ≤ a4) = true := decide_eq_true c43
      clear c43
      by_cases c44 : a4 < ((rd_L5 l2 (ji40)).length : Int)
      case neg =>
       rw [if_neg c44] at H
       exact absurd H (by simp)
      rw [if_pos c44] at H
      have c44b0 : decide (a4 < ((rd_L5 l2 (ji40)).length : Int)) = true := decide_eq_true c44
      clear c44
      by_cases c45 : a4 < (l1.length : Int)
      case neg =>
       rw [if_neg c45] at H
       exact absurd H (by simp)
      rw [if_pos c45] at H
      have c45b0 : decide (a4 < (l1.length : Int)) = true := decide_eq_true c45
      clear c45
      replace H := Option.bind_eq_some_iff.mp H
      obtain ⟨t162, A460, H⟩ := H
      replace H : (if a3 < (l2.length : Int) then (if 0 ≤ (wrap64 (a4 + 1)) then (if (wrap64 (a4 + 1)) < ((rd_L5 l2 a3).length : Int) then ((diff_alike.f ((rd_T24 l0 a3).f0) ((rd_T24 l0 a3).f1) ((rd_T24 l0 a3).f2) ((rd_T24 l0 a3).f3) ((rd_T24 l1 a4).f0) ((rd_T24 l1 a4).f1) ((rd_T24 l1 a4).f2) ((rd_T24 l1 a4).f3)).bind fun t168 => (if t168 = true then ((diff_pair.f kj5 ((rd_T24 l0 a3).f0) ((rd_T24 l0 a3).f1) ((rd_T24 l0 a3).f2) ((rd_T24 l0 a3).f3) ((rd_T24 l1 a4).f0) ((rd_T24 l1 a4).f1) ((rd_T24 l1 a4).f2) ((rd_T24 l1 a4).f3)).bind fun t171 => (if (wrap64 (a4 + 1)) < ((rd_L5 l2 (ji40)).length : Int) then (if (wrap64 (t171 + ((rd_T47 (rd_L5 l2 (ji40)) (wrap64 (a4 + 1))).f0))) ≤ (mn (wrap64 (t158 + ((rd_T47 (rd_L5 l2 (ji40)) a4).f0))) (wrap64 (t162 + ((rd_T47 (rd_L5 l2 a3) (wrap64 (a4 + 1))).f0)))) then (some (wrap64 (t171 + ((rd_T47 (rd_L5 l2 (ji40)) (wrap64 (a4 + 1))).f0)), true)) else (some (mn (wrap64 (t158 + ((rd_T47 (rd_L5 l2 (ji40)) a4).f0))) (wrap64 (t162 + ((rd_T47 (rd_L5 l2 a3) (wrap64 (a4 + 1))).f0))), false))) else (none))) else (some (mn (wrap64 (t158 + ((rd_T47 (rd_L5 l2 (ji40)) a4).f0))) (wrap64 (t162 + ((rd_T47 (rd_L5 l2 a3) (wrap64 (a4 + 1))).f0))), false)))) else (none)) else (none)) else (none)) = some (r1, r2) := H
      have A46 := Aside0.mk A460
      clear A460
      by_cases c47 : a3 < (l2.length : Int)
      case neg =>
       rw [if_neg c47] at H
       exact absurd H (by simp)
      rw [if_pos c47] at H
      have c47b0 : decide (a3 < (l2.length : Int)) = true := decide_eq_true c47
      clear c47
      obtain ⟨ji48, hji48⟩ : ∃ j_ : Int, (wrap64 (a4 + 1)) = j_ := ⟨_, rfl⟩
      replace H : (if 0 ≤ (ji48) then (if (ji48) < ((rd_L5 l2 a3).length : Int) then ((diff_alike.f ((rd_T24 l0 a3).f0) ((rd_T24 l0 a3).f1) ((rd_T24 l0 a3).f2) ((rd_T24 l0 a3).f3) ((rd_T24 l1 a4).f0) ((rd_T24 l1 a4).f1) ((rd_T24 l1 a4).f2) ((rd_T24 l1 a4).f3)).bind fun t168 => (if t168 = true then ((diff_pair.f kj5 ((rd_T24 l0 a3).f0) ((rd_T24 l0 a3).f1) ((rd_T24 l0 a3).f2) ((rd_T24 l0 a3).f3) ((rd_T24 l1 a4).f0) ((rd_T24 l1 a4).f1) ((rd_T24 l1 a4).f2) ((rd_T24 l1 a4).f3)).bind fun t171 => (if (ji48) < ((rd_L5 l2 (ji40)).length : Int) then (if (wrap64 (t171 + ((rd_T47 (rd_L5 l2 (ji40)) (ji48)).f0))) ≤ (mn (wrap64 (t158 + ((rd_T47 (rd_L5 l2 (ji40)) a4).f0))) (wrap64 (t162 + ((rd_T47 (rd_L5 l2 a3) (ji48)).f0)))) then (some (wrap64 (t171 + ((rd_T47 (rd_L5 l2 (ji40)) (ji48)).f0)), true)) else (some (mn (wrap64 (t158 + ((rd_T47 (rd_L5 l2 (ji40)) a4).f0))) (wrap64 (t162 + ((rd_T47 (rd_L5 l2 a3) (ji48)).f0))), false))) else (none))) else (some (mn (wrap64 (t158 + ((rd_T47 (rd_L5 l2 (ji40)) a4).f0))) (wrap64 (t162 + ((rd_T47 (rd_L5 l2 a3) (ji48)).f0))), false)))) else (none)) else (none)) = some (r1, r2) := by first | (rw [hji48] at H; exact H) | (simp only [hji48] at H ⊢; exact H)
      (try rw [hji48] at A39)
      (try rw [hji48] at A46)
      have hji48w : (IntKind.i64.wrap (a4 + 1)) = ji48 := (i64_w _).trans hji48
      by_cases c49 : 0 ≤ (ji48)
      case neg =>
       rw [if_neg c49] at H
       exact absurd H (by simp)
      rw [if_pos c49] at H
      have c49b0 : decide (0 ≤ (ji48)) = true := decide_eq_true c49
      clear c49
      by_cases c50 : (ji48) < ((rd_L5 l2 a3).length : Int)
      case neg =>
       rw [if_neg c50] at H
       exact absurd H (by simp)
      rw [if_pos c50] at H
      have c50b0 : decide ((ji48) < ((rd_L5 l2 a3).length : Int)) = true := decide_eq_true c50
      clear c50
      obtain ⟨ji51, hji51⟩ : ∃ j_ : Int, (mn (wrap64 (t158 + ((rd_T47 (rd_L5 l2 (ji40)) a4).f0))) (wrap64 (t162 + ((rd_T47 (rd_L5 l2 a3) (ji48)).f0)))) = j_ := ⟨_, rfl⟩
      replace H : ((diff_alike.f ((rd_T24 l0 a3).f0) ((rd_T24 l0 a3).f1) ((rd_T24 l0 a3).f2) ((rd_T24 l0 a3).f3) ((rd_T24 l1 a4).f0) ((rd_T24 l1 a4).f1) ((rd_T24 l1 a4).f2) ((rd_T24 l1 a4).f3)).bind fun t168 => (if t168 = true then ((diff_pair.f kj5 ((rd_T24 l0 a3).f0) ((rd_T24 l0 a3).f1) ((rd_T24 l0 a3).f2) ((rd_T24 l0 a3).f3) ((rd_T24 l1 a4).f0) ((rd_T24 l1 a4).f1) ((rd_T24 l1 a4).f2) ((rd_T24 l1 a4).f3)).bind fun t171 => (if (ji48) < ((rd_L5 l2 (ji40)).length : Int) then (if (wrap64 (t171 + ((rd_T47 (rd_L5 l2 (ji40)) (ji48)).f0))) ≤ (ji51) then (some (wrap64 (t171 + ((rd_T47 (rd_L5 l2 (ji40)) (ji48)).f0)), true)) else (some (ji51, false))) else (none))) else (some (ji51, false)))) = some (r1, r2) := by first | (rw [hji51] at H; exact H) | (simp only [hji51] at H ⊢; exact H)
      (try rw [hji51] at A39)
      (try rw [hji51] at A46)
      have hji51_ : (if (wrap64 (t162 + ((rd_T47 (rd_L5 l2 a3) (ji48)).f0))) < (wrap64 (t158 + ((rd_T47 (rd_L5 l2 (ji40)) a4).f0))) then (wrap64 (t162 + ((rd_T47 (rd_L5 l2 a3) (ji48)).f0))) else (wrap64 (t158 + ((rd_T47 (rd_L5 l2 (ji40)) a4).f0)))) = ji51 := hji51
      replace H := Option.bind_eq_some_iff.mp H
      obtain ⟨t168, A520, H⟩ := H
      replace H : (if t168 = true then ((diff_pair.f kj5 ((rd_T24 l0 a3).f0) ((rd_T24 l0 a3).f1) ((rd_T24 l0 a3).f2) ((rd_T24 l0 a3).f3) ((rd_T24 l1 a4).f0) ((rd_T24 l1 a4).f1) ((rd_T24 l1 a4).f2) ((rd_T24 l1 a4).f3)).bind fun t171 => (if (ji48) < ((rd_L5 l2 (ji40)).length : Int) then (if (wrap64 (t171 + ((rd_T47 (rd_L5 l2 (ji40)) (ji48)).f0))) ≤ (ji51) then (some (wrap64 (t171 + ((rd_T47 (rd_L5 l2 (ji40)) (ji48)).f0)), true)) else (some (ji51, false))) else (none))) else (some (ji51, false))) = some (r1, r2) := H
      have A52 := Aside0.mk A520
      clear A520
      by_cases c53 : t168 = true
      ·subst c53
       have H1 : ((diff_pair.f kj5 ((rd_T24 l0 a3).f0) ((rd_T24 l0 a3).f1) ((rd_T24 l0 a3).f2) ((rd_T24 l0 a3).f3) ((rd_T24 l1 a4).f0) ((rd_T24 l1 a4).f1) ((rd_T24 l1 a4).f2) ((rd_T24 l1 a4).f3)).bind fun t171 => (if (ji48) < ((rd_L5 l2 (ji40)).length : Int) then (if (wrap64 (t171 + ((rd_T47 (rd_L5 l2 (ji40)) (ji48)).f0))) ≤ (ji51) then (some (wrap64 (t171 + ((rd_T47 (rd_L5 l2 (ji40)) (ji48)).f0)), true)) else (some (ji51, false))) else (none))) = some (r1, r2) := by rw [if_pos rfl] at H; exact H
       clear H
       have H := H1
       clear H1
       replace H := Option.bind_eq_some_iff.mp H
       obtain ⟨t171, A540, H⟩ := H
       replace H : (if (ji48) < ((rd_L5 l2 (ji40)).length : Int) then (if (wrap64 (t171 + ((rd_T47 (rd_L5 l2 (ji40)) (ji48)).f0))) ≤ (ji51) then (some (wrap64 (t171 + ((rd_T47 (rd_L5 l2 (ji40)) (ji48)).f0)), true)) else (some (ji51, false))) else (none)) = some (r1, r2) := H
       have A54 := Aside0.mk A540
       clear A540
       by_cases c55 : (ji48) < ((rd_L5 l2 (ji40)).length : Int)
       case neg =>
        rw [if_neg c55] at H
        exact absurd H (by simp)
       rw [if_pos c55] at H
       have c55b0 : decide ((ji48) < ((rd_L5 l2 (ji40)).length : Int)) = true := decide_eq_true c55
       clear c55
       by_cases c56 : (wrap64 (t171 + ((rd_T47 (rd_L5 l2 (ji40)) (ji48)).f0))) ≤ (ji51)
       ·rw [if_pos c56] at H
        have c56b0 : decide ((wrap64 (t171 + ((rd_T47 (rd_L5 l2 (ji40)) (ji48)).f0))) ≤ (ji51)) = true := decide_eq_true c56
        clear c56
        simp only [Option.some.injEq, Prod.mk.injEq] at H
        obtain ⟨rfl, rfl⟩ := H
        try go_wp2
        have n0_ := Aside0.mk (blk_drew BK148.out)
        have n1_ := Aside0.mk (below_drew1 HB.out)
        clear BK148; clear HB
        have BK148 := n0_
        have HB := n1_
        clear n0_ n1_
        have p157 : 0 ≤ (a3 : Int) := of_decide_eq_true (by first | (with_reducible assumption) | assumption)
        have q157 : a3 < (l0.length : Int) := of_decide_eq_true (by first | (with_reducible assumption) | assumption)
        obtain ⟨ad157, A157_3, c157_3, e157, hx157_0, hx157_1, hx157_2, hx157_3, hl157_3, hi157_3⟩ := at_T24 HR0.out a3 p157 q157
        have hw157_3 := hx157_3
        have hw157_2 := hx157_2
        have hw157_1 := hx157_1
        have hw157_0 := hx157_0
        cases e157
        replace hx157_0 := (cl_ HB.out hx157_0).trans hx157_0
        replace hx157_1 := (cl_ HB.out hx157_1).trans hx157_1
        replace hx157_2 := (cl_ HB.out hx157_2).trans hx157_2
        replace hx157_3 := (cl_ HB.out hx157_3).trans hx157_3
        have HR157_3 := Aside0.mk hi157_3
        have HC157_3 := Aside0.mk hl157_3
        clear hi157_3 hl157_3
        replace p157 := eq_true p157
        replace q157 := eq_true q157
        have p159 : 0 ≤ ((ji40) : Int) := of_decide_eq_true (by first | (with_reducible assumption) | assumption)
        have q159 : (ji40) < (l2.length : Int) := of_decide_eq_true (by first | (with_reducible assumption) | assumption)
        obtain ⟨ad159, A159_0, c159_0, e159, hx159_0, hl159_0, hi159_0⟩ := at_L5 HR2.out (ji40) p159 q159
        have hw159_0 := hx159_0
        cases e159
        replace hx159_0 := (cl_ HB.out hx159_0).trans hx159_0
        have HR159_0 := Aside0.mk hi159_0
        have HC159_0 := Aside0.mk hl159_0
        clear hi159_0 hl159_0
        replace p159 := eq_true p159
        replace q159 := eq_true q159
        have p160 : 0 ≤ (a4 : Int) := of_decide_eq_true (by first | (with_reducible assumption) | assumption)
        have q160 : a4 < ((rd_L5 l2 (ji40)).length : Int) := of_decide_eq_true (by first | (with_reducible assumption) | assumption)
        obtain ⟨ad160, e160, hx160_0, hx160_1⟩ := at_T47 HR159_0.out a4 p160 q160
        have hw160_1 := hx160_1
        have hw160_0 := hx160_0
        cases e160
        replace hx160_0 := (cl_ HB.out hx160_0).trans hx160_0
        replace hx160_1 := (cl_ HB.out hx160_1).trans hx160_1
        replace p160 := eq_true p160
        replace q160 := eq_true q160
        have p161 : 0 ≤ (a4 : Int) := of_decide_eq_true (by first | (with_reducible assumption) | assumption)
        have q161 : a4 < (l1.length : Int) := of_decide_eq_true (by first | (with_reducible assumption) | assumption)
        obtain ⟨ad161, A161_3, c161_3, e161, hx161_0, hx161_1, hx161_2, hx161_3, hl161_3, hi161_3⟩ := at_T24 HR1.out a4 p161 q161
        have hw161_3 := hx161_3
        have hw161_2 := hx161_2
        have hw161_1 := hx161_1
        have hw161_0 := hx161_0
        cases e161
        replace hx161_0 := (cl_ HB.out hx161_0).trans hx161_0
        replace hx161_1 := (cl_ HB.out hx161_1).trans hx161_1
        replace hx161_2 := (cl_ HB.out hx161_2).trans hx161_2
        replace hx161_3 := (cl_ HB.out hx161_3).trans hx161_3
        have HR161_3 := Aside0.mk hi161_3
        have HC161_3 := Aside0.mk hl161_3
        clear hi161_3 hl161_3
        replace p161 := eq_true p161
        replace q161 := eq_true q161
        have p163 : 0 ≤ (a3 : Int) := of_decide_eq_true (by first | (with_reducible assumption) | assumption)
        have q163 : a3 < (l2.length : Int) := of_decide_eq_true (by first | (with_reducible assumption) | assumption)
        obtain ⟨ad163, A163_0, c163_0, e163, hx163_0, hl163_0, hi163_0⟩ := at_L5 HR2.out a3 p163 q163
        have hw163_0 := hx163_0
        obtain rfl : ad159 = ad163 := (by injection e163)
        replace hx163_0 := (cl_ HB.out hx163_0).trans hx163_0
        have HR163_0 := Aside0.mk hi163_0
        have HC163_0 := Aside0.mk hl163_0
        clear hi163_0 hl163_0
        replace p163 := eq_true p163
        replace q163 := eq_true q163
        have p164 : 0 ≤ ((ji48) : Int) := of_decide_eq_true (by first | (with_reducible assumption) | assumption)
        have q164 : (ji48) < ((rd_L5 l2 a3).length : Int) := of_decide_eq_true (by first | (with_reducible assumption) | assumption)
        obtain ⟨ad164, e164, hx164_0, hx164_1⟩ := at_T47 HR163_0.out (ji48) p164 q164
        have hw164_1 := hx164_1
        have hw164_0 := hx164_0
        cases e164
        replace hx164_0 := (cl_ HB.out hx164_0).trans hx164_0
        replace hx164_1 := (cl_ HB.out hx164_1).trans hx164_1
        replace p164 := eq_true p164
        replace q164 := eq_true q164
        refine start_ (n := 34) (S := fun w' => w'.cell? (ad157.add ((a3).toNat * 4)) = some (.int .i64 ((rd_T24 l0 a3).f0)) ∧ w'.cell? ⟨(ad157.add ((a3).toNat * 4)).block, (ad157.add ((a3).toNat * 4)).off + 1, none⟩ = some (.string ((rd_T24 l0 a3).f1)) ∧ w'.cell? ⟨(ad157.add ((a3).toNat * 4)).block, (ad157.add ((a3).toNat * 4)).off + 2, none⟩ = some (.int .i64 ((rd_T24 l0 a3).f2)) ∧ w'.cell? ⟨(ad157.add ((a3).toNat * 4)).block, (ad157.add ((a3).toNat * 4)).off + 3, none⟩ = some (.slice A157_3 ((rd_T24 l0 a3).f3).length c157_3) ∧ w'.cell? (ad159.add ((ji40)).toNat) = some (.slice (some ad160) (rd_L5 l2 (ji40)).length c159_0) ∧ w'.cell? (ad160.add ((a4).toNat * 2)) = some (.int .i64 ((rd_T47 (rd_L5 l2 (ji40)) a4).f0)) ∧ w'.cell? ⟨(ad160.add ((a4).toNat * 2)).block, (ad160.add ((a4).toNat * 2)).off + 1, none⟩ = some (.bool ((rd_T47 (rd_L5 l2 (ji40)) a4).f1)) ∧ w'.cell? (ad161.add ((a4).toNat * 4)) = some (.int .i64 ((rd_T24 l1 a4).f0)) ∧ w'.cell? ⟨(ad161.add ((a4).toNat * 4)).block, (ad161.add ((a4).toNat * 4)).off + 1, none⟩ = some (.string ((rd_T24 l1 a4).f1)) ∧ w'.cell? ⟨(ad161.add ((a4).toNat * 4)).block, (ad161.add ((a4).toNat * 4)).off + 2, none⟩ = some (.int .i64 ((rd_T24 l1 a4).f2)) ∧ w'.cell? ⟨(ad161.add ((a4).toNat * 4)).block, (ad161.add ((a4).toNat * 4)).off + 3, none⟩ = some (.slice A161_3 ((rd_T24 l1 a4).f3).length c161_3) ∧ w'.cell? (ad159.add (a3).toNat) = some (.slice (some ad164) (rd_L5 l2 a3).length c163_0) ∧ w'.cell? (ad164.add (((ji48)).toNat * 2)) = some (.int .i64 ((rd_T47 (rd_L5 l2 a3) (ji48)).f0)) ∧ w'.cell? ⟨(ad164.add (((ji48)).toNat * 2)).block, (ad164.add (((ji48)).toNat * 2)).off + 1, none⟩ = some (.bool ((rd_T47 (rd_L5 l2 a3) (ji48)).f1))) (ds := []) #[false, false, false, false, false, false, false, false, false, false, false, false, false, false, false, false, false, false, false, false, false, false, false, false, false, false, false, false, false, false, false, false, false, false] (by kernel_rfl) rfl rfl ⟨(ck_ HB.out hw157_0), (ck_ HB.out hw157_1), (ck_ HB.out hw157_2), (ck_ HB.out hw157_3), (ck_ HB.out hw159_0), (ck_ HB.out hw160_0), (ck_ HB.out hw160_1), (ck_ HB.out hw161_0), (ck_ HB.out hw161_1), (ck_ HB.out hw161_2), (ck_ HB.out hw161_3), (ck_ HB.out hw163_0), (ck_ HB.out hw164_0), (ck_ HB.out hw164_1)⟩ (fun hHeld => ?_); refine with_tabW diff_best.tab7 diff_best.bits7 (fun HT_ HW_ => ?_)
        generalize wc.drew = w57 at BK148 HB HR157_3 HR159_0 HR161_3 HR163_0 hx157_0 hx157_1 hx157_2 hx157_3 hx159_0 hx160_0 hx160_1 hx161_0 hx161_1 hx161_2 hx161_3 hx163_0 hx164_0 hx164_1 hHeld ⊢
        refine pure_ (i := 0) (N := some 67) (v := ?_) (a' := ?_) (mk_ 34 1) rfl rfl (an_ HT_.out) (fun _ _ _ h => h) (Or.inl ⟨by rfl, ?_⟩) ?_ ?_
        rotate_left; (intro w'; go_simp; with_reducible rfl); rotate_left; (simp only [Act.put, sp1_, sp2_]; rfl)
        refine pure_ (i := 1) (N := some 68) (v := ?_) (a' := ?_) (mk_ 34 3) rfl rfl (an_ HT_.out) (fun _ _ _ h => h) (Or.inl ⟨by rfl, ?_⟩) ?_ ?_
        rotate_left; (intro w'; go_simp; with_reducible rfl); rotate_left; (simp only [Act.put, sp1_, sp2_]; rfl)
        refine pure_ (i := 2) (N := some 69) (v := ?_) (a' := ?_) (mk_ 34 7) rfl rfl (an_ HT_.out) (fun _ _ _ h => h) (Or.inl ⟨by rfl, ?_⟩) ?_ ?_
        rotate_left; (intro w'; go_simp; with_reducible rfl); rotate_left; (simp only [Act.put, sp1_, sp2_]; rfl)
        refine pure_ (i := 5) (N := some 72) (v := ?_) (a' := ?_) (mk_ 34 39) rfl rfl (an_ HT_.out) (fun _ _ _ h => h) (Or.inl ⟨by rfl, ?_⟩) ?_ ?_
        rotate_left; (intro w'; go_simp; with_reducible rfl); rotate_left; (simp only [Act.put, sp1_, sp2_]; rfl)
        refine pure_ (i := 6) (N := some 73) (v := ?_) (a' := ?_) (mk_ 34 103) rfl rfl (an_ HT_.out) (fun _ _ _ h => h) (Or.inl ⟨by rfl, ?_⟩) ?_ ?_
        rotate_left; (intro w'; go_simp; with_reducible rfl); rotate_left; (simp only [Act.put, sp1_, sp2_]; rfl)
        refine pure_ (i := 7) (N := some 74) (v := ?_) (a' := ?_) (mk_ 34 231) rfl rfl (an_ HT_.out) (fun _ _ _ h => h) (Or.inl ⟨by rfl, ?_⟩) ?_ ?_
        rotate_left; (intro w'; go_simp; with_reducible rfl); rotate_left; (simp only [Act.put, sp1_, sp2_]; rfl)
        refine pure_ (i := 8) (N := some 75) (v := ?_) (a' := ?_) (mk_ 34 487) rfl rfl (an_ HT_.out) (fun _ _ _ h => h) (Or.inl ⟨by rfl, ?_⟩) ?_ ?_
        rotate_left; (intro w'; go_simp; with_reducible rfl); rotate_left; (simp only [Act.put, sp1_, sp2_]; rfl)
        refine pure_ (i := 10) (N := some 77) (v := ?_) (a' := ?_) (mk_ 34 1511) rfl rfl (an_ HT_.out) (fun _ _ _ h => h) (Or.inl ⟨by rfl, ?_⟩) ?_ ?_
        rotate_left; (intro w'; go_simp; with_reducible rfl); rotate_left; (simp only [Act.put, sp1_, sp2_]; rfl)
        refine pure_ (i := 15) (N := some 82) (v := ?_) (a' := ?_) (mk_ 34 34279) rfl rfl (an_ HT_.out) (fun _ _ _ h => h) (Or.inl ⟨by rfl, ?_⟩) ?_ ?_
        rotate_left; (intro w'; go_simp; with_reducible rfl); rotate_left; (simp only [Act.put, sp1_, sp2_]; rfl)
        refine pure_ (i := 16) (N := some 83) (v := ?_) (a' := ?_) (mk_ 34 99815) rfl rfl (an_ HT_.out) (fun _ _ _ h => h) (Or.inl ⟨by rfl, ?_⟩) ?_ ?_
        rotate_left; (intro w'; go_simp; with_reducible rfl); rotate_left; (simp only [Act.put, sp1_, sp2_]; rfl)
        refine pure_ (i := 17) (N := some 84) (v := ?_) (a' := ?_) (mk_ 34 230887) rfl rfl (an_ HT_.out) (fun _ _ _ h => h) (Or.inl ⟨by rfl, ?_⟩) ?_ ?_
        rotate_left; (intro w'; go_simp; with_reducible rfl); rotate_left; (simp only [Act.put, sp1_, sp2_]; rfl)
        refine pure_ (i := 20) (N := some 87) (v := ?_) (a' := ?_) (mk_ 34 1279463) rfl rfl (an_ HT_.out) (fun _ _ _ h => h) (Or.inl ⟨by rfl, ?_⟩) ?_ ?_
        rotate_left; (intro w'; go_simp; with_reducible rfl); rotate_left; (simp only [Act.put, sp1_, sp2_]; rfl)
        refine pure_ (i := 21) (N := some 88) (v := ?_) (a' := ?_) (mk_ 34 3376615) rfl rfl (an_ HT_.out) (fun _ _ _ h => h) (Or.inl ⟨by rfl, ?_⟩) ?_ ?_
        rotate_left; (intro w'; go_simp; with_reducible rfl); rotate_left; (simp only [Act.put, sp1_, sp2_]; rfl)
        refine pure_ (i := 22) (N := some 89) (v := ?_) (a' := ?_) (mk_ 34 7570919) rfl rfl (an_ HT_.out) (fun _ _ _ h => h) (Or.inl ⟨by rfl, ?_⟩) ?_ ?_
        rotate_left; (intro w'; go_simp; with_reducible rfl); rotate_left; (simp only [Act.put, sp1_, sp2_]; rfl)
        refine pure_ (i := 24) (N := some 91) (v := ?_) (a' := ?_) (mk_ 34 24348135) rfl rfl (an_ HT_.out) (fun _ _ _ h => h) (Or.inl ⟨by rfl, ?_⟩) ?_ ?_
        rotate_left; (intro w'; go_simp; with_reducible rfl); rotate_left; (simp only [Act.put, sp1_, sp2_]; rfl)
        refine pure_ (i := 25) (N := some 92) (v := ?_) (a' := ?_) (mk_ 34 57902567) rfl rfl (an_ HT_.out) (fun _ _ _ h => h) (Or.inl ⟨by rfl, ?_⟩) ?_ ?_
        rotate_left; (intro w'; go_simp; with_reducible rfl); rotate_left; (simp only [Act.put, sp1_, sp2_]; rfl)
        refine take_ (i := 3) (N := some 70) (v := ?_) (a' := ?_) (mk_ 34 57902575) rfl rfl (take_ofW HT_.out HW_.out (by kernel_rfl)) (fun _ _ _ h => h) (Or.inl ⟨by rfl, ?_⟩) hHeld ?_ ?_
        rotate_left
        ·rintro w' ⟨s0, s1, s2, s3, s4, s5, s6, s7, s8, s9, s10, s11, s12, s13⟩
         go_simp
         with_reducible rfl
        rotate_left; (simp only [Act.put, sp1_, sp2_]; rfl)
        refine take_ (i := 9) (N := some 76) (v := ?_) (a' := ?_) (mk_ 34 57903087) rfl rfl (take_ofW HT_.out HW_.out (by kernel_rfl)) (fun _ _ _ h => h) (Or.inl ⟨by rfl, ?_⟩) hHeld ?_ ?_
        rotate_left
        ·rintro w' ⟨s0, s1, s2, s3, s4, s5, s6, s7, s8, s9, s10, s11, s12, s13⟩
         go_simp
         with_reducible rfl
        rotate_left; (simp only [Act.put, sp1_, sp2_]; rfl)
        refine pure_ (i := 11) (N := some 78) (v := ?_) (a' := ?_) (mk_ 34 57905135) rfl rfl (an_ HT_.out) (fun _ _ _ h => h) (Or.inl ⟨by rfl, ?_⟩) ?_ ?_
        rotate_left; (intro w'; go_simp; with_reducible rfl); rotate_left; (simp only [Act.put, sp1_, sp2_]; rfl)
        refine pure_ (i := 12) (N := some 79) (v := ?_) (a' := ?_) (mk_ 34 57909231) rfl rfl (an_ HT_.out) (fun _ _ _ h => h) (Or.inl ⟨by rfl, ?_⟩) ?_ ?_
        rotate_left; (intro w'; go_simp; with_reducible rfl); rotate_left; (simp only [Act.put, sp1_, sp2_]; rfl)
        refine take_ (i := 13) (N := some 80) (v := ?_) (a' := ?_) (mk_ 34 57917423) rfl rfl (take_ofW HT_.out HW_.out (by kernel_rfl)) (fun _ _ _ h => h) (Or.inl ⟨by rfl, ?_⟩) hHeld ?_ ?_
        rotate_left
        ·rintro w' ⟨s0, s1, s2, s3, s4, s5, s6, s7, s8, s9, s10, s11, s12, s13⟩
         go_simp
         with_reducible rfl
        rotate_left; (simp only [Act.put, sp1_, sp2_]; rfl)
        refine take_ (i := 18) (N := some 85) (v := ?_) (a' := ?_) (mk_ 34 58179567) rfl rfl (take_ofW HT_.out HW_.out (by kernel_rfl)) (fun _ _ _ h => h) (Or.inl ⟨by rfl, ?_⟩) hHeld ?_ ?_
        rotate_left
        ·rintro w' ⟨s0, s1, s2, s3, s4, s5, s6, s7, s8, s9, s10, s11, s12, s13⟩
         go_simp
         with_reducible rfl
        rotate_left; (simp only [Act.put, sp1_, sp2_]; rfl)
        refine take_ (i := 23) (N := some 90) (v := ?_) (a' := ?_) (mk_ 34 66568175) rfl rfl (take_ofW HT_.out HW_.out (by kernel_rfl)) (fun _ _ _ h => h) (Or.inl ⟨by rfl, ?_⟩) hHeld ?_ ?_
        rotate_left
        ·rintro w' ⟨s0, s1, s2, s3, s4, s5, s6, s7, s8, s9, s10, s11, s12, s13⟩
         go_simp
         with_reducible rfl
        rotate_left; (simp only [Act.put, sp1_, sp2_]; rfl)
        refine pure_ (i := 26) (N := some 93) (v := ?_) (a' := ?_) (mk_ 34 133677039) rfl rfl (an_ HT_.out) (fun _ _ _ h => h) (Or.inl ⟨by rfl, ?_⟩) ?_ ?_
        rotate_left; (intro w'; go_simp; with_reducible rfl); rotate_left; (simp only [Act.put, sp1_, sp2_]; rfl)
        refine pure_ (i := 27) (N := some 94) (v := ?_) (a' := ?_) (mk_ 34 267894767) rfl rfl (an_ HT_.out) (fun _ _ _ h => h) (Or.inl ⟨by rfl, ?_⟩) ?_ ?_
        rotate_left; (intro w'; go_simp; with_reducible rfl); rotate_left; (simp only [Act.put, sp1_, sp2_]; rfl)
        refine take_ (i := 28) (N := some 95) (v := ?_) (a' := ?_) (mk_ 34 536330223) rfl rfl (take_ofW HT_.out HW_.out (by kernel_rfl)) (fun _ _ _ h => h) (Or.inl ⟨by rfl, ?_⟩) hHeld ?_ ?_
        rotate_left
        ·rintro w' ⟨s0, s1, s2, s3, s4, s5, s6, s7, s8, s9, s10, s11, s12, s13⟩
         go_simp
         with_reducible rfl
        rotate_left; (simp only [Act.put, sp1_, sp2_]; rfl)
        refine join_ (σ := Nat) 1 #[true, true, true, true, true, true, true, true, true, true, true, true, true, true, true, true, true, true, true, true, true, true, true, true, true, true, true, true, true, true, true, true, true, false] (fun s_ => [(71, .int .i64 t158), (86, .int .i64 t162), (11, .pointer (some ⟨s_, 0, none⟩)), (81, .int .i64 (wrap64 (t158 + ((rd_T47 (rd_L5 l2 (ji40)) a4).f0)))), (96, .int .i64 (wrap64 (t162 + ((rd_T47 (rd_L5 l2 a3) (ji48)).f0)))), (97, .int .i64 ji51), (98, .agg #[.int .i64 ji51, .bool false])]) (fun s_ w' => (w'.cell? (ad157.add ((a3).toNat * 4)) = some (.int .i64 ((rd_T24 l0 a3).f0)) ∧ w'.cell? ⟨(ad157.add ((a3).toNat * 4)).block, (ad157.add ((a3).toNat * 4)).off + 1, none⟩ = some (.string ((rd_T24 l0 a3).f1)) ∧ w'.cell? ⟨(ad157.add ((a3).toNat * 4)).block, (ad157.add ((a3).toNat * 4)).off + 2, none⟩ = some (.int .i64 ((rd_T24 l0 a3).f2)) ∧ w'.cell? ⟨(ad157.add ((a3).toNat * 4)).block, (ad157.add ((a3).toNat * 4)).off + 3, none⟩ = some (.slice A157_3 ((rd_T24 l0 a3).f3).length c157_3) ∧ w'.cell? (ad159.add ((ji40)).toNat) = some (.slice (some ad160) (rd_L5 l2 (ji40)).length c159_0) ∧ w'.cell? (ad160.add ((a4).toNat * 2)) = some (.int .i64 ((rd_T47 (rd_L5 l2 (ji40)) a4).f0)) ∧ w'.cell? ⟨(ad160.add ((a4).toNat * 2)).block, (ad160.add ((a4).toNat * 2)).off + 1, none⟩ = some (.bool ((rd_T47 (rd_L5 l2 (ji40)) a4).f1)) ∧ w'.cell? (ad161.add ((a4).toNat * 4)) = some (.int .i64 ((rd_T24 l1 a4).f0)) ∧ w'.cell? ⟨(ad161.add ((a4).toNat * 4)).block, (ad161.add ((a4).toNat * 4)).off + 1, none⟩ = some (.string ((rd_T24 l1 a4).f1)) ∧ w'.cell? ⟨(ad161.add ((a4).toNat * 4)).block, (ad161.add ((a4).toNat * 4)).off + 2, none⟩ = some (.int .i64 ((rd_T24 l1 a4).f2)) ∧ w'.cell? ⟨(ad161.add ((a4).toNat * 4)).block, (ad161.add ((a4).toNat * 4)).off + 3, none⟩ = some (.slice A161_3 ((rd_T24 l1 a4).f3).length c161_3) ∧ w'.cell? (ad159.add (a3).toNat) = some (.slice (some ad164) (rd_L5 l2 a3).length c163_0) ∧ w'.cell? (ad164.add (((ji48)).toNat * 2)) = some (.int .i64 ((rd_T47 (rd_L5 l2 a3) (ji48)).f0)) ∧ w'.cell? ⟨(ad164.add (((ji48)).toNat * 2)).block, (ad164.add (((ji48)).toNat * 2)).off + 1, none⟩ = some (.bool ((rd_T47 (rd_L5 l2 a3) (ji48)).f1))) ∧ (w'.heap[gb148]? = some (.cells #[.int .i64 0, .bool false] 47 (0, 0))) ∧ (w'.heap[s_]? = some (.cells #[.int .i64 0, .bool false] 47 (0, 0))) ∧ (w.heap.size ≤ s_) ∧ (w.heap.size ≤ s_) ∧ (gb148 ≠ s_) ∧ (s_ ≠ gb148) ∧ (Below w.heap.size w w')) ?_ ?_
        rotate_left
        ·intro hCont
         refine two_ (i := 4) (j := 32) (Ni := some 71) (Nj := some 11) (mk_ 34 536330239) #[true, true, true, true, false, true, true, true, true, true, true, true, true, true, false, true, true, true, true, false, true, true, true, true, true, true, true, true, true, false, false, false, true, false] rfl rfl rfl rfl (two_of HT_.out (by kernel_rfl)) (by decide) (by decide) (fun K hK => ?_) (fun K hK => ?_)
         ·skip
          refine goes_ Tryd.func29 (by kernel_rfl) rfl #[.agg #[.int .i64 ((rd_T24 l0 a3).f0), .string ((rd_T24 l0 a3).f1), .int .i64 ((rd_T24 l0 a3).f2), .slice A157_3 ((rd_T24 l0 a3).f3).length c157_3]] (by rfl) rfl rfl (by (try simp only [List.map_toArray, List.map_cons, List.map_nil]); first | done | rfl | (simp only [List.length_drop, List.length_take]; rfl)) ?_
          with_reducible refine (node_Count.calls kj5 ((rd_T24 l0 a3).f0) ((rd_T24 l0 a3).f1) ((rd_T24 l0 a3).f2) _ _ ((rd_T24 l0 a3).f3) t158 _ ?side1 ?side2 A39.out).mono ?_
          (case side1 => exact kc_ HR157_3.out HB.out)
          (case side2 => exact HC157_3.out)
          rintro e w58 ⟨rfl, hb⟩
          refine ⟨_, rfl, ?_⟩
          have n0_ := Aside0.mk (blk_below (g := gb148) (o := .cells #[.int .i64 0, .bool false] 47 (0, 0)) (bk_ BK148.out) hb)
          have n1_ := Aside0.mk (below_step (bs1_ HB.out GE148.out) hb)
          clear BK148; clear HB
          have BK148 := n0_
          have HB := n1_
          clear n0_ n1_
          (try clear hb)
          (try clear hb2)
          (try clear hk)
          (try clear hi)
          refine hK.out _ _ ⟨(ck_ HB.out hw157_0), (ck_ HB.out hw157_1), (ck_ HB.out hw157_2), (ck_ HB.out hw157_3), (ck_ HB.out hw159_0), (ck_ HB.out hw160_0), (ck_ HB.out hw160_1), (ck_ HB.out hw161_0), (ck_ HB.out hw161_1), (ck_ HB.out hw161_2), (ck_ HB.out hw161_3), (ck_ HB.out hw163_0), (ck_ HB.out hw164_0), (ck_ HB.out hw164_1)⟩ (fun hHeld => ?_)
          clear hK K
          refine norm_ (a' := ?_) ?_ ?_
          rotate_left
          ·show Act.put _ (some 71) _ = _
           simp only [Act.put, sp1_, sp2_]
           rfl
          refine pure_ (i := 14) (N := some 81) (v := ?_) (a' := ?_) (mk_ 34 536346623) rfl rfl (an_ HT_.out) (fun _ _ _ h => h) (Or.inl ⟨by rfl, ?_⟩) ?_ ?_
          rotate_left; (intro w'; go_simp; with_reducible rfl); rotate_left; (simp only [Act.put, sp1_, sp2_]; rfl)
          refine two_ (i := 19) (j := 32) (Ni := some 86) (Nj := some 11) (mk_ 34 536870911) #[true, true, true, true, true, true, true, true, true, true, true, true, true, true, true, true, true, true, true, false, true, true, true, true, true, true, true, true, true, false, false, false, true, false] rfl rfl rfl rfl (two_of HT_.out (by kernel_rfl)) (by decide) (by decide) (fun K hK => ?_) (fun K hK => ?_)
          ·skip
           refine goes_ Tryd.func29 (by kernel_rfl) rfl #[.agg #[.int .i64 ((rd_T24 l1 a4).f0), .string ((rd_T24 l1 a4).f1), .int .i64 ((rd_T24 l1 a4).f2), .slice A161_3 ((rd_T24 l1 a4).f3).length c161_3]] (by rfl) rfl rfl (by (try simp only [List.map_toArray, List.map_cons, List.map_nil]); first | done | rfl | (simp only [List.length_drop, List.length_take]; rfl)) ?_
           with_reducible refine (node_Count.calls kj5 ((rd_T24 l1 a4).f0) ((rd_T24 l1 a4).f1) ((rd_T24 l1 a4).f2) _ _ ((rd_T24 l1 a4).f3) t162 _ ?side1 ?side2 A46.out).mono ?_
           (case side1 => exact kc_ HR161_3.out HB.out)
           (case side2 => exact HC161_3.out)
           rintro e w59 ⟨rfl, hb⟩
           refine ⟨_, rfl, ?_⟩
           have n0_ := Aside0.mk (blk_below (g := gb148) (o := .cells #[.int .i64 0, .bool false] 47 (0, 0)) (bk_ BK148.out) hb)
           have n1_ := Aside0.mk (below_step (bs1_ HB.out GE148.out) hb)
           clear BK148; clear HB
           have BK148 := n0_
           have HB := n1_
           clear n0_ n1_
           (try clear hb)
           (try clear hb2)
           (try clear hk)
           (try clear hi)
           refine hK.out _ _ ⟨(ck_ HB.out hw157_0), (ck_ HB.out hw157_1), (ck_ HB.out hw157_2), (ck_ HB.out hw157_3), (ck_ HB.out hw159_0), (ck_ HB.out hw160_0), (ck_ HB.out hw160_1), (ck_ HB.out hw161_0), (ck_ HB.out hw161_1), (ck_ HB.out hw161_2), (ck_ HB.out hw161_3), (ck_ HB.out hw163_0), (ck_ HB.out hw164_0), (ck_ HB.out hw164_1)⟩ (fun hHeld => ?_)
           clear hK K
           refine norm_ (a' := ?_) ?_ ?_
           rotate_left
           ·show Act.put _ (some 86) _ = _
            simp only [Act.put, sp1_, sp2_]
            rfl
           refine pure_ (i := 29) (N := some 96) (v := ?_) (a' := ?_) (mk_ 34 1073741823) rfl rfl (an_ HT_.out) (fun _ _ _ h => h) (Or.inl ⟨by rfl, ?_⟩) ?_ ?_
           rotate_left; (intro w'; go_simp; with_reducible rfl); rotate_left; (simp only [Act.put, sp1_, sp2_]; rfl)
           refine pure_ (i := 30) (N := some 97) (v := ?_) (a' := ?_) (mk_ 34 2147483647) rfl rfl (an_ HT_.out) (fun _ _ _ h => h) (Or.inl ⟨by rfl, ?_⟩) ?_ ?_
           rotate_left; (intro w'; go_simp; with_reducible rfl); rotate_left; (simp only [Act.put, sp1_, sp2_]; rfl)
           refine pure_ (i := 31) (N := some 98) (v := ?_) (a' := ?_) (mk_ 34 4294967295) rfl rfl (an_ HT_.out) (fun _ _ _ h => h) (Or.inl ⟨by rfl, ?_⟩) ?_ ?_
           rotate_left; (intro w'; go_simp; with_reducible rfl); rotate_left; (simp only [Act.put, sp1_, sp2_]; rfl)
           refine one_ (i := 32) (N := some 11) (mk_ 34 8589934591) rfl rfl (one_of HT_.out (by kernel_rfl)) (by decide) (fun K hK => ?_)
           refine box_step ?hg (N := 11) ?hd (cs := #[.int .i64 0, .bool false]) (t := 47) ?hr ?_; (case hd => rfl); (case hg => rfl); (case hr => first | (go_simp; done) | (go_simp; rfl))
           intro gb165 hg w60 hbox hb
           have n0_ := Aside0.mk (blk_below (g := gb148) (o := .cells #[.int .i64 0, .bool false] 47 (0, 0)) (bk_ BK148.out) hb)
           have n1_ := Aside0.mk (below_step (bs1_ HB.out GE148.out) hb)
           have n2_ := Aside0.mk (hbox)
           have n3_ := Aside0.mk ((by rw [hg]; exact (below_size (bs1_ HB.out GE148.out)) : w.heap.size ≤ gb165))
           have n4_ := Aside0.mk ((by rw [hg]; exact (below_size (bs1_ HB.out GE148.out)) : w.heap.size ≤ gb165))
           have n5_ := Aside0.mk ((by rw [hg]; exact Nat.ne_of_lt (blk_lt (g := gb148) (o := .cells #[.int .i64 0, .bool false] 47 (0, 0)) (bk_ BK148.out)) : gb148 ≠ gb165))
           have n6_ := Aside0.mk ((by rw [hg]; exact Nat.ne_of_gt (blk_lt (g := gb148) (o := .cells #[.int .i64 0, .bool false] 47 (0, 0)) (bk_ BK148.out)) : gb165 ≠ gb148))
           clear BK148; clear HB
           have BK148 := n0_
           have HB := n1_
           have BK165 := n2_
           have GW165 := n3_
           have GE165 := n4_
           have NB148_165 := n5_
           have NB165_148 := n6_
           clear n0_ n1_ n2_ n3_ n4_ n5_ n6_; clear hb hbox hg
           refine hK.out _ _ ⟨(ck_ HB.out hw157_0), (ck_ HB.out hw157_1), (ck_ HB.out hw157_2), (ck_ HB.out hw157_3), (ck_ HB.out hw159_0), (ck_ HB.out hw160_0), (ck_ HB.out hw160_1), (ck_ HB.out hw161_0), (ck_ HB.out hw161_1), (ck_ HB.out hw161_2), (ck_ HB.out hw161_3), (ck_ HB.out hw163_0), (ck_ HB.out hw164_0), (ck_ HB.out hw164_1)⟩ (fun hHeld => ?_)
           clear hK K
           refine norm_ (a' := ?_) ?_ ?_
           rotate_left
           ·show Act.put _ (some 11) _ = _
            simp only [Act.put, sp1_, sp2_]
            rfl
           exact norm_ (by simp only [putAll, Act.put, List.setIfInBounds_toArray, List.set_cons_zero, List.set_cons_succ]) (hCont (gb165) _ ⟨hHeld, (bk_ BK148.out), (bk_ BK165.out), GW165.out, GE165.out, NB148_165.out, NB165_148.out, (bs2_ HB.out GE148.out GE165.out)⟩)
          ·skip
           refine box_step ?hg (N := 11) ?hd (cs := #[.int .i64 0, .bool false]) (t := 47) ?hr ?_; (case hd => rfl); (case hg => rfl); (case hr => first | (go_simp; done) | (go_simp; rfl))
           intro gb165 hg w59 hbox hb
           have n0_ := Aside0.mk (blk_below (g := gb148) (o := .cells #[.int .i64 0, .bool false] 47 (0, 0)) (bk_ BK148.out) hb)
           have n1_ := Aside0.mk (below_step (bs1_ HB.out GE148.out) hb)
           have n2_ := Aside0.mk (hbox)
           have n3_ := Aside0.mk ((by rw [hg]; exact (below_size (bs1_ HB.out GE148.out)) : w.heap.size ≤ gb165))
           have n4_ := Aside0.mk ((by rw [hg]; exact (below_size (bs1_ HB.out GE148.out)) : w.heap.size ≤ gb165))
           have n5_ := Aside0.mk ((by rw [hg]; exact Nat.ne_of_lt (blk_lt (g := gb148) (o := .cells #[.int .i64 0, .bool false] 47 (0, 0)) (bk_ BK148.out)) : gb148 ≠ gb165))
           have n6_ := Aside0.mk ((by rw [hg]; exact Nat.ne_of_gt (blk_lt (g := gb148) (o := .cells #[.int .i64 0, .bool false] 47 (0, 0)) (bk_ BK148.out)) : gb165 ≠ gb148))
           clear BK148; clear HB
           have BK148 := n0_
           have HB := n1_
           have BK165 := n2_
           have GW165 := n3_
           have GE165 := n4_
           have NB148_165 := n5_
           have NB165_148 := n6_
           clear n0_ n1_ n2_ n3_ n4_ n5_ n6_; clear hb hbox hg
           refine hK.out _ _ ⟨(ck_ HB.out hw157_0), (ck_ HB.out hw157_1), (ck_ HB.out hw157_2), (ck_ HB.out hw157_3), (ck_ HB.out hw159_0), (ck_ HB.out hw160_0), (ck_ HB.out hw160_1), (ck_ HB.out hw161_0), (ck_ HB.out hw161_1), (ck_ HB.out hw161_2), (ck_ HB.out hw161_3), (ck_ HB.out hw163_0), (ck_ HB.out hw164_0), (ck_ HB.out hw164_1)⟩ (fun hHeld => ?_)
           clear hK K
           refine norm_ (a' := ?_) ?_ ?_
           rotate_left
           ·show Act.put _ (some 11) _ = _
            simp only [Act.put, sp1_, sp2_]
            rfl
           refine one_ (i := 19) (N := some 86) (mk_ 34 4831838207) rfl rfl (one_of HT_.out (by kernel_rfl)) (by decide) (fun K hK => ?_)
           refine goes_ Tryd.func29 (by kernel_rfl) rfl #[.agg #[.int .i64 ((rd_T24 l1 a4).f0), .string ((rd_T24 l1 a4).f1), .int .i64 ((rd_T24 l1 a4).f2), .slice A161_3 ((rd_T24 l1 a4).f3).length c161_3]] (by rfl) rfl rfl (by (try simp only [List.map_toArray, List.map_cons, List.map_nil]); first | done | rfl | (simp only [List.length_drop, List.length_take]; rfl)) ?_
           with_reducible refine (node_Count.calls kj5 ((rd_T24 l1 a4).f0) ((rd_T24 l1 a4).f1) ((rd_T24 l1 a4).f2) _ _ ((rd_T24 l1 a4).f3) t162 _ ?side1 ?side2 A46.out).mono ?_
           (case side1 => exact kc_ HR161_3.out HB.out)
           (case side2 => exact HC161_3.out)
           rintro e w60 ⟨rfl, hb⟩
           refine ⟨_, rfl, ?_⟩
           have n0_ := Aside0.mk (blk_below (g := gb148) (o := .cells #[.int .i64 0, .bool false] 47 (0, 0)) (bk_ BK148.out) hb)
           have n1_ := Aside0.mk (blk_below (g := gb165) (o := .cells #[.int .i64 0, .bool false] 47 (0, 0)) (bk_ BK165.out) hb)
           have n2_ := Aside0.mk (below_step (bs2_ HB.out GE148.out GE165.out) hb)
           clear BK148; clear BK165; clear HB
           have BK148 := n0_
           have BK165 := n1_
           have HB := n2_
           clear n0_ n1_ n2_
           (try clear hb)
           (try clear hb2)
           (try clear hk)
           (try clear hi)
           refine hK.out _ _ ⟨(ck_ HB.out hw157_0), (ck_ HB.out hw157_1), (ck_ HB.out hw157_2), (ck_ HB.out hw157_3), (ck_ HB.out hw159_0), (ck_ HB.out hw160_0), (ck_ HB.out hw160_1), (ck_ HB.out hw161_0), (ck_ HB.out hw161_1), (ck_ HB.out hw161_2), (ck_ HB.out hw161_3), (ck_ HB.out hw163_0), (ck_ HB.out hw164_0), (ck_ HB.out hw164_1)⟩ (fun hHeld => ?_)
           clear hK K
           refine norm_ (a' := ?_) ?_ ?_
           rotate_left
           ·show Act.put _ (some 86) _ = _
            simp only [Act.put, sp1_, sp2_]
            rfl
           refine pure_ (i := 29) (N := some 96) (v := ?_) (a' := ?_) (mk_ 34 5368709119) rfl rfl (an_ HT_.out) (fun _ _ _ h => h) (Or.inl ⟨by rfl, ?_⟩) ?_ ?_
           rotate_left; (intro w'; go_simp; with_reducible rfl); rotate_left; (simp only [Act.put, sp1_, sp2_]; rfl)
           refine pure_ (i := 30) (N := some 97) (v := ?_) (a' := ?_) (mk_ 34 6442450943) rfl rfl (an_ HT_.out) (fun _ _ _ h => h) (Or.inl ⟨by rfl, ?_⟩) ?_ ?_
           rotate_left; (intro w'; go_simp; with_reducible rfl); rotate_left; (simp only [Act.put, sp1_, sp2_]; rfl)
           refine pure_ (i := 31) (N := some 98) (v := ?_) (a' := ?_) (mk_ 34 8589934591) rfl rfl (an_ HT_.out) (fun _ _ _ h => h) (Or.inl ⟨by rfl, ?_⟩) ?_ ?_
           rotate_left; (intro w'; go_simp; with_reducible rfl); rotate_left; (simp only [Act.put, sp1_, sp2_]; rfl)
           exact norm_ (by simp only [putAll, Act.put, List.setIfInBounds_toArray, List.set_cons_zero, List.set_cons_succ]) (hCont (gb165) _ ⟨hHeld, (bk_ BK148.out), (bk_ BK165.out), GW165.out, GE165.out, NB148_165.out, NB165_148.out, (bs2_ HB.out GE148.out GE165.out)⟩)
         ·skip
          refine box_step ?hg (N := 11) ?hd (cs := #[.int .i64 0, .bool false]) (t := 47) ?hr ?_; (case hd => rfl); (case hg => rfl); (case hr => first | (go_simp; done) | (go_simp; rfl))
          intro gb165 hg w58 hbox hb
          have n0_ := Aside0.mk (blk_below (g := gb148) (o := .cells #[.int .i64 0, .bool false] 47 (0, 0)) (bk_ BK148.out) hb)
          have n1_ := Aside0.mk (below_step (bs1_ HB.out GE148.out) hb)
          have n2_ := Aside0.mk (hbox)
          have n3_ := Aside0.mk ((by rw [hg]; exact (below_size (bs1_ HB.out GE148.out)) : w.heap.size ≤ gb165))
          have n4_ := Aside0.mk ((by rw [hg]; exact (below_size (bs1_ HB.out GE148.out)) : w.heap.size ≤ gb165))
          have n5_ := Aside0.mk ((by rw [hg]; exact Nat.ne_of_lt (blk_lt (g := gb148) (o := .cells #[.int .i64 0, .bool false] 47 (0, 0)) (bk_ BK148.out)) : gb148 ≠ gb165))
          have n6_ := Aside0.mk ((by rw [hg]; exact Nat.ne_of_gt (blk_lt (g := gb148) (o := .cells #[.int .i64 0, .bool false] 47 (0, 0)) (bk_ BK148.out)) : gb165 ≠ gb148))
          clear BK148; clear HB
          have BK148 := n0_
          have HB := n1_
          have BK165 := n2_
          have GW165 := n3_
          have GE165 := n4_
          have NB148_165 := n5_
          have NB165_148 := n6_
          clear n0_ n1_ n2_ n3_ n4_ n5_ n6_; clear hb hbox hg
          refine hK.out _ _ ⟨(ck_ HB.out hw157_0), (ck_ HB.out hw157_1), (ck_ HB.out hw157_2), (ck_ HB.out hw157_3), (ck_ HB.out hw159_0), (ck_ HB.out hw160_0), (ck_ HB.out hw160_1), (ck_ HB.out hw161_0), (ck_ HB.out hw161_1), (ck_ HB.out hw161_2), (ck_ HB.out hw161_3), (ck_ HB.out hw163_0), (ck_ HB.out hw164_0), (ck_ HB.out hw164_1)⟩ (fun hHeld => ?_)
          clear hK K
          refine norm_ (a' := ?_) ?_ ?_
          rotate_left
          ·show Act.put _ (some 11) _ = _
           simp only [Act.put, sp1_, sp2_]
           rfl
          refine one_ (i := 4) (N := some 71) (mk_ 34 4831297535) rfl rfl (one_of HT_.out (by kernel_rfl)) (by decide) (fun K hK => ?_)
          refine goes_ Tryd.func29 (by kernel_rfl) rfl #[.agg #[.int .i64 ((rd_T24 l0 a3).f0), .string ((rd_T24 l0 a3).f1), .int .i64 ((rd_T24 l0 a3).f2), .slice A157_3 ((rd_T24 l0 a3).f3).length c157_3]] (by rfl) rfl rfl (by (try simp only [List.map_toArray, List.map_cons, List.map_nil]); first | done | rfl | (simp only [List.length_drop, List.length_take]; rfl)) ?_
          with_reducible refine (node_Count.calls kj5 ((rd_T24 l0 a3).f0) ((rd_T24 l0 a3).f1) ((rd_T24 l0 a3).f2) _ _ ((rd_T24 l0 a3).f3) t158 _ ?side1 ?side2 A39.out).mono ?_
          (case side1 => exact kc_ HR157_3.out HB.out)
          (case side2 => exact HC157_3.out)
          rintro e w59 ⟨rfl, hb⟩
          refine ⟨_, rfl, ?_⟩
          have n0_ := Aside0.mk (blk_below (g := gb148) (o := .cells #[.int .i64 0, .bool false] 47 (0, 0)) (bk_ BK148.out) hb)
          have n1_ := Aside0.mk (blk_below (g := gb165) (o := .cells #[.int .i64 0, .bool false] 47 (0, 0)) (bk_ BK165.out) hb)
          have n2_ := Aside0.mk (below_step (bs2_ HB.out GE148.out GE165.out) hb)
          clear BK148; clear BK165; clear HB
          have BK148 := n0_
          have BK165 := n1_
          have HB := n2_
          clear n0_ n1_ n2_
          (try clear hb)
          (try clear hb2)
          (try clear hk)
          (try clear hi)
          refine hK.out _ _ ⟨(ck_ HB.out hw157_0), (ck_ HB.out hw157_1), (ck_ HB.out hw157_2), (ck_ HB.out hw157_3), (ck_ HB.out hw159_0), (ck_ HB.out hw160_0), (ck_ HB.out hw160_1), (ck_ HB.out hw161_0), (ck_ HB.out hw161_1), (ck_ HB.out hw161_2), (ck_ HB.out hw161_3), (ck_ HB.out hw163_0), (ck_ HB.out hw164_0), (ck_ HB.out hw164_1)⟩ (fun hHeld => ?_)
          clear hK K
          refine norm_ (a' := ?_) ?_ ?_
          rotate_left
          ·show Act.put _ (some 71) _ = _
           simp only [Act.put, sp1_, sp2_]
           rfl
          refine pure_ (i := 14) (N := some 81) (v := ?_) (a' := ?_) (mk_ 34 4831313919) rfl rfl (an_ HT_.out) (fun _ _ _ h => h) (Or.inl ⟨by rfl, ?_⟩) ?_ ?_
          rotate_left; (intro w'; go_simp; with_reducible rfl); rotate_left; (simp only [Act.put, sp1_, sp2_]; rfl)
          refine one_ (i := 19) (N := some 86) (mk_ 34 4831838207) rfl rfl (one_of HT_.out (by kernel_rfl)) (by decide) (fun K hK => ?_)
          refine goes_ Tryd.func29 (by kernel_rfl) rfl #[.agg #[.int .i64 ((rd_T24 l1 a4).f0), .string ((rd_T24 l1 a4).f1), .int .i64 ((rd_T24 l1 a4).f2), .slice A161_3 ((rd_T24 l1 a4).f3).length c161_3]] (by rfl) rfl rfl (by (try simp only [List.map_toArray, List.map_cons, List.map_nil]); first | done | rfl | (simp only [List.length_drop, List.length_take]; rfl)) ?_
          with_reducible refine (node_Count.calls kj5 ((rd_T24 l1 a4).f0) ((rd_T24 l1 a4).f1) ((rd_T24 l1 a4).f2) _ _ ((rd_T24 l1 a4).f3) t162 _ ?side1 ?side2 A46.out).mono ?_
          (case side1 => exact kc_ HR161_3.out HB.out)
          (case side2 => exact HC161_3.out)
          rintro e w60 ⟨rfl, hb⟩
          refine ⟨_, rfl, ?_⟩
          have n0_ := Aside0.mk (blk_below (g := gb148) (o := .cells #[.int .i64 0, .bool false] 47 (0, 0)) (bk_ BK148.out) hb)
          have n1_ := Aside0.mk (blk_below (g := gb165) (o := .cells #[.int .i64 0, .bool false] 47 (0, 0)) (bk_ BK165.out) hb)
          have n2_ := Aside0.mk (below_step (bs2_ HB.out GE148.out GE165.out) hb)
          clear BK148; clear BK165; clear HB
          have BK148 := n0_
          have BK165 := n1_
          have HB := n2_
          clear n0_ n1_ n2_
          (try clear hb)
          (try clear hb2)
          (try clear hk)
          (try clear hi)
          refine hK.out _ _ ⟨(ck_ HB.out hw157_0), (ck_ HB.out hw157_1), (ck_ HB.out hw157_2), (ck_ HB.out hw157_3), (ck_ HB.out hw159_0), (ck_ HB.out hw160_0), (ck_ HB.out hw160_1), (ck_ HB.out hw161_0), (ck_ HB.out hw161_1), (ck_ HB.out hw161_2), (ck_ HB.out hw161_3), (ck_ HB.out hw163_0), (ck_ HB.out hw164_0), (ck_ HB.out hw164_1)⟩ (fun hHeld => ?_)
          clear hK K
          refine norm_ (a' := ?_) ?_ ?_
          rotate_left
          ·show Act.put _ (some 86) _ = _
           simp only [Act.put, sp1_, sp2_]
           rfl
          refine pure_ (i := 29) (N := some 96) (v := ?_) (a' := ?_) (mk_ 34 5368709119) rfl rfl (an_ HT_.out) (fun _ _ _ h => h) (Or.inl ⟨by rfl, ?_⟩) ?_ ?_
          rotate_left; (intro w'; go_simp; with_reducible rfl); rotate_left; (simp only [Act.put, sp1_, sp2_]; rfl)
          refine pure_ (i := 30) (N := some 97) (v := ?_) (a' := ?_) (mk_ 34 6442450943) rfl rfl (an_ HT_.out) (fun _ _ _ h => h) (Or.inl ⟨by rfl, ?_⟩) ?_ ?_
          rotate_left; (intro w'; go_simp; with_reducible rfl); rotate_left; (simp only [Act.put, sp1_, sp2_]; rfl)
          refine pure_ (i := 31) (N := some 98) (v := ?_) (a' := ?_) (mk_ 34 8589934591) rfl rfl (an_ HT_.out) (fun _ _ _ h => h) (Or.inl ⟨by rfl, ?_⟩) ?_ ?_
          rotate_left; (intro w'; go_simp; with_reducible rfl); rotate_left; (simp only [Act.put, sp1_, sp2_]; rfl)
          exact norm_ (by simp only [putAll, Act.put, List.setIfInBounds_toArray, List.set_cons_zero, List.set_cons_succ]) (hCont (gb165) _ ⟨hHeld, (bk_ BK148.out), (bk_ BK165.out), GW165.out, GE165.out, NB148_165.out, NB165_148.out, (bs2_ HB.out GE148.out GE165.out)⟩)
        rintro gb165 w61 ⟨hS_, h0_, h1_, h2_, h3_, h4_, h5_, h6_⟩
        have n0_ : Aside0 (w61.heap[gb148]? = some (.cells #[.int .i64 0, .bool false] 47 (0, 0))) := ⟨h0_⟩
        have n1_ : Aside0 (w61.heap[gb165]? = some (.cells #[.int .i64 0, .bool false] 47 (0, 0))) := ⟨h1_⟩
        have n2_ : Aside0 (w.heap.size ≤ gb165) := ⟨h2_⟩
        have n3_ : Aside0 (w.heap.size ≤ gb165) := ⟨h3_⟩
        have n4_ : Aside0 (gb148 ≠ gb165) := ⟨h4_⟩
        have n5_ : Aside0 (gb165 ≠ gb148) := ⟨h5_⟩
        have n6_ : Aside0 (Below w.heap.size w w61) := ⟨h6_⟩
        clear BK148; clear HB; clear h0_ h1_ h2_ h3_ h4_ h5_ h6_
        have BK148 := n0_
        have BK165 := n1_
        have GW165 := n2_
        have GE165 := n3_
        have NB148_165 := n4_
        have NB165_148 := n5_
        have HB := n6_
        clear n0_ n1_ n2_ n3_ n4_ n5_ n6_
        have hHeld : w61.cell? (ad157.add ((a3).toNat * 4)) = some (.int .i64 ((rd_T24 l0 a3).f0)) ∧ w61.cell? ⟨(ad157.add ((a3).toNat * 4)).block, (ad157.add ((a3).toNat * 4)).off + 1, none⟩ = some (.string ((rd_T24 l0 a3).f1)) ∧ w61.cell? ⟨(ad157.add ((a3).toNat * 4)).block, (ad157.add ((a3).toNat * 4)).off + 2, none⟩ = some (.int .i64 ((rd_T24 l0 a3).f2)) ∧ w61.cell? ⟨(ad157.add ((a3).toNat * 4)).block, (ad157.add ((a3).toNat * 4)).off + 3, none⟩ = some (.slice A157_3 ((rd_T24 l0 a3).f3).length c157_3) ∧ w61.cell? (ad159.add ((ji40)).toNat) = some (.slice (some ad160) (rd_L5 l2 (ji40)).length c159_0) ∧ w61.cell? (ad160.add ((a4).toNat * 2)) = some (.int .i64 ((rd_T47 (rd_L5 l2 (ji40)) a4).f0)) ∧ w61.cell? ⟨(ad160.add ((a4).toNat * 2)).block, (ad160.add ((a4).toNat * 2)).off + 1, none⟩ = some (.bool ((rd_T47 (rd_L5 l2 (ji40)) a4).f1)) ∧ w61.cell? (ad161.add ((a4).toNat * 4)) = some (.int .i64 ((rd_T24 l1 a4).f0)) ∧ w61.cell? ⟨(ad161.add ((a4).toNat * 4)).block, (ad161.add ((a4).toNat * 4)).off + 1, none⟩ = some (.string ((rd_T24 l1 a4).f1)) ∧ w61.cell? ⟨(ad161.add ((a4).toNat * 4)).block, (ad161.add ((a4).toNat * 4)).off + 2, none⟩ = some (.int .i64 ((rd_T24 l1 a4).f2)) ∧ w61.cell? ⟨(ad161.add ((a4).toNat * 4)).block, (ad161.add ((a4).toNat * 4)).off + 3, none⟩ = some (.slice A161_3 ((rd_T24 l1 a4).f3).length c161_3) ∧ w61.cell? (ad159.add (a3).toNat) = some (.slice (some ad164) (rd_L5 l2 a3).length c163_0) ∧ w61.cell? (ad164.add (((ji48)).toNat * 2)) = some (.int .i64 ((rd_T47 (rd_L5 l2 a3) (ji48)).f0)) ∧ w61.cell? ⟨(ad164.add (((ji48)).toNat * 2)).block, (ad164.add (((ji48)).toNat * 2)).off + 1, none⟩ = some (.bool ((rd_T47 (rd_L5 l2 a3) (ji48)).f1)) := hS_
        refine norm_ (a' := ?_) ?_ ?_
        rotate_left; (simp only [putAll, Act.put, List.setIfInBounds_toArray, List.set_cons_zero, List.set_cons_succ]; rfl)
        refine one_ (i := 33) (N := none) (mk_ 34 17179869183) rfl rfl (one_of HT_.out (by kernel_rfl)) (by decide) (fun K hK => ?_)
        have hs62 : w61.cell? ⟨gb165, 0, none⟩ = some (.int .i64 0) := (blk_cell BK165.out 0).trans rfl
        have hfs62 := blk_frozen BK165.out 0
        have hns62_0 := NB148_165.out
        have hms62_0 := NB165_148.out
        have hs63 : w61.cell? ⟨gb165, 1, none⟩ = some (.bool false) := (blk_cell BK165.out 1).trans rfl
        have hfs63 := blk_frozen BK165.out 1
        have hns63_0 := NB148_165.out
        have hms63_0 := NB165_148.out
        refine skip_ (w1 := ?_) (by rfl) rfl ?_ ?_
        rotate_left
        ·go_simp
         rfl
        refine hK.out _ _ ⟨((cf_ GW165.out hw157_0 _).trans (((cf_ GW165.out hw157_0 _).trans (hHeld.1)))), ((cf_ GW165.out hw157_1 _).trans (((cf_ GW165.out hw157_1 _).trans (hHeld.2.1)))), ((cf_ GW165.out hw157_2 _).trans (((cf_ GW165.out hw157_2 _).trans (hHeld.2.2.1)))), ((cf_ GW165.out hw157_3 _).trans (((cf_ GW165.out hw157_3 _).trans (hHeld.2.2.2.1)))), ((cf_ GW165.out hw159_0 _).trans (((cf_ GW165.out hw159_0 _).trans (hHeld.2.2.2.2.1)))), ((cf_ GW165.out hw160_0 _).trans (((cf_ GW165.out hw160_0 _).trans (hHeld.2.2.2.2.2.1)))), ((cf_ GW165.out hw160_1 _).trans (((cf_ GW165.out hw160_1 _).trans (hHeld.2.2.2.2.2.2.1)))), ((cf_ GW165.out hw161_0 _).trans (((cf_ GW165.out hw161_0 _).trans (hHeld.2.2.2.2.2.2.2.1)))), ((cf_ GW165.out hw161_1 _).trans (((cf_ GW165.out hw161_1 _).trans (hHeld.2.2.2.2.2.2.2.2.1)))), ((cf_ GW165.out hw161_2 _).trans (((cf_ GW165.out hw161_2 _).trans (hHeld.2.2.2.2.2.2.2.2.2.1)))), ((cf_ GW165.out hw161_3 _).trans (((cf_ GW165.out hw161_3 _).trans (hHeld.2.2.2.2.2.2.2.2.2.2.1)))), ((cf_ GW165.out hw163_0 _).trans (((cf_ GW165.out hw163_0 _).trans (hHeld.2.2.2.2.2.2.2.2.2.2.2.1)))), ((cf_ GW165.out hw164_0 _).trans (((cf_ GW165.out hw164_0 _).trans (hHeld.2.2.2.2.2.2.2.2.2.2.2.2.1)))), ((cf_ GW165.out hw164_1 _).trans (((cf_ GW165.out hw164_1 _).trans (hHeld.2.2.2.2.2.2.2.2.2.2.2.2.2))))⟩ (fun hHeld => ?_)
        clear hK K
        refine done_ (done_of HT_.out (by kernel_rfl)) ?_
        try go_wp2
        have n0_ : Aside0 (((w61.setCell ⟨gb165, 0, none⟩ (.int .i64 ji51)).setCell ⟨gb165, 1, none⟩ (.bool false)).heap[gb148]? = some (.cells #[.int .i64 0, .bool false] 47 (0, 0))) := ⟨by (with_reducible repeat (first | refine blk_drewN ?_ _ | refine blk_drew ?_ | refine blk_alloc ?_ _)); refine blk_far ?_ NB148_165.out _; (with_reducible repeat (first | refine blk_drewN ?_ _ | refine blk_drew ?_ | refine blk_alloc ?_ _)); refine blk_far ?_ NB148_165.out _; (with_reducible repeat (first | refine blk_drewN ?_ _ | refine blk_drew ?_ | refine blk_alloc ?_ _)); exact BK148.out⟩
        have n1_ : Aside0 (((w61.setCell ⟨gb165, 0, none⟩ (.int .i64 ji51)).setCell ⟨gb165, 1, none⟩ (.bool false)).heap[gb165]? = some (.cells #[.int .i64 ji51, .bool false] 47 (0, 0))) := ⟨by (with_reducible repeat (first | refine blk_drewN ?_ _ | refine blk_drew ?_ | refine blk_alloc ?_ _)); refine blk_put (cs := #[.int .i64 ji51, .bool false]) ?_ 1 _ rfl; (with_reducible repeat (first | refine blk_drewN ?_ _ | refine blk_drew ?_ | refine blk_alloc ?_ _)); refine blk_put (cs := #[.int .i64 0, .bool false]) ?_ 0 _ rfl; (with_reducible repeat (first | refine blk_drewN ?_ _ | refine blk_drew ?_ | refine blk_alloc ?_ _)); exact BK165.out⟩
        have n2_ : Aside0 (Below w.heap.size w ((w61.setCell ⟨gb165, 0, none⟩ (.int .i64 ji51)).setCell ⟨gb165, 1, none⟩ (.bool false))) := ⟨bs2_ HB.out GE148.out GE165.out⟩
        (try clear BK148)
        (try clear BK165)
        (try clear HB)
        generalize ((w61.setCell ⟨gb165, 0, none⟩ (.int .i64 ji51)).setCell ⟨gb165, 1, none⟩ (.bool false)) = w64 at n0_ n1_ n2_ ⊢
        have BK148 := n0_
        have BK165 := n1_
        have HB := n2_
        clear n0_ n1_ n2_
        have n0_ := Aside0.mk (blk_drew BK148.out)
        have n1_ := Aside0.mk (blk_drew BK165.out)
        have n2_ := Aside0.mk (below_drew1 HB.out)
        clear BK148; clear BK165; clear HB
        have BK148 := n0_
        have BK165 := n1_
        have HB := n2_
        clear n0_ n1_ n2_
        have p166 : 0 ≤ (a3 : Int) := of_decide_eq_true (by first | (with_reducible assumption) | assumption)
        have q166 : a3 < (l0.length : Int) := of_decide_eq_true (by first | (with_reducible assumption) | assumption)
        obtain ⟨ad166, A166_3, c166_3, e166, hx166_0, hx166_1, hx166_2, hx166_3, hl166_3, hi166_3⟩ := at_T24 HR0.out a3 p166 q166
        have hw166_3 := hx166_3
        have hw166_2 := hx166_2
        have hw166_1 := hx166_1
        have hw166_0 := hx166_0
        obtain rfl : ad157 = ad166 := (by injection e166)
        replace hx166_0 := (cl_ HB.out hx166_0).trans hx166_0
        replace hx166_1 := (cl_ HB.out hx166_1).trans hx166_1
        replace hx166_2 := (cl_ HB.out hx166_2).trans hx166_2
        replace hx166_3 := (cl_ HB.out hx166_3).trans hx166_3
        have HR166_3 := Aside0.mk hi166_3
        have HC166_3 := Aside0.mk hl166_3
        clear hi166_3 hl166_3
        replace p166 := eq_true p166
        replace q166 := eq_true q166
        have p167 : 0 ≤ (a4 : Int) := of_decide_eq_true (by first | (with_reducible assumption) | assumption)
        have q167 : a4 < (l1.length : Int) := of_decide_eq_true (by first | (with_reducible assumption) | assumption)
        obtain ⟨ad167, A167_3, c167_3, e167, hx167_0, hx167_1, hx167_2, hx167_3, hl167_3, hi167_3⟩ := at_T24 HR1.out a4 p167 q167
        have hw167_3 := hx167_3
        have hw167_2 := hx167_2
        have hw167_1 := hx167_1
        have hw167_0 := hx167_0
        obtain rfl : ad161 = ad167 := (by injection e167)
        replace hx167_0 := (cl_ HB.out hx167_0).trans hx167_0
        replace hx167_1 := (cl_ HB.out hx167_1).trans hx167_1
        replace hx167_2 := (cl_ HB.out hx167_2).trans hx167_2
        replace hx167_3 := (cl_ HB.out hx167_3).trans hx167_3
        have HR167_3 := Aside0.mk hi167_3
        have HC167_3 := Aside0.mk hl167_3
        clear hi167_3 hl167_3
        replace p167 := eq_true p167
        replace q167 := eq_true q167
        refine start_ (n := 9) (S := fun w' => w'.cell? (ad157.add ((a3).toNat * 4)) = some (.int .i64 ((rd_T24 l0 a3).f0)) ∧ w'.cell? ⟨(ad157.add ((a3).toNat * 4)).block, (ad157.add ((a3).toNat * 4)).off + 1, none⟩ = some (.string ((rd_T24 l0 a3).f1)) ∧ w'.cell? ⟨(ad157.add ((a3).toNat * 4)).block, (ad157.add ((a3).toNat * 4)).off + 2, none⟩ = some (.int .i64 ((rd_T24 l0 a3).f2)) ∧ w'.cell? ⟨(ad157.add ((a3).toNat * 4)).block, (ad157.add ((a3).toNat * 4)).off + 3, none⟩ = some (.slice A166_3 ((rd_T24 l0 a3).f3).length c166_3) ∧ w'.cell? (ad161.add ((a4).toNat * 4)) = some (.int .i64 ((rd_T24 l1 a4).f0)) ∧ w'.cell? ⟨(ad161.add ((a4).toNat * 4)).block, (ad161.add ((a4).toNat * 4)).off + 1, none⟩ = some (.string ((rd_T24 l1 a4).f1)) ∧ w'.cell? ⟨(ad161.add ((a4).toNat * 4)).block, (ad161.add ((a4).toNat * 4)).off + 2, none⟩ = some (.int .i64 ((rd_T24 l1 a4).f2)) ∧ w'.cell? ⟨(ad161.add ((a4).toNat * 4)).block, (ad161.add ((a4).toNat * 4)).off + 3, none⟩ = some (.slice A167_3 ((rd_T24 l1 a4).f3).length c167_3)) (ds := []) #[false, false, false, false, false, false, false, false, false] (by kernel_rfl) rfl rfl ⟨(ck_ HB.out hw166_0), (ck_ HB.out hw166_1), (ck_ HB.out hw166_2), (ck_ HB.out hw166_3), (ck_ HB.out hw167_0), (ck_ HB.out hw167_1), (ck_ HB.out hw167_2), (ck_ HB.out hw167_3)⟩ (fun hHeld => ?_); refine with_tabW diff_best.tab8 diff_best.bits8 (fun HT_ HW_ => ?_)
        generalize w64.drew = w65 at BK148 BK165 HB HR166_3 HR167_3 hx166_0 hx166_1 hx166_2 hx166_3 hx167_0 hx167_1 hx167_2 hx167_3 hHeld ⊢
        refine pure_ (i := 0) (N := some 99) (v := ?_) (a' := ?_) (mk_ 9 1) rfl rfl (an_ HT_.out) (fun _ _ _ h => h) (Or.inl ⟨by rfl, ?_⟩) ?_ ?_
        rotate_left; (intro w'; go_simp; with_reducible rfl); rotate_left; (simp only [Act.put, sp1_, sp2_]; rfl)
        refine pure_ (i := 1) (N := some 100) (v := ?_) (a' := ?_) (mk_ 9 3) rfl rfl (an_ HT_.out) (fun _ _ _ h => h) (Or.inl ⟨by rfl, ?_⟩) ?_ ?_
        rotate_left; (intro w'; go_simp; with_reducible rfl); rotate_left; (simp only [Act.put, sp1_, sp2_]; rfl)
        refine pure_ (i := 2) (N := some 101) (v := ?_) (a' := ?_) (mk_ 9 7) rfl rfl (an_ HT_.out) (fun _ _ _ h => h) (Or.inl ⟨by rfl, ?_⟩) ?_ ?_
        rotate_left; (intro w'; go_simp; with_reducible rfl); rotate_left; (simp only [Act.put, sp1_, sp2_]; rfl)
        refine pure_ (i := 4) (N := some 103) (v := ?_) (a' := ?_) (mk_ 9 23) rfl rfl (an_ HT_.out) (fun _ _ _ h => h) (Or.inl ⟨by rfl, ?_⟩) ?_ ?_
        rotate_left; (intro w'; go_simp; with_reducible rfl); rotate_left; (simp only [Act.put, sp1_, sp2_]; rfl)
        refine pure_ (i := 5) (N := some 104) (v := ?_) (a' := ?_) (mk_ 9 55) rfl rfl (an_ HT_.out) (fun _ _ _ h => h) (Or.inl ⟨by rfl, ?_⟩) ?_ ?_
        rotate_left; (intro w'; go_simp; with_reducible rfl); rotate_left; (simp only [Act.put, sp1_, sp2_]; rfl)
        refine pure_ (i := 6) (N := some 105) (v := ?_) (a' := ?_) (mk_ 9 119) rfl rfl (an_ HT_.out) (fun _ _ _ h => h) (Or.inl ⟨by rfl, ?_⟩) ?_ ?_
        rotate_left; (intro w'; go_simp; with_reducible rfl); rotate_left; (simp only [Act.put, sp1_, sp2_]; rfl)
        refine take_ (i := 3) (N := some 102) (v := ?_) (a' := ?_) (mk_ 9 127) rfl rfl (take_ofW HT_.out HW_.out (by kernel_rfl)) (fun _ _ _ h => h) (Or.inl ⟨by rfl, ?_⟩) hHeld ?_ ?_
        rotate_left
        ·rintro w' ⟨s0, s1, s2, s3, s4, s5, s6, s7⟩
         go_simp
         with_reducible rfl
        rotate_left; (simp only [Act.put, sp1_, sp2_]; rfl)
        refine take_ (i := 7) (N := some 106) (v := ?_) (a' := ?_) (mk_ 9 255) rfl rfl (take_ofW HT_.out HW_.out (by kernel_rfl)) (fun _ _ _ h => h) (Or.inl ⟨by rfl, ?_⟩) hHeld ?_ ?_
        rotate_left
        ·rintro w' ⟨s0, s1, s2, s3, s4, s5, s6, s7⟩
         go_simp
         with_reducible rfl
        rotate_left; (simp only [Act.put, sp1_, sp2_]; rfl)
        refine one_ (i := 8) (N := some 107) (mk_ 9 511) rfl rfl (one_of HT_.out (by kernel_rfl)) (by decide) (fun K hK => ?_)
        refine goes_ Tryd.func42 (by kernel_rfl) rfl #[.agg #[.int .i64 ((rd_T24 l0 a3).f0), .string ((rd_T24 l0 a3).f1), .int .i64 ((rd_T24 l0 a3).f2), .slice A166_3 ((rd_T24 l0 a3).f3).length c166_3], .agg #[.int .i64 ((rd_T24 l1 a4).f0), .string ((rd_T24 l1 a4).f1), .int .i64 ((rd_T24 l1 a4).f2), .slice A167_3 ((rd_T24 l1 a4).f3).length c167_3]] (by rfl) rfl rfl (by (try simp only [List.map_toArray, List.map_cons, List.map_nil]); first | done | rfl | (simp only [List.length_drop, List.length_take]; rfl)) ?_
        with_reducible refine (diff_alike.calls ((rd_T24 l0 a3).f0) ((rd_T24 l0 a3).f1) ((rd_T24 l0 a3).f2) _ _ ((rd_T24 l0 a3).f3) ((rd_T24 l1 a4).f0) ((rd_T24 l1 a4).f1) ((rd_T24 l1 a4).f2) _ _ ((rd_T24 l1 a4).f3) true _ ?side1 ?side2 ?side3 ?side4 A52.out).mono ?_
        (case side1 => exact kc_ HR166_3.out HB.out)
        (case side2 => exact HC166_3.out)
        (case side3 => exact kc_ HR167_3.out HB.out)
        (case side4 => exact HC167_3.out)
        rintro e w66 ⟨rfl, hb⟩
        refine ⟨_, rfl, ?_⟩
        have n0_ := Aside0.mk (blk_below (g := gb148) (o := .cells #[.int .i64 0, .bool false] 47 (0, 0)) (bk_ BK148.out) hb)
        have n1_ := Aside0.mk (blk_below (g := gb165) (o := .cells #[.int .i64 ji51, .bool false] 47 (0, 0)) (bk_ BK165.out) hb)
        have n2_ := Aside0.mk (below_step (bs2_ HB.out GE148.out GE165.out) hb)
        clear BK148; clear BK165; clear HB
        have BK148 := n0_
        have BK165 := n1_
        have HB := n2_
        clear n0_ n1_ n2_
        (try clear hb)
        (try clear hb2)
        (try clear hk)
        (try clear hi)
        refine hK.out _ _ ⟨(ck_ HB.out hw166_0), (ck_ HB.out hw166_1), (ck_ HB.out hw166_2), (ck_ HB.out hw166_3), (ck_ HB.out hw167_0), (ck_ HB.out hw167_1), (ck_ HB.out hw167_2), (ck_ HB.out hw167_3)⟩ (fun hHeld => ?_)
        clear hK K
        refine norm_ (a' := ?_) ?_ ?_
        rotate_left
        ·show Act.put _ (some 107) _ = _
         simp only [Act.put, sp1_, sp2_]
         rfl
        refine done_ (done_of HT_.out (by kernel_rfl)) ?_
        try go_wp2
        have n0_ := Aside0.mk (blk_drew BK148.out)
        have n1_ := Aside0.mk (blk_drew BK165.out)
        have n2_ := Aside0.mk (below_drew1 HB.out)
        clear BK148; clear BK165; clear HB
        have BK148 := n0_
        have BK165 := n1_
        have HB := n2_
        clear n0_ n1_ n2_
        have p169 : 0 ≤ (a3 : Int) := of_decide_eq_true (by first | (with_reducible assumption) | assumption)
        have q169 : a3 < (l0.length : Int) := of_decide_eq_true (by first | (with_reducible assumption) | assumption)
        obtain ⟨ad169, A169_3, c169_3, e169, hx169_0, hx169_1, hx169_2, hx169_3, hl169_3, hi169_3⟩ := at_T24 HR0.out a3 p169 q169
        have hw169_3 := hx169_3
        have hw169_2 := hx169_2
        have hw169_1 := hx169_1
        have hw169_0 := hx169_0
        obtain rfl : ad157 = ad169 := (by injection e169)
        replace hx169_0 := (cl_ HB.out hx169_0).trans hx169_0
        replace hx169_1 := (cl_ HB.out hx169_1).trans hx169_1
        replace hx169_2 := (cl_ HB.out hx169_2).trans hx169_2
        replace hx169_3 := (cl_ HB.out hx169_3).trans hx169_3
        have HR169_3 := Aside0.mk hi169_3
        have HC169_3 := Aside0.mk hl169_3
        clear hi169_3 hl169_3
        replace p169 := eq_true p169
        replace q169 := eq_true q169
        have p170 : 0 ≤ (a4 : Int) := of_decide_eq_true (by first | (with_reducible assumption) | assumption)
        have q170 : a4 < (l1.length : Int) := of_decide_eq_true (by first | (with_reducible assumption) | assumption)
        obtain ⟨ad170, A170_3, c170_3, e170, hx170_0, hx170_1, hx170_2, hx170_3, hl170_3, hi170_3⟩ := at_T24 HR1.out a4 p170 q170
        have hw170_3 := hx170_3
        have hw170_2 := hx170_2
        have hw170_1 := hx170_1
        have hw170_0 := hx170_0
        obtain rfl : ad161 = ad170 := (by injection e170)
        replace hx170_0 := (cl_ HB.out hx170_0).trans hx170_0
        replace hx170_1 := (cl_ HB.out hx170_1).trans hx170_1
        replace hx170_2 := (cl_ HB.out hx170_2).trans hx170_2
        replace hx170_3 := (cl_ HB.out hx170_3).trans hx170_3
        have HR170_3 := Aside0.mk hi170_3
        have HC170_3 := Aside0.mk hl170_3
        clear hi170_3 hl170_3
        replace p170 := eq_true p170
        replace q170 := eq_true q170
        have p172 : 0 ≤ ((ji40) : Int) := of_decide_eq_true (by first | (with_reducible assumption) | assumption)
        have q172 : (ji40) < (l2.length : Int) := of_decide_eq_true (by first | (with_reducible assumption) | assumption)
        obtain ⟨ad172, A172_0, c172_0, e172, hx172_0, hl172_0, hi172_0⟩ := at_L5 HR2.out (ji40) p172 q172
        have hw172_0 := hx172_0
        obtain rfl : ad159 = ad172 := (by injection e172)
        replace hx172_0 := (cl_ HB.out hx172_0).trans hx172_0
        have HR172_0 := Aside0.mk hi172_0
        have HC172_0 := Aside0.mk hl172_0
        clear hi172_0 hl172_0
        replace p172 := eq_true p172
        replace q172 := eq_true q172
        have p173 : 0 ≤ ((ji48) : Int) := of_decide_eq_true (by first | (with_reducible assumption) | assumption)
        have q173 : (ji48) < ((rd_L5 l2 (ji40)).length : Int) := of_decide_eq_true (by first | (with_reducible assumption) | assumption)
        obtain ⟨ad173, e173, hx173_0, hx173_1⟩ := at_T47 HR172_0.out (ji48) p173 q173
        have hw173_1 := hx173_1
        have hw173_0 := hx173_0
        cases e173
        replace hx173_0 := (cl_ HB.out hx173_0).trans hx173_0
        replace hx173_1 := (cl_ HB.out hx173_1).trans hx173_1
        replace p173 := eq_true p173
        replace q173 := eq_true q173
        refine start_ (n := 21) (S := fun w' => w'.cell? (ad157.add ((a3).toNat * 4)) = some (.int .i64 ((rd_T24 l0 a3).f0)) ∧ w'.cell? ⟨(ad157.add ((a3).toNat * 4)).block, (ad157.add ((a3).toNat * 4)).off + 1, none⟩ = some (.string ((rd_T24 l0 a3).f1)) ∧ w'.cell? ⟨(ad157.add ((a3).toNat * 4)).block, (ad157.add ((a3).toNat * 4)).off + 2, none⟩ = some (.int .i64 ((rd_T24 l0 a3).f2)) ∧ w'.cell? ⟨(ad157.add ((a3).toNat * 4)).block, (ad157.add ((a3).toNat * 4)).off + 3, none⟩ = some (.slice A169_3 ((rd_T24 l0 a3).f3).length c169_3) ∧ w'.cell? (ad161.add ((a4).toNat * 4)) = some (.int .i64 ((rd_T24 l1 a4).f0)) ∧ w'.cell? ⟨(ad161.add ((a4).toNat * 4)).block, (ad161.add ((a4).toNat * 4)).off + 1, none⟩ = some (.string ((rd_T24 l1 a4).f1)) ∧ w'.cell? ⟨(ad161.add ((a4).toNat * 4)).block, (ad161.add ((a4).toNat * 4)).off + 2, none⟩ = some (.int .i64 ((rd_T24 l1 a4).f2)) ∧ w'.cell? ⟨(ad161.add ((a4).toNat * 4)).block, (ad161.add ((a4).toNat * 4)).off + 3, none⟩ = some (.slice A170_3 ((rd_T24 l1 a4).f3).length c170_3) ∧ w'.cell? (ad159.add ((ji40)).toNat) = some (.slice (some ad173) (rd_L5 l2 (ji40)).length c172_0) ∧ w'.cell? (ad173.add (((ji48)).toNat * 2)) = some (.int .i64 ((rd_T47 (rd_L5 l2 (ji40)) (ji48)).f0)) ∧ w'.cell? ⟨(ad173.add (((ji48)).toNat * 2)).block, (ad173.add (((ji48)).toNat * 2)).off + 1, none⟩ = some (.bool ((rd_T47 (rd_L5 l2 (ji40)) (ji48)).f1))) (ds := []) #[false, false, false, false, false, false, false, false, false, false, false, false, false, false, false, false, false, false, false, false, false] (by kernel_rfl) rfl rfl ⟨(ck_ HB.out hw169_0), (ck_ HB.out hw169_1), (ck_ HB.out hw169_2), (ck_ HB.out hw169_3), (ck_ HB.out hw170_0), (ck_ HB.out hw170_1), (ck_ HB.out hw170_2), (ck_ HB.out hw170_3), (ck_ HB.out hw172_0), (ck_ HB.out hw173_0), (ck_ HB.out hw173_1)⟩ (fun hHeld => ?_); refine with_tabW diff_best.tab9 diff_best.bits9 (fun HT_ HW_ => ?_)
        generalize w66.drew = w67 at BK148 BK165 HB HR169_3 HR170_3 HR172_0 hx169_0 hx169_1 hx169_2 hx169_3 hx170_0 hx170_1 hx170_2 hx170_3 hx172_0 hx173_0 hx173_1 hHeld ⊢
        refine pure_ (i := 0) (N := some 108) (v := ?_) (a' := ?_) (mk_ 21 1) rfl rfl (an_ HT_.out) (fun _ _ _ h => h) (Or.inl ⟨by rfl, ?_⟩) ?_ ?_
        rotate_left; (intro w'; go_simp; with_reducible rfl); rotate_left; (simp only [Act.put, sp1_, sp2_]; rfl)
        refine pure_ (i := 1) (N := some 109) (v := ?_) (a' := ?_) (mk_ 21 3) rfl rfl (an_ HT_.out) (fun _ _ _ h => h) (Or.inl ⟨by rfl, ?_⟩) ?_ ?_
        rotate_left; (intro w'; go_simp; with_reducible rfl); rotate_left; (simp only [Act.put, sp1_, sp2_]; rfl)
        refine pure_ (i := 2) (N := some 110) (v := ?_) (a' := ?_) (mk_ 21 7) rfl rfl (an_ HT_.out) (fun _ _ _ h => h) (Or.inl ⟨by rfl, ?_⟩) ?_ ?_
        rotate_left; (intro w'; go_simp; with_reducible rfl); rotate_left; (simp only [Act.put, sp1_, sp2_]; rfl)
        refine pure_ (i := 4) (N := some 112) (v := ?_) (a' := ?_) (mk_ 21 23) rfl rfl (an_ HT_.out) (fun _ _ _ h => h) (Or.inl ⟨by rfl, ?_⟩) ?_ ?_
        rotate_left; (intro w'; go_simp; with_reducible rfl); rotate_left; (simp only [Act.put, sp1_, sp2_]; rfl)
        refine pure_ (i := 5) (N := some 113) (v := ?_) (a' := ?_) (mk_ 21 55) rfl rfl (an_ HT_.out) (fun _ _ _ h => h) (Or.inl ⟨by rfl, ?_⟩) ?_ ?_
        rotate_left; (intro w'; go_simp; with_reducible rfl); rotate_left; (simp only [Act.put, sp1_, sp2_]; rfl)
        refine pure_ (i := 6) (N := some 114) (v := ?_) (a' := ?_) (mk_ 21 119) rfl rfl (an_ HT_.out) (fun _ _ _ h => h) (Or.inl ⟨by rfl, ?_⟩) ?_ ?_
        rotate_left; (intro w'; go_simp; with_reducible rfl); rotate_left; (simp only [Act.put, sp1_, sp2_]; rfl)
        refine pure_ (i := 9) (N := some 117) (v := ?_) (a' := ?_) (mk_ 21 631) rfl rfl (an_ HT_.out) (fun _ _ _ h => h) (Or.inl ⟨by rfl, ?_⟩) ?_ ?_
        rotate_left; (intro w'; go_simp; with_reducible rfl); rotate_left; (simp only [Act.put, sp1_, sp2_]; rfl)
        refine pure_ (i := 10) (N := some 118) (v := ?_) (a' := ?_) (mk_ 21 1655) rfl rfl (an_ HT_.out) (fun _ _ _ h => h) (Or.inl ⟨by rfl, ?_⟩) ?_ ?_
        rotate_left; (intro w'; go_simp; with_reducible rfl); rotate_left; (simp only [Act.put, sp1_, sp2_]; rfl)
        refine pure_ (i := 11) (N := some 119) (v := ?_) (a' := ?_) (mk_ 21 3703) rfl rfl (an_ HT_.out) (fun _ _ _ h => h) (Or.inl ⟨by rfl, ?_⟩) ?_ ?_
        rotate_left; (intro w'; go_simp; with_reducible rfl); rotate_left; (simp only [Act.put, sp1_, sp2_]; rfl)
        refine pure_ (i := 12) (N := some 120) (v := ?_) (a' := ?_) (mk_ 21 7799) rfl rfl (an_ HT_.out) (fun _ _ _ h => h) (Or.inl ⟨by rfl, ?_⟩) ?_ ?_
        rotate_left; (intro w'; go_simp; with_reducible rfl); rotate_left; (simp only [Act.put, sp1_, sp2_]; rfl)
        refine pure_ (i := 14) (N := some 122) (v := ?_) (a' := ?_) (mk_ 21 24183) rfl rfl (an_ HT_.out) (fun _ _ _ h => h) (Or.inl ⟨by rfl, ?_⟩) ?_ ?_
        rotate_left; (intro w'; go_simp; with_reducible rfl); rotate_left; (simp only [Act.put, sp1_, sp2_]; rfl)
        refine pure_ (i := 15) (N := some 123) (v := ?_) (a' := ?_) (mk_ 21 56951) rfl rfl (an_ HT_.out) (fun _ _ _ h => h) (Or.inl ⟨by rfl, ?_⟩) ?_ ?_
        rotate_left; (intro w'; go_simp; with_reducible rfl); rotate_left; (simp only [Act.put, sp1_, sp2_]; rfl)
        refine take_ (i := 3) (N := some 111) (v := ?_) (a' := ?_) (mk_ 21 56959) rfl rfl (take_ofW HT_.out HW_.out (by kernel_rfl)) (fun _ _ _ h => h) (Or.inl ⟨by rfl, ?_⟩) hHeld ?_ ?_
        rotate_left
        ·rintro w' ⟨s0, s1, s2, s3, s4, s5, s6, s7, s8, s9, s10⟩
         go_simp
         with_reducible rfl
        rotate_left; (simp only [Act.put, sp1_, sp2_]; rfl)
        refine take_ (i := 7) (N := some 115) (v := ?_) (a' := ?_) (mk_ 21 57087) rfl rfl (take_ofW HT_.out HW_.out (by kernel_rfl)) (fun _ _ _ h => h) (Or.inl ⟨by rfl, ?_⟩) hHeld ?_ ?_
        rotate_left
        ·rintro w' ⟨s0, s1, s2, s3, s4, s5, s6, s7, s8, s9, s10⟩
         go_simp
         with_reducible rfl
        rotate_left; (simp only [Act.put, sp1_, sp2_]; rfl)
        refine take_ (i := 13) (N := some 121) (v := ?_) (a' := ?_) (mk_ 21 65279) rfl rfl (take_ofW HT_.out HW_.out (by kernel_rfl)) (fun _ _ _ h => h) (Or.inl ⟨by rfl, ?_⟩) hHeld ?_ ?_
        rotate_left
        ·rintro w' ⟨s0, s1, s2, s3, s4, s5, s6, s7, s8, s9, s10⟩
         go_simp
         with_reducible rfl
        rotate_left; (simp only [Act.put, sp1_, sp2_]; rfl)
        refine pure_ (i := 16) (N := some 124) (v := ?_) (a' := ?_) (mk_ 21 130815) rfl rfl (an_ HT_.out) (fun _ _ _ h => h) (Or.inl ⟨by rfl, ?_⟩) ?_ ?_
        rotate_left; (intro w'; go_simp; with_reducible rfl); rotate_left; (simp only [Act.put, sp1_, sp2_]; rfl)
        refine pure_ (i := 17) (N := some 125) (v := ?_) (a' := ?_) (mk_ 21 261887) rfl rfl (an_ HT_.out) (fun _ _ _ h => h) (Or.inl ⟨by rfl, ?_⟩) ?_ ?_
        rotate_left; (intro w'; go_simp; with_reducible rfl); rotate_left; (simp only [Act.put, sp1_, sp2_]; rfl)
        refine take_ (i := 18) (N := some 126) (v := ?_) (a' := ?_) (mk_ 21 524031) rfl rfl (take_ofW HT_.out HW_.out (by kernel_rfl)) (fun _ _ _ h => h) (Or.inl ⟨by rfl, ?_⟩) hHeld ?_ ?_
        rotate_left
        ·rintro w' ⟨s0, s1, s2, s3, s4, s5, s6, s7, s8, s9, s10⟩
         go_simp
         with_reducible rfl
        rotate_left; (simp only [Act.put, sp1_, sp2_]; rfl)
        refine one_ (i := 8) (N := some 116) (mk_ 21 524287) rfl rfl (one_of HT_.out (by kernel_rfl)) (by decide) (fun K hK => ?_)
        refine goes_ Tryd.func43 (by kernel_rfl) rfl #[.agg #[.int .i64 ((rd_T24 l0 a3).f0), .string ((rd_T24 l0 a3).f1), .int .i64 ((rd_T24 l0 a3).f2), .slice A169_3 ((rd_T24 l0 a3).f3).length c169_3], .agg #[.int .i64 ((rd_T24 l1 a4).f0), .string ((rd_T24 l1 a4).f1), .int .i64 ((rd_T24 l1 a4).f2), .slice A170_3 ((rd_T24 l1 a4).f3).length c170_3]] (by rfl) rfl rfl (by (try simp only [List.map_toArray, List.map_cons, List.map_nil]); first | done | rfl | (simp only [List.length_drop, List.length_take]; rfl)) ?_
        with_reducible refine (ih_43 kj5 (by have := HJ5.out; omega) ((rd_T24 l0 a3).f0) ((rd_T24 l0 a3).f1) ((rd_T24 l0 a3).f2) _ _ ((rd_T24 l0 a3).f3) ((rd_T24 l1 a4).f0) ((rd_T24 l1 a4).f1) ((rd_T24 l1 a4).f2) _ _ ((rd_T24 l1 a4).f3) t171 _ ?side1 ?side2 ?side3 ?side4 A54.out).mono ?_
        (case side1 => exact kc_ HR169_3.out HB.out)
        (case side2 => exact HC169_3.out)
        (case side3 => exact kc_ HR170_3.out HB.out)
        (case side4 => exact HC170_3.out)
        rintro e w68 ⟨rfl, hb⟩
        refine ⟨_, rfl, ?_⟩
        have n0_ := Aside0.mk (blk_below (g := gb148) (o := .cells #[.int .i64 0, .bool false] 47 (0, 0)) (bk_ BK148.out) hb)
        have n1_ := Aside0.mk (blk_below (g := gb165) (o := .cells #[.int .i64 ji51, .bool false] 47 (0, 0)) (bk_ BK165.out) hb)
        have n2_ := Aside0.mk (below_step (bs2_ HB.out GE148.out GE165.out) hb)
        clear BK148; clear BK165; clear HB
        have BK148 := n0_
        have BK165 := n1_
        have HB := n2_
        clear n0_ n1_ n2_
        (try clear hb)
        (try clear hb2)
        (try clear hk)
        (try clear hi)
        refine hK.out _ _ ⟨(ck_ HB.out hw169_0), (ck_ HB.out hw169_1), (ck_ HB.out hw169_2), (ck_ HB.out hw169_3), (ck_ HB.out hw170_0), (ck_ HB.out hw170_1), (ck_ HB.out hw170_2), (ck_ HB.out hw170_3), (ck_ HB.out hw172_0), (ck_ HB.out hw173_0), (ck_ HB.out hw173_1)⟩ (fun hHeld => ?_)
        clear hK K
        refine norm_ (a' := ?_) ?_ ?_
        rotate_left
        ·show Act.put _ (some 116) _ = _
         simp only [Act.put, sp1_, sp2_]
         rfl
        refine pure_ (i := 19) (N := some 127) (v := ?_) (a' := ?_) (mk_ 21 1048575) rfl rfl (an_ HT_.out) (fun _ _ _ h => h) (Or.inl ⟨by rfl, ?_⟩) ?_ ?_
        rotate_left; (intro w'; go_simp; with_reducible rfl); rotate_left; (simp only [Act.put, sp1_, sp2_]; rfl)
        refine pure_ (i := 20) (N := some 12) (v := ?_) (a' := ?_) (mk_ 21 2097151) rfl rfl (an_ HT_.out) (fun _ _ _ h => h) (Or.inl ⟨by rfl, ?_⟩) ?_ ?_
        rotate_left; (intro w'; go_simp; with_reducible rfl); rotate_left; (simp only [Act.put, sp1_, sp2_]; rfl)
        refine done_ (done_of HT_.out (by kernel_rfl)) ?_
        have hnb69 := NB165_148.out
        have hnc69 := NB148_165.out
        have hcz70_0 : w68.cell? ⟨gb165, 0, none⟩ = some (.int .i64 ji51) := (blk_cell BK165.out 0).trans rfl
        have hcz70_1 : w68.cell? ⟨gb165, 1, none⟩ = some (.bool false) := (blk_cell BK165.out 1).trans rfl
        have hfz70_0 := blk_frozen BK165.out 0
        have hfz70_1 := blk_frozen BK165.out 1
        have hcz71_0 : w68.cell? ⟨gb148, 0, none⟩ = some (.int .i64 0) := (blk_cell BK148.out 0).trans rfl
        have hcz71_1 : w68.cell? ⟨gb148, 1, none⟩ = some (.bool false) := (blk_cell BK148.out 1).trans rfl
        have hfz71_0 := blk_frozen BK148.out 0
        have hfz71_1 := blk_frozen BK148.out 1
        try go_wp2
        refine bodyPost_ret (results_cell_row rfl _ _ gb148 47 #[.int .i64 (wrap64 (t171 + ((rd_T47 (rd_L5 l2 (ji40)) (ji48)).f0))), .bool true] (0, 0) _ rfl (by (with_reducible repeat (first | refine blk_drewN ?_ _ | refine blk_drew ?_ | refine blk_alloc ?_ _)); refine blk_put (cs := #[.int .i64 (wrap64 (t171 + ((rd_T47 (rd_L5 l2 (ji40)) (ji48)).f0))), .bool false]) ?_ 1 _ rfl; (with_reducible repeat (first | refine blk_drewN ?_ _ | refine blk_drew ?_ | refine blk_alloc ?_ _)); refine blk_put (cs := #[.int .i64 0, .bool false]) ?_ 0 _ rfl; (with_reducible repeat (first | refine blk_drewN ?_ _ | refine blk_drew ?_ | refine blk_alloc ?_ _)); exact BK148.out) Tryd.underlying47 rfl (by kernel_rfl)) rfl ?_
        exact ⟨by first | rfl | (simp [errW_none, errW_some] <;> rfl) | (simp only [← hji40, ← hji48, ← hji51]; first | rfl | (simp [errW_none, errW_some] <;> rfl)) | (simp [*, errW_none, errW_some] <;> rfl), bs2_ HB.out GE148.out GE165.out⟩
       ·rw [if_neg c56] at H
        have c56b0 : decide ((wrap64 (t171 + ((rd_T47 (rd_L5 l2 (ji40)) (ji48)).f0))) ≤ (ji51)) = false := decide_eq_false c56
        clear c56
        simp only [Option.some.injEq, Prod.mk.injEq] at H
        obtain ⟨rfl, rfl⟩ := H
        try go_wp2
        have n0_ := Aside0.mk (blk_drew BK148.out)
        have n1_ := Aside0.mk (below_drew1 HB.out)
        clear BK148; clear HB
        have BK148 := n0_
        have HB := n1_
        clear n0_ n1_
        have p157 : 0 ≤ (a3 : Int) := of_decide_eq_true (by first | (with_reducible assumption) | assumption)
        have q157 : a3 < (l0.length : Int) := of_decide_eq_true (by first | (with_reducible assumption) | assumption)
        obtain ⟨ad157, A157_3, c157_3, e157, hx157_0, hx157_1, hx157_2, hx157_3, hl157_3, hi157_3⟩ := at_T24 HR0.out a3 p157 q157
        have hw157_3 := hx157_3
        have hw157_2 := hx157_2
        have hw157_1 := hx157_1
        have hw157_0 := hx157_0
        cases e157
        replace hx157_0 := (cl_ HB.out hx157_0).trans hx157_0
        replace hx157_1 := (cl_ HB.out hx157_1).trans hx157_1
        replace hx157_2 := (cl_ HB.out hx157_2).trans hx157_2
        replace hx157_3 := (cl_ HB.out hx157_3).trans hx157_3
        have HR157_3 := Aside0.mk hi157_3
        have HC157_3 := Aside0.mk hl157_3
        clear hi157_3 hl157_3
        replace p157 := eq_true p157
        replace q157 := eq_true q157
        have p159 : 0 ≤ ((ji40) : Int) := of_decide_eq_true (by first | (with_reducible assumption) | assumption)
        have q159 : (ji40) < (l2.length : Int) := of_decide_eq_true (by first | (with_reducible assumption) | assumption)
        obtain ⟨ad159, A159_0, c159_0, e159, hx159_0, hl159_0, hi159_0⟩ := at_L5 HR2.out (ji40) p159 q159
        have hw159_0 := hx159_0
        cases e159
        replace hx159_0 := (cl_ HB.out hx159_0).trans hx159_0
        have HR159_0 := Aside0.mk hi159_0
        have HC159_0 := Aside0.mk hl159_0
        clear hi159_0 hl159_0
        replace p159 := eq_true p159
        replace q159 := eq_true q159
        have p160 : 0 ≤ (a4 : Int) := of_decide_eq_true (by first | (with_reducible assumption) | assumption)
        have q160 : a4 < ((rd_L5 l2 (ji40)).length : Int) := of_decide_eq_true (by first | (with_reducible assumption) | assumption)
        obtain ⟨ad160, e160, hx160_0, hx160_1⟩ := at_T47 HR159_0.out a4 p160 q160
        have hw160_1 := hx160_1
        have hw160_0 := hx160_0
        cases e160
        replace hx160_0 := (cl_ HB.out hx160_0).trans hx160_0
        replace hx160_1 := (cl_ HB.out hx160_1).trans hx160_1
        replace p160 := eq_true p160
        replace q160 := eq_true q160
        have p161 : 0 ≤ (a4 : Int) := of_decide_eq_true (by first | (with_reducible assumption) | assumption)
        have q161 : a4 < (l1.length : Int) := of_decide_eq_true (by first | (with_reducible assumption) | assumption)
        obtain ⟨ad161, A161_3, c161_3, e161, hx161_0, hx161_1, hx161_2, hx161_3, hl161_3, hi161_3⟩ := at_T24 HR1.out a4 p161 q161
        have hw161_3 := hx161_3
        have hw161_2 := hx161_2
        have hw161_1 := hx161_1
        have hw161_0 := hx161_0
        cases e161
        replace hx161_0 := (cl_ HB.out hx161_0).trans hx161_0
        replace hx161_1 := (cl_ HB.out hx161_1).trans hx161_1
        replace hx161_2 := (cl_ HB.out hx161_2).trans hx161_2
        replace hx161_3 := (cl_ HB.out hx161_3).trans hx161_3
        have HR161_3 := Aside0.mk hi161_3
        have HC161_3 := Aside0.mk hl161_3
        clear hi161_3 hl161_3
        replace p161 := eq_true p161
        replace q161 := eq_true q161
        have p163 : 0 ≤ (a3 : Int) := of_decide_eq_true (by first | (with_reducible assumption) | assumption)
        have q163 : a3 < (l2.length : Int) := of_decide_eq_true (by first | (with_reducible assumption) | assumption)
        obtain ⟨ad163, A163_0, c163_0, e163, hx163_0, hl163_0, hi163_0⟩ := at_L5 HR2.out a3 p163 q163
        have hw163_0 := hx163_0
        obtain rfl : ad159 = ad163 := (by injection e163)
        replace hx163_0 := (cl_ HB.out hx163_0).trans hx163_0
        have HR163_0 := Aside0.mk hi163_0
        have HC163_0 := Aside0.mk hl163_0
        clear hi163_0 hl163_0
        replace p163 := eq_true p163
        replace q163 := eq_true q163
        have p164 : 0 ≤ ((ji48) : Int) := of_decide_eq_true (by first | (with_reducible assumption) | assumption)
        have q164 : (ji48) < ((rd_L5 l2 a3).length : Int) := of_decide_eq_true (by first | (with_reducible assumption) | assumption)
        obtain ⟨ad164, e164, hx164_0, hx164_1⟩ := at_T47 HR163_0.out (ji48) p164 q164
        have hw164_1 := hx164_1
        have hw164_0 := hx164_0
        cases e164
        replace hx164_0 := (cl_ HB.out hx164_0).trans hx164_0
        replace hx164_1 := (cl_ HB.out hx164_1).trans hx164_1
        replace p164 := eq_true p164
        replace q164 := eq_true q164
        refine start_ (n := 34) (S := fun w' => w'.cell? (ad157.add ((a3).toNat * 4)) = some (.int .i64 ((rd_T24 l0 a3).f0)) ∧ w'.cell? ⟨(ad157.add ((a3).toNat * 4)).block, (ad157.add ((a3).toNat * 4)).off + 1, none⟩ = some (.string ((rd_T24 l0 a3).f1)) ∧ w'.cell? ⟨(ad157.add ((a3).toNat * 4)).block, (ad157.add ((a3).toNat * 4)).off + 2, none⟩ = some (.int .i64 ((rd_T24 l0 a3).f2)) ∧ w'.cell? ⟨(ad157.add ((a3).toNat * 4)).block, (ad157.add ((a3).toNat * 4)).off + 3, none⟩ = some (.slice A157_3 ((rd_T24 l0 a3).f3).length c157_3) ∧ w'.cell? (ad159.add ((ji40)).toNat) = some (.slice (some ad160) (rd_L5 l2 (ji40)).length c159_0) ∧ w'.cell? (ad160.add ((a4).toNat * 2)) = some (.int .i64 ((rd_T47 (rd_L5 l2 (ji40)) a4).f0)) ∧ w'.cell? ⟨(ad160.add ((a4).toNat * 2)).block, (ad160.add ((a4).toNat * 2)).off + 1, none⟩ = some (.bool ((rd_T47 (rd_L5 l2 (ji40)) a4).f1)) ∧ w'.cell? (ad161.add ((a4).toNat * 4)) = some (.int .i64 ((rd_T24 l1 a4).f0)) ∧ w'.cell? ⟨(ad161.add ((a4).toNat * 4)).block, (ad161.add ((a4).toNat * 4)).off + 1, none⟩ = some (.string ((rd_T24 l1 a4).f1)) ∧ w'.cell? ⟨(ad161.add ((a4).toNat * 4)).block, (ad161.add ((a4).toNat * 4)).off + 2, none⟩ = some (.int .i64 ((rd_T24 l1 a4).f2)) ∧ w'.cell? ⟨(ad161.add ((a4).toNat * 4)).block, (ad161.add ((a4).toNat * 4)).off + 3, none⟩ = some (.slice A161_3 ((rd_T24 l1 a4).f3).length c161_3) ∧ w'.cell? (ad159.add (a3).toNat) = some (.slice (some ad164) (rd_L5 l2 a3).length c163_0) ∧ w'.cell? (ad164.add (((ji48)).toNat * 2)) = some (.int .i64 ((rd_T47 (rd_L5 l2 a3) (ji48)).f0)) ∧ w'.cell? ⟨(ad164.add (((ji48)).toNat * 2)).block, (ad164.add (((ji48)).toNat * 2)).off + 1, none⟩ = some (.bool ((rd_T47 (rd_L5 l2 a3) (ji48)).f1))) (ds := []) #[false, false, false, false, false, false, false, false, false, false, false, false, false, false, false, false, false, false, false, false, false, false, false, false, false, false, false, false, false, false, false, false, false, false] (by kernel_rfl) rfl rfl ⟨(ck_ HB.out hw157_0), (ck_ HB.out hw157_1), (ck_ HB.out hw157_2), (ck_ HB.out hw157_3), (ck_ HB.out hw159_0), (ck_ HB.out hw160_0), (ck_ HB.out hw160_1), (ck_ HB.out hw161_0), (ck_ HB.out hw161_1), (ck_ HB.out hw161_2), (ck_ HB.out hw161_3), (ck_ HB.out hw163_0), (ck_ HB.out hw164_0), (ck_ HB.out hw164_1)⟩ (fun hHeld => ?_); refine with_tabW diff_best.tab7 diff_best.bits7 (fun HT_ HW_ => ?_)
        generalize wc.drew = w72 at BK148 HB HR157_3 HR159_0 HR161_3 HR163_0 hx157_0 hx157_1 hx157_2 hx157_3 hx159_0 hx160_0 hx160_1 hx161_0 hx161_1 hx161_2 hx161_3 hx163_0 hx164_0 hx164_1 hHeld ⊢
        refine pure_ (i := 0) (N := some 67) (v := ?_) (a' := ?_) (mk_ 34 1) rfl rfl (an_ HT_.out) (fun _ _ _ h => h) (Or.inl ⟨by rfl, ?_⟩) ?_ ?_
        rotate_left; (intro w'; go_simp; with_reducible rfl); rotate_left; (simp only [Act.put, sp1_, sp2_]; rfl)
        refine pure_ (i := 1) (N := some 68) (v := ?_) (a' := ?_) (mk_ 34 3) rfl rfl (an_ HT_.out) (fun _ _ _ h => h) (Or.inl ⟨by rfl, ?_⟩) ?_ ?_
        rotate_left; (intro w'; go_simp; with_reducible rfl); rotate_left; (simp only [Act.put, sp1_, sp2_]; rfl)
        refine pure_ (i := 2) (N := some 69) (v := ?_) (a' := ?_) (mk_ 34 7) rfl rfl (an_ HT_.out) (fun _ _ _ h => h) (Or.inl ⟨by rfl, ?_⟩) ?_ ?_
        rotate_left; (intro w'; go_simp; with_reducible rfl); rotate_left; (simp only [Act.put, sp1_, sp2_]; rfl)
        refine pure_ (i := 5) (N := some 72) (v := ?_) (a' := ?_) (mk_ 34 39) rfl rfl (an_ HT_.out) (fun _ _ _ h => h) (Or.inl ⟨by rfl, ?_⟩) ?_ ?_
        rotate_left; (intro w'; go_simp; with_reducible rfl); rotate_left; (simp only [Act.put, sp1_, sp2_]; rfl)
        refine pure_ (i := 6) (N := some 73) (v := ?_) (a' := ?_) (mk_ 34 103) rfl rfl (an_ HT_.out) (fun _ _ _ h => h) (Or.inl ⟨by rfl, ?_⟩) ?_ ?_
        rotate_left; (intro w'; go_simp; with_reducible rfl); rotate_left; (simp only [Act.put, sp1_, sp2_]; rfl)
        refine pure_ (i := 7) (N := some 74) (v := ?_) (a' := ?_) (mk_ 34 231) rfl rfl (an_ HT_.out) (fun _ _ _ h => h) (Or.inl ⟨by rfl, ?_⟩) ?_ ?_
        rotate_left; (intro w'; go_simp; with_reducible rfl); rotate_left; (simp only [Act.put, sp1_, sp2_]; rfl)
        refine pure_ (i := 8) (N := some 75) (v := ?_) (a' := ?_) (mk_ 34 487) rfl rfl (an_ HT_.out) (fun _ _ _ h => h) (Or.inl ⟨by rfl, ?_⟩) ?_ ?_
        rotate_left; (intro w'; go_simp; with_reducible rfl); rotate_left; (simp only [Act.put, sp1_, sp2_]; rfl)
        refine pure_ (i := 10) (N := some 77) (v := ?_) (a' := ?_) (mk_ 34 1511) rfl rfl (an_ HT_.out) (fun _ _ _ h => h) (Or.inl ⟨by rfl, ?_⟩) ?_ ?_
        rotate_left; (intro w'; go_simp; with_reducible rfl); rotate_left; (simp only [Act.put, sp1_, sp2_]; rfl)
        refine pure_ (i := 15) (N := some 82) (v := ?_) (a' := ?_) (mk_ 34 34279) rfl rfl (an_ HT_.out) (fun _ _ _ h => h) (Or.inl ⟨by rfl, ?_⟩) ?_ ?_
        rotate_left; (intro w'; go_simp; with_reducible rfl); rotate_left; (simp only [Act.put, sp1_, sp2_]; rfl)
        refine pure_ (i := 16) (N := some 83) (v := ?_) (a' := ?_) (mk_ 34 99815) rfl rfl (an_ HT_.out) (fun _ _ _ h => h) (Or.inl ⟨by rfl, ?_⟩) ?_ ?_
        rotate_left; (intro w'; go_simp; with_reducible rfl); rotate_left; (simp only [Act.put, sp1_, sp2_]; rfl)
        refine pure_ (i := 17) (N := some 84) (v := ?_) (a' := ?_) (mk_ 34 230887) rfl rfl (an_ HT_.out) (fun _ _ _ h => h) (Or.inl ⟨by rfl, ?_⟩) ?_ ?_
        rotate_left; (intro w'; go_simp; with_reducible rfl); rotate_left; (simp only [Act.put, sp1_, sp2_]; rfl)
        refine pure_ (i := 20) (N := some 87) (v := ?_) (a' := ?_) (mk_ 34 1279463) rfl rfl (an_ HT_.out) (fun _ _ _ h => h) (Or.inl ⟨by rfl, ?_⟩) ?_ ?_
        rotate_left; (intro w'; go_simp; with_reducible rfl); rotate_left; (simp only [Act.put, sp1_, sp2_]; rfl)
        refine pure_ (i := 21) (N := some 88) (v := ?_) (a' := ?_) (mk_ 34 3376615) rfl rfl (an_ HT_.out) (fun _ _ _ h => h) (Or.inl ⟨by rfl, ?_⟩) ?_ ?_
        rotate_left; (intro w'; go_simp; with_reducible rfl); rotate_left; (simp only [Act.put, sp1_, sp2_]; rfl)
        refine pure_ (i := 22) (N := some 89) (v := ?_) (a' := ?_) (mk_ 34 7570919) rfl rfl (an_ HT_.out) (fun _ _ _ h => h) (Or.inl ⟨by rfl, ?_⟩) ?_ ?_
        rotate_left; (intro w'; go_simp; with_reducible rfl); rotate_left; (simp only [Act.put, sp1_, sp2_]; rfl)
        refine pure_ (i := 24) (N := some 91) (v := ?_) (a' := ?_) (mk_ 34 24348135) rfl rfl (an_ HT_.out) (fun _ _ _ h => h) (Or.inl ⟨by rfl, ?_⟩) ?_ ?_
        rotate_left; (intro w'; go_simp; with_reducible rfl); rotate_left; (simp only [Act.put, sp1_, sp2_]; rfl)
        refine pure_ (i := 25) (N := some 92) (v := ?_) (a' := ?_) (mk_ 34 57902567) rfl rfl (an_ HT_.out) (fun _ _ _ h => h) (Or.inl ⟨by rfl, ?_⟩) ?_ ?_
        rotate_left; (intro w'; go_simp; with_reducible rfl); rotate_left; (simp only [Act.put, sp1_, sp2_]; rfl)
        refine take_ (i := 3) (N := some 70) (v := ?_) (a' := ?_) (mk_ 34 57902575) rfl rfl (take_ofW HT_.out HW_.out (by kernel_rfl)) (fun _ _ _ h => h) (Or.inl ⟨by rfl, ?_⟩) hHeld ?_ ?_
        rotate_left
        ·rintro w' ⟨s0, s1, s2, s3, s4, s5, s6, s7, s8, s9, s10, s11, s12, s13⟩
         go_simp
         with_reducible rfl
        rotate_left; (simp only [Act.put, sp1_, sp2_]; rfl)
        refine take_ (i := 9) (N := some 76) (v := ?_) (a' := ?_) (mk_ 34 57903087) rfl rfl (take_ofW HT_.out HW_.out (by kernel_rfl)) (fun _ _ _ h => h) (Or.inl ⟨by rfl, ?_⟩) hHeld ?_ ?_
        rotate_left
        ·rintro w' ⟨s0, s1, s2, s3, s4, s5, s6, s7, s8, s9, s10, s11, s12, s13⟩
         go_simp
         with_reducible rfl
        rotate_left; (simp only [Act.put, sp1_, sp2_]; rfl)
        refine pure_ (i := 11) (N := some 78) (v := ?_) (a' := ?_) (mk_ 34 57905135) rfl rfl (an_ HT_.out) (fun _ _ _ h => h) (Or.inl ⟨by rfl, ?_⟩) ?_ ?_
        rotate_left; (intro w'; go_simp; with_reducible rfl); rotate_left; (simp only [Act.put, sp1_, sp2_]; rfl)
        refine pure_ (i := 12) (N := some 79) (v := ?_) (a' := ?_) (mk_ 34 57909231) rfl rfl (an_ HT_.out) (fun _ _ _ h => h) (Or.inl ⟨by rfl, ?_⟩) ?_ ?_
        rotate_left; (intro w'; go_simp; with_reducible rfl); rotate_left; (simp only [Act.put, sp1_, sp2_]; rfl)
        refine take_ (i := 13) (N := some 80) (v := ?_) (a' := ?_) (mk_ 34 57917423) rfl rfl (take_ofW HT_.out HW_.out (by kernel_rfl)) (fun _ _ _ h => h) (Or.inl ⟨by rfl, ?_⟩) hHeld ?_ ?_
        rotate_left
        ·rintro w' ⟨s0, s1, s2, s3, s4, s5, s6, s7, s8, s9, s10, s11, s12, s13⟩
         go_simp
         with_reducible rfl
        rotate_left; (simp only [Act.put, sp1_, sp2_]; rfl)
        refine take_ (i := 18) (N := some 85) (v := ?_) (a' := ?_) (mk_ 34 58179567) rfl rfl (take_ofW HT_.out HW_.out (by kernel_rfl)) (fun _ _ _ h => h) (Or.inl ⟨by rfl, ?_⟩) hHeld ?_ ?_
        rotate_left
        ·rintro w' ⟨s0, s1, s2, s3, s4, s5, s6, s7, s8, s9, s10, s11, s12, s13⟩
         go_simp
         with_reducible rfl
        rotate_left; (simp only [Act.put, sp1_, sp2_]; rfl)
        refine take_ (i := 23) (N := some 90) (v := ?_) (a' := ?_) (mk_ 34 66568175) rfl rfl (take_ofW HT_.out HW_.out (by kernel_rfl)) (fun _ _ _ h => h) (Or.inl ⟨by rfl, ?_⟩) hHeld ?_ ?_
        rotate_left
        ·rintro w' ⟨s0, s1, s2, s3, s4, s5, s6, s7, s8, s9, s10, s11, s12, s13⟩
         go_simp
         with_reducible rfl
        rotate_left; (simp only [Act.put, sp1_, sp2_]; rfl)
        refine pure_ (i := 26) (N := some 93) (v := ?_) (a' := ?_) (mk_ 34 133677039) rfl rfl (an_ HT_.out) (fun _ _ _ h => h) (Or.inl ⟨by rfl, ?_⟩) ?_ ?_
        rotate_left; (intro w'; go_simp; with_reducible rfl); rotate_left; (simp only [Act.put, sp1_, sp2_]; rfl)
        refine pure_ (i := 27) (N := some 94) (v := ?_) (a' := ?_) (mk_ 34 267894767) rfl rfl (an_ HT_.out) (fun _ _ _ h => h) (Or.inl ⟨by rfl, ?_⟩) ?_ ?_
        rotate_left; (intro w'; go_simp; with_reducible rfl); rotate_left; (simp only [Act.put, sp1_, sp2_]; rfl)
        refine take_ (i := 28) (N := some 95) (v := ?_) (a' := ?_) (mk_ 34 536330223) rfl rfl (take_ofW HT_.out HW_.out (by kernel_rfl)) (fun _ _ _ h => h) (Or.inl ⟨by rfl, ?_⟩) hHeld ?_ ?_
        rotate_left
        ·rintro w' ⟨s0, s1, s2, s3, s4, s5, s6, s7, s8, s9, s10, s11, s12, s13⟩
         go_simp
         with_reducible rfl
        rotate_left; (simp only [Act.put, sp1_, sp2_]; rfl)
        refine join_ (σ := Nat) 1 #[true, true, true, true, true, true, true, true, true, true, true, true, true, true, true, true, true, true, true, true, true, true, true, true, true, true, true, true, true, true, true, true, true, false] (fun s_ => [(71, .int .i64 t158), (86, .int .i64 t162), (11, .pointer (some ⟨s_, 0, none⟩)), (81, .int .i64 (wrap64 (t158 + ((rd_T47 (rd_L5 l2 (ji40)) a4).f0)))), (96, .int .i64 (wrap64 (t162 + ((rd_T47 (rd_L5 l2 a3) (ji48)).f0)))), (97, .int .i64 ji51), (98, .agg #[.int .i64 ji51, .bool false])]) (fun s_ w' => (w'.cell? (ad157.add ((a3).toNat * 4)) = some (.int .i64 ((rd_T24 l0 a3).f0)) ∧ w'.cell? ⟨(ad157.add ((a3).toNat * 4)).block, (ad157.add ((a3).toNat * 4)).off + 1, none⟩ = some (.string ((rd_T24 l0 a3).f1)) ∧ w'.cell? ⟨(ad157.add ((a3).toNat * 4)).block, (ad157.add ((a3).toNat * 4)).off + 2, none⟩ = some (.int .i64 ((rd_T24 l0 a3).f2)) ∧ w'.cell? ⟨(ad157.add ((a3).toNat * 4)).block, (ad157.add ((a3).toNat * 4)).off + 3, none⟩ = some (.slice A157_3 ((rd_T24 l0 a3).f3).length c157_3) ∧ w'.cell? (ad159.add ((ji40)).toNat) = some (.slice (some ad160) (rd_L5 l2 (ji40)).length c159_0) ∧ w'.cell? (ad160.add ((a4).toNat * 2)) = some (.int .i64 ((rd_T47 (rd_L5 l2 (ji40)) a4).f0)) ∧ w'.cell? ⟨(ad160.add ((a4).toNat * 2)).block, (ad160.add ((a4).toNat * 2)).off + 1, none⟩ = some (.bool ((rd_T47 (rd_L5 l2 (ji40)) a4).f1)) ∧ w'.cell? (ad161.add ((a4).toNat * 4)) = some (.int .i64 ((rd_T24 l1 a4).f0)) ∧ w'.cell? ⟨(ad161.add ((a4).toNat * 4)).block, (ad161.add ((a4).toNat * 4)).off + 1, none⟩ = some (.string ((rd_T24 l1 a4).f1)) ∧ w'.cell? ⟨(ad161.add ((a4).toNat * 4)).block, (ad161.add ((a4).toNat * 4)).off + 2, none⟩ = some (.int .i64 ((rd_T24 l1 a4).f2)) ∧ w'.cell? ⟨(ad161.add ((a4).toNat * 4)).block, (ad161.add ((a4).toNat * 4)).off + 3, none⟩ = some (.slice A161_3 ((rd_T24 l1 a4).f3).length c161_3) ∧ w'.cell? (ad159.add (a3).toNat) = some (.slice (some ad164) (rd_L5 l2 a3).length c163_0) ∧ w'.cell? (ad164.add (((ji48)).toNat * 2)) = some (.int .i64 ((rd_T47 (rd_L5 l2 a3) (ji48)).f0)) ∧ w'.cell? ⟨(ad164.add (((ji48)).toNat * 2)).block, (ad164.add (((ji48)).toNat * 2)).off + 1, none⟩ = some (.bool ((rd_T47 (rd_L5 l2 a3) (ji48)).f1))) ∧ (w'.heap[gb148]? = some (.cells #[.int .i64 0, .bool false] 47 (0, 0))) ∧ (w'.heap[s_]? = some (.cells #[.int .i64 0, .bool false] 47 (0, 0))) ∧ (w.heap.size ≤ s_) ∧ (w.heap.size ≤ s_) ∧ (gb148 ≠ s_) ∧ (s_ ≠ gb148) ∧ (Below w.heap.size w w')) ?_ ?_
        rotate_left
        ·intro hCont
         refine two_ (i := 4) (j := 32) (Ni := some 71) (Nj := some 11) (mk_ 34 536330239) #[true, true, true, true, false, true, true, true, true, true, true, true, true, true, false, true, true, true, true, false, true, true, true, true, true, true, true, true, true, false, false, false, true, false] rfl rfl rfl rfl (two_of HT_.out (by kernel_rfl)) (by decide) (by decide) (fun K hK => ?_) (fun K hK => ?_)
         ·skip
          refine goes_ Tryd.func29 (by kernel_rfl) rfl #[.agg #[.int .i64 ((rd_T24 l0 a3).f0), .string ((rd_T24 l0 a3).f1), .int .i64 ((rd_T24 l0 a3).f2), .slice A157_3 ((rd_T24 l0 a3).f3).length c157_3]] (by rfl) rfl rfl (by (try simp only [List.map_toArray, List.map_cons, List.map_nil]); first | done | rfl | (simp only [List.length_drop, List.length_take]; rfl)) ?_
          with_reducible refine (node_Count.calls kj5 ((rd_T24 l0 a3).f0) ((rd_T24 l0 a3).f1) ((rd_T24 l0 a3).f2) _ _ ((rd_T24 l0 a3).f3) t158 _ ?side1 ?side2 A39.out).mono ?_
          (case side1 => exact kc_ HR157_3.out HB.out)
          (case side2 => exact HC157_3.out)
          rintro e w73 ⟨rfl, hb⟩
          refine ⟨_, rfl, ?_⟩
          have n0_ := Aside0.mk (blk_below (g := gb148) (o := .cells #[.int .i64 0, .bool false] 47 (0, 0)) (bk_ BK148.out) hb)
          have n1_ := Aside0.mk (below_step (bs1_ HB.out GE148.out) hb)
          clear BK148; clear HB
          have BK148 := n0_
          have HB := n1_
          clear n0_ n1_
          (try clear hb)
          (try clear hb2)
          (try clear hk)
          (try clear hi)
          refine hK.out _ _ ⟨(ck_ HB.out hw157_0), (ck_ HB.out hw157_1), (ck_ HB.out hw157_2), (ck_ HB.out hw157_3), (ck_ HB.out hw159_0), (ck_ HB.out hw160_0), (ck_ HB.out hw160_1), (ck_ HB.out hw161_0), (ck_ HB.out hw161_1), (ck_ HB.out hw161_2), (ck_ HB.out hw161_3), (ck_ HB.out hw163_0), (ck_ HB.out hw164_0), (ck_ HB.out hw164_1)⟩ (fun hHeld => ?_)
          clear hK K
          refine norm_ (a' := ?_) ?_ ?_
          rotate_left
          ·show Act.put _ (some 71) _ = _
           simp only [Act.put, sp1_, sp2_]
           rfl
          refine pure_ (i := 14) (N := some 81) (v := ?_) (a' := ?_) (mk_ 34 536346623) rfl rfl (an_ HT_.out) (fun _ _ _ h => h) (Or.inl ⟨by rfl, ?_⟩) ?_ ?_
          rotate_left; (intro w'; go_simp; with_reducible rfl); rotate_left; (simp only [Act.put, sp1_, sp2_]; rfl)
          refine two_ (i := 19) (j := 32) (Ni := some 86) (Nj := some 11) (mk_ 34 536870911) #[true, true, true, true, true, true, true, true, true, true, true, true, true, true, true, true, true, true, true, false, true, true, true, true, true, true, true, true, true, false, false, false, true, false] rfl rfl rfl rfl (two_of HT_.out (by kernel_rfl)) (by decide) (by decide) (fun K hK => ?_) (fun K hK => ?_)
          ·skip
           refine goes_ Tryd.func29 (by kernel_rfl) rfl #[.agg #[.int .i64 ((rd_T24 l1 a4).f0), .string ((rd_T24 l1 a4).f1), .int .i64 ((rd_T24 l1 a4).f2), .slice A161_3 ((rd_T24 l1 a4).f3).length c161_3]] (by rfl) rfl rfl (by (try simp only [List.map_toArray, List.map_cons, List.map_nil]); first | done | rfl | (simp only [List.length_drop, List.length_take]; rfl)) ?_
           with_reducible refine (node_Count.calls kj5 ((rd_T24 l1 a4).f0) ((rd_T24 l1 a4).f1) ((rd_T24 l1 a4).f2) _ _ ((rd_T24 l1 a4).f3) t162 _ ?side1 ?side2 A46.out).mono ?_
           (case side1 => exact kc_ HR161_3.out HB.out)
           (case side2 => exact HC161_3.out)
           rintro e w74 ⟨rfl, hb⟩
           refine ⟨_, rfl, ?_⟩
           have n0_ := Aside0.mk (blk_below (g := gb148) (o := .cells #[.int .i64 0, .bool false] 47 (0, 0)) (bk_ BK148.out) hb)
           have n1_ := Aside0.mk (below_step (bs1_ HB.out GE148.out) hb)
           clear BK148; clear HB
           have BK148 := n0_
           have HB := n1_
           clear n0_ n1_
           (try clear hb)
           (try clear hb2)
           (try clear hk)
           (try clear hi)
           refine hK.out _ _ ⟨(ck_ HB.out hw157_0), (ck_ HB.out hw157_1), (ck_ HB.out hw157_2), (ck_ HB.out hw157_3), (ck_ HB.out hw159_0), (ck_ HB.out hw160_0), (ck_ HB.out hw160_1), (ck_ HB.out hw161_0), (ck_ HB.out hw161_1), (ck_ HB.out hw161_2), (ck_ HB.out hw161_3), (ck_ HB.out hw163_0), (ck_ HB.out hw164_0), (ck_ HB.out hw164_1)⟩ (fun hHeld => ?_)
           clear hK K
           refine norm_ (a' := ?_) ?_ ?_
           rotate_left
           ·show Act.put _ (some 86) _ = _
            simp only [Act.put, sp1_, sp2_]
            rfl
           refine pure_ (i := 29) (N := some 96) (v := ?_) (a' := ?_) (mk_ 34 1073741823) rfl rfl (an_ HT_.out) (fun _ _ _ h => h) (Or.inl ⟨by rfl, ?_⟩) ?_ ?_
           rotate_left; (intro w'; go_simp; with_reducible rfl); rotate_left; (simp only [Act.put, sp1_, sp2_]; rfl)
           refine pure_ (i := 30) (N := some 97) (v := ?_) (a' := ?_) (mk_ 34 2147483647) rfl rfl (an_ HT_.out) (fun _ _ _ h => h) (Or.inl ⟨by rfl, ?_⟩) ?_ ?_
           rotate_left; (intro w'; go_simp; with_reducible rfl); rotate_left; (simp only [Act.put, sp1_, sp2_]; rfl)
           refine pure_ (i := 31) (N := some 98) (v := ?_) (a' := ?_) (mk_ 34 4294967295) rfl rfl (an_ HT_.out) (fun _ _ _ h => h) (Or.inl ⟨by rfl, ?_⟩) ?_ ?_
           rotate_left; (intro w'; go_simp; with_reducible rfl); rotate_left; (simp only [Act.put, sp1_, sp2_]; rfl)
           refine one_ (i := 32) (N := some 11) (mk_ 34 8589934591) rfl rfl (one_of HT_.out (by kernel_rfl)) (by decide) (fun K hK => ?_)
           refine box_step ?hg (N := 11) ?hd (cs := #[.int .i64 0, .bool false]) (t := 47) ?hr ?_; (case hd => rfl); (case hg => rfl); (case hr => first | (go_simp; done) | (go_simp; rfl))
           intro gb165 hg w75 hbox hb
           have n0_ := Aside0.mk (blk_below (g := gb148) (o := .cells #[.int .i64 0, .bool false] 47 (0, 0)) (bk_ BK148.out) hb)
           have n1_ := Aside0.mk (below_step (bs1_ HB.out GE148.out) hb)
           have n2_ := Aside0.mk (hbox)
           have n3_ := Aside0.mk ((by rw [hg]; exact (below_size (bs1_ HB.out GE148.out)) : w.heap.size ≤ gb165))
           have n4_ := Aside0.mk ((by rw [hg]; exact (below_size (bs1_ HB.out GE148.out)) : w.heap.size ≤ gb165))
           have n5_ := Aside0.mk ((by rw [hg]; exact Nat.ne_of_lt (blk_lt (g := gb148) (o := .cells #[.int .i64 0, .bool false] 47 (0, 0)) (bk_ BK148.out)) : gb148 ≠ gb165))
           have n6_ := Aside0.mk ((by rw [hg]; exact Nat.ne_of_gt (blk_lt (g := gb148) (o := .cells #[.int .i64 0, .bool false] 47 (0, 0)) (bk_ BK148.out)) : gb165 ≠ gb148))
           clear BK148; clear HB
           have BK148 := n0_
           have HB := n1_
           have BK165 := n2_
           have GW165 := n3_
           have GE165 := n4_
           have NB148_165 := n5_
           have NB165_148 := n6_
           clear n0_ n1_ n2_ n3_ n4_ n5_ n6_; clear hb hbox hg
           refine hK.out _ _ ⟨(ck_ HB.out hw157_0), (ck_ HB.out hw157_1), (ck_ HB.out hw157_2), (ck_ HB.out hw157_3), (ck_ HB.out hw159_0), (ck_ HB.out hw160_0), (ck_ HB.out hw160_1), (ck_ HB.out hw161_0), (ck_ HB.out hw161_1), (ck_ HB.out hw161_2), (ck_ HB.out hw161_3), (ck_ HB.out hw163_0), (ck_ HB.out hw164_0), (ck_ HB.out hw164_1)⟩ (fun hHeld => ?_)
           clear hK K
           refine norm_ (a' := ?_) ?_ ?_
           rotate_left
           ·show Act.put _ (some 11) _ = _
            simp only [Act.put, sp1_, sp2_]
            rfl
           exact norm_ (by simp only [putAll, Act.put, List.setIfInBounds_toArray, List.set_cons_zero, List.set_cons_succ]) (hCont (gb165) _ ⟨hHeld, (bk_ BK148.out), (bk_ BK165.out), GW165.out, GE165.out, NB148_165.out, NB165_148.out, (bs2_ HB.out GE148.out GE165.out)⟩)
          ·skip
           refine box_step ?hg (N := 11) ?hd (cs := #[.int .i64 0, .bool false]) (t := 47) ?hr ?_; (case hd => rfl); (case hg => rfl); (case hr => first | (go_simp; done) | (go_simp; rfl))
           intro gb165 hg w74 hbox hb
           have n0_ := Aside0.mk (blk_below (g := gb148) (o := .cells #[.int .i64 0, .bool false] 47 (0, 0)) (bk_ BK148.out) hb)
           have n1_ := Aside0.mk (below_step (bs1_ HB.out GE148.out) hb)
           have n2_ := Aside0.mk (hbox)
           have n3_ := Aside0.mk ((by rw [hg]; exact (below_size (bs1_ HB.out GE148.out)) : w.heap.size ≤ gb165))
           have n4_ := Aside0.mk ((by rw [hg]; exact (below_size (bs1_ HB.out GE148.out)) : w.heap.size ≤ gb165))
           have n5_ := Aside0.mk ((by rw [hg]; exact Nat.ne_of_lt (blk_lt (g := gb148) (o := .cells #[.int .i64 0, .bool false] 47 (0, 0)) (bk_ BK148.out)) : gb148 ≠ gb165))
           have n6_ := Aside0.mk ((by rw [hg]; exact Nat.ne_of_gt (blk_lt (g := gb148) (o := .cells #[.int .i64 0, .bool false] 47 (0, 0)) (bk_ BK148.out)) : gb165 ≠ gb148))
           clear BK148; clear HB
           have BK148 := n0_
           have HB := n1_
           have BK165 := n2_
           have GW165 := n3_
           have GE165 := n4_
           have NB148_165 := n5_
           have NB165_148 := n6_
           clear n0_ n1_ n2_ n3_ n4_ n5_ n6_; clear hb hbox hg
           refine hK.out _ _ ⟨(ck_ HB.out hw157_0), (ck_ HB.out hw157_1), (ck_ HB.out hw157_2), (ck_ HB.out hw157_3), (ck_ HB.out hw159_0), (ck_ HB.out hw160_0), (ck_ HB.out hw160_1), (ck_ HB.out hw161_0), (ck_ HB.out hw161_1), (ck_ HB.out hw161_2), (ck_ HB.out hw161_3), (ck_ HB.out hw163_0), (ck_ HB.out hw164_0), (ck_ HB.out hw164_1)⟩ (fun hHeld => ?_)
           clear hK K
           refine norm_ (a' := ?_) ?_ ?_
           rotate_left
           ·show Act.put _ (some 11) _ = _
            simp only [Act.put, sp1_, sp2_]
            rfl
           refine one_ (i := 19) (N := some 86) (mk_ 34 4831838207) rfl rfl (one_of HT_.out (by kernel_rfl)) (by decide) (fun K hK => ?_)
           refine goes_ Tryd.func29 (by kernel_rfl) rfl #[.agg #[.int .i64 ((rd_T24 l1 a4).f0), .string ((rd_T24 l1 a4).f1), .int .i64 ((rd_T24 l1 a4).f2), .slice A161_3 ((rd_T24 l1 a4).f3).length c161_3]] (by rfl) rfl rfl (by (try simp only [List.map_toArray, List.map_cons, List.map_nil]); first | done | rfl | (simp only [List.length_drop, List.length_take]; rfl)) ?_
           with_reducible refine (node_Count.calls kj5 ((rd_T24 l1 a4).f0) ((rd_T24 l1 a4).f1) ((rd_T24 l1 a4).f2) _ _ ((rd_T24 l1 a4).f3) t162 _ ?side1 ?side2 A46.out).mono ?_
           (case side1 => exact kc_ HR161_3.out HB.out)
           (case side2 => exact HC161_3.out)
           rintro e w75 ⟨rfl, hb⟩
           refine ⟨_, rfl, ?_⟩
           have n0_ := Aside0.mk (blk_below (g := gb148) (o := .cells #[.int .i64 0, .bool false] 47 (0, 0)) (bk_ BK148.out) hb)
           have n1_ := Aside0.mk (blk_below (g := gb165) (o := .cells #[.int .i64 0, .bool false] 47 (0, 0)) (bk_ BK165.out) hb)
           have n2_ := Aside0.mk (below_step (bs2_ HB.out GE148.out GE165.out) hb)
           clear BK148; clear BK165; clear HB
           have BK148 := n0_
           have BK165 := n1_
           have HB := n2_
           clear n0_ n1_ n2_
           (try clear hb)
           (try clear hb2)
           (try clear hk)
           (try clear hi)
           refine hK.out _ _ ⟨(ck_ HB.out hw157_0), (ck_ HB.out hw157_1), (ck_ HB.out hw157_2), (ck_ HB.out hw157_3), (ck_ HB.out hw159_0), (ck_ HB.out hw160_0), (ck_ HB.out hw160_1), (ck_ HB.out hw161_0), (ck_ HB.out hw161_1), (ck_ HB.out hw161_2), (ck_ HB.out hw161_3), (ck_ HB.out hw163_0), (ck_ HB.out hw164_0), (ck_ HB.out hw164_1)⟩ (fun hHeld => ?_)
           clear hK K
           refine norm_ (a' := ?_) ?_ ?_
           rotate_left
           ·show Act.put _ (some 86) _ = _
            simp only [Act.put, sp1_, sp2_]
            rfl
           refine pure_ (i := 29) (N := some 96) (v := ?_) (a' := ?_) (mk_ 34 5368709119) rfl rfl (an_ HT_.out) (fun _ _ _ h => h) (Or.inl ⟨by rfl, ?_⟩) ?_ ?_
           rotate_left; (intro w'; go_simp; with_reducible rfl); rotate_left; (simp only [Act.put, sp1_, sp2_]; rfl)
           refine pure_ (i := 30) (N := some 97) (v := ?_) (a' := ?_) (mk_ 34 6442450943) rfl rfl (an_ HT_.out) (fun _ _ _ h => h) (Or.inl ⟨by rfl, ?_⟩) ?_ ?_
           rotate_left; (intro w'; go_simp; with_reducible rfl); rotate_left; (simp only [Act.put, sp1_, sp2_]; rfl)
           refine pure_ (i := 31) (N := some 98) (v := ?_) (a' := ?_) (mk_ 34 8589934591) rfl rfl (an_ HT_.out) (fun _ _ _ h => h) (Or.inl ⟨by rfl, ?_⟩) ?_ ?_
           rotate_left; (intro w'; go_simp; with_reducible rfl); rotate_left; (simp only [Act.put, sp1_, sp2_]; rfl)
           exact norm_ (by simp only [putAll, Act.put, List.setIfInBounds_toArray, List.set_cons_zero, List.set_cons_succ]) (hCont (gb165) _ ⟨hHeld, (bk_ BK148.out), (bk_ BK165.out), GW165.out, GE165.out, NB148_165.out, NB165_148.out, (bs2_ HB.out GE148.out GE165.out)⟩)
         ·skip
          refine box_step ?hg (N := 11) ?hd (cs := #[.int .i64 0, .bool false]) (t := 47) ?hr ?_; (case hd => rfl); (case hg => rfl); (case hr => first | (go_simp; done) | (go_simp; rfl))
          intro gb165 hg w73 hbox hb
          have n0_ := Aside0.mk (blk_below (g := gb148) (o := .cells #[.int .i64 0, .bool false] 47 (0, 0)) (bk_ BK148.out) hb)
          have n1_ := Aside0.mk (below_step (bs1_ HB.out GE148.out) hb)
          have n2_ := Aside0.mk (hbox)
          have n3_ := Aside0.mk ((by rw [hg]; exact (below_size (bs1_ HB.out GE148.out)) : w.heap.size ≤ gb165))
          have n4_ := Aside0.mk ((by rw [hg]; exact (below_size (bs1_ HB.out GE148.out)) : w.heap.size ≤ gb165))
          have n5_ := Aside0.mk ((by rw [hg]; exact Nat.ne_of_lt (blk_lt (g := gb148) (o := .cells #[.int .i64 0, .bool false] 47 (0, 0)) (bk_ BK148.out)) : gb148 ≠ gb165))
          have n6_ := Aside0.mk ((by rw [hg]; exact Nat.ne_of_gt (blk_lt (g := gb148) (o := .cells #[.int .i64 0, .bool false] 47 (0, 0)) (bk_ BK148.out)) : gb165 ≠ gb148))
          clear BK148; clear HB
          have BK148 := n0_
          have HB := n1_
          have BK165 := n2_
          have GW165 := n3_
          have GE165 := n4_
          have NB148_165 := n5_
          have NB165_148 := n6_
          clear n0_ n1_ n2_ n3_ n4_ n5_ n6_; clear hb hbox hg
          refine hK.out _ _ ⟨(ck_ HB.out hw157_0), (ck_ HB.out hw157_1), (ck_ HB.out hw157_2), (ck_ HB.out hw157_3), (ck_ HB.out hw159_0), (ck_ HB.out hw160_0), (ck_ HB.out hw160_1), (ck_ HB.out hw161_0), (ck_ HB.out hw161_1), (ck_ HB.out hw161_2), (ck_ HB.out hw161_3), (ck_ HB.out hw163_0), (ck_ HB.out hw164_0), (ck_ HB.out hw164_1)⟩ (fun hHeld => ?_)
          clear hK K
          refine norm_ (a' := ?_) ?_ ?_
          rotate_left
          ·show Act.put _ (some 11) _ = _
           simp only [Act.put, sp1_, sp2_]
           rfl
          refine one_ (i := 4) (N := some 71) (mk_ 34 4831297535) rfl rfl (one_of HT_.out (by kernel_rfl)) (by decide) (fun K hK => ?_)
          refine goes_ Tryd.func29 (by kernel_rfl) rfl #[.agg #[.int .i64 ((rd_T24 l0 a3).f0), .string ((rd_T24 l0 a3).f1), .int .i64 ((rd_T24 l0 a3).f2), .slice A157_3 ((rd_T24 l0 a3).f3).length c157_3]] (by rfl) rfl rfl (by (try simp only [List.map_toArray, List.map_cons, List.map_nil]); first | done | rfl | (simp only [List.length_drop, List.length_take]; rfl)) ?_
          with_reducible refine (node_Count.calls kj5 ((rd_T24 l0 a3).f0) ((rd_T24 l0 a3).f1) ((rd_T24 l0 a3).f2) _ _ ((rd_T24 l0 a3).f3) t158 _ ?side1 ?side2 A39.out).mono ?_
          (case side1 => exact kc_ HR157_3.out HB.out)
          (case side2 => exact HC157_3.out)
          rintro e w74 ⟨rfl, hb⟩
          refine ⟨_, rfl, ?_⟩
          have n0_ := Aside0.mk (blk_below (g := gb148) (o := .cells #[.int .i64 0, .bool false] 47 (0, 0)) (bk_ BK148.out) hb)
          have n1_ := Aside0.mk (blk_below (g := gb165) (o := .cells #[.int .i64 0, .bool false] 47 (0, 0)) (bk_ BK165.out) hb)
          have n2_ := Aside0.mk (below_step (bs2_ HB.out GE148.out GE165.out) hb)
          clear BK148; clear BK165; clear HB
          have BK148 := n0_
          have BK165 := n1_
          have HB := n2_
          clear n0_ n1_ n2_
          (try clear hb)
          (try clear hb2)
          (try clear hk)
          (try clear hi)
          refine hK.out _ _ ⟨(ck_ HB.out hw157_0), (ck_ HB.out hw157_1), (ck_ HB.out hw157_2), (ck_ HB.out hw157_3), (ck_ HB.out hw159_0), (ck_ HB.out hw160_0), (ck_ HB.out hw160_1), (ck_ HB.out hw161_0), (ck_ HB.out hw161_1), (ck_ HB.out hw161_2), (ck_ HB.out hw161_3), (ck_ HB.out hw163_0), (ck_ HB.out hw164_0), (ck_ HB.out hw164_1)⟩ (fun hHeld => ?_)
          clear hK K
          refine norm_ (a' := ?_) ?_ ?_
          rotate_left
          ·show Act.put _ (some 71) _ = _
           simp only [Act.put, sp1_, sp2_]
           rfl
          refine pure_ (i := 14) (N := some 81) (v := ?_) (a' := ?_) (mk_ 34 4831313919) rfl rfl (an_ HT_.out) (fun _ _ _ h => h) (Or.inl ⟨by rfl, ?_⟩) ?_ ?_
          rotate_left; (intro w'; go_simp; with_reducible rfl); rotate_left; (simp only [Act.put, sp1_, sp2_]; rfl)
          refine one_ (i := 19) (N := some 86) (mk_ 34 4831838207) rfl rfl (one_of HT_.out (by kernel_rfl)) (by decide) (fun K hK => ?_)
          refine goes_ Tryd.func29 (by kernel_rfl) rfl #[.agg #[.int .i64 ((rd_T24 l1 a4).f0), .string ((rd_T24 l1 a4).f1), .int .i64 ((rd_T24 l1 a4).f2), .slice A161_3 ((rd_T24 l1 a4).f3).length c161_3]] (by rfl) rfl rfl (by (try simp only [List.map_toArray, List.map_cons, List.map_nil]); first | done | rfl | (simp only [List.length_drop, List.length_take]; rfl)) ?_
          with_reducible refine (node_Count.calls kj5 ((rd_T24 l1 a4).f0) ((rd_T24 l1 a4).f1) ((rd_T24 l1 a4).f2) _ _ ((rd_T24 l1 a4).f3) t162 _ ?side1 ?side2 A46.out).mono ?_
          (case side1 => exact kc_ HR161_3.out HB.out)
          (case side2 => exact HC161_3.out)
          rintro e w75 ⟨rfl, hb⟩
          refine ⟨_, rfl, ?_⟩
          have n0_ := Aside0.mk (blk_below (g := gb148) (o := .cells #[.int .i64 0, .bool false] 47 (0, 0)) (bk_ BK148.out) hb)
          have n1_ := Aside0.mk (blk_below (g := gb165) (o := .cells #[.int .i64 0, .bool false] 47 (0, 0)) (bk_ BK165.out) hb)
          have n2_ := Aside0.mk (below_step (bs2_ HB.out GE148.out GE165.out) hb)
          clear BK148; clear BK165; clear HB
          have BK148 := n0_
          have BK165 := n1_
          have HB := n2_
          clear n0_ n1_ n2_
          (try clear hb)
          (try clear hb2)
          (try clear hk)
          (try clear hi)
          refine hK.out _ _ ⟨(ck_ HB.out hw157_0), (ck_ HB.out hw157_1), (ck_ HB.out hw157_2), (ck_ HB.out hw157_3), (ck_ HB.out hw159_0), (ck_ HB.out hw160_0), (ck_ HB.out hw160_1), (ck_ HB.out hw161_0), (ck_ HB.out hw161_1), (ck_ HB.out hw161_2), (ck_ HB.out hw161_3), (ck_ HB.out hw163_0), (ck_ HB.out hw164_0), (ck_ HB.out hw164_1)⟩ (fun hHeld => ?_)
          clear hK K
          refine norm_ (a' := ?_) ?_ ?_
          rotate_left
          ·show Act.put _ (some 86) _ = _
           simp only [Act.put, sp1_, sp2_]
           rfl
          refine pure_ (i := 29) (N := some 96) (v := ?_) (a' := ?_) (mk_ 34 5368709119) rfl rfl (an_ HT_.out) (fun _ _ _ h => h) (Or.inl ⟨by rfl, ?_⟩) ?_ ?_
          rotate_left; (intro w'; go_simp; with_reducible rfl); rotate_left; (simp only [Act.put, sp1_, sp2_]; rfl)
          refine pure_ (i := 30) (N := some 97) (v := ?_) (a' := ?_) (mk_ 34 6442450943) rfl rfl (an_ HT_.out) (fun _ _ _ h => h) (Or.inl ⟨by rfl, ?_⟩) ?_ ?_
          rotate_left; (intro w'; go_simp; with_reducible rfl); rotate_left; (simp only [Act.put, sp1_, sp2_]; rfl)
          refine pure_ (i := 31) (N := some 98) (v := ?_) (a' := ?_) (mk_ 34 8589934591) rfl rfl (an_ HT_.out) (fun _ _ _ h => h) (Or.inl ⟨by rfl, ?_⟩) ?_ ?_
          rotate_left; (intro w'; go_simp; with_reducible rfl); rotate_left; (simp only [Act.put, sp1_, sp2_]; rfl)
          exact norm_ (by simp only [putAll, Act.put, List.setIfInBounds_toArray, List.set_cons_zero, List.set_cons_succ]) (hCont (gb165) _ ⟨hHeld, (bk_ BK148.out), (bk_ BK165.out), GW165.out, GE165.out, NB148_165.out, NB165_148.out, (bs2_ HB.out GE148.out GE165.out)⟩)
        rintro gb165 w76 ⟨hS_, h0_, h1_, h2_, h3_, h4_, h5_, h6_⟩
        have n0_ : Aside0 (w76.heap[gb148]? = some (.cells #[.int .i64 0, .bool false] 47 (0, 0))) := ⟨h0_⟩
        have n1_ : Aside0 (w76.heap[gb165]? = some (.cells #[.int .i64 0, .bool false] 47 (0, 0))) := ⟨h1_⟩
        have n2_ : Aside0 (w.heap.size ≤ gb165) := ⟨h2_⟩
        have n3_ : Aside0 (w.heap.size ≤ gb165) := ⟨h3_⟩
        have n4_ : Aside0 (gb148 ≠ gb165) := ⟨h4_⟩
        have n5_ : Aside0 (gb165 ≠ gb148) := ⟨h5_⟩
        have n6_ : Aside0 (Below w.heap.size w w76) := ⟨h6_⟩
        clear BK148; clear HB; clear h0_ h1_ h2_ h3_ h4_ h5_ h6_
        have BK148 := n0_
        have BK165 := n1_
        have GW165 := n2_
        have GE165 := n3_
        have NB148_165 := n4_
        have NB165_148 := n5_
        have HB := n6_
        clear n0_ n1_ n2_ n3_ n4_ n5_ n6_
        have hHeld : w76.cell? (ad157.add ((a3).toNat * 4)) = some (.int .i64 ((rd_T24 l0 a3).f0)) ∧ w76.cell? ⟨(ad157.add ((a3).toNat * 4)).block, (ad157.add ((a3).toNat * 4)).off + 1, none⟩ = some (.string ((rd_T24 l0 a3).f1)) ∧ w76.cell? ⟨(ad157.add ((a3).toNat * 4)).block, (ad157.add ((a3).toNat * 4)).off + 2, none⟩ = some (.int .i64 ((rd_T24 l0 a3).f2)) ∧ w76.cell? ⟨(ad157.add ((a3).toNat * 4)).block, (ad157.add ((a3).toNat * 4)).off + 3, none⟩ = some (.slice A157_3 ((rd_T24 l0 a3).f3).length c157_3) ∧ w76.cell? (ad159.add ((ji40)).toNat) = some (.slice (some ad160) (rd_L5 l2 (ji40)).length c159_0) ∧ w76.cell? (ad160.add ((a4).toNat * 2)) = some (.int .i64 ((rd_T47 (rd_L5 l2 (ji40)) a4).f0)) ∧ w76.cell? ⟨(ad160.add ((a4).toNat * 2)).block, (ad160.add ((a4).toNat * 2)).off + 1, none⟩ = some (.bool ((rd_T47 (rd_L5 l2 (ji40)) a4).f1)) ∧ w76.cell? (ad161.add ((a4).toNat * 4)) = some (.int .i64 ((rd_T24 l1 a4).f0)) ∧ w76.cell? ⟨(ad161.add ((a4).toNat * 4)).block, (ad161.add ((a4).toNat * 4)).off + 1, none⟩ = some (.string ((rd_T24 l1 a4).f1)) ∧ w76.cell? ⟨(ad161.add ((a4).toNat * 4)).block, (ad161.add ((a4).toNat * 4)).off + 2, none⟩ = some (.int .i64 ((rd_T24 l1 a4).f2)) ∧ w76.cell? ⟨(ad161.add ((a4).toNat * 4)).block, (ad161.add ((a4).toNat * 4)).off + 3, none⟩ = some (.slice A161_3 ((rd_T24 l1 a4).f3).length c161_3) ∧ w76.cell? (ad159.add (a3).toNat) = some (.slice (some ad164) (rd_L5 l2 a3).length c163_0) ∧ w76.cell? (ad164.add (((ji48)).toNat * 2)) = some (.int .i64 ((rd_T47 (rd_L5 l2 a3) (ji48)).f0)) ∧ w76.cell? ⟨(ad164.add (((ji48)).toNat * 2)).block, (ad164.add (((ji48)).toNat * 2)).off + 1, none⟩ = some (.bool ((rd_T47 (rd_L5 l2 a3) (ji48)).f1)) := hS_
        refine norm_ (a' := ?_) ?_ ?_
        rotate_left; (simp only [putAll, Act.put, List.setIfInBounds_toArray, List.set_cons_zero, List.set_cons_succ]; rfl)
        refine one_ (i := 33) (N := none) (mk_ 34 17179869183) rfl rfl (one_of HT_.out (by kernel_rfl)) (by decide) (fun K hK => ?_)
        have hs77 : w76.cell? ⟨gb165, 0, none⟩ = some (.int .i64 0) := (blk_cell BK165.out 0).trans rfl
        have hfs77 := blk_frozen BK165.out 0
        have hns77_0 := NB148_165.out
        have hms77_0 := NB165_148.out
        have hs78 : w76.cell? ⟨gb165, 1, none⟩ = some (.bool false) := (blk_cell BK165.out 1).trans rfl
        have hfs78 := blk_frozen BK165.out 1
        have hns78_0 := NB148_165.out
        have hms78_0 := NB165_148.out
        refine skip_ (w1 := ?_) (by rfl) rfl ?_ ?_
        rotate_left
        ·go_simp
         rfl
        refine hK.out _ _ ⟨((cf_ GW165.out hw157_0 _).trans (((cf_ GW165.out hw157_0 _).trans (hHeld.1)))), ((cf_ GW165.out hw157_1 _).trans (((cf_ GW165.out hw157_1 _).trans (hHeld.2.1)))), ((cf_ GW165.out hw157_2 _).trans (((cf_ GW165.out hw157_2 _).trans (hHeld.2.2.1)))), ((cf_ GW165.out hw157_3 _).trans (((cf_ GW165.out hw157_3 _).trans (hHeld.2.2.2.1)))), ((cf_ GW165.out hw159_0 _).trans (((cf_ GW165.out hw159_0 _).trans (hHeld.2.2.2.2.1)))), ((cf_ GW165.out hw160_0 _).trans (((cf_ GW165.out hw160_0 _).trans (hHeld.2.2.2.2.2.1)))), ((cf_ GW165.out hw160_1 _).trans (((cf_ GW165.out hw160_1 _).trans (hHeld.2.2.2.2.2.2.1)))), ((cf_ GW165.out hw161_0 _).trans (((cf_ GW165.out hw161_0 _).trans (hHeld.2.2.2.2.2.2.2.1)))), ((cf_ GW165.out hw161_1 _).trans (((cf_ GW165.out hw161_1 _).trans (hHeld.2.2.2.2.2.2.2.2.1)))), ((cf_ GW165.out hw161_2 _).trans (((cf_ GW165.out hw161_2 _).trans (hHeld.2.2.2.2.2.2.2.2.2.1)))), ((cf_ GW165.out hw161_3 _).trans (((cf_ GW165.out hw161_3 _).trans (hHeld.2.2.2.2.2.2.2.2.2.2.1)))), ((cf_ GW165.out hw163_0 _).trans (((cf_ GW165.out hw163_0 _).trans (hHeld.2.2.2.2.2.2.2.2.2.2.2.1)))), ((cf_ GW165.out hw164_0 _).trans (((cf_ GW165.out hw164_0 _).trans (hHeld.2.2.2.2.2.2.2.2.2.2.2.2.1)))), ((cf_ GW165.out hw164_1 _).trans (((cf_ GW165.out hw164_1 _).trans (hHeld.2.2.2.2.2.2.2.2.2.2.2.2.2))))⟩ (fun hHeld => ?_)
        clear hK K
        refine done_ (done_of HT_.out (by kernel_rfl)) ?_
        try go_wp2
        have n0_ : Aside0 (((w76.setCell ⟨gb165, 0, none⟩ (.int .i64 ji51)).setCell ⟨gb165, 1, none⟩ (.bool false)).heap[gb148]? = some (.cells #[.int .i64 0, .bool false] 47 (0, 0))) := ⟨by (with_reducible repeat (first | refine blk_drewN ?_ _ | refine blk_drew ?_ | refine blk_alloc ?_ _)); refine blk_far ?_ NB148_165.out _; (with_reducible repeat (first | refine blk_drewN ?_ _ | refine blk_drew ?_ | refine blk_alloc ?_ _)); refine blk_far ?_ NB148_165.out _; (with_reducible repeat (first | refine blk_drewN ?_ _ | refine blk_drew ?_ | refine blk_alloc ?_ _)); exact BK148.out⟩
        have n1_ : Aside0 (((w76.setCell ⟨gb165, 0, none⟩ (.int .i64 ji51)).setCell ⟨gb165, 1, none⟩ (.bool false)).heap[gb165]? = some (.cells #[.int .i64 ji51, .bool false] 47 (0, 0))) := ⟨by (with_reducible repeat (first | refine blk_drewN ?_ _ | refine blk_drew ?_ | refine blk_alloc ?_ _)); refine blk_put (cs := #[.int .i64 ji51, .bool false]) ?_ 1 _ rfl; (with_reducible repeat (first | refine blk_drewN ?_ _ | refine blk_drew ?_ | refine blk_alloc ?_ _)); refine blk_put (cs := #[.int .i64 0, .bool false]) ?_ 0 _ rfl; (with_reducible repeat (first | refine blk_drewN ?_ _ | refine blk_drew ?_ | refine blk_alloc ?_ _)); exact BK165.out⟩
        have n2_ : Aside0 (Below w.heap.size w ((w76.setCell ⟨gb165, 0, none⟩ (.int .i64 ji51)).setCell ⟨gb165, 1, none⟩ (.bool false))) := ⟨bs2_ HB.out GE148.out GE165.out⟩
        (try clear BK148)
        (try clear BK165)
        (try clear HB)
        generalize ((w76.setCell ⟨gb165, 0, none⟩ (.int .i64 ji51)).setCell ⟨gb165, 1, none⟩ (.bool false)) = w79 at n0_ n1_ n2_ ⊢
        have BK148 := n0_
        have BK165 := n1_
        have HB := n2_
        clear n0_ n1_ n2_
        have n0_ := Aside0.mk (blk_drew BK148.out)
        have n1_ := Aside0.mk (blk_drew BK165.out)
        have n2_ := Aside0.mk (below_drew1 HB.out)
        clear BK148; clear BK165; clear HB
        have BK148 := n0_
        have BK165 := n1_
        have HB := n2_
        clear n0_ n1_ n2_
        have p166 : 0 ≤ (a3 : Int) := of_decide_eq_true (by first | (with_reducible assumption) | assumption)
        have q166 : a3 < (l0.length : Int) := of_decide_eq_true (by first | (with_reducible assumption) | assumption)
        obtain ⟨ad166, A166_3, c166_3, e166, hx166_0, hx166_1, hx166_2, hx166_3, hl166_3, hi166_3⟩ := at_T24 HR0.out a3 p166 q166
        have hw166_3 := hx166_3
        have hw166_2 := hx166_2
        have hw166_1 := hx166_1
        have hw166_0 := hx166_0
        obtain rfl : ad157 = ad166 := (by injection e166)
        replace hx166_0 := (cl_ HB.out hx166_0).trans hx166_0
        replace hx166_1 := (cl_ HB.out hx166_1).trans hx166_1
        replace hx166_2 := (cl_ HB.out hx166_2).trans hx166_2
        replace hx166_3 := (cl_ HB.out hx166_3).trans hx166_3
        have HR166_3 := Aside0.mk hi166_3
        have HC166_3 := Aside0.mk hl166_3
        clear hi166_3 hl166_3
        replace p166 := eq_true p166
        replace q166 := eq_true q166
        have p167 : 0 ≤ (a4 : Int) := of_decide_eq_true (by first | (with_reducible assumption) | assumption)
        have q167 : a4 < (l1.length : Int) := of_decide_eq_true (by first | (with_reducible assumption) | assumption)
        obtain ⟨ad167, A167_3, c167_3, e167, hx167_0, hx167_1, hx167_2, hx167_3, hl167_3, hi167_3⟩ := at_T24 HR1.out a4 p167 q167
        have hw167_3 := hx167_3
        have hw167_2 := hx167_2
        have hw167_1 := hx167_1
        have hw167_0 := hx167_0
        obtain rfl : ad161 = ad167 := (by injection e167)
        replace hx167_0 := (cl_ HB.out hx167_0).trans hx167_0
        replace hx167_1 := (cl_ HB.out hx167_1).trans hx167_1
        replace hx167_2 := (cl_ HB.out hx167_2).trans hx167_2
        replace hx167_3 := (cl_ HB.out hx167_3).trans hx167_3
        have HR167_3 := Aside0.mk hi167_3
        have HC167_3 := Aside0.mk hl167_3
        clear hi167_3 hl167_3
        replace p167 := eq_true p167
        replace q167 := eq_true q167
        refine start_ (n := 9) (S := fun w' => w'.cell? (ad157.add ((a3).toNat * 4)) = some (.int .i64 ((rd_T24 l0 a3).f0)) ∧ w'.cell? ⟨(ad157.add ((a3).toNat * 4)).block, (ad157.add ((a3).toNat * 4)).off + 1, none⟩ = some (.string ((rd_T24 l0 a3).f1)) ∧ w'.cell? ⟨(ad157.add ((a3).toNat * 4)).block, (ad157.add ((a3).toNat * 4)).off + 2, none⟩ = some (.int .i64 ((rd_T24 l0 a3).f2)) ∧ w'.cell? ⟨(ad157.add ((a3).toNat * 4)).block, (ad157.add ((a3).toNat * 4)).off + 3, none⟩ = some (.slice A166_3 ((rd_T24 l0 a3).f3).length c166_3) ∧ w'.cell? (ad161.add ((a4).toNat * 4)) = some (.int .i64 ((rd_T24 l1 a4).f0)) ∧ w'.cell? ⟨(ad161.add ((a4).toNat * 4)).block, (ad161.add ((a4).toNat * 4)).off + 1, none⟩ = some (.string ((rd_T24 l1 a4).f1)) ∧ w'.cell? ⟨(ad161.add ((a4).toNat * 4)).block, (ad161.add ((a4).toNat * 4)).off + 2, none⟩ = some (.int .i64 ((rd_T24 l1 a4).f2)) ∧ w'.cell? ⟨(ad161.add ((a4).toNat * 4)).block, (ad161.add ((a4).toNat * 4)).off + 3, none⟩ = some (.slice A167_3 ((rd_T24 l1 a4).f3).length c167_3)) (ds := []) #[false, false, false, false, false, false, false, false, false] (by kernel_rfl) rfl rfl ⟨(ck_ HB.out hw166_0), (ck_ HB.out hw166_1), (ck_ HB.out hw166_2), (ck_ HB.out hw166_3), (ck_ HB.out hw167_0), (ck_ HB.out hw167_1), (ck_ HB.out hw167_2), (ck_ HB.out hw167_3)⟩ (fun hHeld => ?_); refine with_tabW diff_best.tab8 diff_best.bits8 (fun HT_ HW_ => ?_)
        generalize w79.drew = w80 at BK148 BK165 HB HR166_3 HR167_3 hx166_0 hx166_1 hx166_2 hx166_3 hx167_0 hx167_1 hx167_2 hx167_3 hHeld ⊢
        refine pure_ (i := 0) (N := some 99) (v := ?_) (a' := ?_) (mk_ 9 1) rfl rfl (an_ HT_.out) (fun _ _ _ h => h) (Or.inl ⟨by rfl, ?_⟩) ?_ ?_
        rotate_left; (intro w'; go_simp; with_reducible rfl); rotate_left; (simp only [Act.put, sp1_, sp2_]; rfl)
        refine pure_ (i := 1) (N := some 100) (v := ?_) (a' := ?_) (mk_ 9 3) rfl rfl (an_ HT_.out) (fun _ _ _ h => h) (Or.inl ⟨by rfl, ?_⟩) ?_ ?_
        rotate_left; (intro w'; go_simp; with_reducible rfl); rotate_left; (simp only [Act.put, sp1_, sp2_]; rfl)
        refine pure_ (i := 2) (N := some 101) (v := ?_) (a' := ?_) (mk_ 9 7) rfl rfl (an_ HT_.out) (fun _ _ _ h => h) (Or.inl ⟨by rfl, ?_⟩) ?_ ?_
        rotate_left; (intro w'; go_simp; with_reducible rfl); rotate_left; (simp only [Act.put, sp1_, sp2_]; rfl)
        refine pure_ (i := 4) (N := some 103) (v := ?_) (a' := ?_) (mk_ 9 23) rfl rfl (an_ HT_.out) (fun _ _ _ h => h) (Or.inl ⟨by rfl, ?_⟩) ?_ ?_
        rotate_left; (intro w'; go_simp; with_reducible rfl); rotate_left; (simp only [Act.put, sp1_, sp2_]; rfl)
        refine pure_ (i := 5) (N := some 104) (v := ?_) (a' := ?_) (mk_ 9 55) rfl rfl (an_ HT_.out) (fun _ _ _ h => h) (Or.inl ⟨by rfl, ?_⟩) ?_ ?_
        rotate_left; (intro w'; go_simp; with_reducible rfl); rotate_left; (simp only [Act.put, sp1_, sp2_]; rfl)
        refine pure_ (i := 6) (N := some 105) (v := ?_) (a' := ?_) (mk_ 9 119) rfl rfl (an_ HT_.out) (fun _ _ _ h => h) (Or.inl ⟨by rfl, ?_⟩) ?_ ?_
        rotate_left; (intro w'; go_simp; with_reducible rfl); rotate_left; (simp only [Act.put, sp1_, sp2_]; rfl)
        refine take_ (i := 3) (N := some 102) (v := ?_) (a' := ?_) (mk_ 9 127) rfl rfl (take_ofW HT_.out HW_.out (by kernel_rfl)) (fun _ _ _ h => h) (Or.inl ⟨by rfl, ?_⟩) hHeld ?_ ?_
        rotate_left
        ·rintro w' ⟨s0, s1, s2, s3, s4, s5, s6, s7⟩
         go_simp
         with_reducible rfl
        rotate_left; (simp only [Act.put, sp1_, sp2_]; rfl)
        refine take_ (i := 7) (N := some 106) (v := ?_) (a' := ?_) (mk_ 9 255) rfl rfl (take_ofW HT_.out HW_.out (by kernel_rfl)) (fun _ _ _ h => h) (Or.inl ⟨by rfl, ?_⟩) hHeld ?_ ?_
        rotate_left
        ·rintro w' ⟨s0, s1, s2, s3, s4, s5, s6, s7⟩
         go_simp
         with_reducible rfl
        rotate_left; (simp only [Act.put, sp1_, sp2_]; rfl)
        refine one_ (i := 8) (N := some 107) (mk_ 9 511) rfl rfl (one_of HT_.out (by kernel_rfl)) (by decide) (fun K hK => ?_)
        refine goes_ Tryd.func42 (by kernel_rfl) rfl #[.agg #[.int .i64 ((rd_T24 l0 a3).f0), .string ((rd_T24 l0 a3).f1), .int .i64 ((rd_T24 l0 a3).f2), .slice A166_3 ((rd_T24 l0 a3).f3).length c166_3], .agg #[.int .i64 ((rd_T24 l1 a4).f0), .string ((rd_T24 l1 a4).f1), .int .i64 ((rd_T24 l1 a4).f2), .slice A167_3 ((rd_T24 l1 a4).f3).length c167_3]] (by rfl) rfl rfl (by (try simp only [List.map_toArray, List.map_cons, List.map_nil]); first | done | rfl | (simp only [List.length_drop, List.length_take]; rfl)) ?_
        with_reducible refine (diff_alike.calls ((rd_T24 l0 a3).f0) ((rd_T24 l0 a3).f1) ((rd_T24 l0 a3).f2) _ _ ((rd_T24 l0 a3).f3) ((rd_T24 l1 a4).f0) ((rd_T24 l1 a4).f1) ((rd_T24 l1 a4).f2) _ _ ((rd_T24 l1 a4).f3) true _ ?side1 ?side2 ?side3 ?side4 A52.out).mono ?_
        (case side1 => exact kc_ HR166_3.out HB.out)
        (case side2 => exact HC166_3.out)
        (case side3 => exact kc_ HR167_3.out HB.out)
        (case side4 => exact HC167_3.out)
        rintro e w81 ⟨rfl, hb⟩
        refine ⟨_, rfl, ?_⟩
        have n0_ := Aside0.mk (blk_below (g := gb148) (o := .cells #[.int .i64 0, .bool false] 47 (0, 0)) (bk_ BK148.out) hb)
        have n1_ := Aside0.mk (blk_below (g := gb165) (o := .cells #[.int .i64 ji51, .bool false] 47 (0, 0)) (bk_ BK165.out) hb)
        have n2_ := Aside0.mk (below_step (bs2_ HB.out GE148.out GE165.out) hb)
        clear BK148; clear BK165; clear HB
        have BK148 := n0_
        have BK165 := n1_
        have HB := n2_
        clear n0_ n1_ n2_
        (try clear hb)
        (try clear hb2)
        (try clear hk)
        (try clear hi)
        refine hK.out _ _ ⟨(ck_ HB.out hw166_0), (ck_ HB.out hw166_1), (ck_ HB.out hw166_2), (ck_ HB.out hw166_3), (ck_ HB.out hw167_0), (ck_ HB.out hw167_1), (ck_ HB.out hw167_2), (ck_ HB.out hw167_3)⟩ (fun hHeld => ?_)
        clear hK K
        refine norm_ (a' := ?_) ?_ ?_
        rotate_left
        ·show Act.put _ (some 107) _ = _
         simp only [Act.put, sp1_, sp2_]
         rfl
        refine done_ (done_of HT_.out (by kernel_rfl)) ?_
        try go_wp2
        have n0_ := Aside0.mk (blk_drew BK148.out)
        have n1_ := Aside0.mk (blk_drew BK165.out)
        have n2_ := Aside0.mk (below_drew1 HB.out)
        clear BK148; clear BK165; clear HB
        have BK148 := n0_
        have BK165 := n1_
        have HB := n2_
        clear n0_ n1_ n2_
        have p169 : 0 ≤ (a3 : Int) := of_decide_eq_true (by first | (with_reducible assumption) | assumption)
        have q169 : a3 < (l0.length : Int) := of_decide_eq_true (by first | (with_reducible assumption) | assumption)
        obtain ⟨ad169, A169_3, c169_3, e169, hx169_0, hx169_1, hx169_2, hx169_3, hl169_3, hi169_3⟩ := at_T24 HR0.out a3 p169 q169
        have hw169_3 := hx169_3
        have hw169_2 := hx169_2
        have hw169_1 := hx169_1
        have hw169_0 := hx169_0
        obtain rfl : ad157 = ad169 := (by injection e169)
        replace hx169_0 := (cl_ HB.out hx169_0).trans hx169_0
        replace hx169_1 := (cl_ HB.out hx169_1).trans hx169_1
        replace hx169_2 := (cl_ HB.out hx169_2).trans hx169_2
        replace hx169_3 := (cl_ HB.out hx169_3).trans hx169_3
        have HR169_3 := Aside0.mk hi169_3
        have HC169_3 := Aside0.mk hl169_3
        clear hi169_3 hl169_3
        replace p169 := eq_true p169
        replace q169 := eq_true q169
        have p170 : 0 ≤ (a4 : Int) := of_decide_eq_true (by first | (with_reducible assumption) | assumption)
        have q170 : a4 < (l1.length : Int) := of_decide_eq_true (by first | (with_reducible assumption) | assumption)
        obtain ⟨ad170, A170_3, c170_3, e170, hx170_0, hx170_1, hx170_2, hx170_3, hl170_3, hi170_3⟩ := at_T24 HR1.out a4 p170 q170
        have hw170_3 := hx170_3
        have hw170_2 := hx170_2
        have hw170_1 := hx170_1
        have hw170_0 := hx170_0
        obtain rfl : ad161 = ad170 := (by injection e170)
        replace hx170_0 := (cl_ HB.out hx170_0).trans hx170_0
        replace hx170_1 := (cl_ HB.out hx170_1).trans hx170_1
        replace hx170_2 := (cl_ HB.out hx170_2).trans hx170_2
        replace hx170_3 := (cl_ HB.out hx170_3).trans hx170_3
        have HR170_3 := Aside0.mk hi170_3
        have HC170_3 := Aside0.mk hl170_3
        clear hi170_3 hl170_3
        replace p170 := eq_true p170
        replace q170 := eq_true q170
        have p172 : 0 ≤ ((ji40) : Int) := of_decide_eq_true (by first | (with_reducible assumption) | assumption)
        have q172 : (ji40) < (l2.length : Int) := of_decide_eq_true (by first | (with_reducible assumption) | assumption)
        obtain ⟨ad172, A172_0, c172_0, e172, hx172_0, hl172_0, hi172_0⟩ := at_L5 HR2.out (ji40) p172 q172
        have hw172_0 := hx172_0
        obtain rfl : ad159 = ad172 := (by injection e172)
        replace hx172_0 := (cl_ HB.out hx172_0).trans hx172_0
        have HR172_0 := Aside0.mk hi172_0
        have HC172_0 := Aside0.mk hl172_0
        clear hi172_0 hl172_0
        replace p172 := eq_true p172
        replace q172 := eq_true q172
        have p173 : 0 ≤ ((ji48) : Int) := of_decide_eq_true (by first | (with_reducible assumption) | assumption)
        have q173 : (ji48) < ((rd_L5 l2 (ji40)).length : Int) := of_decide_eq_true (by first | (with_reducible assumption) | assumption)
        obtain ⟨ad173, e173, hx173_0, hx173_1⟩ := at_T47 HR172_0.out (ji48) p173 q173
        have hw173_1 := hx173_1
        have hw173_0 := hx173_0
        cases e173
        replace hx173_0 := (cl_ HB.out hx173_0).trans hx173_0
        replace hx173_1 := (cl_ HB.out hx173_1).trans hx173_1
        replace p173 := eq_true p173
        replace q173 := eq_true q173
        refine start_ (n := 21) (S := fun w' => w'.cell? (ad157.add ((a3).toNat * 4)) = some (.int .i64 ((rd_T24 l0 a3).f0)) ∧ w'.cell? ⟨(ad157.add ((a3).toNat * 4)).block, (ad157.add ((a3).toNat * 4)).off + 1, none⟩ = some (.string ((rd_T24 l0 a3).f1)) ∧ w'.cell? ⟨(ad157.add ((a3).toNat * 4)).block, (ad157.add ((a3).toNat * 4)).off + 2, none⟩ = some (.int .i64 ((rd_T24 l0 a3).f2)) ∧ w'.cell? ⟨(ad157.add ((a3).toNat * 4)).block, (ad157.add ((a3).toNat * 4)).off + 3, none⟩ = some (.slice A169_3 ((rd_T24 l0 a3).f3).length c169_3) ∧ w'.cell? (ad161.add ((a4).toNat * 4)) = some (.int .i64 ((rd_T24 l1 a4).f0)) ∧ w'.cell? ⟨(ad161.add ((a4).toNat * 4)).block, (ad161.add ((a4).toNat * 4)).off + 1, none⟩ = some (.string ((rd_T24 l1 a4).f1)) ∧ w'.cell? ⟨(ad161.add ((a4).toNat * 4)).block, (ad161.add ((a4).toNat * 4)).off + 2, none⟩ = some (.int .i64 ((rd_T24 l1 a4).f2)) ∧ w'.cell? ⟨(ad161.add ((a4).toNat * 4)).block, (ad161.add ((a4).toNat * 4)).off + 3, none⟩ = some (.slice A170_3 ((rd_T24 l1 a4).f3).length c170_3) ∧ w'.cell? (ad159.add ((ji40)).toNat) = some (.slice (some ad173) (rd_L5 l2 (ji40)).length c172_0) ∧ w'.cell? (ad173.add (((ji48)).toNat * 2)) = some (.int .i64 ((rd_T47 (rd_L5 l2 (ji40)) (ji48)).f0)) ∧ w'.cell? ⟨(ad173.add (((ji48)).toNat * 2)).block, (ad173.add (((ji48)).toNat * 2)).off + 1, none⟩ = some (.bool ((rd_T47 (rd_L5 l2 (ji40)) (ji48)).f1))) (ds := []) #[false, false, false, false, false, false, false, false, false, false, false, false, false, false, false, false, false, false, false, false, false] (by kernel_rfl) rfl rfl ⟨(ck_ HB.out hw169_0), (ck_ HB.out hw169_1), (ck_ HB.out hw169_2), (ck_ HB.out hw169_3), (ck_ HB.out hw170_0), (ck_ HB.out hw170_1), (ck_ HB.out hw170_2), (ck_ HB.out hw170_3), (ck_ HB.out hw172_0), (ck_ HB.out hw173_0), (ck_ HB.out hw173_1)⟩ (fun hHeld => ?_); refine with_tabW diff_best.tab9 diff_best.bits9 (fun HT_ HW_ => ?_)
        generalize w81.drew = w82 at BK148 BK165 HB HR169_3 HR170_3 HR172_0 hx169_0 hx169_1 hx169_2 hx169_3 hx170_0 hx170_1 hx170_2 hx170_3 hx172_0 hx173_0 hx173_1 hHeld ⊢
        refine pure_ (i := 0) (N := some 108) (v := ?_) (a' := ?_) (mk_ 21 1) rfl rfl (an_ HT_.out) (fun _ _ _ h => h) (Or.inl ⟨by rfl, ?_⟩) ?_ ?_
        rotate_left; (intro w'; go_simp; with_reducible rfl); rotate_left; (simp only [Act.put, sp1_, sp2_]; rfl)
        refine pure_ (i := 1) (N := some 109) (v := ?_) (a' := ?_) (mk_ 21 3) rfl rfl (an_ HT_.out) (fun _ _ _ h => h) (Or.inl ⟨by rfl, ?_⟩) ?_ ?_
        rotate_left; (intro w'; go_simp; with_reducible rfl); rotate_left; (simp only [Act.put, sp1_, sp2_]; rfl)
        refine pure_ (i := 2) (N := some 110) (v := ?_) (a' := ?_) (mk_ 21 7) rfl rfl (an_ HT_.out) (fun _ _ _ h => h) (Or.inl ⟨by rfl, ?_⟩) ?_ ?_
        rotate_left; (intro w'; go_simp; with_reducible rfl); rotate_left; (simp only [Act.put, sp1_, sp2_]; rfl)
        refine pure_ (i := 4) (N := some 112) (v := ?_) (a' := ?_) (mk_ 21 23) rfl rfl (an_ HT_.out) (fun _ _ _ h => h) (Or.inl ⟨by rfl, ?_⟩) ?_ ?_
        rotate_left; (intro w'; go_simp; with_reducible rfl); rotate_left; (simp only [Act.put, sp1_, sp2_]; rfl)
        refine pure_ (i := 5) (N := some 113) (v := ?_) (a' := ?_) (mk_ 21 55) rfl rfl (an_ HT_.out) (fun _ _ _ h => h) (Or.inl ⟨by rfl, ?_⟩) ?_ ?_
        rotate_left; (intro w'; go_simp; with_reducible rfl); rotate_left; (simp only [Act.put, sp1_, sp2_]; rfl)
        refine pure_ (i := 6) (N := some 114) (v := ?_) (a' := ?_) (mk_ 21 119) rfl rfl (an_ HT_.out) (fun _ _ _ h => h) (Or.inl ⟨by rfl, ?_⟩) ?_ ?_
        rotate_left; (intro w'; go_simp; with_reducible rfl); rotate_left; (simp only [Act.put, sp1_, sp2_]; rfl)
        refine pure_ (i := 9) (N := some 117) (v := ?_) (a' := ?_) (mk_ 21 631) rfl rfl (an_ HT_.out) (fun _ _ _ h => h) (Or.inl ⟨by rfl, ?_⟩) ?_ ?_
        rotate_left; (intro w'; go_simp; with_reducible rfl); rotate_left; (simp only [Act.put, sp1_, sp2_]; rfl)
        refine pure_ (i := 10) (N := some 118) (v := ?_) (a' := ?_) (mk_ 21 1655) rfl rfl (an_ HT_.out) (fun _ _ _ h => h) (Or.inl ⟨by rfl, ?_⟩) ?_ ?_
        rotate_left; (intro w'; go_simp; with_reducible rfl); rotate_left; (simp only [Act.put, sp1_, sp2_]; rfl)
        refine pure_ (i := 11) (N := some 119) (v := ?_) (a' := ?_) (mk_ 21 3703) rfl rfl (an_ HT_.out) (fun _ _ _ h => h) (Or.inl ⟨by rfl, ?_⟩) ?_ ?_
        rotate_left; (intro w'; go_simp; with_reducible rfl); rotate_left; (simp only [Act.put, sp1_, sp2_]; rfl)
        refine pure_ (i := 12) (N := some 120) (v := ?_) (a' := ?_) (mk_ 21 7799) rfl rfl (an_ HT_.out) (fun _ _ _ h => h) (Or.inl ⟨by rfl, ?_⟩) ?_ ?_
        rotate_left; (intro w'; go_simp; with_reducible rfl); rotate_left; (simp only [Act.put, sp1_, sp2_]; rfl)
        refine pure_ (i := 14) (N := some 122) (v := ?_) (a' := ?_) (mk_ 21 24183) rfl rfl (an_ HT_.out) (fun _ _ _ h => h) (Or.inl ⟨by rfl, ?_⟩) ?_ ?_
        rotate_left; (intro w'; go_simp; with_reducible rfl); rotate_left; (simp only [Act.put, sp1_, sp2_]; rfl)
        refine pure_ (i := 15) (N := some 123) (v := ?_) (a' := ?_) (mk_ 21 56951) rfl rfl (an_ HT_.out) (fun _ _ _ h => h) (Or.inl ⟨by rfl, ?_⟩) ?_ ?_
        rotate_left; (intro w'; go_simp; with_reducible rfl); rotate_left; (simp only [Act.put, sp1_, sp2_]; rfl)
        refine take_ (i := 3) (N := some 111) (v := ?_) (a' := ?_) (mk_ 21 56959) rfl rfl (take_ofW HT_.out HW_.out (by kernel_rfl)) (fun _ _ _ h => h) (Or.inl ⟨by rfl, ?_⟩) hHeld ?_ ?_
        rotate_left
        ·rintro w' ⟨s0, s1, s2, s3, s4, s5, s6, s7, s8, s9, s10⟩
         go_simp
         with_reducible rfl
        rotate_left; (simp only [Act.put, sp1_, sp2_]; rfl)
        refine take_ (i := 7) (N := some 115) (v := ?_) (a' := ?_) (mk_ 21 57087) rfl rfl (take_ofW HT_.out HW_.out (by kernel_rfl)) (fun _ _ _ h => h) (Or.inl ⟨by rfl, ?_⟩) hHeld ?_ ?_
        rotate_left
        ·rintro w' ⟨s0, s1, s2, s3, s4, s5, s6, s7, s8, s9, s10⟩
         go_simp
         with_reducible rfl
        rotate_left; (simp only [Act.put, sp1_, sp2_]; rfl)
        refine take_ (i := 13) (N := some 121) (v := ?_) (a' := ?_) (mk_ 21 65279) rfl rfl (take_ofW HT_.out HW_.out (by kernel_rfl)) (fun _ _ _ h => h) (Or.inl ⟨by rfl, ?_⟩) hHeld ?_ ?_
        rotate_left
        ·rintro w' ⟨s0, s1, s2, s3, s4, s5, s6, s7, s8, s9, s10⟩
         go_simp
         with_reducible rfl
        rotate_left; (simp only [Act.put, sp1_, sp2_]; rfl)
        refine pure_ (i := 16) (N := some 124) (v := ?_) (a' := ?_) (mk_ 21 130815) rfl rfl (an_ HT_.out) (fun _ _ _ h => h) (Or.inl ⟨by rfl, ?_⟩) ?_ ?_
        rotate_left; (intro w'; go_simp; with_reducible rfl); rotate_left; (simp only [Act.put, sp1_, sp2_]; rfl)
        refine pure_ (i := 17) (N := some 125) (v := ?_) (a' := ?_) (mk_ 21 261887) rfl rfl (an_ HT_.out) (fun _ _ _ h => h) (Or.inl ⟨by rfl, ?_⟩) ?_ ?_
        rotate_left; (intro w'; go_simp; with_reducible rfl); rotate_left; (simp only [Act.put, sp1_, sp2_]; rfl)
        refine take_ (i := 18) (N := some 126) (v := ?_) (a' := ?_) (mk_ 21 524031) rfl rfl (take_ofW HT_.out HW_.out (by kernel_rfl)) (fun _ _ _ h => h) (Or.inl ⟨by rfl, ?_⟩) hHeld ?_ ?_
        rotate_left
        ·rintro w' ⟨s0, s1, s2, s3, s4, s5, s6, s7, s8, s9, s10⟩
         go_simp
         with_reducible rfl
        rotate_left; (simp only [Act.put, sp1_, sp2_]; rfl)
        refine one_ (i := 8) (N := some 116) (mk_ 21 524287) rfl rfl (one_of HT_.out (by kernel_rfl)) (by decide) (fun K hK => ?_)
        refine goes_ Tryd.func43 (by kernel_rfl) rfl #[.agg #[.int .i64 ((rd_T24 l0 a3).f0), .string ((rd_T24 l0 a3).f1), .int .i64 ((rd_T24 l0 a3).f2), .slice A169_3 ((rd_T24 l0 a3).f3).length c169_3], .agg #[.int .i64 ((rd_T24 l1 a4).f0), .string ((rd_T24 l1 a4).f1), .int .i64 ((rd_T24 l1 a4).f2), .slice A170_3 ((rd_T24 l1 a4).f3).length c170_3]] (by rfl) rfl rfl (by (try simp only [List.map_toArray, List.map_cons, List.map_nil]); first | done | rfl | (simp only [List.length_drop, List.length_take]; rfl)) ?_
        with_reducible refine (ih_43 kj5 (by have := HJ5.out; omega) ((rd_T24 l0 a3).f0) ((rd_T24 l0 a3).f1) ((rd_T24 l0 a3).f2) _ _ ((rd_T24 l0 a3).f3) ((rd_T24 l1 a4).f0) ((rd_T24 l1 a4).f1) ((rd_T24 l1 a4).f2) _ _ ((rd_T24 l1 a4).f3) t171 _ ?side1 ?side2 ?side3 ?side4 A54.out).mono ?_
        (case side1 => exact kc_ HR169_3.out HB.out)
        (case side2 => exact HC169_3.out)
        (case side3 => exact kc_ HR170_3.out HB.out)
        (case side4 => exact HC170_3.out)
        rintro e w83 ⟨rfl, hb⟩
        refine ⟨_, rfl, ?_⟩
        have n0_ := Aside0.mk (blk_below (g := gb148) (o := .cells #[.int .i64 0, .bool false] 47 (0, 0)) (bk_ BK148.out) hb)
        have n1_ := Aside0.mk (blk_below (g := gb165) (o := .cells #[.int .i64 ji51, .bool false] 47 (0, 0)) (bk_ BK165.out) hb)
        have n2_ := Aside0.mk (below_step (bs2_ HB.out GE148.out GE165.out) hb)
        clear BK148; clear BK165; clear HB
        have BK148 := n0_
        have BK165 := n1_
        have HB := n2_
        clear n0_ n1_ n2_
        (try clear hb)
        (try clear hb2)
        (try clear hk)
        (try clear hi)
        refine hK.out _ _ ⟨(ck_ HB.out hw169_0), (ck_ HB.out hw169_1), (ck_ HB.out hw169_2), (ck_ HB.out hw169_3), (ck_ HB.out hw170_0), (ck_ HB.out hw170_1), (ck_ HB.out hw170_2), (ck_ HB.out hw170_3), (ck_ HB.out hw172_0), (ck_ HB.out hw173_0), (ck_ HB.out hw173_1)⟩ (fun hHeld => ?_)
        clear hK K
        refine norm_ (a' := ?_) ?_ ?_
        rotate_left
        ·show Act.put _ (some 116) _ = _
         simp only [Act.put, sp1_, sp2_]
         rfl
        refine pure_ (i := 19) (N := some 127) (v := ?_) (a' := ?_) (mk_ 21 1048575) rfl rfl (an_ HT_.out) (fun _ _ _ h => h) (Or.inl ⟨by rfl, ?_⟩) ?_ ?_
        rotate_left; (intro w'; go_simp; with_reducible rfl); rotate_left; (simp only [Act.put, sp1_, sp2_]; rfl)
        refine pure_ (i := 20) (N := some 12) (v := ?_) (a' := ?_) (mk_ 21 2097151) rfl rfl (an_ HT_.out) (fun _ _ _ h => h) (Or.inl ⟨by rfl, ?_⟩) ?_ ?_
        rotate_left; (intro w'; go_simp; with_reducible rfl); rotate_left; (simp only [Act.put, sp1_, sp2_]; rfl)
        refine done_ (done_of HT_.out (by kernel_rfl)) ?_
        have hnb84 := NB165_148.out
        have hnc84 := NB148_165.out
        have hcz85_0 : w83.cell? ⟨gb165, 0, none⟩ = some (.int .i64 ji51) := (blk_cell BK165.out 0).trans rfl
        have hcz85_1 : w83.cell? ⟨gb165, 1, none⟩ = some (.bool false) := (blk_cell BK165.out 1).trans rfl
        have hfz85_0 := blk_frozen BK165.out 0
        have hfz85_1 := blk_frozen BK165.out 1
        have hcz86_0 : w83.cell? ⟨gb148, 0, none⟩ = some (.int .i64 0) := (blk_cell BK148.out 0).trans rfl
        have hcz86_1 : w83.cell? ⟨gb148, 1, none⟩ = some (.bool false) := (blk_cell BK148.out 1).trans rfl
        have hfz86_0 := blk_frozen BK148.out 0
        have hfz86_1 := blk_frozen BK148.out 1
        try go_wp2
        refine bodyPost_ret (results_cell_row rfl _ _ gb148 47 #[.int .i64 ji51, .bool false] (0, 0) _ rfl (by (with_reducible repeat (first | refine blk_drewN ?_ _ | refine blk_drew ?_ | refine blk_alloc ?_ _)); refine blk_put (cs := #[.int .i64 ji51, .bool false]) ?_ 1 _ rfl; (with_reducible repeat (first | refine blk_drewN ?_ _ | refine blk_drew ?_ | refine blk_alloc ?_ _)); refine blk_put (cs := #[.int .i64 0, .bool false]) ?_ 0 _ rfl; (with_reducible repeat (first | refine blk_drewN ?_ _ | refine blk_drew ?_ | refine blk_alloc ?_ _)); exact BK148.out) Tryd.underlying47 rfl (by kernel_rfl)) rfl ?_
        exact ⟨by first | rfl | (simp [errW_none, errW_some] <;> rfl) | (simp only [← hji40, ← hji48, ← hji51]; first | rfl | (simp [errW_none, errW_some] <;> rfl)) | (simp [*, errW_none, errW_some] <;> rfl), bs2_ HB.out GE148.out GE165.out⟩
      ·replace c53 := Bool.eq_false_iff.mpr c53
       subst c53
       have H1 : (some (ji51, false)) = some (r1, r2) := by rw [if_neg (show ¬ (false = true) by decide)] at H; exact H
       clear H
       have H := H1
       clear H1
       simp only [Option.some.injEq, Prod.mk.injEq] at H
       obtain ⟨rfl, rfl⟩ := H
       try go_wp2
       have n0_ := Aside0.mk (blk_drew BK148.out)
       have n1_ := Aside0.mk (below_drew1 HB.out)
       clear BK148; clear HB
       have BK148 := n0_
       have HB := n1_
       clear n0_ n1_
       have p157 : 0 ≤ (a3 : Int) := of_decide_eq_true (by first | (with_reducible assumption) | assumption)
       have q157 : a3 < (l0.length : Int) := of_decide_eq_true (by first | (with_reducible assumption) | assumption)
       obtain ⟨ad157, A157_3, c157_3, e157, hx157_0, hx157_1, hx157_2, hx157_3, hl157_3, hi157_3⟩ := at_T24 HR0.out a3 p157 q157
       have hw157_3 := hx157_3
       have hw157_2 := hx157_2
       have hw157_1 := hx157_1
       have hw157_0 := hx157_0
       cases e157
       replace hx157_0 := (cl_ HB.out hx157_0).trans hx157_0
       replace hx157_1 := (cl_ HB.out hx157_1).trans hx157_1
       replace hx157_2 := (cl_ HB.out hx157_2).trans hx157_2
       replace hx157_3 := (cl_ HB.out hx157_3).trans hx157_3
       have HR157_3 := Aside0.mk hi157_3
       have HC157_3 := Aside0.mk hl157_3
       clear hi157_3 hl157_3
       replace p157 := eq_true p157
       replace q157 := eq_true q157
       have p159 : 0 ≤ ((ji40) : Int) := of_decide_eq_true (by first | (with_reducible assumption) | assumption)
       have q159 : (ji40) < (l2.length : Int) := of_decide_eq_true (by first | (with_reducible assumption) | assumption)
       obtain ⟨ad159, A159_0, c159_0, e159, hx159_0, hl159_0, hi159_0⟩ := at_L5 HR2.out (ji40) p159 q159
       have hw159_0 := hx159_0
       cases e159
       replace hx159_0 := (cl_ HB.out hx159_0).trans hx159_0
       have HR159_0 := Aside0.mk hi159_0
       have HC159_0 := Aside0.mk hl159_0
       clear hi159_0 hl159_0
       replace p159 := eq_true p159
       replace q159 := eq_true q159
       have p160 : 0 ≤ (a4 : Int) := of_decide_eq_true (by first | (with_reducible assumption) | assumption)
       have q160 : a4 < ((rd_L5 l2 (ji40)).length : Int) := of_decide_eq_true (by first | (with_reducible assumption) | assumption)
       obtain ⟨ad160, e160, hx160_0, hx160_1⟩ := at_T47 HR159_0.out a4 p160 q160
       have hw160_1 := hx160_1
       have hw160_0 := hx160_0
       cases e160
       replace hx160_0 := (cl_ HB.out hx160_0).trans hx160_0
       replace hx160_1 := (cl_ HB.out hx160_1).trans hx160_1
       replace p160 := eq_true p160
       replace q160 := eq_true q160
       have p161 : 0 ≤ (a4 : Int) := of_decide_eq_true (by first | (with_reducible assumption) | assumption)
       have q161 : a4 < (l1.length : Int) := of_decide_eq_true (by first | (with_reducible assumption) | assumption)
       obtain ⟨ad161, A161_3, c161_3, e161, hx161_0, hx161_1, hx161_2, hx161_3, hl161_3, hi161_3⟩ := at_T24 HR1.out a4 p161 q161
       have hw161_3 := hx161_3
       have hw161_2 := hx161_2
       have hw161_1 := hx161_1
       have hw161_0 := hx161_0
       cases e161
       replace hx161_0 := (cl_ HB.out hx161_0).trans hx161_0
       replace hx161_1 := (cl_ HB.out hx161_1).trans hx161_1
       replace hx161_2 := (cl_ HB.out hx161_2).trans hx161_2
       replace hx161_3 := (cl_ HB.out hx161_3).trans hx161_3
       have HR161_3 := Aside0.mk hi161_3
       have HC161_3 := Aside0.mk hl161_3
       clear hi161_3 hl161_3
       replace p161 := eq_true p161
       replace q161 := eq_true q161
       have p163 : 0 ≤ (a3 : Int) := of_decide_eq_true (by first | (with_reducible assumption) | assumption)
       have q163 : a3 < (l2.length : Int) := of_decide_eq_true (by first | (with_reducible assumption) | assumption)
       obtain ⟨ad163, A163_0, c163_0, e163, hx163_0, hl163_0, hi163_0⟩ := at_L5 HR2.out a3 p163 q163
       have hw163_0 := hx163_0
       obtain rfl : ad159 = ad163 := (by injection e163)
       replace hx163_0 := (cl_ HB.out hx163_0).trans hx163_0
       have HR163_0 := Aside0.mk hi163_0
       have HC163_0 := Aside0.mk hl163_0
       clear hi163_0 hl163_0
       replace p163 := eq_true p163
       replace q163 := eq_true q163
       have p164 : 0 ≤ ((ji48) : Int) := of_decide_eq_true (by first | (with_reducible assumption) | assumption)
       have q164 : (ji48) < ((rd_L5 l2 a3).length : Int) := of_decide_eq_true (by first | (with_reducible assumption) | assumption)
       obtain ⟨ad164, e164, hx164_0, hx164_1⟩ := at_T47 HR163_0.out (ji48) p164 q164
       have hw164_1 := hx164_1
       have hw164_0 := hx164_0
       cases e164
       replace hx164_0 := (cl_ HB.out hx164_0).trans hx164_0
       replace hx164_1 := (cl_ HB.out hx164_1).trans hx164_1
       replace p164 := eq_true p164
       replace q164 := eq_true q164
       refine start_ (n := 34) (S := fun w' => w'.cell? (ad157.add ((a3).toNat * 4)) = some (.int .i64 ((rd_T24 l0 a3).f0)) ∧ w'.cell? ⟨(ad157.add ((a3).toNat * 4)).block, (ad157.add ((a3).toNat * 4)).off + 1, none⟩ = some (.string ((rd_T24 l0 a3).f1)) ∧ w'.cell? ⟨(ad157.add ((a3).toNat * 4)).block, (ad157.add ((a3).toNat * 4)).off + 2, none⟩ = some (.int .i64 ((rd_T24 l0 a3).f2)) ∧ w'.cell? ⟨(ad157.add ((a3).toNat * 4)).block, (ad157.add ((a3).toNat * 4)).off + 3, none⟩ = some (.slice A157_3 ((rd_T24 l0 a3).f3).length c157_3) ∧ w'.cell? (ad159.add ((ji40)).toNat) = some (.slice (some ad160) (rd_L5 l2 (ji40)).length c159_0) ∧ w'.cell? (ad160.add ((a4).toNat * 2)) = some (.int .i64 ((rd_T47 (rd_L5 l2 (ji40)) a4).f0)) ∧ w'.cell? ⟨(ad160.add ((a4).toNat * 2)).block, (ad160.add ((a4).toNat * 2)).off + 1, none⟩ = some (.bool ((rd_T47 (rd_L5 l2 (ji40)) a4).f1)) ∧ w'.cell? (ad161.add ((a4).toNat * 4)) = some (.int .i64 ((rd_T24 l1 a4).f0)) ∧ w'.cell? ⟨(ad161.add ((a4).toNat * 4)).block, (ad161.add ((a4).toNat * 4)).off + 1, none⟩ = some (.string ((rd_T24 l1 a4).f1)) ∧ w'.cell? ⟨(ad161.add ((a4).toNat * 4)).block, (ad161.add ((a4).toNat * 4)).off + 2, none⟩ = some (.int .i64 ((rd_T24 l1 a4).f2)) ∧ w'.cell? ⟨(ad161.add ((a4).toNat * 4)).block, (ad161.add ((a4).toNat * 4)).off + 3, none⟩ = some (.slice A161_3 ((rd_T24 l1 a4).f3).length c161_3) ∧ w'.cell? (ad159.add (a3).toNat) = some (.slice (some ad164) (rd_L5 l2 a3).length c163_0) ∧ w'.cell? (ad164.add (((ji48)).toNat * 2)) = some (.int .i64 ((rd_T47 (rd_L5 l2 a3) (ji48)).f0)) ∧ w'.cell? ⟨(ad164.add (((ji48)).toNat * 2)).block, (ad164.add (((ji48)).toNat * 2)).off + 1, none⟩ = some (.bool ((rd_T47 (rd_L5 l2 a3) (ji48)).f1))) (ds := []) #[false, false, false, false, false, false, false, false, false, false, false, false, false, false, false, false, false, false, false, false, false, false, false, false, false, false, false, false, false, false, false, false, false, false] (by kernel_rfl) rfl rfl ⟨(ck_ HB.out hw157_0), (ck_ HB.out hw157_1), (ck_ HB.out hw157_2), (ck_ HB.out hw157_3), (ck_ HB.out hw159_0), (ck_ HB.out hw160_0), (ck_ HB.out hw160_1), (ck_ HB.out hw161_0), (ck_ HB.out hw161_1), (ck_ HB.out hw161_2), (ck_ HB.out hw161_3), (ck_ HB.out hw163_0), (ck_ HB.out hw164_0), (ck_ HB.out hw164_1)⟩ (fun hHeld => ?_); refine with_tabW diff_best.tab7 diff_best.bits7 (fun HT_ HW_ => ?_)
       generalize wc.drew = w87 at BK148 HB HR157_3 HR159_0 HR161_3 HR163_0 hx157_0 hx157_1 hx157_2 hx157_3 hx159_0 hx160_0 hx160_1 hx161_0 hx161_1 hx161_2 hx161_3 hx163_0 hx164_0 hx164_1 hHeld ⊢
       refine pure_ (i := 0) (N := some 67) (v := ?_) (a' := ?_) (mk_ 34 1) rfl rfl (an_ HT_.out) (fun _ _ _ h => h) (Or.inl ⟨by rfl, ?_⟩) ?_ ?_
       rotate_left; (intro w'; go_simp; with_reducible rfl); rotate_left; (simp only [Act.put, sp1_, sp2_]; rfl)
       refine pure_ (i := 1) (N := some 68) (v := ?_) (a' := ?_) (mk_ 34 3) rfl rfl (an_ HT_.out) (fun _ _ _ h => h) (Or.inl ⟨by rfl, ?_⟩) ?_ ?_
       rotate_left; (intro w'; go_simp; with_reducible rfl); rotate_left; (simp only [Act.put, sp1_, sp2_]; rfl)
       refine pure_ (i := 2) (N := some 69) (v := ?_) (a' := ?_) (mk_ 34 7) rfl rfl (an_ HT_.out) (fun _ _ _ h => h) (Or.inl ⟨by rfl, ?_⟩) ?_ ?_
       rotate_left; (intro w'; go_simp; with_reducible rfl); rotate_left; (simp only [Act.put, sp1_, sp2_]; rfl)
       refine pure_ (i := 5) (N := some 72) (v := ?_) (a' := ?_) (mk_ 34 39) rfl rfl (an_ HT_.out) (fun _ _ _ h => h) (Or.inl ⟨by rfl, ?_⟩) ?_ ?_
       rotate_left; (intro w'; go_simp; with_reducible rfl); rotate_left; (simp only [Act.put, sp1_, sp2_]; rfl)
       refine pure_ (i := 6) (N := some 73) (v := ?_) (a' := ?_) (mk_ 34 103) rfl rfl (an_ HT_.out) (fun _ _ _ h => h) (Or.inl ⟨by rfl, ?_⟩) ?_ ?_
       rotate_left; (intro w'; go_simp; with_reducible rfl); rotate_left; (simp only [Act.put, sp1_, sp2_]; rfl)
       refine pure_ (i := 7) (N := some 74) (v := ?_) (a' := ?_) (mk_ 34 231) rfl rfl (an_ HT_.out) (fun _ _ _ h => h) (Or.inl ⟨by rfl, ?_⟩) ?_ ?_
       rotate_left; (intro w'; go_simp; with_reducible rfl); rotate_left; (simp only [Act.put, sp1_, sp2_]; rfl)
       refine pure_ (i := 8) (N := some 75) (v := ?_) (a' := ?_) (mk_ 34 487) rfl rfl (an_ HT_.out) (fun _ _ _ h => h) (Or.inl ⟨by rfl, ?_⟩) ?_ ?_
       rotate_left; (intro w'; go_simp; with_reducible rfl); rotate_left; (simp only [Act.put, sp1_, sp2_]; rfl)
       refine pure_ (i := 10) (N := some 77) (v := ?_) (a' := ?_) (mk_ 34 1511) rfl rfl (an_ HT_.out) (fun _ _ _ h => h) (Or.inl ⟨by rfl, ?_⟩) ?_ ?_
       rotate_left; (intro w'; go_simp; with_reducible rfl); rotate_left; (simp only [Act.put, sp1_, sp2_]; rfl)
       refine pure_ (i := 15) (N := some 82) (v := ?_) (a' := ?_) (mk_ 34 34279) rfl rfl (an_ HT_.out) (fun _ _ _ h => h) (Or.inl ⟨by rfl, ?_⟩) ?_ ?_
       rotate_left; (intro w'; go_simp; with_reducible rfl); rotate_left; (simp only [Act.put, sp1_, sp2_]; rfl)
       refine pure_ (i := 16) (N := some 83) (v := ?_) (a' := ?_) (mk_ 34 99815) rfl rfl (an_ HT_.out) (fun _ _ _ h => h) (Or.inl ⟨by rfl, ?_⟩) ?_ ?_
       rotate_left; (intro w'; go_simp; with_reducible rfl); rotate_left; (simp only [Act.put, sp1_, sp2_]; rfl)
       refine pure_ (i := 17) (N := some 84) (v := ?_) (a' := ?_) (mk_ 34 230887) rfl rfl (an_ HT_.out) (fun _ _ _ h => h) (Or.inl ⟨by rfl, ?_⟩) ?_ ?_
       rotate_left; (intro w'; go_simp; with_reducible rfl); rotate_left; (simp only [Act.put, sp1_, sp2_]; rfl)
       refine pure_ (i := 20) (N := some 87) (v := ?_) (a' := ?_) (mk_ 34 1279463) rfl rfl (an_ HT_.out) (fun _ _ _ h => h) (Or.inl ⟨by rfl, ?_⟩) ?_ ?_
       rotate_left; (intro w'; go_simp; with_reducible rfl); rotate_left; (simp only [Act.put, sp1_, sp2_]; rfl)
       refine pure_ (i := 21) (N := some 88) (v := ?_) (a' := ?_) (mk_ 34 3376615) rfl rfl (an_ HT_.out) (fun _ _ _ h => h) (Or.inl ⟨by rfl, ?_⟩) ?_ ?_
       rotate_left; (intro w'; go_simp; with_reducible rfl); rotate_left; (simp only [Act.put, sp1_, sp2_]; rfl)
       refine pure_ (i := 22) (N := some 89) (v := ?_) (a' := ?_) (mk_ 34 7570919) rfl rfl (an_ HT_.out) (fun _ _ _ h => h) (Or.inl ⟨by rfl, ?_⟩) ?_ ?_
       rotate_left; (intro w'; go_simp; with_reducible rfl); rotate_left; (simp only [Act.put, sp1_, sp2_]; rfl)
       refine pure_ (i := 24) (N := some 91) (v := ?_) (a' := ?_) (mk_ 34 24348135) rfl rfl (an_ HT_.out) (fun _ _ _ h => h) (Or.inl ⟨by rfl, ?_⟩) ?_ ?_
       rotate_left; (intro w'; go_simp; with_reducible rfl); rotate_left; (simp only [Act.put, sp1_, sp2_]; rfl)
       refine pure_ (i := 25) (N := some 92) (v := ?_) (a' := ?_) (mk_ 34 57902567) rfl rfl (an_ HT_.out) (fun _ _ _ h => h) (Or.inl ⟨by rfl, ?_⟩) ?_ ?_
       rotate_left; (intro w'; go_simp; with_reducible rfl); rotate_left; (simp only [Act.put, sp1_, sp2_]; rfl)
       refine take_ (i := 3) (N := some 70) (v := ?_) (a' := ?_) (mk_ 34 57902575) rfl rfl (take_ofW HT_.out HW_.out (by kernel_rfl)) (fun _ _ _ h => h) (Or.inl ⟨by rfl, ?_⟩) hHeld ?_ ?_
       rotate_left
       ·rintro w' ⟨s0, s1, s2, s3, s4, s5, s6, s7, s8, s9, s10, s11, s12, s13⟩
        go_simp
        with_reducible rfl
       rotate_left; (simp only [Act.put, sp1_, sp2_]; rfl)
       refine take_ (i := 9) (N := some 76) (v := ?_) (a' := ?_) (mk_ 34 57903087) rfl rfl (take_ofW HT_.out HW_.out (by kernel_rfl)) (fun _ _ _ h => h) (Or.inl ⟨by rfl, ?_⟩) hHeld ?_ ?_
       rotate_left
       ·rintro w' ⟨s0, s1, s2, s3, s4, s5, s6, s7, s8, s9, s10, s11, s12, s13⟩
        go_simp
        with_reducible rfl
       rotate_left; (simp only [Act.put, sp1_, sp2_]; rfl)
       refine pure_ (i := 11) (N := some 78) (v := ?_) (a' := ?_) (mk_ 34 57905135) rfl rfl (an_ HT_.out) (fun _ _ _ h => h) (Or.inl ⟨by rfl, ?_⟩) ?_ ?_
       rotate_left; (intro w'; go_simp; with_reducible rfl); rotate_left; (simp only [Act.put, sp1_, sp2_]; rfl)
       refine pure_ (i := 12) (N := some 79) (v := ?_) (a' := ?_) (mk_ 34 57909231) rfl rfl (an_ HT_.out) (fun _ _ _ h => h) (Or.inl ⟨by rfl, ?_⟩) ?_ ?_
       rotate_left; (intro w'; go_simp; with_reducible rfl); rotate_left; (simp only [Act.put, sp1_, sp2_]; rfl)
       refine take_ (i := 13) (N := some 80) (v := ?_) (a' := ?_) (mk_ 34 57917423) rfl rfl (take_ofW HT_.out HW_.out (by kernel_rfl)) (fun _ _ _ h => h) (Or.inl ⟨by rfl, ?_⟩) hHeld ?_ ?_
       rotate_left
       ·rintro w' ⟨s0, s1, s2, s3, s4, s5, s6, s7, s8, s9, s10, s11, s12, s13⟩
        go_simp
        with_reducible rfl
       rotate_left; (simp only [Act.put, sp1_, sp2_]; rfl)
       refine take_ (i := 18) (N := some 85) (v := ?_) (a' := ?_) (mk_ 34 58179567) rfl rfl (take_ofW HT_.out HW_.out (by kernel_rfl)) (fun _ _ _ h => h) (Or.inl ⟨by rfl, ?_⟩) hHeld ?_ ?_
       rotate_left
       ·rintro w' ⟨s0, s1, s2, s3, s4, s5, s6, s7, s8, s9, s10, s11, s12, s13⟩
        go_simp
        with_reducible rfl
       rotate_left; (simp only [Act.put, sp1_, sp2_]; rfl)
       refine take_ (i := 23) (N := some 90) (v := ?_) (a' := ?_) (mk_ 34 66568175) rfl rfl (take_ofW HT_.out HW_.out (by kernel_rfl)) (fun _ _ _ h => h) (Or.inl ⟨by rfl, ?_⟩) hHeld ?_ ?_
       rotate_left
       ·rintro w' ⟨s0, s1, s2, s3, s4, s5, s6, s7, s8, s9, s10, s11, s12, s13⟩
        go_simp
        with_reducible rfl
       rotate_left; (simp only [Act.put, sp1_, sp2_]; rfl)
       refine pure_ (i := 26) (N := some 93) (v := ?_) (a' := ?_) (mk_ 34 133677039) rfl rfl (an_ HT_.out) (fun _ _ _ h => h) (Or.inl ⟨by rfl, ?_⟩) ?_ ?_
       rotate_left; (intro w'; go_simp; with_reducible rfl); rotate_left; (simp only [Act.put, sp1_, sp2_]; rfl)
       refine pure_ (i := 27) (N := some 94) (v := ?_) (a' := ?_) (mk_ 34 267894767) rfl rfl (an_ HT_.out) (fun _ _ _ h => h) (Or.inl ⟨by rfl, ?_⟩) ?_ ?_
       rotate_left; (intro w'; go_simp; with_reducible rfl); rotate_left; (simp only [Act.put, sp1_, sp2_]; rfl)
       refine take_ (i := 28) (N := some 95) (v := ?_) (a' := ?_) (mk_ 34 536330223) rfl rfl (take_ofW HT_.out HW_.out (by kernel_rfl)) (fun _ _ _ h => h) (Or.inl ⟨by rfl, ?_⟩) hHeld ?_ ?_
       rotate_left
       ·rintro w' ⟨s0, s1, s2, s3, s4, s5, s6, s7, s8, s9, s10, s11, s12, s13⟩
        go_simp
        with_reducible rfl
       rotate_left; (simp only [Act.put, sp1_, sp2_]; rfl)
       refine join_ (σ := Nat) 1 #[true, true, true, true, true, true, true, true, true, true, true, true, true, true, true, true, true, true, true, true, true, true, true, true, true, true, true, true, true, true, true, true, true, false] (fun s_ => [(71, .int .i64 t158), (86, .int .i64 t162), (11, .pointer (some ⟨s_, 0, none⟩)), (81, .int .i64 (wrap64 (t158 + ((rd_T47 (rd_L5 l2 (ji40)) a4).f0)))), (96, .int .i64 (wrap64 (t162 + ((rd_T47 (rd_L5 l2 a3) (ji48)).f0)))), (97, .int .i64 ji51), (98, .agg #[.int .i64 ji51, .bool false])]) (fun s_ w' => (w'.cell? (ad157.add ((a3).toNat * 4)) = some (.int .i64 ((rd_T24 l0 a3).f0)) ∧ w'.cell? ⟨(ad157.add ((a3).toNat * 4)).block, (ad157.add ((a3).toNat * 4)).off + 1, none⟩ = some (.string ((rd_T24 l0 a3).f1)) ∧ w'.cell? ⟨(ad157.add ((a3).toNat * 4)).block, (ad157.add ((a3).toNat * 4)).off + 2, none⟩ = some (.int .i64 ((rd_T24 l0 a3).f2)) ∧ w'.cell? ⟨(ad157.add ((a3).toNat * 4)).block, (ad157.add ((a3).toNat * 4)).off + 3, none⟩ = some (.slice A157_3 ((rd_T24 l0 a3).f3).length c157_3) ∧ w'.cell? (ad159.add ((ji40)).toNat) = some (.slice (some ad160) (rd_L5 l2 (ji40)).length c159_0) ∧ w'.cell? (ad160.add ((a4).toNat * 2)) = some (.int .i64 ((rd_T47 (rd_L5 l2 (ji40)) a4).f0)) ∧ w'.cell? ⟨(ad160.add ((a4).toNat * 2)).block, (ad160.add ((a4).toNat * 2)).off + 1, none⟩ = some (.bool ((rd_T47 (rd_L5 l2 (ji40)) a4).f1)) ∧ w'.cell? (ad161.add ((a4).toNat * 4)) = some (.int .i64 ((rd_T24 l1 a4).f0)) ∧ w'.cell? ⟨(ad161.add ((a4).toNat * 4)).block, (ad161.add ((a4).toNat * 4)).off + 1, none⟩ = some (.string ((rd_T24 l1 a4).f1)) ∧ w'.cell? ⟨(ad161.add ((a4).toNat * 4)).block, (ad161.add ((a4).toNat * 4)).off + 2, none⟩ = some (.int .i64 ((rd_T24 l1 a4).f2)) ∧ w'.cell? ⟨(ad161.add ((a4).toNat * 4)).block, (ad161.add ((a4).toNat * 4)).off + 3, none⟩ = some (.slice A161_3 ((rd_T24 l1 a4).f3).length c161_3) ∧ w'.cell? (ad159.add (a3).toNat) = some (.slice (some ad164) (rd_L5 l2 a3).length c163_0) ∧ w'.cell? (ad164.add (((ji48)).toNat * 2)) = some (.int .i64 ((rd_T47 (rd_L5 l2 a3) (ji48)).f0)) ∧ w'.cell? ⟨(ad164.add (((ji48)).toNat * 2)).block, (ad164.add (((ji48)).toNat * 2)).off + 1, none⟩ = some (.bool ((rd_T47 (rd_L5 l2 a3) (ji48)).f1))) ∧ (w'.heap[gb148]? = some (.cells #[.int .i64 0, .bool false] 47 (0, 0))) ∧ (w'.heap[s_]? = some (.cells #[.int .i64 0, .bool false] 47 (0, 0))) ∧ (w.heap.size ≤ s_) ∧ (w.heap.size ≤ s_) ∧ (gb148 ≠ s_) ∧ (s_ ≠ gb148) ∧ (Below w.heap.size w w')) ?_ ?_
       rotate_left
       ·intro hCont
        refine two_ (i := 4) (j := 32) (Ni := some 71) (Nj := some 11) (mk_ 34 536330239) #[true, true, true, true, false, true, true, true, true, true, true, true, true, true, false, true, true, true, true, false, true, true, true, true, true, true, true, true, true, false, false, false, true, false] rfl rfl rfl rfl (two_of HT_.out (by kernel_rfl)) (by decide) (by decide) (fun K hK => ?_) (fun K hK => ?_)
        ·skip
         refine goes_ Tryd.func29 (by kernel_rfl) rfl #[.agg #[.int .i64 ((rd_T24 l0 a3).f0), .string ((rd_T24 l0 a3).f1), .int .i64 ((rd_T24 l0 a3).f2), .slice A157_3 ((rd_T24 l0 a3).f3).length c157_3]] (by rfl) rfl rfl (by (try simp only [List.map_toArray, List.map_cons, List.map_nil]); first | done | rfl | (simp only [List.length_drop, List.length_take]; rfl)) ?_
         with_reducible refine (node_Count.calls kj5 ((rd_T24 l0 a3).f0) ((rd_T24 l0 a3).f1) ((rd_T24 l0 a3).f2) _ _ ((rd_T24 l0 a3).f3) t158 _ ?side1 ?side2 A39.out).mono ?_
         (case side1 => exact kc_ HR157_3.out HB.out)
         (case side2 => exact HC157_3.out)
         rintro e w88 ⟨rfl, hb⟩
         refine ⟨_, rfl, ?_⟩
         have n0_ := Aside0.mk (blk_below (g := gb148) (o := .cells #[.int .i64 0, .bool false] 47 (0, 0)) (bk_ BK148.out) hb)
         have n1_ := Aside0.mk (below_step (bs1_ HB.out GE148.out) hb)
         clear BK148; clear HB
         have BK148 := n0_
         have HB := n1_
         clear n0_ n1_
         (try clear hb)
         (try clear hb2)
         (try clear hk)
         (try clear hi)
         refine hK.out _ _ ⟨(ck_ HB.out hw157_0), (ck_ HB.out hw157_1), (ck_ HB.out hw157_2), (ck_ HB.out hw157_3), (ck_ HB.out hw159_0), (ck_ HB.out hw160_0), (ck_ HB.out hw160_1), (ck_ HB.out hw161_0), (ck_ HB.out hw161_1), (ck_ HB.out hw161_2), (ck_ HB.out hw161_3), (ck_ HB.out hw163_0), (ck_ HB.out hw164_0), (ck_ HB.out hw164_1)⟩ (fun hHeld => ?_)
         clear hK K
         refine norm_ (a' := ?_) ?_ ?_
         rotate_left
         ·show Act.put _ (some 71) _ = _
          simp only [Act.put, sp1_, sp2_]
          rfl
         refine pure_ (i := 14) (N := some 81) (v := ?_) (a' := ?_) (mk_ 34 536346623) rfl rfl (an_ HT_.out) (fun _ _ _ h => h) (Or.inl ⟨by rfl, ?_⟩) ?_ ?_
         rotate_left; (intro w'; go_simp; with_reducible rfl); rotate_left; (simp only [Act.put, sp1_, sp2_]; rfl)
         refine two_ (i := 19) (j := 32) (Ni := some 86) (Nj := some 11) (mk_ 34 536870911) #[true, true, true, true, true, true, true, true, true, true, true, true, true, true, true, true, true, true, true, false, true, true, true, true, true, true, true, true, true, false, false, false, true, false] rfl rfl rfl rfl (two_of HT_.out (by kernel_rfl)) (by decide) (by decide) (fun K hK => ?_) (fun K hK => ?_)
         ·skip
          refine goes_ Tryd.func29 (by kernel_rfl) rfl #[.agg #[.int .i64 ((rd_T24 l1 a4).f0), .string ((rd_T24 l1 a4).f1), .int .i64 ((rd_T24 l1 a4).f2), .slice A161_3 ((rd_T24 l1 a4).f3).length c161_3]] (by rfl) rfl rfl (by (try simp only [List.map_toArray, List.map_cons, List.map_nil]); first | done | rfl | (simp only [List.length_drop, List.length_take]; rfl)) ?_
          with_reducible refine (node_Count.calls kj5 ((rd_T24 l1 a4).f0) ((rd_T24 l1 a4).f1) ((rd_T24 l1 a4).f2) _ _ ((rd_T24 l1 a4).f3) t162 _ ?side1 ?side2 A46.out).mono ?_
          (case side1 => exact kc_ HR161_3.out HB.out)
          (case side2 => exact HC161_3.out)
          rintro e w89 ⟨rfl, hb⟩
          refine ⟨_, rfl, ?_⟩
          have n0_ := Aside0.mk (blk_below (g := gb148) (o := .cells #[.int .i64 0, .bool false] 47 (0, 0)) (bk_ BK148.out) hb)
          have n1_ := Aside0.mk (below_step (bs1_ HB.out GE148.out) hb)
          clear BK148; clear HB
          have BK148 := n0_
          have HB := n1_
          clear n0_ n1_
          (try clear hb)
          (try clear hb2)
          (try clear hk)
          (try clear hi)
          refine hK.out _ _ ⟨(ck_ HB.out hw157_0), (ck_ HB.out hw157_1), (ck_ HB.out hw157_2), (ck_ HB.out hw157_3), (ck_ HB.out hw159_0), (ck_ HB.out hw160_0), (ck_ HB.out hw160_1), (ck_ HB.out hw161_0), (ck_ HB.out hw161_1), (ck_ HB.out hw161_2), (ck_ HB.out hw161_3), (ck_ HB.out hw163_0), (ck_ HB.out hw164_0), (ck_ HB.out hw164_1)⟩ (fun hHeld => ?_)
          clear hK K
          refine norm_ (a' := ?_) ?_ ?_
          rotate_left
          ·show Act.put _ (some 86) _ = _
           simp only [Act.put, sp1_, sp2_]
           rfl
          refine pure_ (i := 29) (N := some 96) (v := ?_) (a' := ?_) (mk_ 34 1073741823) rfl rfl (an_ HT_.out) (fun _ _ _ h => h) (Or.inl ⟨by rfl, ?_⟩) ?_ ?_
          rotate_left; (intro w'; go_simp; with_reducible rfl); rotate_left; (simp only [Act.put, sp1_, sp2_]; rfl)
          refine pure_ (i := 30) (N := some 97) (v := ?_) (a' := ?_) (mk_ 34 2147483647) rfl rfl (an_ HT_.out) (fun _ _ _ h => h) (Or.inl ⟨by rfl, ?_⟩) ?_ ?_
          rotate_left; (intro w'; go_simp; with_reducible rfl); rotate_left; (simp only [Act.put, sp1_, sp2_]; rfl)
          refine pure_ (i := 31) (N := some 98) (v := ?_) (a' := ?_) (mk_ 34 4294967295) rfl rfl (an_ HT_.out) (fun _ _ _ h => h) (Or.inl ⟨by rfl, ?_⟩) ?_ ?_
          rotate_left; (intro w'; go_simp; with_reducible rfl); rotate_left; (simp only [Act.put, sp1_, sp2_]; rfl)
          refine one_ (i := 32) (N := some 11) (mk_ 34 8589934591) rfl rfl (one_of HT_.out (by kernel_rfl)) (by decide) (fun K hK => ?_)
          refine box_step ?hg (N := 11) ?hd (cs := #[.int .i64 0, .bool false]) (t := 47) ?hr ?_; (case hd => rfl); (case hg => rfl); (case hr => first | (go_simp; done) | (go_simp; rfl))
          intro gb165 hg w90 hbox hb
          have n0_ := Aside0.mk (blk_below (g := gb148) (o := .cells #[.int .i64 0, .bool false] 47 (0, 0)) (bk_ BK148.out) hb)
          have n1_ := Aside0.mk (below_step (bs1_ HB.out GE148.out) hb)
          have n2_ := Aside0.mk (hbox)
          have n3_ := Aside0.mk ((by rw [hg]; exact (below_size (bs1_ HB.out GE148.out)) : w.heap.size ≤ gb165))
          have n4_ := Aside0.mk ((by rw [hg]; exact (below_size (bs1_ HB.out GE148.out)) : w.heap.size ≤ gb165))
          have n5_ := Aside0.mk ((by rw [hg]; exact Nat.ne_of_lt (blk_lt (g := gb148) (o := .cells #[.int .i64 0, .bool false] 47 (0, 0)) (bk_ BK148.out)) : gb148 ≠ gb165))
          have n6_ := Aside0.mk ((by rw [hg]; exact Nat.ne_of_gt (blk_lt (g := gb148) (o := .cells #[.int .i64 0, .bool false] 47 (0, 0)) (bk_ BK148.out)) : gb165 ≠ gb148))
          clear BK148; clear HB
          have BK148 := n0_
          have HB := n1_
          have BK165 := n2_
          have GW165 := n3_
          have GE165 := n4_
          have NB148_165 := n5_
          have NB165_148 := n6_
          clear n0_ n1_ n2_ n3_ n4_ n5_ n6_; clear hb hbox hg
          refine hK.out _ _ ⟨(ck_ HB.out hw157_0), (ck_ HB.out hw157_1), (ck_ HB.out hw157_2), (ck_ HB.out hw157_3), (ck_ HB.out hw159_0), (ck_ HB.out hw160_0), (ck_ HB.out hw160_1), (ck_ HB.out hw161_0), (ck_ HB.out hw161_1), (ck_ HB.out hw161_2), (ck_ HB.out hw161_3), (ck_ HB.out hw163_0), (ck_ HB.out hw164_0), (ck_ HB.out hw164_1)⟩ (fun hHeld => ?_)
          clear hK K
          refine norm_ (a' := ?_) ?_ ?_
          rotate_left
          ·show Act.put _ (some 11) _ = _
           simp only [Act.put, sp1_, sp2_]
           rfl
          exact norm_ (by simp only [putAll, Act.put, List.setIfInBounds_toArray, List.set_cons_zero, List.set_cons_succ]) (hCont (gb165) _ ⟨hHeld, (bk_ BK148.out), (bk_ BK165.out), GW165.out, GE165.out, NB148_165.out, NB165_148.out, (bs2_ HB.out GE148.out GE165.out)⟩)
         ·skip
          refine box_step ?hg (N := 11) ?hd (cs := #[.int .i64 0, .bool false]) (t := 47) ?hr ?_; (case hd => rfl); (case hg => rfl); (case hr => first | (go_simp; done) | (go_simp; rfl))
          intro gb165 hg w89 hbox hb
          have n0_ := Aside0.mk (blk_below (g := gb148) (o := .cells #[.int .i64 0, .bool false] 47 (0, 0)) (bk_ BK148.out) hb)
          have n1_ := Aside0.mk (below_step (bs1_ HB.out GE148.out) hb)
          have n2_ := Aside0.mk (hbox)
          have n3_ := Aside0.mk ((by rw [hg]; exact (below_size (bs1_ HB.out GE148.out)) : w.heap.size ≤ gb165))
          have n4_ := Aside0.mk ((by rw [hg]; exact (below_size (bs1_ HB.out GE148.out)) : w.heap.size ≤ gb165))
          have n5_ := Aside0.mk ((by rw [hg]; exact Nat.ne_of_lt (blk_lt (g := gb148) (o := .cells #[.int .i64 0, .bool false] 47 (0, 0)) (bk_ BK148.out)) : gb148 ≠ gb165))
          have n6_ := Aside0.mk ((by rw [hg]; exact Nat.ne_of_gt (blk_lt (g := gb148) (o := .cells #[.int .i64 0, .bool false] 47 (0, 0)) (bk_ BK148.out)) : gb165 ≠ gb148))
          clear BK148; clear HB
          have BK148 := n0_
          have HB := n1_
          have BK165 := n2_
          have GW165 := n3_
          have GE165 := n4_
          have NB148_165 := n5_
          have NB165_148 := n6_
          clear n0_ n1_ n2_ n3_ n4_ n5_ n6_; clear hb hbox hg
          refine hK.out _ _ ⟨(ck_ HB.out hw157_0), (ck_ HB.out hw157_1), (ck_ HB.out hw157_2), (ck_ HB.out hw157_3), (ck_ HB.out hw159_0), (ck_ HB.out hw160_0), (ck_ HB.out hw160_1), (ck_ HB.out hw161_0), (ck_ HB.out hw161_1), (ck_ HB.out hw161_2), (ck_ HB.out hw161_3), (ck_ HB.out hw163_0), (ck_ HB.out hw164_0), (ck_ HB.out hw164_1)⟩ (fun hHeld => ?_)
          clear hK K
          refine norm_ (a' := ?_) ?_ ?_
          rotate_left
          ·show Act.put _ (some 11) _ = _
           simp only [Act.put, sp1_, sp2_]
           rfl
          refine one_ (i := 19) (N := some 86) (mk_ 34 4831838207) rfl rfl (one_of HT_.out (by kernel_rfl)) (by decide) (fun K hK => ?_)
          refine goes_ Tryd.func29 (by kernel_rfl) rfl #[.agg #[.int .i64 ((rd_T24 l1 a4).f0), .string ((rd_T24 l1 a4).f1), .int .i64 ((rd_T24 l1 a4).f2), .slice A161_3 ((rd_T24 l1 a4).f3).length c161_3]] (by rfl) rfl rfl (by (try simp only [List.map_toArray, List.map_cons, List.map_nil]); first | done | rfl | (simp only [List.length_drop, List.length_take]; rfl)) ?_
          with_reducible refine (node_Count.calls kj5 ((rd_T24 l1 a4).f0) ((rd_T24 l1 a4).f1) ((rd_T24 l1 a4).f2) _ _ ((rd_T24 l1 a4).f3) t162 _ ?side1 ?side2 A46.out).mono ?_
          (case side1 => exact kc_ HR161_3.out HB.out)
          (case side2 => exact HC161_3.out)
          rintro e w90 ⟨rfl, hb⟩
          refine ⟨_, rfl, ?_⟩
          have n0_ := Aside0.mk (blk_below (g := gb148) (o := .cells #[.int .i64 0, .bool false] 47 (0, 0)) (bk_ BK148.out) hb)
          have n1_ := Aside0.mk (blk_below (g := gb165) (o := .cells #[.int .i64 0, .bool false] 47 (0, 0)) (bk_ BK165.out) hb)
          have n2_ := Aside0.mk (below_step (bs2_ HB.out GE148.out GE165.out) hb)
          clear BK148; clear BK165; clear HB
          have BK148 := n0_
          have BK165 := n1_
          have HB := n2_
          clear n0_ n1_ n2_
          (try clear hb)
          (try clear hb2)
          (try clear hk)
          (try clear hi)
          refine hK.out _ _ ⟨(ck_ HB.out hw157_0), (ck_ HB.out hw157_1), (ck_ HB.out hw157_2), (ck_ HB.out hw157_3), (ck_ HB.out hw159_0), (ck_ HB.out hw160_0), (ck_ HB.out hw160_1), (ck_ HB.out hw161_0), (ck_ HB.out hw161_1), (ck_ HB.out hw161_2), (ck_ HB.out hw161_3), (ck_ HB.out hw163_0), (ck_ HB.out hw164_0), (ck_ HB.out hw164_1)⟩ (fun hHeld => ?_)
          clear hK K
          refine norm_ (a' := ?_) ?_ ?_
          rotate_left
          ·show Act.put _ (some 86) _ = _
           simp only [Act.put, sp1_, sp2_]
           rfl
          refine pure_ (i := 29) (N := some 96) (v := ?_) (a' := ?_) (mk_ 34 5368709119) rfl rfl (an_ HT_.out) (fun _ _ _ h => h) (Or.inl ⟨by rfl, ?_⟩) ?_ ?_
          rotate_left; (intro w'; go_simp; with_reducible rfl); rotate_left; (simp only [Act.put, sp1_, sp2_]; rfl)
          refine pure_ (i := 30) (N := some 97) (v := ?_) (a' := ?_) (mk_ 34 6442450943) rfl rfl (an_ HT_.out) (fun _ _ _ h => h) (Or.inl ⟨by rfl, ?_⟩) ?_ ?_
          rotate_left; (intro w'; go_simp; with_reducible rfl); rotate_left; (simp only [Act.put, sp1_, sp2_]; rfl)
          refine pure_ (i := 31) (N := some 98) (v := ?_) (a' := ?_) (mk_ 34 8589934591) rfl rfl (an_ HT_.out) (fun _ _ _ h => h) (Or.inl ⟨by rfl, ?_⟩) ?_ ?_
          rotate_left; (intro w'; go_simp; with_reducible rfl); rotate_left; (simp only [Act.put, sp1_, sp2_]; rfl)
          exact norm_ (by simp only [putAll, Act.put, List.setIfInBounds_toArray, List.set_cons_zero, List.set_cons_succ]) (hCont (gb165) _ ⟨hHeld, (bk_ BK148.out), (bk_ BK165.out), GW165.out, GE165.out, NB148_165.out, NB165_148.out, (bs2_ HB.out GE148.out GE165.out)⟩)
        ·skip
         refine box_step ?hg (N := 11) ?hd (cs := #[.int .i64 0, .bool false]) (t := 47) ?hr ?_; (case hd => rfl); (case hg => rfl); (case hr => first | (go_simp; done) | (go_simp; rfl))
         intro gb165 hg w88 hbox hb
         have n0_ := Aside0.mk (blk_below (g := gb148) (o := .cells #[.int .i64 0, .bool false] 47 (0, 0)) (bk_ BK148.out) hb)
         have n1_ := Aside0.mk (below_step (bs1_ HB.out GE148.out) hb)
         have n2_ := Aside0.mk (hbox)
         have n3_ := Aside0.mk ((by rw [hg]; exact (below_size (bs1_ HB.out GE148.out)) : w.heap.size ≤ gb165))
         have n4_ := Aside0.mk ((by rw [hg]; exact (below_size (bs1_ HB.out GE148.out)) : w.heap.size ≤ gb165))
         have n5_ := Aside0.mk ((by rw [hg]; exact Nat.ne_of_lt (blk_lt (g := gb148) (o := .cells #[.int .i64 0, .bool false] 47 (0, 0)) (bk_ BK148.out)) : gb148 ≠ gb165))
         have n6_ := Aside0.mk ((by rw [hg]; exact Nat.ne_of_gt (blk_lt (g := gb148) (o := .cells #[.int .i64 0, .bool false] 47 (0, 0)) (bk_ BK148.out)) : gb165 ≠ gb148))
         clear BK148; clear HB
         have BK148 := n0_
         have HB := n1_
         have BK165 := n2_
         have GW165 := n3_
         have GE165 := n4_
         have NB148_165 := n5_
         have NB165_148 := n6_
         clear n0_ n1_ n2_ n3_ n4_ n5_ n6_; clear hb hbox hg
         refine hK.out _ _ ⟨(ck_ HB.out hw157_0), (ck_ HB.out hw157_1), (ck_ HB.out hw157_2), (ck_ HB.out hw157_3), (ck_ HB.out hw159_0), (ck_ HB.out hw160_0), (ck_ HB.out hw160_1), (ck_ HB.out hw161_0), (ck_ HB.out hw161_1), (ck_ HB.out hw161_2), (ck_ HB.out hw161_3), (ck_ HB.out hw163_0), (ck_ HB.out hw164_0), (ck_ HB.out hw164_1)⟩ (fun hHeld => ?_)
         clear hK K
         refine norm_ (a' := ?_) ?_ ?_
         rotate_left
         ·show Act.put _ (some 11) _ = _
          simp only [Act.put, sp1_, sp2_]
          rfl
         refine one_ (i := 4) (N := some 71) (mk_ 34 4831297535) rfl rfl (one_of HT_.out (by kernel_rfl)) (by decide) (fun K hK => ?_)
         refine goes_ Tryd.func29 (by kernel_rfl) rfl #[.agg #[.int .i64 ((rd_T24 l0 a3).f0), .string ((rd_T24 l0 a3).f1), .int .i64 ((rd_T24 l0 a3).f2), .slice A157_3 ((rd_T24 l0 a3).f3).length c157_3]] (by rfl) rfl rfl (by (try simp only [List.map_toArray, List.map_cons, List.map_nil]); first | done | rfl | (simp only [List.length_drop, List.length_take]; rfl)) ?_
         with_reducible refine (node_Count.calls kj5 ((rd_T24 l0 a3).f0) ((rd_T24 l0 a3).f1) ((rd_T24 l0 a3).f2) _ _ ((rd_T24 l0 a3).f3) t158 _ ?side1 ?side2 A39.out).mono ?_
         (case side1 => exact kc_ HR157_3.out HB.out)
         (case side2 => exact HC157_3.out)
         rintro e w89 ⟨rfl, hb⟩
         refine ⟨_, rfl, ?_⟩
         have n0_ := Aside0.mk (blk_below (g := gb148) (o := .cells #[.int .i64 0, .bool false] 47 (0, 0)) (bk_ BK148.out) hb)
         have n1_ := Aside0.mk (blk_below (g := gb165) (o := .cells #[.int .i64 0, .bool false] 47 (0, 0)) (bk_ BK165.out) hb)
         have n2_ := Aside0.mk (below_step (bs2_ HB.out GE148.out GE165.out) hb)
         clear BK148; clear BK165; clear HB
         have BK148 := n0_
         have BK165 := n1_
         have HB := n2_
         clear n0_ n1_ n2_
         (try clear hb)
         (try clear hb2)
         (try clear hk)
         (try clear hi)
         refine hK.out _ _ ⟨(ck_ HB.out hw157_0), (ck_ HB.out hw157_1), (ck_ HB.out hw157_2), (ck_ HB.out hw157_3), (ck_ HB.out hw159_0), (ck_ HB.out hw160_0), (ck_ HB.out hw160_1), (ck_ HB.out hw161_0), (ck_ HB.out hw161_1), (ck_ HB.out hw161_2), (ck_ HB.out hw161_3), (ck_ HB.out hw163_0), (ck_ HB.out hw164_0), (ck_ HB.out hw164_1)⟩ (fun hHeld => ?_)
         clear hK K
         refine norm_ (a' := ?_) ?_ ?_
         rotate_left
         ·show Act.put _ (some 71) _ = _
          simp only [Act.put, sp1_, sp2_]
          rfl
         refine pure_ (i := 14) (N := some 81) (v := ?_) (a' := ?_) (mk_ 34 4831313919) rfl rfl (an_ HT_.out) (fun _ _ _ h => h) (Or.inl ⟨by rfl, ?_⟩) ?_ ?_
         rotate_left; (intro w'; go_simp; with_reducible rfl); rotate_left; (simp only [Act.put, sp1_, sp2_]; rfl)
         refine one_ (i := 19) (N := some 86) (mk_ 34 4831838207) rfl rfl (one_of HT_.out (by kernel_rfl)) (by decide) (fun K hK => ?_)
         refine goes_ Tryd.func29 (by kernel_rfl) rfl #[.agg #[.int .i64 ((rd_T24 l1 a4).f0), .string ((rd_T24 l1 a4).f1), .int .i64 ((rd_T24 l1 a4).f2), .slice A161_3 ((rd_T24 l1 a4).f3).length c161_3]] (by rfl) rfl rfl (by (try simp only [List.map_toArray, List.map_cons, List.map_nil]); first | done | rfl | (simp only [List.length_drop, List.length_take]; rfl)) ?_
         with_reducible refine (node_Count.calls kj5 ((rd_T24 l1 a4).f0) ((rd_T24 l1 a4).f1) ((rd_T24 l1 a4).f2) _ _ ((rd_T24 l1 a4).f3) t162 _ ?side1 ?side2 A46.out).mono ?_
         (case side1 => exact kc_ HR161_3.out HB.out)
         (case side2 => exact HC161_3.out)
         rintro e w90 ⟨rfl, hb⟩
         refine ⟨_, rfl, ?_⟩
         have n0_ := Aside0.mk (blk_below (g := gb148) (o := .cells #[.int .i64 0, .bool false] 47 (0, 0)) (bk_ BK148.out) hb)
         have n1_ := Aside0.mk (blk_below (g := gb165) (o := .cells #[.int .i64 0, .bool false] 47 (0, 0)) (bk_ BK165.out) hb)
         have n2_ := Aside0.mk (below_step (bs2_ HB.out GE148.out GE165.out) hb)
         clear BK148; clear BK165; clear HB
         have BK148 := n0_
         have BK165 := n1_
         have HB := n2_
         clear n0_ n1_ n2_
         (try clear hb)
         (try clear hb2)
         (try clear hk)
         (try clear hi)
         refine hK.out _ _ ⟨(ck_ HB.out hw157_0), (ck_ HB.out hw157_1), (ck_ HB.out hw157_2), (ck_ HB.out hw157_3), (ck_ HB.out hw159_0), (ck_ HB.out hw160_0), (ck_ HB.out hw160_1), (ck_ HB.out hw161_0), (ck_ HB.out hw161_1), (ck_ HB.out hw161_2), (ck_ HB.out hw161_3), (ck_ HB.out hw163_0), (ck_ HB.out hw164_0), (ck_ HB.out hw164_1)⟩ (fun hHeld => ?_)
         clear hK K
         refine norm_ (a' := ?_) ?_ ?_
         rotate_left
         ·show Act.put _ (some 86) _ = _
          simp only [Act.put, sp1_, sp2_]
          rfl
         refine pure_ (i := 29) (N := some 96) (v := ?_) (a' := ?_) (mk_ 34 5368709119) rfl rfl (an_ HT_.out) (fun _ _ _ h => h) (Or.inl ⟨by rfl, ?_⟩) ?_ ?_
         rotate_left; (intro w'; go_simp; with_reducible rfl); rotate_left; (simp only [Act.put, sp1_, sp2_]; rfl)
         refine pure_ (i := 30) (N := some 97) (v := ?_) (a' := ?_) (mk_ 34 6442450943) rfl rfl (an_ HT_.out) (fun _ _ _ h => h) (Or.inl ⟨by rfl, ?_⟩) ?_ ?_
         rotate_left; (intro w'; go_simp; with_reducible rfl); rotate_left; (simp only [Act.put, sp1_, sp2_]; rfl)
         refine pure_ (i := 31) (N := some 98) (v := ?_) (a' := ?_) (mk_ 34 8589934591) rfl rfl (an_ HT_.out) (fun _ _ _ h => h) (Or.inl ⟨by rfl, ?_⟩) ?_ ?_
         rotate_left; (intro w'; go_simp; with_reducible rfl); rotate_left; (simp only [Act.put, sp1_, sp2_]; rfl)
         exact norm_ (by simp only [putAll, Act.put, List.setIfInBounds_toArray, List.set_cons_zero, List.set_cons_succ]) (hCont (gb165) _ ⟨hHeld, (bk_ BK148.out), (bk_ BK165.out), GW165.out, GE165.out, NB148_165.out, NB165_148.out, (bs2_ HB.out GE148.out GE165.out)⟩)
       rintro gb165 w91 ⟨hS_, h0_, h1_, h2_, h3_, h4_, h5_, h6_⟩
       have n0_ : Aside0 (w91.heap[gb148]? = some (.cells #[.int .i64 0, .bool false] 47 (0, 0))) := ⟨h0_⟩
       have n1_ : Aside0 (w91.heap[gb165]? = some (.cells #[.int .i64 0, .bool false] 47 (0, 0))) := ⟨h1_⟩
       have n2_ : Aside0 (w.heap.size ≤ gb165) := ⟨h2_⟩
       have n3_ : Aside0 (w.heap.size ≤ gb165) := ⟨h3_⟩
       have n4_ : Aside0 (gb148 ≠ gb165) := ⟨h4_⟩
       have n5_ : Aside0 (gb165 ≠ gb148) := ⟨h5_⟩
       have n6_ : Aside0 (Below w.heap.size w w91) := ⟨h6_⟩
       clear BK148; clear HB; clear h0_ h1_ h2_ h3_ h4_ h5_ h6_
       have BK148 := n0_
       have BK165 := n1_
       have GW165 := n2_
       have GE165 := n3_
       have NB148_165 := n4_
       have NB165_148 := n5_
       have HB := n6_
       clear n0_ n1_ n2_ n3_ n4_ n5_ n6_
       have hHeld : w91.cell? (ad157.add ((a3).toNat * 4)) = some (.int .i64 ((rd_T24 l0 a3).f0)) ∧ w91.cell? ⟨(ad157.add ((a3).toNat * 4)).block, (ad157.add ((a3).toNat * 4)).off + 1, none⟩ = some (.string ((rd_T24 l0 a3).f1)) ∧ w91.cell? ⟨(ad157.add ((a3).toNat * 4)).block, (ad157.add ((a3).toNat * 4)).off + 2, none⟩ = some (.int .i64 ((rd_T24 l0 a3).f2)) ∧ w91.cell? ⟨(ad157.add ((a3).toNat * 4)).block, (ad157.add ((a3).toNat * 4)).off + 3, none⟩ = some (.slice A157_3 ((rd_T24 l0 a3).f3).length c157_3) ∧ w91.cell? (ad159.add ((ji40)).toNat) = some (.slice (some ad160) (rd_L5 l2 (ji40)).length c159_0) ∧ w91.cell? (ad160.add ((a4).toNat * 2)) = some (.int .i64 ((rd_T47 (rd_L5 l2 (ji40)) a4).f0)) ∧ w91.cell? ⟨(ad160.add ((a4).toNat * 2)).block, (ad160.add ((a4).toNat * 2)).off + 1, none⟩ = some (.bool ((rd_T47 (rd_L5 l2 (ji40)) a4).f1)) ∧ w91.cell? (ad161.add ((a4).toNat * 4)) = some (.int .i64 ((rd_T24 l1 a4).f0)) ∧ w91.cell? ⟨(ad161.add ((a4).toNat * 4)).block, (ad161.add ((a4).toNat * 4)).off + 1, none⟩ = some (.string ((rd_T24 l1 a4).f1)) ∧ w91.cell? ⟨(ad161.add ((a4).toNat * 4)).block, (ad161.add ((a4).toNat * 4)).off + 2, none⟩ = some (.int .i64 ((rd_T24 l1 a4).f2)) ∧ w91.cell? ⟨(ad161.add ((a4).toNat * 4)).block, (ad161.add ((a4).toNat * 4)).off + 3, none⟩ = some (.slice A161_3 ((rd_T24 l1 a4).f3).length c161_3) ∧ w91.cell? (ad159.add (a3).toNat) = some (.slice (some ad164) (rd_L5 l2 a3).length c163_0) ∧ w91.cell? (ad164.add (((ji48)).toNat * 2)) = some (.int .i64 ((rd_T47 (rd_L5 l2 a3) (ji48)).f0)) ∧ w91.cell? ⟨(ad164.add (((ji48)).toNat * 2)).block, (ad164.add (((ji48)).toNat * 2)).off + 1, none⟩ = some (.bool ((rd_T47 (rd_L5 l2 a3) (ji48)).f1)) := hS_
       refine norm_ (a' := ?_) ?_ ?_
       rotate_left; (simp only [putAll, Act.put, List.setIfInBounds_toArray, List.set_cons_zero, List.set_cons_succ]; rfl)
       refine one_ (i := 33) (N := none) (mk_ 34 17179869183) rfl rfl (one_of HT_.out (by kernel_rfl)) (by decide) (fun K hK => ?_)
       have hs92 : w91.cell? ⟨gb165, 0, none⟩ = some (.int .i64 0) := (blk_cell BK165.out 0).trans rfl
       have hfs92 := blk_frozen BK165.out 0
       have hns92_0 := NB148_165.out
       have hms92_0 := NB165_148.out
       have hs93 : w91.cell? ⟨gb165, 1, none⟩ = some (.bool false) := (blk_cell BK165.out 1).trans rfl
       have hfs93 := blk_frozen BK165.out 1
       have hns93_0 := NB148_165.out
       have hms93_0 := NB165_148.out
       refine skip_ (w1 := ?_) (by rfl) rfl ?_ ?_
       rotate_left
       ·go_simp
        rfl
       refine hK.out _ _ ⟨((cf_ GW165.out hw157_0 _).trans (((cf_ GW165.out hw157_0 _).trans (hHeld.1)))), ((cf_ GW165.out hw157_1 _).trans (((cf_ GW165.out hw157_1 _).trans (hHeld.2.1)))), ((cf_ GW165.out hw157_2 _).trans (((cf_ GW165.out hw157_2 _).trans (hHeld.2.2.1)))), ((cf_ GW165.out hw157_3 _).trans (((cf_ GW165.out hw157_3 _).trans (hHeld.2.2.2.1)))), ((cf_ GW165.out hw159_0 _).trans (((cf_ GW165.out hw159_0 _).trans (hHeld.2.2.2.2.1)))), ((cf_ GW165.out hw160_0 _).trans (((cf_ GW165.out hw160_0 _).trans (hHeld.2.2.2.2.2.1)))), ((cf_ GW165.out hw160_1 _).trans (((cf_ GW165.out hw160_1 _).trans (hHeld.2.2.2.2.2.2.1)))), ((cf_ GW165.out hw161_0 _).trans (((cf_ GW165.out hw161_0 _).trans (hHeld.2.2.2.2.2.2.2.1)))), ((cf_ GW165.out hw161_1 _).trans (((cf_ GW165.out hw161_1 _).trans (hHeld.2.2.2.2.2.2.2.2.1)))), ((cf_ GW165.out hw161_2 _).trans (((cf_ GW165.out hw161_2 _).trans (hHeld.2.2.2.2.2.2.2.2.2.1)))), ((cf_ GW165.out hw161_3 _).trans (((cf_ GW165.out hw161_3 _).trans (hHeld.2.2.2.2.2.2.2.2.2.2.1)))), ((cf_ GW165.out hw163_0 _).trans (((cf_ GW165.out hw163_0 _).trans (hHeld.2.2.2.2.2.2.2.2.2.2.2.1)))), ((cf_ GW165.out hw164_0 _).trans (((cf_ GW165.out hw164_0 _).trans (hHeld.2.2.2.2.2.2.2.2.2.2.2.2.1)))), ((cf_ GW165.out hw164_1 _).trans (((cf_ GW165.out hw164_1 _).trans (hHeld.2.2.2.2.2.2.2.2.2.2.2.2.2))))⟩ (fun hHeld => ?_)
       clear hK K
       refine done_ (done_of HT_.out (by kernel_rfl)) ?_
       try go_wp2
       have n0_ : Aside0 (((w91.setCell ⟨gb165, 0, none⟩ (.int .i64 ji51)).setCell ⟨gb165, 1, none⟩ (.bool false)).heap[gb148]? = some (.cells #[.int .i64 0, .bool false] 47 (0, 0))) := ⟨by (with_reducible repeat (first | refine blk_drewN ?_ _ | refine blk_drew ?_ | refine blk_alloc ?_ _)); refine blk_far ?_ NB148_165.out _; (with_reducible repeat (first | refine blk_drewN ?_ _ | refine blk_drew ?_ | refine blk_alloc ?_ _)); refine blk_far ?_ NB148_165.out _; (with_reducible repeat (first | refine blk_drewN ?_ _ | refine blk_drew ?_ | refine blk_alloc ?_ _)); exact BK148.out⟩
       have n1_ : Aside0 (((w91.setCell ⟨gb165, 0, none⟩ (.int .i64 ji51)).setCell ⟨gb165, 1, none⟩ (.bool false)).heap[gb165]? = some (.cells #[.int .i64 ji51, .bool false] 47 (0, 0))) := ⟨by (with_reducible repeat (first | refine blk_drewN ?_ _ | refine blk_drew ?_ | refine blk_alloc ?_ _)); refine blk_put (cs := #[.int .i64 ji51, .bool false]) ?_ 1 _ rfl; (with_reducible repeat (first | refine blk_drewN ?_ _ | refine blk_drew ?_ | refine blk_alloc ?_ _)); refine blk_put (cs := #[.int .i64 0, .bool false]) ?_ 0 _ rfl; (with_reducible repeat (first | refine blk_drewN ?_ _ | refine blk_drew ?_ | refine blk_alloc ?_ _)); exact BK165.out⟩
       have n2_ : Aside0 (Below w.heap.size w ((w91.setCell ⟨gb165, 0, none⟩ (.int .i64 ji51)).setCell ⟨gb165, 1, none⟩ (.bool false))) := ⟨bs2_ HB.out GE148.out GE165.out⟩
       (try clear BK148)
       (try clear BK165)
       (try clear HB)
       generalize ((w91.setCell ⟨gb165, 0, none⟩ (.int .i64 ji51)).setCell ⟨gb165, 1, none⟩ (.bool false)) = w94 at n0_ n1_ n2_ ⊢
       have BK148 := n0_
       have BK165 := n1_
       have HB := n2_
       clear n0_ n1_ n2_
       have n0_ := Aside0.mk (blk_drew BK148.out)
       have n1_ := Aside0.mk (blk_drew BK165.out)
       have n2_ := Aside0.mk (below_drew1 HB.out)
       clear BK148; clear BK165; clear HB
       have BK148 := n0_
       have BK165 := n1_
       have HB := n2_
       clear n0_ n1_ n2_
       have p166 : 0 ≤ (a3 : Int) := of_decide_eq_true (by first | (with_reducible assumption) | assumption)
       have q166 : a3 < (l0.length : Int) := of_decide_eq_true (by first | (with_reducible assumption) | assumption)
       obtain ⟨ad166, A166_3, c166_3, e166, hx166_0, hx166_1, hx166_2, hx166_3, hl166_3, hi166_3⟩ := at_T24 HR0.out a3 p166 q166
       have hw166_3 := hx166_3
       have hw166_2 := hx166_2
       have hw166_1 := hx166_1
       have hw166_0 := hx166_0
       obtain rfl : ad157 = ad166 := (by injection e166)
       replace hx166_0 := (cl_ HB.out hx166_0).trans hx166_0
       replace hx166_1 := (cl_ HB.out hx166_1).trans hx166_1
       replace hx166_2 := (cl_ HB.out hx166_2).trans hx166_2
       replace hx166_3 := (cl_ HB.out hx166_3).trans hx166_3
       have HR166_3 := Aside0.mk hi166_3
       have HC166_3 := Aside0.mk hl166_3
       clear hi166_3 hl166_3
       replace p166 := eq_true p166
       replace q166 := eq_true q166
       have p167 : 0 ≤ (a4 : Int) := of_decide_eq_true (by first | (with_reducible assumption) | assumption)
       have q167 : a4 < (l1.length : Int) := of_decide_eq_true (by first | (with_reducible assumption) | assumption)
       obtain ⟨ad167, A167_3, c167_3, e167, hx167_0, hx167_1, hx167_2, hx167_3, hl167_3, hi167_3⟩ := at_T24 HR1.out a4 p167 q167
       have hw167_3 := hx167_3
       have hw167_2 := hx167_2
       have hw167_1 := hx167_1
       have hw167_0 := hx167_0
       obtain rfl : ad161 = ad167 := (by injection e167)
       replace hx167_0 := (cl_ HB.out hx167_0).trans hx167_0
       replace hx167_1 := (cl_ HB.out hx167_1).trans hx167_1
       replace hx167_2 := (cl_ HB.out hx167_2).trans hx167_2
       replace hx167_3 := (cl_ HB.out hx167_3).trans hx167_3
       have HR167_3 := Aside0.mk hi167_3
       have HC167_3 := Aside0.mk hl167_3
       clear hi167_3 hl167_3
       replace p167 := eq_true p167
       replace q167 := eq_true q167
       refine start_ (n := 9) (S := fun w' => w'.cell? (ad157.add ((a3).toNat * 4)) = some (.int .i64 ((rd_T24 l0 a3).f0)) ∧ w'.cell? ⟨(ad157.add ((a3).toNat * 4)).block, (ad157.add ((a3).toNat * 4)).off + 1, none⟩ = some (.string ((rd_T24 l0 a3).f1)) ∧ w'.cell? ⟨(ad157.add ((a3).toNat * 4)).block, (ad157.add ((a3).toNat * 4)).off + 2, none⟩ = some (.int .i64 ((rd_T24 l0 a3).f2)) ∧ w'.cell? ⟨(ad157.add ((a3).toNat * 4)).block, (ad157.add ((a3).toNat * 4)).off + 3, none⟩ = some (.slice A166_3 ((rd_T24 l0 a3).f3).length c166_3) ∧ w'.cell? (ad161.add ((a4).toNat * 4)) = some (.int .i64 ((rd_T24 l1 a4).f0)) ∧ w'.cell? ⟨(ad161.add ((a4).toNat * 4)).block, (ad161.add ((a4).toNat * 4)).off + 1, none⟩ = some (.string ((rd_T24 l1 a4).f1)) ∧ w'.cell? ⟨(ad161.add ((a4).toNat * 4)).block, (ad161.add ((a4).toNat * 4)).off + 2, none⟩ = some (.int .i64 ((rd_T24 l1 a4).f2)) ∧ w'.cell? ⟨(ad161.add ((a4).toNat * 4)).block, (ad161.add ((a4).toNat * 4)).off + 3, none⟩ = some (.slice A167_3 ((rd_T24 l1 a4).f3).length c167_3)) (ds := []) #[false, false, false, false, false, false, false, false, false] (by kernel_rfl) rfl rfl ⟨(ck_ HB.out hw166_0), (ck_ HB.out hw166_1), (ck_ HB.out hw166_2), (ck_ HB.out hw166_3), (ck_ HB.out hw167_0), (ck_ HB.out hw167_1), (ck_ HB.out hw167_2), (ck_ HB.out hw167_3)⟩ (fun hHeld => ?_); refine with_tabW diff_best.tab8 diff_best.bits8 (fun HT_ HW_ => ?_)
       generalize w94.drew = w95 at BK148 BK165 HB HR166_3 HR167_3 hx166_0 hx166_1 hx166_2 hx166_3 hx167_0 hx167_1 hx167_2 hx167_3 hHeld ⊢
       refine pure_ (i := 0) (N := some 99) (v := ?_) (a' := ?_) (mk_ 9 1) rfl rfl (an_ HT_.out) (fun _ _ _ h => h) (Or.inl ⟨by rfl, ?_⟩) ?_ ?_
       rotate_left; (intro w'; go_simp; with_reducible rfl); rotate_left; (simp only [Act.put, sp1_, sp2_]; rfl)
       refine pure_ (i := 1) (N := some 100) (v := ?_) (a' := ?_) (mk_ 9 3) rfl rfl (an_ HT_.out) (fun _ _ _ h => h) (Or.inl ⟨by rfl, ?_⟩) ?_ ?_
       rotate_left; (intro w'; go_simp; with_reducible rfl); rotate_left; (simp only [Act.put, sp1_, sp2_]; rfl)
       refine pure_ (i := 2) (N := some 101) (v := ?_) (a' := ?_) (mk_ 9 7) rfl rfl (an_ HT_.out) (fun _ _ _ h => h) (Or.inl ⟨by rfl, ?_⟩) ?_ ?_
       rotate_left; (intro w'; go_simp; with_reducible rfl); rotate_left; (simp only [Act.put, sp1_, sp2_]; rfl)
       refine pure_ (i := 4) (N := some 103) (v := ?_) (a' := ?_) (mk_ 9 23) rfl rfl (an_ HT_.out) (fun _ _ _ h => h) (Or.inl ⟨by rfl, ?_⟩) ?_ ?_
       rotate_left; (intro w'; go_simp; with_reducible rfl); rotate_left; (simp only [Act.put, sp1_, sp2_]; rfl)
       refine pure_ (i := 5) (N := some 104) (v := ?_) (a' := ?_) (mk_ 9 55) rfl rfl (an_ HT_.out) (fun _ _ _ h => h) (Or.inl ⟨by rfl, ?_⟩) ?_ ?_
       rotate_left; (intro w'; go_simp; with_reducible rfl); rotate_left; (simp only [Act.put, sp1_, sp2_]; rfl)
       refine pure_ (i := 6) (N := some 105) (v := ?_) (a' := ?_) (mk_ 9 119) rfl rfl (an_ HT_.out) (fun _ _ _ h => h) (Or.inl ⟨by rfl, ?_⟩) ?_ ?_
       rotate_left; (intro w'; go_simp; with_reducible rfl); rotate_left; (simp only [Act.put, sp1_, sp2_]; rfl)
       refine take_ (i := 3) (N := some 102) (v := ?_) (a' := ?_) (mk_ 9 127) rfl rfl (take_ofW HT_.out HW_.out (by kernel_rfl)) (fun _ _ _ h => h) (Or.inl ⟨by rfl, ?_⟩) hHeld ?_ ?_
       rotate_left
       ·rintro w' ⟨s0, s1, s2, s3, s4, s5, s6, s7⟩
        go_simp
        with_reducible rfl
       rotate_left; (simp only [Act.put, sp1_, sp2_]; rfl)
       refine take_ (i := 7) (N := some 106) (v := ?_) (a' := ?_) (mk_ 9 255) rfl rfl (take_ofW HT_.out HW_.out (by kernel_rfl)) (fun _ _ _ h => h) (Or.inl ⟨by rfl, ?_⟩) hHeld ?_ ?_
       rotate_left
       ·rintro w' ⟨s0, s1, s2, s3, s4, s5, s6, s7⟩
        go_simp
        with_reducible rfl
       rotate_left; (simp only [Act.put, sp1_, sp2_]; rfl)
       refine one_ (i := 8) (N := some 107) (mk_ 9 511) rfl rfl (one_of HT_.out (by kernel_rfl)) (by decide) (fun K hK => ?_)
       refine goes_ Tryd.func42 (by kernel_rfl) rfl #[.agg #[.int .i64 ((rd_T24 l0 a3).f0), .string ((rd_T24 l0 a3).f1), .int .i64 ((rd_T24 l0 a3).f2), .slice A166_3 ((rd_T24 l0 a3).f3).length c166_3], .agg #[.int .i64 ((rd_T24 l1 a4).f0), .string ((rd_T24 l1 a4).f1), .int .i64 ((rd_T24 l1 a4).f2), .slice A167_3 ((rd_T24 l1 a4).f3).length c167_3]] (by rfl) rfl rfl (by (try simp only [List.map_toArray, List.map_cons, List.map_nil]); first | done | rfl | (simp only [List.length_drop, List.length_take]; rfl)) ?_
       with_reducible refine (diff_alike.calls ((rd_T24 l0 a3).f0) ((rd_T24 l0 a3).f1) ((rd_T24 l0 a3).f2) _ _ ((rd_T24 l0 a3).f3) ((rd_T24 l1 a4).f0) ((rd_T24 l1 a4).f1) ((rd_T24 l1 a4).f2) _ _ ((rd_T24 l1 a4).f3) false _ ?side1 ?side2 ?side3 ?side4 A52.out).mono ?_
       (case side1 => exact kc_ HR166_3.out HB.out)
       (case side2 => exact HC166_3.out)
       (case side3 => exact kc_ HR167_3.out HB.out)
       (case side4 => exact HC167_3.out)
       rintro e w96 ⟨rfl, hb⟩
       refine ⟨_, rfl, ?_⟩
       have n0_ := Aside0.mk (blk_below (g := gb148) (o := .cells #[.int .i64 0, .bool false] 47 (0, 0)) (bk_ BK148.out) hb)
       have n1_ := Aside0.mk (blk_below (g := gb165) (o := .cells #[.int .i64 ji51, .bool false] 47 (0, 0)) (bk_ BK165.out) hb)
       have n2_ := Aside0.mk (below_step (bs2_ HB.out GE148.out GE165.out) hb)
       clear BK148; clear BK165; clear HB
       have BK148 := n0_
       have BK165 := n1_
       have HB := n2_
       clear n0_ n1_ n2_
       (try clear hb)
       (try clear hb2)
       (try clear hk)
       (try clear hi)
       refine hK.out _ _ ⟨(ck_ HB.out hw166_0), (ck_ HB.out hw166_1), (ck_ HB.out hw166_2), (ck_ HB.out hw166_3), (ck_ HB.out hw167_0), (ck_ HB.out hw167_1), (ck_ HB.out hw167_2), (ck_ HB.out hw167_3)⟩ (fun hHeld => ?_)
       clear hK K
       refine norm_ (a' := ?_) ?_ ?_
       rotate_left
       ·show Act.put _ (some 107) _ = _
        simp only [Act.put, sp1_, sp2_]
        rfl
       refine done_ (done_of HT_.out (by kernel_rfl)) ?_
       have hnb97 := NB165_148.out
       have hnc97 := NB148_165.out
       have hcz98_0 : w96.cell? ⟨gb165, 0, none⟩ = some (.int .i64 ji51) := (blk_cell BK165.out 0).trans rfl
       have hcz98_1 : w96.cell? ⟨gb165, 1, none⟩ = some (.bool false) := (blk_cell BK165.out 1).trans rfl
       have hfz98_0 := blk_frozen BK165.out 0
       have hfz98_1 := blk_frozen BK165.out 1
       have hcz99_0 : w96.cell? ⟨gb148, 0, none⟩ = some (.int .i64 0) := (blk_cell BK148.out 0).trans rfl
       have hcz99_1 : w96.cell? ⟨gb148, 1, none⟩ = some (.bool false) := (blk_cell BK148.out 1).trans rfl
       have hfz99_0 := blk_frozen BK148.out 0
       have hfz99_1 := blk_frozen BK148.out 1
       try go_wp2
       refine bodyPost_ret (results_cell_row rfl _ _ gb148 47 #[.int .i64 ji51, .bool false] (0, 0) _ rfl (by (with_reducible repeat (first | refine blk_drewN ?_ _ | refine blk_drew ?_ | refine blk_alloc ?_ _)); refine blk_put (cs := #[.int .i64 ji51, .bool false]) ?_ 1 _ rfl; (with_reducible repeat (first | refine blk_drewN ?_ _ | refine blk_drew ?_ | refine blk_alloc ?_ _)); refine blk_put (cs := #[.int .i64 0, .bool false]) ?_ 0 _ rfl; (with_reducible repeat (first | refine blk_drewN ?_ _ | refine blk_drew ?_ | refine blk_alloc ?_ _)); exact BK148.out) Tryd.underlying47 rfl (by kernel_rfl)) rfl ?_
       exact ⟨by first | rfl | (simp [errW_none, errW_some] <;> rfl) | (simp only [← hji40, ← hji48, ← hji51]; first | rfl | (simp [errW_none, errW_some] <;> rfl)) | (simp [*, errW_none, errW_some] <;> rfl), bs2_ HB.out GE148.out GE165.out⟩
end Go.Proofs.YtihchehmkhnhaaaDoor.A
