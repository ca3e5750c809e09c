/- Made for this claim by a program of the session: the Go functions' plain twins and their contracts. Lean checks it. -/
import Derived.Test.YtnimhdhnjfoalaaGreatDoorAx0
import Derived.Test.YtnimhdhnjfoalaaGreatDoorAx9
namespace Go.Proofs.YtnimhdhnjfoalaaGreatDoor.A
open Go.RowKit Go.Proofs.YtnimhdhnjfoalaaGreatDoorW.PrintWords Go.Proofs.YtnimhdhnjfoalaaGreatDoorW.PrintLast Go.Proofs.YtnimhdhnjfoalaaGreatDoorW.PrintMore
attribute [local go_sem] max2_int min2_int max_two min_two max_three min_three max_four min_four   -- for this text's walks alone
set_option linter.unusedVariables false
set_option linter.unusedSimpArgs false

set_option maxHeartbeats 8000000 in
set_option maxRecDepth 100000 in
theorem vinculumref09_SameItems.step (k : Nat) (ih_55 : ∀ m_, m_ < k → ∀ (A0 : Option Addr) (c0 : Nat) (l0 : List (S26)) (A1 : Option Addr) (c1 : Nat) (l1 : List (S26)) (r : Bool) (w : World) (hr0 : Kd.C k26 w A0 l0.length l0) (hc0 : l0.length ≤ c0) (hr1 : Kd.C k26 w A1 l1.length l1) (hc1 : l1.length ≤ c1) (h : vinculumref09_SameItems.f m_ l0 l1 = some r),
    Calls Tryz.prog 55 #[.slice A0 l0.length c0, .slice A1 l1.length c1] w fun e w' => e = .returned (.bool r) ∧ Below w.heap.size w w') (ih_19 : ∀ m_, m_ < k → ∀ (a0_0 : Int) (a0_1 : ByteArray) (a0_2 : Int) (A0_3 : Option Addr) (c0_3 : Nat) (l0_3 : List (S26)) (a1_0 : Int) (a1_1 : ByteArray) (a1_2 : Int) (A1_3 : Option Addr) (c1_3 : Nat) (l1_3 : List (S26)) (r : Bool) (w : World) (hr0_3 : Kd.C k26 w A0_3 l0_3.length l0_3) (hc0_3 : l0_3.length ≤ c0_3) (hr1_3 : Kd.C k26 w A1_3 l1_3.length l1_3) (hc1_3 : l1_3.length ≤ c1_3) (h : vinculumref09_Equal.f m_ a0_0 a0_1 a0_2 l0_3 a1_0 a1_1 a1_2 l1_3 = some r),
    Calls Tryz.prog 19 #[.agg #[.int .i64 a0_0, .string a0_1, .int .i64 a0_2, .slice A0_3 l0_3.length c0_3], .agg #[.int .i64 a1_0, .string a1_1, .int .i64 a1_2, .slice A1_3 l1_3.length c1_3]] w fun e w' => e = .returned (.bool r) ∧ Below w.heap.size w w') : ∀ (A0 : Option Addr) (c0 : Nat) (l0 : List (S26)) (A1 : Option Addr) (c1 : Nat) (l1 : List (S26)) (r : Bool) (w : World) (hr0 : Kd.C k26 w A0 l0.length l0) (hc0 : l0.length ≤ c0) (hr1 : Kd.C k26 w A1 l1.length l1) (hc1 : l1.length ≤ c1) (h : vinculumref09_SameItems.f k l0 l1 = some r),
    Calls Tryz.prog 55 #[.slice A0 l0.length c0, .slice A1 l1.length c1] w fun e w' => e = .returned (.bool r) ∧ Below w.heap.size w w' := by
  intro A0 c0 l0 A1 c1 l1 r w hr0 hc0 hr1 hc1 h
  cases k with
  | zero => exact absurd h (by simp [vinculumref09_SameItems.f])
  | succ k =>
  simp only [vinculumref09_SameItems.f] at h
  have hu26 := Tryz.underlying26
  have HR0 := Aside0.mk hr0
  have HC0 := Aside0.mk hc0
  clear hr0 hc0
  have HR1 := Aside0.mk hr1
  have HC1 := Aside0.mk hc1
  clear hr1 hc1
  have HB := Aside0.mk (Below.refl w.heap.size w)
  have H : (if (l0.length : Int) = (l1.length : Int) then (vinculumref09_SameItems.l0 k l0 l1 0) else (some false)) = some r := h
  clear h
  by_cases c3 : (l0.length : Int) = (l1.length : Int)
  · rw [if_pos c3] at H
    have c3b0 : ((l0.length : Int) == (l1.length : Int)) = true := beq_iff_eq.mpr c3
    have c3b1 : ((l0.length : Int) != (l1.length : Int)) = false := bne_eq_false_iff_eq.mpr c3
    have c3b2 : (l0.length == l1.length) = true := by first | simpa using c3 | (simp at c3 ⊢; omega)
    clear c3
    have H' := Aside0.mk H
    clear H
    go_enter Tryz.func55, Tryz.ntmps55
    go_wp2
    go_loopg [5] k (fun kq v5 w' => ∃ (x5_1 : Int), v5 = .int .i64 x5_1 ∧ Aside0 (vinculumref09_SameItems.l0 kq l0 l1 x5_1 = some r) ∧ Aside0 (kq ≤ k) ∧ Aside0 (Below w.heap.size w w'))
    case atStart => exact ⟨(0), (by first | rfl | (simp; done) | (simp [*]; done)), H', ⟨Nat.le_refl _⟩, ⟨by repeat (first | (with_reducible first | exact HB.out | apply below_alloc | apply pw_below_drewN | apply below_drew1) | exact HB.out)⟩⟩
    case round =>
      clear H'
      try clear c1
      try clear p2
      try clear c3
      try clear c3b0
      try clear c3b1
      try clear c3b2
      obtain ⟨x5_1, rfl, HA, HK1, HB⟩ := hrel
      cases gk with
      | zero => exact absurd HA.out (by simp [vinculumref09_SameItems.l0])
      | succ k1 =>
        have H := HA.out
        clear HA
        simp only [vinculumref09_SameItems.l0] at H
        by_cases c4 : x5_1 < (l0.length : Int)
        · rw [if_pos c4] at H
          have c4b0 : decide (x5_1 < (l0.length : Int)) = true := decide_eq_true c4
          clear c4
          by_cases c5 : 0 ≤ x5_1
          · rw [if_pos c5] at H
            have c5b0 : decide (0 ≤ x5_1) = true := decide_eq_true c5
            clear c5
            by_cases c6 : x5_1 < (l1.length : Int)
            · rw [if_pos c6] at H
              have c6b0 : decide (x5_1 < (l1.length : Int)) = true := decide_eq_true c6
              clear c6
              replace H := Option.bind_eq_some_iff.mp H
              obtain ⟨t240, A70, H⟩ := H
              replace H : (if t240 = true then (vinculumref09_SameItems.l0 k1 l0 l1 (wrap64 (x5_1 + 1))) else (some false)) = some r := H
              have A7 := Aside0.mk A70
              clear A70
              by_cases c8 : t240 = true
              · subst c8
                have H1 : (vinculumref09_SameItems.l0 k1 l0 l1 (wrap64 (x5_1 + 1))) = some r := by rw [if_pos rfl] at H; exact H
                clear H
                have H := H1
                clear H1
                have H' := Aside0.mk H
                clear H
                try go_wp2
                have n0_ := Aside0.mk (below_drew1 HB.out)
                clear HB
                have HB := n0_
                clear n0_
                have p238 : 0 ≤ (x5_1 : Int) := of_decide_eq_true (by first | (with_reducible assumption) | assumption)
                have q238 : x5_1 < (l0.length : Int) := of_decide_eq_true (by first | (with_reducible assumption) | assumption)
                obtain ⟨ad238, A238_3, c238_3, e238, hx238_0, hx238_1, hx238_2, hx238_3, hl238_3, hi238_3⟩ := at_T26 HR0.out x5_1 p238 q238
                have hw238_3 := hx238_3
                have hw238_2 := hx238_2
                have hw238_1 := hx238_1
                have hw238_0 := hx238_0
                cases e238
                replace hx238_0 := (HB.out.cell (World.block_lt_of_cell? w _ hx238_0)).trans hx238_0
                replace hx238_1 := (HB.out.cell (World.block_lt_of_cell? w _ hx238_1)).trans hx238_1
                replace hx238_2 := (HB.out.cell (World.block_lt_of_cell? w _ hx238_2)).trans hx238_2
                replace hx238_3 := (HB.out.cell (World.block_lt_of_cell? w _ hx238_3)).trans hx238_3
                have HR238_3 := Aside0.mk hi238_3
                have HC238_3 := Aside0.mk hl238_3
                clear hi238_3 hl238_3
                replace p238 := eq_true p238
                replace q238 := eq_true q238
                have p239 : 0 ≤ (x5_1 : Int) := of_decide_eq_true (by first | (with_reducible assumption) | assumption)
                have q239 : x5_1 < (l1.length : Int) := of_decide_eq_true (by first | (with_reducible assumption) | assumption)
                obtain ⟨ad239, A239_3, c239_3, e239, hx239_0, hx239_1, hx239_2, hx239_3, hl239_3, hi239_3⟩ := at_T26 HR1.out x5_1 p239 q239
                have hw239_3 := hx239_3
                have hw239_2 := hx239_2
                have hw239_1 := hx239_1
                have hw239_0 := hx239_0
                cases e239
                replace hx239_0 := (HB.out.cell (World.block_lt_of_cell? w _ hx239_0)).trans hx239_0
                replace hx239_1 := (HB.out.cell (World.block_lt_of_cell? w _ hx239_1)).trans hx239_1
                replace hx239_2 := (HB.out.cell (World.block_lt_of_cell? w _ hx239_2)).trans hx239_2
                replace hx239_3 := (HB.out.cell (World.block_lt_of_cell? w _ hx239_3)).trans hx239_3
                have HR239_3 := Aside0.mk hi239_3
                have HC239_3 := Aside0.mk hl239_3
                clear hi239_3 hl239_3
                replace p239 := eq_true p239
                replace q239 := eq_true q239
                refine start_ (n := 10) (S := fun w' => w'.cell? (ad238.add ((x5_1).toNat * 4)) = some (.int .i64 ((rd_T26 l0 x5_1).f0)) ∧ w'.cell? ⟨(ad238.add ((x5_1).toNat * 4)).block, (ad238.add ((x5_1).toNat * 4)).off + 1, none⟩ = some (.string ((rd_T26 l0 x5_1).f1)) ∧ w'.cell? ⟨(ad238.add ((x5_1).toNat * 4)).block, (ad238.add ((x5_1).toNat * 4)).off + 2, none⟩ = some (.int .i64 ((rd_T26 l0 x5_1).f2)) ∧ w'.cell? ⟨(ad238.add ((x5_1).toNat * 4)).block, (ad238.add ((x5_1).toNat * 4)).off + 3, none⟩ = some (.slice A238_3 ((rd_T26 l0 x5_1).f3).length c238_3) ∧ w'.cell? (ad239.add ((x5_1).toNat * 4)) = some (.int .i64 ((rd_T26 l1 x5_1).f0)) ∧ w'.cell? ⟨(ad239.add ((x5_1).toNat * 4)).block, (ad239.add ((x5_1).toNat * 4)).off + 1, none⟩ = some (.string ((rd_T26 l1 x5_1).f1)) ∧ w'.cell? ⟨(ad239.add ((x5_1).toNat * 4)).block, (ad239.add ((x5_1).toNat * 4)).off + 2, none⟩ = some (.int .i64 ((rd_T26 l1 x5_1).f2)) ∧ w'.cell? ⟨(ad239.add ((x5_1).toNat * 4)).block, (ad239.add ((x5_1).toNat * 4)).off + 3, none⟩ = some (.slice A239_3 ((rd_T26 l1 x5_1).f3).length c239_3)) (ds := []) #[false, false, false, false, false, false, false, false, false, false] (by kernel_rfl) rfl rfl ⟨((HB.out.cell (World.block_lt_of_cell? w _ hw238_0)).trans hw238_0), ((HB.out.cell (World.block_lt_of_cell? w _ hw238_1)).trans hw238_1), ((HB.out.cell (World.block_lt_of_cell? w _ hw238_2)).trans hw238_2), ((HB.out.cell (World.block_lt_of_cell? w _ hw238_3)).trans hw238_3), ((HB.out.cell (World.block_lt_of_cell? w _ hw239_0)).trans hw239_0), ((HB.out.cell (World.block_lt_of_cell? w _ hw239_1)).trans hw239_1), ((HB.out.cell (World.block_lt_of_cell? w _ hw239_2)).trans hw239_2), ((HB.out.cell (World.block_lt_of_cell? w _ hw239_3)).trans hw239_3)⟩ (fun hHeld => ?_); refine with_tabW vinculumref09_SameItems.tab6 vinculumref09_SameItems.bits6 (fun HT_ HW_ => ?_)
                generalize wr.drew = w9 at HB HR238_3 HR239_3 hx238_0 hx238_1 hx238_2 hx238_3 hx239_0 hx239_1 hx239_2 hx239_3 hHeld ⊢
                refine pure_ (i := 0) (N := some 17) (v := ?_) (a' := ?_) #[true, false, false, false, false, false, false, false, false, false] rfl rfl (any_of HT_.out (by kernel_rfl)) (fun _ _ _ h => h) (Or.inl ⟨by rfl, ?_⟩) ?_ ?_
                rotate_left
                · intro w'
                  go_simp
                  with_reducible rfl
                rotate_left
                · simp only [Act.put, List.setIfInBounds_toArray, List.set_cons_zero, List.set_cons_succ, i64_w, i32_w]
                  rfl
                refine pure_ (i := 1) (N := some 18) (v := ?_) (a' := ?_) #[true, true, false, false, false, false, false, false, false, false] rfl rfl (any_of HT_.out (by kernel_rfl)) (fun _ _ _ h => h) (Or.inl ⟨by rfl, ?_⟩) ?_ ?_
                rotate_left
                · intro w'
                  go_simp
                  with_reducible rfl
                rotate_left
                · simp only [Act.put, List.setIfInBounds_toArray, List.set_cons_zero, List.set_cons_succ, i64_w, i32_w]
                  rfl
                refine pure_ (i := 2) (N := some 19) (v := ?_) (a' := ?_) #[true, true, true, false, false, false, false, false, false, false] rfl rfl (any_of HT_.out (by kernel_rfl)) (fun _ _ _ h => h) (Or.inl ⟨by rfl, ?_⟩) ?_ ?_
                rotate_left
                · intro w'
                  go_simp
                  with_reducible rfl
                rotate_left
                · simp only [Act.put, List.setIfInBounds_toArray, List.set_cons_zero, List.set_cons_succ, i64_w, i32_w]
                  rfl
                refine pure_ (i := 4) (N := some 21) (v := ?_) (a' := ?_) #[true, true, true, false, true, false, false, false, false, false] rfl rfl (any_of HT_.out (by kernel_rfl)) (fun _ _ _ h => h) (Or.inl ⟨by rfl, ?_⟩) ?_ ?_
                rotate_left
                · intro w'
                  go_simp
                  with_reducible rfl
                rotate_left
                · simp only [Act.put, List.setIfInBounds_toArray, List.set_cons_zero, List.set_cons_succ, i64_w, i32_w]
                  rfl
                refine pure_ (i := 5) (N := some 22) (v := ?_) (a' := ?_) #[true, true, true, false, true, true, false, false, false, false] rfl rfl (any_of HT_.out (by kernel_rfl)) (fun _ _ _ h => h) (Or.inl ⟨by rfl, ?_⟩) ?_ ?_
                rotate_left
                · intro w'
                  go_simp
                  with_reducible rfl
                rotate_left
                · simp only [Act.put, List.setIfInBounds_toArray, List.set_cons_zero, List.set_cons_succ, i64_w, i32_w]
                  rfl
                refine pure_ (i := 6) (N := some 23) (v := ?_) (a' := ?_) #[true, true, true, false, true, true, true, false, false, false] rfl rfl (any_of HT_.out (by kernel_rfl)) (fun _ _ _ h => h) (Or.inl ⟨by rfl, ?_⟩) ?_ ?_
                rotate_left
                · intro w'
                  go_simp
                  with_reducible rfl
                rotate_left
                · simp only [Act.put, List.setIfInBounds_toArray, List.set_cons_zero, List.set_cons_succ, i64_w, i32_w]
                  rfl
                refine take_ (i := 3) (N := some 20) (v := ?_) (a' := ?_) #[true, true, true, true, true, true, true, false, false, false] rfl rfl (take_ofW HT_.out HW_.out (by kernel_rfl)) (fun _ _ _ h => h) (Or.inl ⟨by rfl, ?_⟩) hHeld ?_ ?_
                rotate_left
                · rintro w' ⟨s0, s1, s2, s3, s4, s5, s6, s7⟩
                  go_simp
                  with_reducible rfl
                rotate_left
                · simp only [Act.put, List.setIfInBounds_toArray, List.set_cons_zero, List.set_cons_succ, i64_w, i32_w]
                  rfl
                refine take_ (i := 7) (N := some 24) (v := ?_) (a' := ?_) #[true, true, true, true, true, true, true, true, false, false] rfl rfl (take_ofW HT_.out HW_.out (by kernel_rfl)) (fun _ _ _ h => h) (Or.inl ⟨by rfl, ?_⟩) hHeld ?_ ?_
                rotate_left
                · rintro w' ⟨s0, s1, s2, s3, s4, s5, s6, s7⟩
                  go_simp
                  with_reducible rfl
                rotate_left
                · simp only [Act.put, List.setIfInBounds_toArray, List.set_cons_zero, List.set_cons_succ, i64_w, i32_w]
                  rfl
                refine one_ (i := 8) (N := some 25) #[true, true, true, true, true, true, true, true, true, false] rfl rfl (one_of HT_.out (by kernel_rfl)) (by decide) (fun K hK => ?_)
                refine goes_ Tryz.func19 (by kernel_rfl) rfl #[.agg #[.int .i64 ((rd_T26 l0 x5_1).f0), .string ((rd_T26 l0 x5_1).f1), .int .i64 ((rd_T26 l0 x5_1).f2), .slice A238_3 ((rd_T26 l0 x5_1).f3).length c238_3], .agg #[.int .i64 ((rd_T26 l1 x5_1).f0), .string ((rd_T26 l1 x5_1).f1), .int .i64 ((rd_T26 l1 x5_1).f2), .slice A239_3 ((rd_T26 l1 x5_1).f3).length c239_3]] (by rfl) rfl rfl (by (try simp only [List.map_toArray, List.map_cons, List.map_nil]); first | done | rfl | (simp only [List.length_drop, List.length_take]; rfl)) ?_
                with_reducible refine (ih_19 k1 (by have := HK1.out; omega) ((rd_T26 l0 x5_1).f0) ((rd_T26 l0 x5_1).f1) ((rd_T26 l0 x5_1).f2) _ _ ((rd_T26 l0 x5_1).f3) ((rd_T26 l1 x5_1).f0) ((rd_T26 l1 x5_1).f1) ((rd_T26 l1 x5_1).f2) _ _ ((rd_T26 l1 x5_1).f3) true _ ?side1 ?side2 ?side3 ?side4 A7.out).mono ?_
                (case side1 => repeat (first | exact (Kd.C_below HR238_3.out HB.out) | (with_reducible refine Kd.C_alloc ?_ _) | (with_reducible refine Kd.C_drewN ?_ _) | (with_reducible refine Kd.C_drew ?_)))
                (case side2 => exact HC238_3.out)
                (case side3 => repeat (first | exact (Kd.C_below HR239_3.out HB.out) | (with_reducible refine Kd.C_alloc ?_ _) | (with_reducible refine Kd.C_drewN ?_ _) | (with_reducible refine Kd.C_drew ?_)))
                (case side4 => exact HC239_3.out)
                rintro e w10 ⟨rfl, hb⟩
                refine ⟨_, rfl, ?_⟩
                have n0_ := Aside0.mk (below_step (by repeat (first | (with_reducible first | exact HB.out | apply below_alloc | apply pw_below_drewN | apply below_drew1) | exact HB.out)) hb)
                clear HB
                have HB := n0_
                clear n0_
                (try clear hb)
                (try clear hb2)
                (try clear hk)
                (try clear hi)
                refine hK.out _ _ ⟨((HB.out.cell (World.block_lt_of_cell? w _ hw238_0)).trans hw238_0), ((HB.out.cell (World.block_lt_of_cell? w _ hw238_1)).trans hw238_1), ((HB.out.cell (World.block_lt_of_cell? w _ hw238_2)).trans hw238_2), ((HB.out.cell (World.block_lt_of_cell? w _ hw238_3)).trans hw238_3), ((HB.out.cell (World.block_lt_of_cell? w _ hw239_0)).trans hw239_0), ((HB.out.cell (World.block_lt_of_cell? w _ hw239_1)).trans hw239_1), ((HB.out.cell (World.block_lt_of_cell? w _ hw239_2)).trans hw239_2), ((HB.out.cell (World.block_lt_of_cell? w _ hw239_3)).trans hw239_3)⟩ (fun hHeld => ?_)
                clear hK K
                refine norm_ (a' := ?_) ?_ ?_
                rotate_left
                · show Act.put _ (some 25) _ = _
                  simp only [Act.put, List.setIfInBounds_toArray, List.set_cons_zero, List.set_cons_succ, i64_w, i32_w]
                  rfl
                refine pure_ (i := 9) (N := some 26) (v := ?_) (a' := ?_) #[true, true, true, true, true, true, true, true, true, true] rfl rfl (any_of HT_.out (by kernel_rfl)) (fun _ _ _ h => h) (Or.inl ⟨by rfl, ?_⟩) ?_ ?_
                rotate_left
                · intro w'
                  go_simp
                  with_reducible rfl
                rotate_left
                · simp only [Act.put, List.setIfInBounds_toArray, List.set_cons_zero, List.set_cons_succ, i64_w, i32_w]
                  rfl
                refine done_ (done_of HT_.out (by kernel_rfl)) ?_
                try go_wp2
                go_roundg k1
                case measure => have := HK1.out; omega
                case rel => exact ⟨(wrap64 (x5_1 + 1)), (by first | rfl | (simp; done) | (simp [*]; done)), H', ⟨by have := HK1.out; omega⟩, ⟨by repeat (first | (with_reducible first | exact HB.out | apply below_alloc | apply pw_below_drewN | apply below_drew1) | exact HB.out)⟩⟩
              · replace c8 := Bool.eq_false_iff.mpr c8
                subst c8
                have H1 : (some false) = some r := by rw [if_neg (show ¬ (false = true) by decide)] at H; exact H
                clear H
                have H := H1
                clear H1
                obtain rfl := Option.some.inj H
                try go_wp2
                have n0_ := Aside0.mk (below_drew1 HB.out)
                clear HB
                have HB := n0_
                clear n0_
                have p238 : 0 ≤ (x5_1 : Int) := of_decide_eq_true (by first | (with_reducible assumption) | assumption)
                have q238 : x5_1 < (l0.length : Int) := of_decide_eq_true (by first | (with_reducible assumption) | assumption)
                obtain ⟨ad238, A238_3, c238_3, e238, hx238_0, hx238_1, hx238_2, hx238_3, hl238_3, hi238_3⟩ := at_T26 HR0.out x5_1 p238 q238
                have hw238_3 := hx238_3
                have hw238_2 := hx238_2
                have hw238_1 := hx238_1
                have hw238_0 := hx238_0
                cases e238
                replace hx238_0 := (HB.out.cell (World.block_lt_of_cell? w _ hx238_0)).trans hx238_0
                replace hx238_1 := (HB.out.cell (World.block_lt_of_cell? w _ hx238_1)).trans hx238_1
                replace hx238_2 := (HB.out.cell (World.block_lt_of_cell? w _ hx238_2)).trans hx238_2
                replace hx238_3 := (HB.out.cell (World.block_lt_of_cell? w _ hx238_3)).trans hx238_3
                have HR238_3 := Aside0.mk hi238_3
                have HC238_3 := Aside0.mk hl238_3
                clear hi238_3 hl238_3
                replace p238 := eq_true p238
                replace q238 := eq_true q238
                have p239 : 0 ≤ (x5_1 : Int) := of_decide_eq_true (by first | (with_reducible assumption) | assumption)
                have q239 : x5_1 < (l1.length : Int) := of_decide_eq_true (by first | (with_reducible assumption) | assumption)
                obtain ⟨ad239, A239_3, c239_3, e239, hx239_0, hx239_1, hx239_2, hx239_3, hl239_3, hi239_3⟩ := at_T26 HR1.out x5_1 p239 q239
                have hw239_3 := hx239_3
                have hw239_2 := hx239_2
                have hw239_1 := hx239_1
                have hw239_0 := hx239_0
                cases e239
                replace hx239_0 := (HB.out.cell (World.block_lt_of_cell? w _ hx239_0)).trans hx239_0
                replace hx239_1 := (HB.out.cell (World.block_lt_of_cell? w _ hx239_1)).trans hx239_1
                replace hx239_2 := (HB.out.cell (World.block_lt_of_cell? w _ hx239_2)).trans hx239_2
                replace hx239_3 := (HB.out.cell (World.block_lt_of_cell? w _ hx239_3)).trans hx239_3
                have HR239_3 := Aside0.mk hi239_3
                have HC239_3 := Aside0.mk hl239_3
                clear hi239_3 hl239_3
                replace p239 := eq_true p239
                replace q239 := eq_true q239
                refine start_ (n := 10) (S := fun w' => w'.cell? (ad238.add ((x5_1).toNat * 4)) = some (.int .i64 ((rd_T26 l0 x5_1).f0)) ∧ w'.cell? ⟨(ad238.add ((x5_1).toNat * 4)).block, (ad238.add ((x5_1).toNat * 4)).off + 1, none⟩ = some (.string ((rd_T26 l0 x5_1).f1)) ∧ w'.cell? ⟨(ad238.add ((x5_1).toNat * 4)).block, (ad238.add ((x5_1).toNat * 4)).off + 2, none⟩ = some (.int .i64 ((rd_T26 l0 x5_1).f2)) ∧ w'.cell? ⟨(ad238.add ((x5_1).toNat * 4)).block, (ad238.add ((x5_1).toNat * 4)).off + 3, none⟩ = some (.slice A238_3 ((rd_T26 l0 x5_1).f3).length c238_3) ∧ w'.cell? (ad239.add ((x5_1).toNat * 4)) = some (.int .i64 ((rd_T26 l1 x5_1).f0)) ∧ w'.cell? ⟨(ad239.add ((x5_1).toNat * 4)).block, (ad239.add ((x5_1).toNat * 4)).off + 1, none⟩ = some (.string ((rd_T26 l1 x5_1).f1)) ∧ w'.cell? ⟨(ad239.add ((x5_1).toNat * 4)).block, (ad239.add ((x5_1).toNat * 4)).off + 2, none⟩ = some (.int .i64 ((rd_T26 l1 x5_1).f2)) ∧ w'.cell? ⟨(ad239.add ((x5_1).toNat * 4)).block, (ad239.add ((x5_1).toNat * 4)).off + 3, none⟩ = some (.slice A239_3 ((rd_T26 l1 x5_1).f3).length c239_3)) (ds := []) #[false, false, false, false, false, false, false, false, false, false] (by kernel_rfl) rfl rfl ⟨((HB.out.cell (World.block_lt_of_cell? w _ hw238_0)).trans hw238_0), ((HB.out.cell (World.block_lt_of_cell? w _ hw238_1)).trans hw238_1), ((HB.out.cell (World.block_lt_of_cell? w _ hw238_2)).trans hw238_2), ((HB.out.cell (World.block_lt_of_cell? w _ hw238_3)).trans hw238_3), ((HB.out.cell (World.block_lt_of_cell? w _ hw239_0)).trans hw239_0), ((HB.out.cell (World.block_lt_of_cell? w _ hw239_1)).trans hw239_1), ((HB.out.cell (World.block_lt_of_cell? w _ hw239_2)).trans hw239_2), ((HB.out.cell (World.block_lt_of_cell? w _ hw239_3)).trans hw239_3)⟩ (fun hHeld => ?_); refine with_tabW vinculumref09_SameItems.tab6 vinculumref09_SameItems.bits6 (fun HT_ HW_ => ?_)
                generalize wr.drew = w11 at HB HR238_3 HR239_3 hx238_0 hx238_1 hx238_2 hx238_3 hx239_0 hx239_1 hx239_2 hx239_3 hHeld ⊢
                refine pure_ (i := 0) (N := some 17) (v := ?_) (a' := ?_) #[true, false, false, false, false, false, false, false, false, false] rfl rfl (any_of HT_.out (by kernel_rfl)) (fun _ _ _ h => h) (Or.inl ⟨by rfl, ?_⟩) ?_ ?_
                rotate_left
                · intro w'
                  go_simp
                  with_reducible rfl
                rotate_left
                · simp only [Act.put, List.setIfInBounds_toArray, List.set_cons_zero, List.set_cons_succ, i64_w, i32_w]
                  rfl
                refine pure_ (i := 1) (N := some 18) (v := ?_) (a' := ?_) #[true, true, false, false, false, false, false, false, false, false] rfl rfl (any_of HT_.out (by kernel_rfl)) (fun _ _ _ h => h) (Or.inl ⟨by rfl, ?_⟩) ?_ ?_
                rotate_left
                · intro w'
                  go_simp
                  with_reducible rfl
                rotate_left
                · simp only [Act.put, List.setIfInBounds_toArray, List.set_cons_zero, List.set_cons_succ, i64_w, i32_w]
                  rfl
                refine pure_ (i := 2) (N := some 19) (v := ?_) (a' := ?_) #[true, true, true, false, false, false, false, false, false, false] rfl rfl (any_of HT_.out (by kernel_rfl)) (fun _ _ _ h => h) (Or.inl ⟨by rfl, ?_⟩) ?_ ?_
                rotate_left
                · intro w'
                  go_simp
                  with_reducible rfl
                rotate_left
                · simp only [Act.put, List.setIfInBounds_toArray, List.set_cons_zero, List.set_cons_succ, i64_w, i32_w]
                  rfl
                refine pure_ (i := 4) (N := some 21) (v := ?_) (a' := ?_) #[true, true, true, false, true, false, false, false, false, false] rfl rfl (any_of HT_.out (by kernel_rfl)) (fun _ _ _ h => h) (Or.inl ⟨by rfl, ?_⟩) ?_ ?_
                rotate_left
                · intro w'
                  go_simp
                  with_reducible rfl
                rotate_left
                · simp only [Act.put, List.setIfInBounds_toArray, List.set_cons_zero, List.set_cons_succ, i64_w, i32_w]
                  rfl
                refine pure_ (i := 5) (N := some 22) (v := ?_) (a' := ?_) #[true, true, true, false, true, true, false, false, false, false] rfl rfl (any_of HT_.out (by kernel_rfl)) (fun _ _ _ h => h) (Or.inl ⟨by rfl, ?_⟩) ?_ ?_
                rotate_left
                · intro w'
                  go_simp
                  with_reducible rfl
                rotate_left
                · simp only [Act.put, List.setIfInBounds_toArray, List.set_cons_zero, List.set_cons_succ, i64_w, i32_w]
                  rfl
                refine pure_ (i := 6) (N := some 23) (v := ?_) (a' := ?_) #[true, true, true, false, true, true, true, false, false, false] rfl rfl (any_of HT_.out (by kernel_rfl)) (fun _ _ _ h => h) (Or.inl ⟨by rfl, ?_⟩) ?_ ?_
                rotate_left
                · intro w'
                  go_simp
                  with_reducible rfl
                rotate_left
                · simp only [Act.put, List.setIfInBounds_toArray, List.set_cons_zero, List.set_cons_succ, i64_w, i32_w]
                  rfl
                refine take_ (i := 3) (N := some 20) (v := ?_) (a' := ?_) #[true, true, true, true, true, true, true, false, false, false] rfl rfl (take_ofW HT_.out HW_.out (by kernel_rfl)) (fun _ _ _ h => h) (Or.inl ⟨by rfl, ?_⟩) hHeld ?_ ?_
                rotate_left
                · rintro w' ⟨s0, s1, s2, s3, s4, s5, s6, s7⟩
                  go_simp
                  with_reducible rfl
                rotate_left
                · simp only [Act.put, List.setIfInBounds_toArray, List.set_cons_zero, List.set_cons_succ, i64_w, i32_w]
                  rfl
                refine take_ (i := 7) (N := some 24) (v := ?_) (a' := ?_) #[true, true, true, true, true, true, true, true, false, false] rfl rfl (take_ofW HT_.out HW_.out (by kernel_rfl)) (fun _ _ _ h => h) (Or.inl ⟨by rfl, ?_⟩) hHeld ?_ ?_
                rotate_left
                · rintro w' ⟨s0, s1, s2, s3, s4, s5, s6, s7⟩
                  go_simp
                  with_reducible rfl
                rotate_left
                · simp only [Act.put, List.setIfInBounds_toArray, List.set_cons_zero, List.set_cons_succ, i64_w, i32_w]
                  rfl
                refine one_ (i := 8) (N := some 25) #[true, true, true, true, true, true, true, true, true, false] rfl rfl (one_of HT_.out (by kernel_rfl)) (by decide) (fun K hK => ?_)
                refine goes_ Tryz.func19 (by kernel_rfl) rfl #[.agg #[.int .i64 ((rd_T26 l0 x5_1).f0), .string ((rd_T26 l0 x5_1).f1), .int .i64 ((rd_T26 l0 x5_1).f2), .slice A238_3 ((rd_T26 l0 x5_1).f3).length c238_3], .agg #[.int .i64 ((rd_T26 l1 x5_1).f0), .string ((rd_T26 l1 x5_1).f1), .int .i64 ((rd_T26 l1 x5_1).f2), .slice A239_3 ((rd_T26 l1 x5_1).f3).length c239_3]] (by rfl) rfl rfl (by (try simp only [List.map_toArray, List.map_cons, List.map_nil]); first | done | rfl | (simp only [List.length_drop, List.length_take]; rfl)) ?_
                with_reducible refine (ih_19 k1 (by have := HK1.out; omega) ((rd_T26 l0 x5_1).f0) ((rd_T26 l0 x5_1).f1) ((rd_T26 l0 x5_1).f2) _ _ ((rd_T26 l0 x5_1).f3) ((rd_T26 l1 x5_1).f0) ((rd_T26 l1 x5_1).f1) ((rd_T26 l1 x5_1).f2) _ _ ((rd_T26 l1 x5_1).f3) false _ ?side1 ?side2 ?side3 ?side4 A7.out).mono ?_
                (case side1 => repeat (first | exact (Kd.C_below HR238_3.out HB.out) | (with_reducible refine Kd.C_alloc ?_ _) | (with_reducible refine Kd.C_drewN ?_ _) | (with_reducible refine Kd.C_drew ?_)))
                (case side2 => exact HC238_3.out)
                (case side3 => repeat (first | exact (Kd.C_below HR239_3.out HB.out) | (with_reducible refine Kd.C_alloc ?_ _) | (with_reducible refine Kd.C_drewN ?_ _) | (with_reducible refine Kd.C_drew ?_)))
                (case side4 => exact HC239_3.out)
                rintro e w12 ⟨rfl, hb⟩
                refine ⟨_, rfl, ?_⟩
                have n0_ := Aside0.mk (below_step (by repeat (first | (with_reducible first | exact HB.out | apply below_alloc | apply pw_below_drewN | apply below_drew1) | exact HB.out)) hb)
                clear HB
                have HB := n0_
                clear n0_
                (try clear hb)
                (try clear hb2)
                (try clear hk)
                (try clear hi)
                refine hK.out _ _ ⟨((HB.out.cell (World.block_lt_of_cell? w _ hw238_0)).trans hw238_0), ((HB.out.cell (World.block_lt_of_cell? w _ hw238_1)).trans hw238_1), ((HB.out.cell (World.block_lt_of_cell? w _ hw238_2)).trans hw238_2), ((HB.out.cell (World.block_lt_of_cell? w _ hw238_3)).trans hw238_3), ((HB.out.cell (World.block_lt_of_cell? w _ hw239_0)).trans hw239_0), ((HB.out.cell (World.block_lt_of_cell? w _ hw239_1)).trans hw239_1), ((HB.out.cell (World.block_lt_of_cell? w _ hw239_2)).trans hw239_2), ((HB.out.cell (World.block_lt_of_cell? w _ hw239_3)).trans hw239_3)⟩ (fun hHeld => ?_)
                clear hK K
                refine norm_ (a' := ?_) ?_ ?_
                rotate_left
                · show Act.put _ (some 25) _ = _
                  simp only [Act.put, List.setIfInBounds_toArray, List.set_cons_zero, List.set_cons_succ, i64_w, i32_w]
                  rfl
                refine pure_ (i := 9) (N := some 26) (v := ?_) (a' := ?_) #[true, true, true, true, true, true, true, true, true, true] rfl rfl (any_of HT_.out (by kernel_rfl)) (fun _ _ _ h => h) (Or.inl ⟨by rfl, ?_⟩) ?_ ?_
                rotate_left
                · intro w'
                  go_simp
                  with_reducible rfl
                rotate_left
                · simp only [Act.put, List.setIfInBounds_toArray, List.set_cons_zero, List.set_cons_succ, i64_w, i32_w]
                  rfl
                refine done_ (done_of HT_.out (by kernel_rfl)) ?_
                try go_wp2
                go_ret
                exact ⟨by first | rfl | (simp [errW_none, errW_some] <;> rfl) | (simp [*, errW_none, errW_some] <;> rfl), by repeat (first | (with_reducible first | exact HB.out | apply below_alloc | apply pw_below_drewN | apply below_drew1) | exact HB.out)⟩
            · rw [if_neg c6] at H
              exact absurd H (by simp)
          · rw [if_neg c5] at H
            exact absurd H (by simp)
        · rw [if_neg c4] at H
          have c4b0 : decide (x5_1 < (l0.length : Int)) = false := decide_eq_false c4
          clear c4
          obtain rfl := Option.some.inj H
          go_wp2
          go_ret
          exact ⟨by first | rfl | (simp [errW_none, errW_some] <;> rfl) | (simp [*, errW_none, errW_some] <;> rfl), by repeat (first | (with_reducible first | exact HB.out | apply below_alloc | apply pw_below_drewN | apply below_drew1) | exact HB.out)⟩
  · rw [if_neg c3] at H
    have c3b0 : ((l0.length : Int) == (l1.length : Int)) = false := beq_eq_false_iff_ne.mpr c3
    have c3b1 : ((l0.length : Int) != (l1.length : Int)) = true := bne_iff_ne.mpr c3
    have c3b2 : (l0.length == l1.length) = false := by first | simpa using c3 | (simp at c3 ⊢; omega)
    obtain rfl := Option.some.inj H
    go_enter Tryz.func55, Tryz.ntmps55
    go_wp2
    go_ret
    exact ⟨by first | rfl | (simp [errW_none, errW_some] <;> rfl) | (simp [*, errW_none, errW_some] <;> rfl), by repeat (first | (with_reducible first | exact HB.out | apply below_alloc | apply pw_below_drewN | apply below_drew1) | exact HB.out)⟩


set_option maxHeartbeats 8000000 in
set_option maxRecDepth 100000 in
theorem vinculumref09_Equal.step (k : Nat) (ih_55 : ∀ m_, m_ < k → ∀ (A0 : Option Addr) (c0 : Nat) (l0 : List (S26)) (A1 : Option Addr) (c1 : Nat) (l1 : List (S26)) (r : Bool) (w : World) (hr0 : Kd.C k26 w A0 l0.length l0) (hc0 : l0.length ≤ c0) (hr1 : Kd.C k26 w A1 l1.length l1) (hc1 : l1.length ≤ c1) (h : vinculumref09_SameItems.f m_ l0 l1 = some r),
    Calls Tryz.prog 55 #[.slice A0 l0.length c0, .slice A1 l1.length c1] w fun e w' => e = .returned (.bool r) ∧ Below w.heap.size w w') (ih_19 : ∀ m_, m_ < k → ∀ (a0_0 : Int) (a0_1 : ByteArray) (a0_2 : Int) (A0_3 : Option Addr) (c0_3 : Nat) (l0_3 : List (S26)) (a1_0 : Int) (a1_1 : ByteArray) (a1_2 : Int) (A1_3 : Option Addr) (c1_3 : Nat) (l1_3 : List (S26)) (r : Bool) (w : World) (hr0_3 : Kd.C k26 w A0_3 l0_3.length l0_3) (hc0_3 : l0_3.length ≤ c0_3) (hr1_3 : Kd.C k26 w A1_3 l1_3.length l1_3) (hc1_3 : l1_3.length ≤ c1_3) (h : vinculumref09_Equal.f m_ a0_0 a0_1 a0_2 l0_3 a1_0 a1_1 a1_2 l1_3 = some r),
    Calls Tryz.prog 19 #[.agg #[.int .i64 a0_0, .string a0_1, .int .i64 a0_2, .slice A0_3 l0_3.length c0_3], .agg #[.int .i64 a1_0, .string a1_1, .int .i64 a1_2, .slice A1_3 l1_3.length c1_3]] w fun e w' => e = .returned (.bool r) ∧ Below w.heap.size w w') : ∀ (a0_0 : Int) (a0_1 : ByteArray) (a0_2 : Int) (A0_3 : Option Addr) (c0_3 : Nat) (l0_3 : List (S26)) (a1_0 : Int) (a1_1 : ByteArray) (a1_2 : Int) (A1_3 : Option Addr) (c1_3 : Nat) (l1_3 : List (S26)) (r : Bool) (w : World) (hr0_3 : Kd.C k26 w A0_3 l0_3.length l0_3) (hc0_3 : l0_3.length ≤ c0_3) (hr1_3 : Kd.C k26 w A1_3 l1_3.length l1_3) (hc1_3 : l1_3.length ≤ c1_3) (h : vinculumref09_Equal.f k a0_0 a0_1 a0_2 l0_3 a1_0 a1_1 a1_2 l1_3 = some r),
    Calls Tryz.prog 19 #[.agg #[.int .i64 a0_0, .string a0_1, .int .i64 a0_2, .slice A0_3 l0_3.length c0_3], .agg #[.int .i64 a1_0, .string a1_1, .int .i64 a1_2, .slice A1_3 l1_3.length c1_3]] w fun e w' => e = .returned (.bool r) ∧ Below w.heap.size w w' := by
  intro a0_0 a0_1 a0_2 A0_3 c0_3 l0_3 a1_0 a1_1 a1_2 A1_3 c1_3 l1_3 r w hr0_3 hc0_3 hr1_3 hc1_3 h
  cases k with
  | zero => exact absurd h (by simp [vinculumref09_Equal.f])
  | succ k =>
  simp only [vinculumref09_Equal.f] at h
  have hu26 := Tryz.underlying26
  have HR0_3 := Aside0.mk hr0_3
  have HC0_3 := Aside0.mk hc0_3
  clear hr0_3 hc0_3
  have HR1_3 := Aside0.mk hr1_3
  have HC1_3 := Aside0.mk hc1_3
  clear hr1_3 hc1_3
  have HB := Aside0.mk (Below.refl w.heap.size w)
  have H : (if a0_0 = a1_0 then (if a0_1.toList = a1_1.toList then (if a0_2 = a1_2 then ((vinculumref09_SameItems.f k l0_3 l1_3).bind fun t243 => (some t243)) else (some false)) else (some false)) else (some false)) = some r := h
  clear h
  by_cases c3 : a0_0 = a1_0
  · rw [if_pos c3] at H
    have c3b0 : (a0_0 == a1_0) = true := beq_iff_eq.mpr c3
    have c3b1 : (a0_0 != a1_0) = false := bne_eq_false_iff_eq.mpr c3
    clear c3
    by_cases c4 : a0_1.toList = a1_1.toList
    · rw [if_pos c4] at H
      have c4b0 : (a0_1.toList == a1_1.toList) = true := beq_iff_eq.mpr c4
      have c4b1 : (a0_1.toList != a1_1.toList) = false := bne_eq_false_iff_eq.mpr c4
      clear c4
      by_cases c5 : a0_2 = a1_2
      · rw [if_pos c5] at H
        have c5b0 : (a0_2 == a1_2) = true := beq_iff_eq.mpr c5
        have c5b1 : (a0_2 != a1_2) = false := bne_eq_false_iff_eq.mpr c5
        clear c5
        replace H := Option.bind_eq_some_iff.mp H
        obtain ⟨t243, A60, H⟩ := H
        replace H : (some t243) = some r := H
        have A6 := Aside0.mk A60
        clear A60
        obtain rfl := Option.some.inj H
        go_enter Tryz.func19, Tryz.ntmps19
        go_wp2_with (first | ((with_reducible refine gate_dst (N := 2) rfl ?_); refine box_event ?hg (N := 2) ?hd (cs := #[.int .i64 a0_0, .string a0_1, .int .i64 a0_2, .slice A0_3 l0_3.length c0_3]) (t := 26) ?hr ?_; (case hd => rfl); (case hg => rfl); (case hr => first | (go_simp; done) | (go_simp; rfl)); intro gb241 hg w7 hbox hb; have n0_ := Aside0.mk (below_step (by repeat (first | (with_reducible first | exact HB.out | apply below_alloc | apply pw_below_drewN | apply below_drew1) | exact HB.out)) hb); have n1_ := Aside0.mk (hbox); have n2_ := Aside0.mk ((by rw [hg]; exact (below_size (by repeat (first | (with_reducible first | exact HB.out | apply below_alloc | apply pw_below_drewN | apply below_drew1) | exact HB.out))) : w.heap.size ≤ gb241)); have n3_ := Aside0.mk ((by rw [hg]; exact (below_size (by repeat (first | (with_reducible first | exact HB.out | apply below_alloc | apply pw_below_drewN | apply below_drew1) | exact HB.out))) : w.heap.size ≤ gb241)); clear HB; have HB := n0_; have BK241 := n1_; have GW241 := n2_; have GE241 := n3_; clear n0_ n1_ n2_ n3_; clear hb hbox hg) | ((with_reducible refine gate_dst (N := 3) rfl ?_); refine box_event ?hg (N := 3) ?hd (cs := #[.int .i64 a1_0, .string a1_1, .int .i64 a1_2, .slice A1_3 l1_3.length c1_3]) (t := 26) ?hr ?_; (case hd => rfl); (case hg => rfl); (case hr => first | (go_simp; done) | (go_simp; rfl)); intro gb242 hg w8 hbox hb; have n0_ := Aside0.mk (blk_below (g := gb241) (o := .cells #[.int .i64 a0_0, .string a0_1, .int .i64 a0_2, .slice A0_3 l0_3.length c0_3] 26 (0, 0)) (by (with_reducible repeat (first | refine blk_drewN ?_ _ | refine blk_drew ?_ | refine blk_alloc ?_ _)); exact BK241.out) hb); have n1_ := Aside0.mk (below_step (by repeat (first | (with_reducible first | exact HB.out | apply below_alloc | apply pw_below_drewN | apply below_drew1 | refine below_set ?_ GE241.out) | exact HB.out)) hb); have n2_ := Aside0.mk (hbox); have n3_ := Aside0.mk ((by rw [hg]; exact (below_size (by repeat (first | (with_reducible first | exact HB.out | apply below_alloc | apply pw_below_drewN | apply below_drew1 | refine below_set ?_ GE241.out) | exact HB.out))) : w.heap.size ≤ gb242)); have n4_ := Aside0.mk ((by rw [hg]; exact (below_size (by repeat (first | (with_reducible first | exact HB.out | apply below_alloc | apply pw_below_drewN | apply below_drew1 | refine below_set ?_ GE241.out) | exact HB.out))) : w.heap.size ≤ gb242)); have n5_ := Aside0.mk ((by rw [hg]; exact Nat.ne_of_lt (blk_lt (g := gb241) (o := .cells #[.int .i64 a0_0, .string a0_1, .int .i64 a0_2, .slice A0_3 l0_3.length c0_3] 26 (0, 0)) (by (with_reducible repeat (first | refine blk_drewN ?_ _ | refine blk_drew ?_ | refine blk_alloc ?_ _)); exact BK241.out)) : gb241 ≠ gb242)); have n6_ := Aside0.mk ((by rw [hg]; exact Nat.ne_of_gt (blk_lt (g := gb241) (o := .cells #[.int .i64 a0_0, .string a0_1, .int .i64 a0_2, .slice A0_3 l0_3.length c0_3] 26 (0, 0)) (by (with_reducible repeat (first | refine blk_drewN ?_ _ | refine blk_drew ?_ | refine blk_alloc ?_ _)); exact BK241.out)) : gb242 ≠ gb241)); clear BK241; clear HB; have BK241 := n0_; have HB := n1_; have BK242 := n2_; have GW242 := n3_; have GE242 := n4_; have NB241_242 := n5_; have NB242_241 := n6_; clear n0_ n1_ n2_ n3_ n4_ n5_ n6_; clear hb hbox hg; have hnb9 := NB241_242.out; have hnc9 := NB242_241.out; have hcz10_0 : w8.cell? ⟨gb241, 0, none⟩ = some (.int .i64 a0_0) := (blk_cell BK241.out 0).trans rfl; have hcz10_1 : w8.cell? ⟨gb241, 1, none⟩ = some (.string a0_1) := (blk_cell BK241.out 1).trans rfl; have hcz10_2 : w8.cell? ⟨gb241, 2, none⟩ = some (.int .i64 a0_2) := (blk_cell BK241.out 2).trans rfl; have hcz10_3 : w8.cell? ⟨gb241, 3, none⟩ = some (.slice A0_3 l0_3.length c0_3) := (blk_cell BK241.out 3).trans rfl; have hfz10_0 := blk_frozen BK241.out 0; have hfz10_1 := blk_frozen BK241.out 1; have hfz10_2 := blk_frozen BK241.out 2; have hfz10_3 := blk_frozen BK241.out 3; have hcz11_0 : w8.cell? ⟨gb242, 0, none⟩ = some (.int .i64 a1_0) := (blk_cell BK242.out 0).trans rfl; have hcz11_1 : w8.cell? ⟨gb242, 1, none⟩ = some (.string a1_1) := (blk_cell BK242.out 1).trans rfl; have hcz11_2 : w8.cell? ⟨gb242, 2, none⟩ = some (.int .i64 a1_2) := (blk_cell BK242.out 2).trans rfl; have hcz11_3 : w8.cell? ⟨gb242, 3, none⟩ = some (.slice A1_3 l1_3.length c1_3) := (blk_cell BK242.out 3).trans rfl; have hfz11_0 := blk_frozen BK242.out 0; have hfz11_1 := blk_frozen BK242.out 1; have hfz11_2 := blk_frozen BK242.out 2; have hfz11_3 := blk_frozen BK242.out 3) | (go_at_call 55; (with_reducible refine (ih_55 k (by omega) _ _ l0_3 _ _ l1_3 t243 _ ?side1 ?side2 ?side3 ?side4 A6.out).mono ?_); (case side1 => repeat (first | exact (Kd.C_below HR0_3.out HB.out) | (with_reducible refine Kd.C_alloc ?_ _) | (with_reducible refine Kd.C_drewN ?_ _) | (with_reducible refine Kd.C_drew ?_))); (case side2 => exact HC0_3.out); (case side3 => repeat (first | exact (Kd.C_below HR1_3.out HB.out) | (with_reducible refine Kd.C_alloc ?_ _) | (with_reducible refine Kd.C_drewN ?_ _) | (with_reducible refine Kd.C_drew ?_))); (case side4 => exact HC1_3.out); rintro e w12 ⟨rfl, hb⟩; have n0_ := Aside0.mk (blk_below (g := gb241) (o := .cells #[.int .i64 a0_0, .string a0_1, .int .i64 a0_2, .slice A0_3 l0_3.length c0_3] 26 (0, 0)) (by (with_reducible repeat (first | refine blk_drewN ?_ _ | refine blk_drew ?_ | refine blk_alloc ?_ _)); exact BK241.out) hb); have n1_ := Aside0.mk (blk_below (g := gb242) (o := .cells #[.int .i64 a1_0, .string a1_1, .int .i64 a1_2, .slice A1_3 l1_3.length c1_3] 26 (0, 0)) (by (with_reducible repeat (first | refine blk_drewN ?_ _ | refine blk_drew ?_ | refine blk_alloc ?_ _)); exact BK242.out) hb); have n2_ := Aside0.mk (below_step (by repeat (first | (with_reducible first | exact HB.out | apply below_alloc | apply pw_below_drewN | apply below_drew1 | refine below_set ?_ GE241.out | refine below_set ?_ GE242.out) | exact HB.out)) hb); clear BK241; clear BK242; clear HB; have BK241 := n0_; have BK242 := n1_; have HB := n2_; clear n0_ n1_ n2_; (try clear hb); (try clear hb2); (try clear hk); (try clear hi)))
        go_ret
        exact ⟨by first | rfl | (simp [errW_none, errW_some] <;> rfl) | (simp [*, errW_none, errW_some] <;> rfl), by repeat (first | (with_reducible first | exact HB.out | apply below_alloc | apply pw_below_drewN | apply below_drew1 | refine below_set ?_ GE241.out | refine below_set ?_ GE242.out) | exact HB.out)⟩
      · rw [if_neg c5] at H
        have c5b0 : (a0_2 == a1_2) = false := beq_eq_false_iff_ne.mpr c5
        have c5b1 : (a0_2 != a1_2) = true := bne_iff_ne.mpr c5
        obtain rfl := Option.some.inj H
        go_enter Tryz.func19, Tryz.ntmps19
        go_wp2_with (first | ((with_reducible refine gate_dst (N := 2) rfl ?_); refine box_event ?hg (N := 2) ?hd (cs := #[.int .i64 a0_0, .string a0_1, .int .i64 a0_2, .slice A0_3 l0_3.length c0_3]) (t := 26) ?hr ?_; (case hd => rfl); (case hg => rfl); (case hr => first | (go_simp; done) | (go_simp; rfl)); intro gb241 hg w13 hbox hb; have n0_ := Aside0.mk (below_step (by repeat (first | (with_reducible first | exact HB.out | apply below_alloc | apply pw_below_drewN | apply below_drew1) | exact HB.out)) hb); have n1_ := Aside0.mk (hbox); have n2_ := Aside0.mk ((by rw [hg]; exact (below_size (by repeat (first | (with_reducible first | exact HB.out | apply below_alloc | apply pw_below_drewN | apply below_drew1) | exact HB.out))) : w.heap.size ≤ gb241)); have n3_ := Aside0.mk ((by rw [hg]; exact (below_size (by repeat (first | (with_reducible first | exact HB.out | apply below_alloc | apply pw_below_drewN | apply below_drew1) | exact HB.out))) : w.heap.size ≤ gb241)); clear HB; have HB := n0_; have BK241 := n1_; have GW241 := n2_; have GE241 := n3_; clear n0_ n1_ n2_ n3_; clear hb hbox hg) | ((with_reducible refine gate_dst (N := 3) rfl ?_); refine box_event ?hg (N := 3) ?hd (cs := #[.int .i64 a1_0, .string a1_1, .int .i64 a1_2, .slice A1_3 l1_3.length c1_3]) (t := 26) ?hr ?_; (case hd => rfl); (case hg => rfl); (case hr => first | (go_simp; done) | (go_simp; rfl)); intro gb242 hg w14 hbox hb; have n0_ := Aside0.mk (blk_below (g := gb241) (o := .cells #[.int .i64 a0_0, .string a0_1, .int .i64 a0_2, .slice A0_3 l0_3.length c0_3] 26 (0, 0)) (by (with_reducible repeat (first | refine blk_drewN ?_ _ | refine blk_drew ?_ | refine blk_alloc ?_ _)); exact BK241.out) hb); have n1_ := Aside0.mk (below_step (by repeat (first | (with_reducible first | exact HB.out | apply below_alloc | apply pw_below_drewN | apply below_drew1 | refine below_set ?_ GE241.out) | exact HB.out)) hb); have n2_ := Aside0.mk (hbox); have n3_ := Aside0.mk ((by rw [hg]; exact (below_size (by repeat (first | (with_reducible first | exact HB.out | apply below_alloc | apply pw_below_drewN | apply below_drew1 | refine below_set ?_ GE241.out) | exact HB.out))) : w.heap.size ≤ gb242)); have n4_ := Aside0.mk ((by rw [hg]; exact (below_size (by repeat (first | (with_reducible first | exact HB.out | apply below_alloc | apply pw_below_drewN | apply below_drew1 | refine below_set ?_ GE241.out) | exact HB.out))) : w.heap.size ≤ gb242)); have n5_ := Aside0.mk ((by rw [hg]; exact Nat.ne_of_lt (blk_lt (g := gb241) (o := .cells #[.int .i64 a0_0, .string a0_1, .int .i64 a0_2, .slice A0_3 l0_3.length c0_3] 26 (0, 0)) (by (with_reducible repeat (first | refine blk_drewN ?_ _ | refine blk_drew ?_ | refine blk_alloc ?_ _)); exact BK241.out)) : gb241 ≠ gb242)); have n6_ := Aside0.mk ((by rw [hg]; exact Nat.ne_of_gt (blk_lt (g := gb241) (o := .cells #[.int .i64 a0_0, .string a0_1, .int .i64 a0_2, .slice A0_3 l0_3.length c0_3] 26 (0, 0)) (by (with_reducible repeat (first | refine blk_drewN ?_ _ | refine blk_drew ?_ | refine blk_alloc ?_ _)); exact BK241.out)) : gb242 ≠ gb241)); clear BK241; clear HB; have BK241 := n0_; have HB := n1_; have BK242 := n2_; have GW242 := n3_; have GE242 := n4_; have NB241_242 := n5_; have NB242_241 := n6_; clear n0_ n1_ n2_ n3_ n4_ n5_ n6_; clear hb hbox hg; have hnb15 := NB241_242.out; have hnc15 := NB242_241.out; have hcz16_0 : w14.cell? ⟨gb241, 0, none⟩ = some (.int .i64 a0_0) := (blk_cell BK241.out 0).trans rfl; have hcz16_1 : w14.cell? ⟨gb241, 1, none⟩ = some (.string a0_1) := (blk_cell BK241.out 1).trans rfl; have hcz16_2 : w14.cell? ⟨gb241, 2, none⟩ = some (.int .i64 a0_2) := (blk_cell BK241.out 2).trans rfl; have hcz16_3 : w14.cell? ⟨gb241, 3, none⟩ = some (.slice A0_3 l0_3.length c0_3) := (blk_cell BK241.out 3).trans rfl; have hfz16_0 := blk_frozen BK241.out 0; have hfz16_1 := blk_frozen BK241.out 1; have hfz16_2 := blk_frozen BK241.out 2; have hfz16_3 := blk_frozen BK241.out 3; have hcz17_0 : w14.cell? ⟨gb242, 0, none⟩ = some (.int .i64 a1_0) := (blk_cell BK242.out 0).trans rfl; have hcz17_1 : w14.cell? ⟨gb242, 1, none⟩ = some (.string a1_1) := (blk_cell BK242.out 1).trans rfl; have hcz17_2 : w14.cell? ⟨gb242, 2, none⟩ = some (.int .i64 a1_2) := (blk_cell BK242.out 2).trans rfl; have hcz17_3 : w14.cell? ⟨gb242, 3, none⟩ = some (.slice A1_3 l1_3.length c1_3) := (blk_cell BK242.out 3).trans rfl; have hfz17_0 := blk_frozen BK242.out 0; have hfz17_1 := blk_frozen BK242.out 1; have hfz17_2 := blk_frozen BK242.out 2; have hfz17_3 := blk_frozen BK242.out 3))
        go_ret
        exact ⟨by first | rfl | (simp [errW_none, errW_some] <;> rfl) | (simp [*, errW_none, errW_some] <;> rfl), by repeat (first | (with_reducible first | exact HB.out | apply below_alloc | apply pw_below_drewN | apply below_drew1 | refine below_set ?_ GE241.out | refine below_set ?_ GE242.out) | exact HB.out)⟩
    · rw [if_neg c4] at H
      have c4b0 : (a0_1.toList == a1_1.toList) = false := beq_eq_false_iff_ne.mpr c4
      have c4b1 : (a0_1.toList != a1_1.toList) = true := bne_iff_ne.mpr c4
      obtain rfl := Option.some.inj H
      go_enter Tryz.func19, Tryz.ntmps19
      go_wp2_with (first | ((with_reducible refine gate_dst (N := 2) rfl ?_); refine box_event ?hg (N := 2) ?hd (cs := #[.int .i64 a0_0, .string a0_1, .int .i64 a0_2, .slice A0_3 l0_3.length c0_3]) (t := 26) ?hr ?_; (case hd => rfl); (case hg => rfl); (case hr => first | (go_simp; done) | (go_simp; rfl)); intro gb241 hg w18 hbox hb; have n0_ := Aside0.mk (below_step (by repeat (first | (with_reducible first | exact HB.out | apply below_alloc | apply pw_below_drewN | apply below_drew1) | exact HB.out)) hb); have n1_ := Aside0.mk (hbox); have n2_ := Aside0.mk ((by rw [hg]; exact (below_size (by repeat (first | (with_reducible first | exact HB.out | apply below_alloc | apply pw_below_drewN | apply below_drew1) | exact HB.out))) : w.heap.size ≤ gb241)); have n3_ := Aside0.mk ((by rw [hg]; exact (below_size (by repeat (first | (with_reducible first | exact HB.out | apply below_alloc | apply pw_below_drewN | apply below_drew1) | exact HB.out))) : w.heap.size ≤ gb241)); clear HB; have HB := n0_; have BK241 := n1_; have GW241 := n2_; have GE241 := n3_; clear n0_ n1_ n2_ n3_; clear hb hbox hg) | ((with_reducible refine gate_dst (N := 3) rfl ?_); refine box_event ?hg (N := 3) ?hd (cs := #[.int .i64 a1_0, .string a1_1, .int .i64 a1_2, .slice A1_3 l1_3.length c1_3]) (t := 26) ?hr ?_; (case hd => rfl); (case hg => rfl); (case hr => first | (go_simp; done) | (go_simp; rfl)); intro gb242 hg w19 hbox hb; have n0_ := Aside0.mk (blk_below (g := gb241) (o := .cells #[.int .i64 a0_0, .string a0_1, .int .i64 a0_2, .slice A0_3 l0_3.length c0_3] 26 (0, 0)) (by (with_reducible repeat (first | refine blk_drewN ?_ _ | refine blk_drew ?_ | refine blk_alloc ?_ _)); exact BK241.out) hb); have n1_ := Aside0.mk (below_step (by repeat (first | (with_reducible first | exact HB.out | apply below_alloc | apply pw_below_drewN | apply below_drew1 | refine below_set ?_ GE241.out) | exact HB.out)) hb); have n2_ := Aside0.mk (hbox); have n3_ := Aside0.mk ((by rw [hg]; exact (below_size (by repeat (first | (with_reducible first | exact HB.out | apply below_alloc | apply pw_below_drewN | apply below_drew1 | refine below_set ?_ GE241.out) | exact HB.out))) : w.heap.size ≤ gb242)); have n4_ := Aside0.mk ((by rw [hg]; exact (below_size (by repeat (first | (with_reducible first | exact HB.out | apply below_alloc | apply pw_below_drewN | apply below_drew1 | refine below_set ?_ GE241.out) | exact HB.out))) : w.heap.size ≤ gb242)); have n5_ := Aside0.mk ((by rw [hg]; exact Nat.ne_of_lt (blk_lt (g := gb241) (o := .cells #[.int .i64 a0_0, .string a0_1, .int .i64 a0_2, .slice A0_3 l0_3.length c0_3] 26 (0, 0)) (by (with_reducible repeat (first | refine blk_drewN ?_ _ | refine blk_drew ?_ | refine blk_alloc ?_ _)); exact BK241.out)) : gb241 ≠ gb242)); have n6_ := Aside0.mk ((by rw [hg]; exact Nat.ne_of_gt (blk_lt (g := gb241) (o := .cells #[.int .i64 a0_0, .string a0_1, .int .i64 a0_2, .slice A0_3 l0_3.length c0_3] 26 (0, 0)) (by (with_reducible repeat (first | refine blk_drewN ?_ _ | refine blk_drew ?_ | refine blk_alloc ?_ _)); exact BK241.out)) : gb242 ≠ gb241)); clear BK241; clear HB; have BK241 := n0_; have HB := n1_; have BK242 := n2_; have GW242 := n3_; have GE242 := n4_; have NB241_242 := n5_; have NB242_241 := n6_; clear n0_ n1_ n2_ n3_ n4_ n5_ n6_; clear hb hbox hg; have hnb20 := NB241_242.out; have hnc20 := NB242_241.out; have hcz21_0 : w19.cell? ⟨gb241, 0, none⟩ = some (.int .i64 a0_0) := (blk_cell BK241.out 0).trans rfl; have hcz21_1 : w19.cell? ⟨gb241, 1, none⟩ = some (.string a0_1) := (blk_cell BK241.out 1).trans rfl; have hcz21_2 : w19.cell? ⟨gb241, 2, none⟩ = some (.int .i64 a0_2) := (blk_cell BK241.out 2).trans rfl; have hcz21_3 : w19.cell? ⟨gb241, 3, none⟩ = some (.slice A0_3 l0_3.length c0_3) := (blk_cell BK241.out 3).trans rfl; have hfz21_0 := blk_frozen BK241.out 0; have hfz21_1 := blk_frozen BK241.out 1; have hfz21_2 := blk_frozen BK241.out 2; have hfz21_3 := blk_frozen BK241.out 3; have hcz22_0 : w19.cell? ⟨gb242, 0, none⟩ = some (.int .i64 a1_0) := (blk_cell BK242.out 0).trans rfl; have hcz22_1 : w19.cell? ⟨gb242, 1, none⟩ = some (.string a1_1) := (blk_cell BK242.out 1).trans rfl; have hcz22_2 : w19.cell? ⟨gb242, 2, none⟩ = some (.int .i64 a1_2) := (blk_cell BK242.out 2).trans rfl; have hcz22_3 : w19.cell? ⟨gb242, 3, none⟩ = some (.slice A1_3 l1_3.length c1_3) := (blk_cell BK242.out 3).trans rfl; have hfz22_0 := blk_frozen BK242.out 0; have hfz22_1 := blk_frozen BK242.out 1; have hfz22_2 := blk_frozen BK242.out 2; have hfz22_3 := blk_frozen BK242.out 3))
      go_ret
      exact ⟨by first | rfl | (simp [errW_none, errW_some] <;> rfl) | (simp [*, errW_none, errW_some] <;> rfl), by repeat (first | (with_reducible first | exact HB.out | apply below_alloc | apply pw_below_drewN | apply below_drew1 | refine below_set ?_ GE241.out | refine below_set ?_ GE242.out) | exact HB.out)⟩
  · rw [if_neg c3] at H
    have c3b0 : (a0_0 == a1_0) = false := beq_eq_false_iff_ne.mpr c3
    have c3b1 : (a0_0 != a1_0) = true := bne_iff_ne.mpr c3
    obtain rfl := Option.some.inj H
    go_enter Tryz.func19, Tryz.ntmps19
    go_wp2_with (first | ((with_reducible refine gate_dst (N := 2) rfl ?_); refine box_event ?hg (N := 2) ?hd (cs := #[.int .i64 a0_0, .string a0_1, .int .i64 a0_2, .slice A0_3 l0_3.length c0_3]) (t := 26) ?hr ?_; (case hd => rfl); (case hg => rfl); (case hr => first | (go_simp; done) | (go_simp; rfl)); intro gb241 hg w23 hbox hb; have n0_ := Aside0.mk (below_step (by repeat (first | (with_reducible first | exact HB.out | apply below_alloc | apply pw_below_drewN | apply below_drew1) | exact HB.out)) hb); have n1_ := Aside0.mk (hbox); have n2_ := Aside0.mk ((by rw [hg]; exact (below_size (by repeat (first | (with_reducible first | exact HB.out | apply below_alloc | apply pw_below_drewN | apply below_drew1) | exact HB.out))) : w.heap.size ≤ gb241)); have n3_ := Aside0.mk ((by rw [hg]; exact (below_size (by repeat (first | (with_reducible first | exact HB.out | apply below_alloc | apply pw_below_drewN | apply below_drew1) | exact HB.out))) : w.heap.size ≤ gb241)); clear HB; have HB := n0_; have BK241 := n1_; have GW241 := n2_; have GE241 := n3_; clear n0_ n1_ n2_ n3_; clear hb hbox hg) | ((with_reducible refine gate_dst (N := 3) rfl ?_); refine box_event ?hg (N := 3) ?hd (cs := #[.int .i64 a1_0, .string a1_1, .int .i64 a1_2, .slice A1_3 l1_3.length c1_3]) (t := 26) ?hr ?_; (case hd => rfl); (case hg => rfl); (case hr => first | (go_simp; done) | (go_simp; rfl)); intro gb242 hg w24 hbox hb; have n0_ := Aside0.mk (blk_below (g := gb241) (o := .cells #[.int .i64 a0_0, .string a0_1, .int .i64 a0_2, .slice A0_3 l0_3.length c0_3] 26 (0, 0)) (by (with_reducible repeat (first | refine blk_drewN ?_ _ | refine blk_drew ?_ | refine blk_alloc ?_ _)); exact BK241.out) hb); have n1_ := Aside0.mk (below_step (by repeat (first | (with_reducible first | exact HB.out | apply below_alloc | apply pw_below_drewN | apply below_drew1 | refine below_set ?_ GE241.out) | exact HB.out)) hb); have n2_ := Aside0.mk (hbox); have n3_ := Aside0.mk ((by rw [hg]; exact (below_size (by repeat (first | (with_reducible first | exact HB.out | apply below_alloc | apply pw_below_drewN | apply below_drew1 | refine below_set ?_ GE241.out) | exact HB.out))) : w.heap.size ≤ gb242)); have n4_ := Aside0.mk ((by rw [hg]; exact (below_size (by repeat (first | (with_reducible first | exact HB.out | apply below_alloc | apply pw_below_drewN | apply below_drew1 | refine below_set ?_ GE241.out) | exact HB.out))) : w.heap.size ≤ gb242)); have n5_ := Aside0.mk ((by rw [hg]; exact Nat.ne_of_lt (blk_lt (g := gb241) (o := .cells #[.int .i64 a0_0, .string a0_1, .int .i64 a0_2, .slice A0_3 l0_3.length c0_3] 26 (0, 0)) (by (with_reducible repeat (first | refine blk_drewN ?_ _ | refine blk_drew ?_ | refine blk_alloc ?_ _)); exact BK241.out)) : gb241 ≠ gb242)); have n6_ := Aside0.mk ((by rw [hg]; exact Nat.ne_of_gt (blk_lt (g := gb241) (o := .cells #[.int .i64 a0_0, .string a0_1, .int .i64 a0_2, .slice A0_3 l0_3.length c0_3] 26 (0, 0)) (by (with_reducible repeat (first | refine blk_drewN ?_ _ | refine blk_drew ?_ | refine blk_alloc ?_ _)); exact BK241.out)) : gb242 ≠ gb241)); clear BK241; clear HB; have BK241 := n0_; have HB := n1_; have BK242 := n2_; have GW242 := n3_; have GE242 := n4_; have NB241_242 := n5_; have NB242_241 := n6_; clear n0_ n1_ n2_ n3_ n4_ n5_ n6_; clear hb hbox hg; have hnb25 := NB241_242.out; have hnc25 := NB242_241.out; have hcz26_0 : w24.cell? ⟨gb241, 0, none⟩ = some (.int .i64 a0_0) := (blk_cell BK241.out 0).trans rfl; have hcz26_1 : w24.cell? ⟨gb241, 1, none⟩ = some (.string a0_1) := (blk_cell BK241.out 1).trans rfl; have hcz26_2 : w24.cell? ⟨gb241, 2, none⟩ = some (.int .i64 a0_2) := (blk_cell BK241.out 2).trans rfl; have hcz26_3 : w24.cell? ⟨gb241, 3, none⟩ = some (.slice A0_3 l0_3.length c0_3) := (blk_cell BK241.out 3).trans rfl; have hfz26_0 := blk_frozen BK241.out 0; have hfz26_1 := blk_frozen BK241.out 1; have hfz26_2 := blk_frozen BK241.out 2; have hfz26_3 := blk_frozen BK241.out 3; have hcz27_0 : w24.cell? ⟨gb242, 0, none⟩ = some (.int .i64 a1_0) := (blk_cell BK242.out 0).trans rfl; have hcz27_1 : w24.cell? ⟨gb242, 1, none⟩ = some (.string a1_1) := (blk_cell BK242.out 1).trans rfl; have hcz27_2 : w24.cell? ⟨gb242, 2, none⟩ = some (.int .i64 a1_2) := (blk_cell BK242.out 2).trans rfl; have hcz27_3 : w24.cell? ⟨gb242, 3, none⟩ = some (.slice A1_3 l1_3.length c1_3) := (blk_cell BK242.out 3).trans rfl; have hfz27_0 := blk_frozen BK242.out 0; have hfz27_1 := blk_frozen BK242.out 1; have hfz27_2 := blk_frozen BK242.out 2; have hfz27_3 := blk_frozen BK242.out 3))
    go_ret
    exact ⟨by first | rfl | (simp [errW_none, errW_some] <;> rfl) | (simp [*, errW_none, errW_some] <;> rfl), by repeat (first | (with_reducible first | exact HB.out | apply below_alloc | apply pw_below_drewN | apply below_drew1 | refine below_set ?_ GE241.out | refine below_set ?_ GE242.out) | exact HB.out)⟩


theorem vinculumref09_Equal.all_ (k : Nat) : (∀ (A0 : Option Addr) (c0 : Nat) (l0 : List (S26)) (A1 : Option Addr) (c1 : Nat) (l1 : List (S26)) (r : Bool) (w : World) (hr0 : Kd.C k26 w A0 l0.length l0) (hc0 : l0.length ≤ c0) (hr1 : Kd.C k26 w A1 l1.length l1) (hc1 : l1.length ≤ c1) (h : vinculumref09_SameItems.f k l0 l1 = some r),
    Calls Tryz.prog 55 #[.slice A0 l0.length c0, .slice A1 l1.length c1] w fun e w' => e = .returned (.bool r) ∧ Below w.heap.size w w') ∧ (∀ (a0_0 : Int) (a0_1 : ByteArray) (a0_2 : Int) (A0_3 : Option Addr) (c0_3 : Nat) (l0_3 : List (S26)) (a1_0 : Int) (a1_1 : ByteArray) (a1_2 : Int) (A1_3 : Option Addr) (c1_3 : Nat) (l1_3 : List (S26)) (r : Bool) (w : World) (hr0_3 : Kd.C k26 w A0_3 l0_3.length l0_3) (hc0_3 : l0_3.length ≤ c0_3) (hr1_3 : Kd.C k26 w A1_3 l1_3.length l1_3) (hc1_3 : l1_3.length ≤ c1_3) (h : vinculumref09_Equal.f k a0_0 a0_1 a0_2 l0_3 a1_0 a1_1 a1_2 l1_3 = some r),
    Calls Tryz.prog 19 #[.agg #[.int .i64 a0_0, .string a0_1, .int .i64 a0_2, .slice A0_3 l0_3.length c0_3], .agg #[.int .i64 a1_0, .string a1_1, .int .i64 a1_2, .slice A1_3 l1_3.length c1_3]] w fun e w' => e = .returned (.bool r) ∧ Below w.heap.size w w') := by
  induction k using Nat.strongRecOn with
  | _ k ih =>
  exact ⟨vinculumref09_SameItems.step k (fun m_ h_ => (ih m_ h_).1) (fun m_ h_ => (ih m_ h_).2), vinculumref09_Equal.step k (fun m_ h_ => (ih m_ h_).1) (fun m_ h_ => (ih m_ h_).2)⟩
theorem vinculumref09_SameItems.calls (k : Nat) : ∀ (A0 : Option Addr) (c0 : Nat) (l0 : List (S26)) (A1 : Option Addr) (c1 : Nat) (l1 : List (S26)) (r : Bool) (w : World) (hr0 : Kd.C k26 w A0 l0.length l0) (hc0 : l0.length ≤ c0) (hr1 : Kd.C k26 w A1 l1.length l1) (hc1 : l1.length ≤ c1) (h : vinculumref09_SameItems.f k l0 l1 = some r),
    Calls Tryz.prog 55 #[.slice A0 l0.length c0, .slice A1 l1.length c1] w fun e w' => e = .returned (.bool r) ∧ Below w.heap.size w w' := (vinculumref09_Equal.all_ k).1
theorem vinculumref09_Equal.calls (k : Nat) : ∀ (a0_0 : Int) (a0_1 : ByteArray) (a0_2 : Int) (A0_3 : Option Addr) (c0_3 : Nat) (l0_3 : List (S26)) (a1_0 : Int) (a1_1 : ByteArray) (a1_2 : Int) (A1_3 : Option Addr) (c1_3 : Nat) (l1_3 : List (S26)) (r : Bool) (w : World) (hr0_3 : Kd.C k26 w A0_3 l0_3.length l0_3) (hc0_3 : l0_3.length ≤ c0_3) (hr1_3 : Kd.C k26 w A1_3 l1_3.length l1_3) (hc1_3 : l1_3.length ≤ c1_3) (h : vinculumref09_Equal.f k a0_0 a0_1 a0_2 l0_3 a1_0 a1_1 a1_2 l1_3 = some r),
    Calls Tryz.prog 19 #[.agg #[.int .i64 a0_0, .string a0_1, .int .i64 a0_2, .slice A0_3 l0_3.length c0_3], .agg #[.int .i64 a1_0, .string a1_1, .int .i64 a1_2, .slice A1_3 l1_3.length c1_3]] w fun e w' => e = .returned (.bool r) ∧ Below w.heap.size w w' := (vinculumref09_Equal.all_ k).2

/-! ### node_Equal: function 31 -/
mutual
def node_EqualFunc.l0 : Nat → List S26 → List S26 → Int → Option Bool
  | 0, _, _, _ => none
  | k + 1, x0, x1, x => if x < (x0.length : Int) then (if 0 ≤ x then (if x < (x1.length : Int) then ((node_Equal.f k (rd_T26 x0 x).f0 (rd_T26 x0 x).f1 (rd_T26 x0 x).f2 (rd_T26 x0 x).f3 (rd_T26 x1 x).f0 (rd_T26 x1 x).f1 (rd_T26 x1 x).f2 (rd_T26 x1 x).f3).bind fun t => (if t = true then node_EqualFunc.l0 k x0 x1 (wrap64 (x + 1)) else some false)) else none) else none) else some true
def node_EqualFunc.f : Nat → List S26 → List S26 → Option Bool
  | 0, _, _ => none
  | k + 1, l0, l1 => if (l0.length : Int) = (l1.length : Int) then node_EqualFunc.l0 k l0 l1 0 else some false
def node_Equal.f : Nat → Int → ByteArray → Int → List S26 → Int → ByteArray → Int → List S26 → Option Bool
  | 0, _, _, _, _, _, _, _, _ => none
  | k + 1, a0, a1, a2, a3, b0, b1, b2, b3 => if a0 = b0 then (if a1.toList = b1.toList then (if a2 = b2 then node_EqualFunc.f k a3 b3 else some false) else some false) else some false
end
theorem node_Equal.mono_g : ∀ k, (∀ y0 y1, LeO (node_EqualFunc.f k y0 y1) (node_EqualFunc.f (k + 1) y0 y1)) ∧ (∀ y0 y1 y2, LeO (node_EqualFunc.l0 k y0 y1 y2) (node_EqualFunc.l0 (k + 1) y0 y1 y2)) ∧ (∀ y0 y1 y2 y3 y4 y5 y6 y7, LeO (node_Equal.f k y0 y1 y2 y3 y4 y5 y6 y7) (node_Equal.f (k + 1) y0 y1 y2 y3 y4 y5 y6 y7))
  | 0 => ⟨fun _ _ r h => by simp [node_EqualFunc.f] at h, fun _ _ _ r h => by simp [node_EqualFunc.l0] at h, fun _ _ _ _ _ _ _ _ r h => by simp [node_Equal.f] at h⟩
  | k + 1 => by
    obtain ⟨ih0, ih1, ih2⟩ := node_Equal.mono_g k
    refine ⟨?_, ?_, ?_⟩
    · intro y0 y1
      unfold node_EqualFunc.f
      exact LeO.ite (ih1 _ _ _) (LeO.refl _)
    · intro y0 y1 y2
      unfold node_EqualFunc.l0
      exact LeO.ite (LeO.ite (LeO.ite (LeO.bind (ih2 _ _ _ _ _ _ _ _) (fun _ => LeO.ite (ih1 _ _ _) (LeO.refl _))) (LeO.refl _)) (LeO.refl _)) (LeO.refl _)
    · intro y0 y1 y2 y3 y4 y5 y6 y7
      unfold node_Equal.f
      exact LeO.ite (LeO.ite (LeO.ite (ih0 _ _) (LeO.refl _)) (LeO.refl _)) (LeO.refl _)
theorem node_Equal.mono : ∀ a0 a1 a2 a3 a4 a5 a6 a7 k, LeO (node_Equal.f k a0 a1 a2 a3 a4 a5 a6 a7) (node_Equal.f (k + 1) a0 a1 a2 a3 a4 a5 a6 a7) := fun a0 a1 a2 a3 a4 a5 a6 a7 k => (node_Equal.mono_g k).2.2 a0 a1 a2 a3 a4 a5 a6 a7
theorem node_EqualFunc.mono : ∀ a0 a1 k, LeO (node_EqualFunc.f k a0 a1) (node_EqualFunc.f (k + 1) a0 a1) := fun a0 a1 k => (node_Equal.mono_g k).1 a0 a1
abbrev EqualSaid (k : Nat) : Prop := ∀ (a0_0 : Int) (a0_1 : ByteArray) (a0_2 : Int) (A0_3 : Option Addr) (c0_3 : Nat) (l0_3 : List S26) (a1_0 : Int) (a1_1 : ByteArray) (a1_2 : Int) (A1_3 : Option Addr) (c1_3 : Nat) (l1_3 : List S26) (r : Bool) (w : World) (_ : Kd.C k26 w A0_3 l0_3.length l0_3) (_ : l0_3.length ≤ c0_3) (_ : Kd.C k26 w A1_3 l1_3.length l1_3) (_ : l1_3.length ≤ c1_3) (_ : node_Equal.f k a0_0 a0_1 a0_2 l0_3 a1_0 a1_1 a1_2 l1_3 = some r),
    Calls Tryz.prog 31 #[.agg #[.int .i64 a0_0, .string a0_1, .int .i64 a0_2, .slice A0_3 l0_3.length c0_3], .agg #[.int .i64 a1_0, .string a1_1, .int .i64 a1_2, .slice A1_3 l1_3.length c1_3]] w fun e w' => e = .returned (.bool r) ∧ Below w.heap.size w w'
abbrev EqualFuncSaid (k : Nat) : Prop := ∀ (A0 : Option Addr) (c0 : Nat) (l0 : List S26) (A1 : Option Addr) (c1 : Nat) (l1 : List S26) (r : Bool) (w : World) (_ : Kd.C k26 w A0 l0.length l0) (_ : l0.length ≤ c0) (_ : Kd.C k26 w A1 l1.length l1) (_ : l1.length ≤ c1) (_ : node_EqualFunc.f k l0 l1 = some r),
    Calls Tryz.prog 61 #[.slice A0 l0.length c0, .slice A1 l1.length c1, .func (.func 31) #[] #[]] w fun e w' => e = .returned (.bool r) ∧ Below w.heap.size w w'
set_option maxHeartbeats 4000000 in
set_option maxRecDepth 100000 in
theorem node_EqualFunc.step (k : Nat) (ih : ∀ m, m < k → EqualSaid m) : EqualFuncSaid k := by
  intro A0 c0 l0 A1 c1 l1 r w hr0 hc0 hr1 hc1 h
  cases k with
  | zero => exact absurd h (by simp [node_EqualFunc.f])
  | succ k =>
  simp only [node_EqualFunc.f] at h
  have hu26 := Tryz.underlying26
  have HR0 := Aside0.mk hr0
  have HC0 := Aside0.mk hc0
  have HR1 := Aside0.mk hr1
  have HC1 := Aside0.mk hc1
  clear hr0 hc0 hr1 hc1
  have HB := Aside0.mk (Below.refl w.heap.size w)
  by_cases c3 : (l0.length : Int) = (l1.length : Int)
  case neg =>
    rw [if_neg c3] at h
    obtain rfl := Option.some.inj h
    have c3b : ((l0.length : Int) != (l1.length : Int)) = true := bne_iff_ne.mpr c3
    have c3c : (l0.length == l1.length) = false := by rw [beq_eq_false_iff_ne]; omega
    have c3d : (l0.length != l1.length) = true := by rw [bne_iff_ne]; omega
    clear c3 h
    go_enter Tryz.func61, Tryz.ntmps61
    go_wp2
    go_ret
    exact ⟨rfl, Below.refl _ _⟩
  rw [if_pos c3] at h
  have H' := Aside0.mk h
  have c3b : ((l0.length : Int) != (l1.length : Int)) = false := bne_eq_false_iff_eq.mpr c3
  have c3c : (l0.length == l1.length) = true := by rw [beq_iff_eq]; omega
  have c3d : (l0.length != l1.length) = false := by rw [bne_eq_false_iff_eq]; omega
  clear c3 h
  go_enter Tryz.func61, Tryz.ntmps61
  go_wp2
  clear c3b c3c c3d
  go_loopg [17] k (fun kq v17 w' => ∃ (x : Int), v17 = .int .i64 x ∧ Aside0 (node_EqualFunc.l0 kq l0 l1 x = some r) ∧ Aside0 (kq ≤ k) ∧ Aside0 (Below w.heap.size w w'))
  case atStart => exact ⟨0, rfl, H', ⟨Nat.le_refl _⟩, HB⟩
  case round =>
    clear H' HB
    obtain ⟨x, rfl, HA, HK1, HB⟩ := hrel
    cases gk with
    | zero => exact absurd HA.out (by simp [node_EqualFunc.l0])
    | succ k1 =>
      have H := HA.out
      clear HA
      simp only [node_EqualFunc.l0] at H
      by_cases c4 : x < (l0.length : Int)
      case neg =>
        rw [if_neg c4] at H
        obtain rfl := Option.some.inj H
        have c4b : decide (x < (l0.length : Int)) = false := decide_eq_false c4
        clear c4 H
        go_wp2
        go_ret
        exact ⟨rfl, HB.out⟩
      rw [if_pos c4] at H
      have c4b : decide (x < (l0.length : Int)) = true := decide_eq_true c4
      by_cases c5 : 0 ≤ x
      case neg => rw [if_neg c5] at H; cases H
      rw [if_pos c5] at H
      by_cases c6 : x < (l1.length : Int)
      case neg => rw [if_neg c6] at H; cases H
      rw [if_pos c6] at H
      obtain ⟨t, ht, H⟩ := Option.bind_eq_some_iff.mp H
      have HT := Aside0.mk ht
      clear ht
      obtain ⟨ad, A3, d3, e0, hx0, hx1, hx2, hx3, hl3, hi3⟩ := at_T26 HR0.out x c5 c4
      cases e0
      obtain ⟨bd, B3, f3, e1, hy0, hy1, hy2, hy3, hm3, hj3⟩ := at_T26 HR1.out x c5 c6
      cases e1
      replace hx0 := (HB.out.cell (World.block_lt_of_cell? w _ hx0)).trans hx0
      replace hx1 := (HB.out.cell (World.block_lt_of_cell? w _ hx1)).trans hx1
      replace hx2 := (HB.out.cell (World.block_lt_of_cell? w _ hx2)).trans hx2
      replace hx3 := (HB.out.cell (World.block_lt_of_cell? w _ hx3)).trans hx3
      replace hy0 := (HB.out.cell (World.block_lt_of_cell? w _ hy0)).trans hy0
      replace hy1 := (HB.out.cell (World.block_lt_of_cell? w _ hy1)).trans hy1
      replace hy2 := (HB.out.cell (World.block_lt_of_cell? w _ hy2)).trans hy2
      replace hy3 := (HB.out.cell (World.block_lt_of_cell? w _ hy3)).trans hy3
      have HI := Aside0.mk (And.intro hi3 (And.intro hl3 (And.intro hj3 hm3)))
      clear hi3 hl3 hj3 hm3
      have BA := below_alloc (Below.refl wr.heap.size wr) (.cells #[.int .i64 (rd_T26 l0 x).f0, .string (rd_T26 l0 x).f1, .int .i64 (rd_T26 l0 x).f2, .slice A3 (rd_T26 l0 x).f3.length d3] 26)
      have m0 := (BA.cell (World.block_lt_of_cell? wr _ hy0)).trans hy0
      have m1 := (BA.cell (World.block_lt_of_cell? wr _ hy1)).trans hy1
      have m2 := (BA.cell (World.block_lt_of_cell? wr _ hy2)).trans hy2
      have m3 := (BA.cell (World.block_lt_of_cell? wr _ hy3)).trans hy3
      clear BA hy0 hy1 hy2 hy3
      replace c4 := eq_true c4
      replace c5 := eq_true c5
      replace c6 := eq_true c6
      have HE := Aside0.mk (ih k1 (by have := HK1.out; omega))
      go_wp2_with fail
      with_reducible refine (HE.out _ _ _ _ _ _ _ _ _ _ _ _ t _ ?s1 HI.out.2.1 ?s2 HI.out.2.2.2 HT.out).mono ?_
      (case s1 => repeat (first | exact (Kd.C_below HI.out.1 HB.out) | (with_reducible refine Kd.C_alloc ?_ _) | (with_reducible refine Kd.C_drewN ?_ _) | (with_reducible refine Kd.C_drew ?_)))
      (case s2 => repeat (first | exact (Kd.C_below HI.out.2.2.1 HB.out) | (with_reducible refine Kd.C_alloc ?_ _) | (with_reducible refine Kd.C_drewN ?_ _) | (with_reducible refine Kd.C_drew ?_)))
      rintro e w2 ⟨rfl, hb⟩
      have HB2 := Aside0.mk (below_step (below_alloc (below_alloc HB.out _) _) hb)
      clear hb HB hx0 hx1 hx2 hx3 m0 m1 m2 m3 HE HT HI
      cases t with
      | true =>
        rw [if_pos rfl] at H
        have HN := Aside0.mk H
        clear H
        go_wp2
        go_roundg k1
        case measure => have := HK1.out; omega
        case rel => exact ⟨_, rfl, HN, ⟨by have := HK1.out; omega⟩, HB2⟩
      | false =>
        rw [if_neg Bool.false_ne_true] at H
        obtain rfl := Option.some.inj H
        clear H
        go_wp2
        go_ret
        exact ⟨rfl, HB2.out⟩
set_option maxHeartbeats 4000000 in
set_option maxRecDepth 100000 in
theorem node_Equal.step (k : Nat) (ih : ∀ m, m < k → EqualFuncSaid m) : EqualSaid k := by
  intro a0_0 a0_1 a0_2 A0_3 c0_3 l0_3 a1_0 a1_1 a1_2 A1_3 c1_3 l1_3 r w hr0 hc0 hr1 hc1 h
  cases k with
  | zero => exact absurd h (by simp [node_Equal.f])
  | succ k =>
  simp only [node_Equal.f] at h
  have hu26 := Tryz.underlying26
  have HR := Aside0.mk (And.intro hr0 (And.intro hc0 (And.intro hr1 hc1)))
  clear hr0 hc0 hr1 hc1
  by_cases c3 : a0_0 = a1_0
  case neg =>
    rw [if_neg c3] at h
    obtain rfl := Option.some.inj h
    have c3b : (a0_0 == a1_0) = false := beq_eq_false_iff_ne.mpr c3
    clear c3 h
    go_enter Tryz.func31, Tryz.ntmps31
    go_wp2
    go_ret
    exact ⟨rfl, by repeat (first | exact Below.refl _ _ | apply below_alloc | apply below_drew1)⟩
  rw [if_pos c3] at h
  have c3b : (a0_0 == a1_0) = true := beq_iff_eq.mpr c3
  clear c3
  by_cases c4 : a0_1.toList = a1_1.toList
  case neg =>
    rw [if_neg c4] at h
    obtain rfl := Option.some.inj h
    have c4b : (a0_1.toList == a1_1.toList) = false := beq_eq_false_iff_ne.mpr c4
    clear c4 h
    go_enter Tryz.func31, Tryz.ntmps31
    go_wp2
    go_ret
    exact ⟨rfl, by repeat (first | exact Below.refl _ _ | apply below_alloc | apply below_drew1)⟩
  rw [if_pos c4] at h
  have c4b : (a0_1.toList == a1_1.toList) = true := beq_iff_eq.mpr c4
  clear c4
  by_cases c5 : a0_2 = a1_2
  case neg =>
    rw [if_neg c5] at h
    obtain rfl := Option.some.inj h
    have c5b : (a0_2 == a1_2) = false := beq_eq_false_iff_ne.mpr c5
    clear c5 h
    go_enter Tryz.func31, Tryz.ntmps31
    go_wp2
    go_ret
    exact ⟨rfl, by repeat (first | exact Below.refl _ _ | apply below_alloc | apply below_drew1)⟩
  rw [if_pos c5] at h
  have c5b : (a0_2 == a1_2) = true := beq_iff_eq.mpr c5
  clear c5
  have HH := Aside0.mk h
  have HE := Aside0.mk (ih k (by omega))
  clear h
  go_enter Tryz.func31, Tryz.ntmps31
  go_wp2_with fail
  with_reducible refine (HE.out _ _ _ _ _ _ r _ ?s1 HR.out.2.1 ?s2 HR.out.2.2.2 HH.out).mono ?_
  (case s1 => repeat (first | exact HR.out.1 | (with_reducible refine Kd.C_alloc ?_ _) | (with_reducible refine Kd.C_drewN ?_ _) | (with_reducible refine Kd.C_drew ?_)))
  (case s2 => repeat (first | exact HR.out.2.2.1 | (with_reducible refine Kd.C_alloc ?_ _) | (with_reducible refine Kd.C_drewN ?_ _) | (with_reducible refine Kd.C_drew ?_)))
  rintro e w2 ⟨rfl, hb⟩
  have HB2 := Aside0.mk (below_step (below_alloc (below_alloc (Below.refl _ _) _) _) hb)
  clear hb
  go_wp2
  go_ret
  exact ⟨rfl, HB2.out⟩
theorem node_Equal.all_ (k : Nat) : EqualSaid k ∧ EqualFuncSaid k := by
  induction k using Nat.strongRecOn with
  | _ k ih => exact ⟨node_Equal.step k (fun m h => (ih m h).2), node_EqualFunc.step k (fun m h => (ih m h).1)⟩
theorem node_Equal.calls (k : Nat) (a0_0 : Int) (a0_1 : ByteArray) (a0_2 : Int) (A0_3 : Option Addr) (c0_3 : Nat) (l0_3 : List S26) (a1_0 : Int) (a1_1 : ByteArray) (a1_2 : Int) (A1_3 : Option Addr) (c1_3 : Nat) (l1_3 : List S26) (r : Bool) (w : World) (hr0_3 : Kd.C k26 w A0_3 l0_3.length l0_3) (hc0_3 : l0_3.length ≤ c0_3) (hr1_3 : Kd.C k26 w A1_3 l1_3.length l1_3) (hc1_3 : l1_3.length ≤ c1_3) (h : node_Equal.f k a0_0 a0_1 a0_2 l0_3 a1_0 a1_1 a1_2 l1_3 = some r) :
    Calls Tryz.prog 31 #[.agg #[.int .i64 a0_0, .string a0_1, .int .i64 a0_2, .slice A0_3 l0_3.length c0_3], .agg #[.int .i64 a1_0, .string a1_1, .int .i64 a1_2, .slice A1_3 l1_3.length c1_3]] w fun e w' => e = .returned (.bool r) ∧ Below w.heap.size w w' :=
  (node_Equal.all_ k).1 a0_0 a0_1 a0_2 A0_3 c0_3 l0_3 a1_0 a1_1 a1_2 A1_3 c1_3 l1_3 r w hr0_3 hc0_3 hr1_3 hc1_3 h


end Go.Proofs.YtnimhdhnjfoalaaGreatDoor.A
