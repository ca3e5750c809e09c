/- Made for this claim by a program of the session: the Go functions' plain twins and their contracts. Lean checks it. -/
import Derived.Test.YtjihcncajpmgiaaAx0
namespace Go.Proofs.Ytjihcncajpmgiaa.A
open Go.RowKit Go.Proofs.YtjihcncajpmgiaaW.PrintWords Go.Proofs.YtjihcncajpmgiaaW.PrintLast Go.Proofs.YtjihcncajpmgiaaW.PrintMore
attribute [local go_sem] max2_int min2_int max_two min_two max_three min_three max_four min_four   -- for this text's walks alone
set_option linter.unusedVariables false
set_option linter.unusedSimpArgs false

/-! ### vinculumref18_Same: function 14 -/
def vinculumref18_Same.l0 : Nat → List (S31) → List (S31) → Bool → Int → Option (Bool)
  | 0, _, _, _, _ => none
  | k + 1, x0, x1, x2, x7 => if x7 < (x0.length : Int) then (if 0 ≤ x7 then (if x7 < (x1.length : Int) then (if ((rd_T31 x0 x7).f0) = ((rd_T31 x1 x7).f0) then (if ((rd_T31 x0 x7).f1).toList = ((rd_T31 x1 x7).f1).toList then (if x2 = true then (if ((rd_T31 x0 x7).f2) = ((rd_T31 x1 x7).f2) then (if ((rd_T31 x0 x7).f3) = ((rd_T31 x1 x7).f3) then (vinculumref18_Same.l0 k x0 x1 x2 (wrap64 (x7 + 1))) else (some false)) else (some false)) else (vinculumref18_Same.l0 k x0 x1 x2 (wrap64 (x7 + 1)))) else (some false)) else (some false)) else (none)) else (none)) else (some true)
def vinculumref18_Same.f (k : Nat) (l0 : List (S31)) (l1 : List (S31)) (a2 : Bool) : Option (Bool) := if (l0.length : Int) = (l1.length : Int) then (vinculumref18_Same.l0 k l0 l1 a2 0) else (some false)
theorem vinculumref18_Same.mono_l : ∀ k, (∀ y0 y1 y2 y3, LeO (vinculumref18_Same.l0 k y0 y1 y2 y3) (vinculumref18_Same.l0 (k + 1) y0 y1 y2 y3))
  | 0 => fun _ _ _ _ r h => by simp [vinculumref18_Same.l0] at h
  | k + 1 => by
    have ih0 := vinculumref18_Same.mono_l k
    · intro y0 y1 y2 y3
      unfold vinculumref18_Same.l0
      repeat' first
      | (with_reducible exact ih0 _ _ _ _)
      | (with_reducible exact LeO.refl _)
      | (with_reducible exact LeO.none _)
      | (with_reducible refine LeO.ite ?_ ?_)
      | (with_reducible refine LeO.bind ?_ (fun _ => ?_))
      | exact ih0 _ _ _ _
      | exact LeO.none _
      | refine LeO.ite ?_ ?_
      | refine LeO.bind ?_ (fun _ => ?_)
theorem vinculumref18_Same.mono : ∀ a0 a1 a2 k, LeO (vinculumref18_Same.f k a0 a1 a2) (vinculumref18_Same.f (k + 1) a0 a1 a2) := by
  intro a0 a1 a2 k
  have ih0 := vinculumref18_Same.mono_l k
  unfold vinculumref18_Same.f
  repeat' first
      | (with_reducible exact ih0 _ _ _ _)
      | (with_reducible exact LeO.refl _)
      | (with_reducible exact LeO.none _)
      | (with_reducible refine LeO.ite ?_ ?_)
      | (with_reducible refine LeO.bind ?_ (fun _ => ?_))
      | exact ih0 _ _ _ _
      | exact LeO.none _
      | refine LeO.ite ?_ ?_
      | refine LeO.bind ?_ (fun _ => ?_)
set_option maxHeartbeats 8000000 in
set_option maxRecDepth 100000 in
theorem vinculumref18_Same.calls (k : Nat) (A0 : Option Addr) (c0 : Nat) (l0 : List (S31)) (A1 : Option Addr) (c1 : Nat) (l1 : List (S31)) (a2 : Bool) (r : Bool) (w : World) (hr0 : Kd.C k31 w A0 l0.length l0) (hc0 : l0.length ≤ c0) (hr1 : Kd.C k31 w A1 l1.length l1) (hc1 : l1.length ≤ c1) (h : vinculumref18_Same.f k l0 l1 a2 = some r) :
    Calls Try.prog 14 #[.slice A0 l0.length c0, .slice A1 l1.length c1, .bool a2] w fun e w' => e = .returned (.bool r) ∧ Drawn0 w w' := by
  have HR0 := Aside0.mk hr0
  have HC0 := Aside0.mk hc0
  clear hr0 hc0
  have HR1 := Aside0.mk hr1
  have HC1 := Aside0.mk hc1
  clear hr1 hc1
  have H : (if (l0.length : Int) = (l1.length : Int) then (vinculumref18_Same.l0 k l0 l1 a2 0) else (some false)) = some r := h
  clear h
  by_cases c4 : (l0.length : Int) = (l1.length : Int)
  · rw [if_pos c4] at H
    have c4b0 : ((l0.length : Int) == (l1.length : Int)) = true := beq_iff_eq.mpr c4
    have c4b1 : ((l0.length : Int) != (l1.length : Int)) = false := bne_eq_false_iff_eq.mpr c4
    have c4b2 : (l0.length == l1.length) = true := by first | simpa using c4 | (simp at c4 ⊢; omega)
    clear c4
    have H' := Aside0.mk H
    clear H
    go_enter Try.func14, Try.ntmps14
    go_wp2
    repeat (go_quiet (fail); try go_wp2)
    go_loopg [7] k (fun kq v7 w' => ∃ (x7_1 : Int), v7 = .int .i64 x7_1 ∧ Aside0 (vinculumref18_Same.l0 kq l0 l1 a2 x7_1 = some r) ∧ Aside0 (kq ≤ k) ∧ Drawn0 w w')
    case atStart => exact ⟨(0), (by first | rfl | (simp; done) | (simp [*]; done)), H', ⟨Nat.le_refl _⟩, by repeat (first | exact Drawn0.refl _ | apply Drawn0.step)⟩
    case round =>
      clear H'
      try clear c1
      try clear p2
      try clear c4
      try clear c4b0
      try clear c4b1
      try clear c4b2
      obtain ⟨x7_1, rfl, HA, HK1, ⟨m1, rfl⟩⟩ := hrel
      cases gk with
      | zero => exact absurd HA.out (by simp [vinculumref18_Same.l0])
      | succ k1 =>
        have H := HA.out
        clear HA
        simp only [vinculumref18_Same.l0] at H
        by_cases c5 : x7_1 < (l0.length : Int)
        · rw [if_pos c5] at H
          have c5b0 : decide (x7_1 < (l0.length : Int)) = true := decide_eq_true c5
          clear c5
          by_cases c6 : 0 ≤ x7_1
          · rw [if_pos c6] at H
            have c6b0 : decide (0 ≤ x7_1) = true := decide_eq_true c6
            clear c6
            by_cases c7 : x7_1 < (l1.length : Int)
            · rw [if_pos c7] at H
              have c7b0 : decide (x7_1 < (l1.length : Int)) = true := decide_eq_true c7
              clear c7
              by_cases c8 : ((rd_T31 l0 x7_1).f0) = ((rd_T31 l1 x7_1).f0)
              · rw [if_pos c8] at H
                have c8b0 : (((rd_T31 l0 x7_1).f0) == ((rd_T31 l1 x7_1).f0)) = true := beq_iff_eq.mpr c8
                have c8b1 : (((rd_T31 l0 x7_1).f0) != ((rd_T31 l1 x7_1).f0)) = false := bne_eq_false_iff_eq.mpr c8
                clear c8
                by_cases c9 : ((rd_T31 l0 x7_1).f1).toList = ((rd_T31 l1 x7_1).f1).toList
                · rw [if_pos c9] at H
                  have c9b0 : (((rd_T31 l0 x7_1).f1).toList == ((rd_T31 l1 x7_1).f1).toList) = true := beq_iff_eq.mpr c9
                  have c9b1 : (((rd_T31 l0 x7_1).f1).toList != ((rd_T31 l1 x7_1).f1).toList) = false := bne_eq_false_iff_eq.mpr c9
                  clear c9
                  by_cases c10 : a2 = true
                  · subst c10
                    have H1 : (if ((rd_T31 l0 x7_1).f2) = ((rd_T31 l1 x7_1).f2) then (if ((rd_T31 l0 x7_1).f3) = ((rd_T31 l1 x7_1).f3) then (vinculumref18_Same.l0 k1 l0 l1 true (wrap64 (x7_1 + 1))) else (some false)) else (some false)) = some r := by rw [if_pos rfl] at H; exact H
                    clear H
                    have H := H1
                    clear H1
                    by_cases c11 : ((rd_T31 l0 x7_1).f2) = ((rd_T31 l1 x7_1).f2)
                    · rw [if_pos c11] at H
                      have c11b0 : (((rd_T31 l0 x7_1).f2) == ((rd_T31 l1 x7_1).f2)) = true := beq_iff_eq.mpr c11
                      have c11b1 : (((rd_T31 l0 x7_1).f2) != ((rd_T31 l1 x7_1).f2)) = false := bne_eq_false_iff_eq.mpr c11
                      clear c11
                      by_cases c12 : ((rd_T31 l0 x7_1).f3) = ((rd_T31 l1 x7_1).f3)
                      · rw [if_pos c12] at H
                        have c12b0 : (((rd_T31 l0 x7_1).f3) == ((rd_T31 l1 x7_1).f3)) = true := beq_iff_eq.mpr c12
                        have c12b1 : (((rd_T31 l0 x7_1).f3) != ((rd_T31 l1 x7_1).f3)) = false := bne_eq_false_iff_eq.mpr c12
                        clear c12
                        have H' := Aside0.mk H
                        clear H
                        have p180 : 0 ≤ (x7_1 : Int) := of_decide_eq_true (by first | (with_reducible assumption) | assumption)
                        have q180 : x7_1 < (l0.length : Int) := of_decide_eq_true (by first | (with_reducible assumption) | assumption)
                        obtain ⟨ad180, e180, hx180_0, hx180_1, hx180_2, hx180_3⟩ := at_T31 HR0.out x7_1 p180 q180
                        cases e180
                        replace p180 := eq_true p180
                        replace q180 := eq_true q180
                        have p181 : 0 ≤ (x7_1 : Int) := of_decide_eq_true (by first | (with_reducible assumption) | assumption)
                        have q181 : x7_1 < (l1.length : Int) := of_decide_eq_true (by first | (with_reducible assumption) | assumption)
                        obtain ⟨ad181, e181, hx181_0, hx181_1, hx181_2, hx181_3⟩ := at_T31 HR1.out x7_1 p181 q181
                        cases e181
                        replace p181 := eq_true p181
                        replace q181 := eq_true q181
                        have p182 : 0 ≤ (x7_1 : Int) := of_decide_eq_true (by first | (with_reducible assumption) | assumption)
                        have q182 : x7_1 < (l0.length : Int) := of_decide_eq_true (by first | (with_reducible assumption) | assumption)
                        obtain ⟨ad182, e182, hx182_0, hx182_1, hx182_2, hx182_3⟩ := at_T31 HR0.out x7_1 p182 q182
                        obtain rfl : ad180 = ad182 := (by injection e182)
                        replace p182 := eq_true p182
                        replace q182 := eq_true q182
                        have p183 : 0 ≤ (x7_1 : Int) := of_decide_eq_true (by first | (with_reducible assumption) | assumption)
                        have q183 : x7_1 < (l1.length : Int) := of_decide_eq_true (by first | (with_reducible assumption) | assumption)
                        obtain ⟨ad183, e183, hx183_0, hx183_1, hx183_2, hx183_3⟩ := at_T31 HR1.out x7_1 p183 q183
                        obtain rfl : ad181 = ad183 := (by injection e183)
                        replace p183 := eq_true p183
                        replace q183 := eq_true q183
                        have p184 : 0 ≤ (x7_1 : Int) := of_decide_eq_true (by first | (with_reducible assumption) | assumption)
                        have q184 : x7_1 < (l0.length : Int) := of_decide_eq_true (by first | (with_reducible assumption) | assumption)
                        obtain ⟨ad184, e184, hx184_0, hx184_1, hx184_2, hx184_3⟩ := at_T31 HR0.out x7_1 p184 q184
                        obtain rfl : ad180 = ad184 := (by injection e184)
                        replace p184 := eq_true p184
                        replace q184 := eq_true q184
                        have p185 : 0 ≤ (x7_1 : Int) := of_decide_eq_true (by first | (with_reducible assumption) | assumption)
                        have q185 : x7_1 < (l1.length : Int) := of_decide_eq_true (by first | (with_reducible assumption) | assumption)
                        obtain ⟨ad185, e185, hx185_0, hx185_1, hx185_2, hx185_3⟩ := at_T31 HR1.out x7_1 p185 q185
                        obtain rfl : ad181 = ad185 := (by injection e185)
                        replace p185 := eq_true p185
                        replace q185 := eq_true q185
                        have p186 : 0 ≤ (x7_1 : Int) := of_decide_eq_true (by first | (with_reducible assumption) | assumption)
                        have q186 : x7_1 < (l0.length : Int) := of_decide_eq_true (by first | (with_reducible assumption) | assumption)
                        obtain ⟨ad186, e186, hx186_0, hx186_1, hx186_2, hx186_3⟩ := at_T31 HR0.out x7_1 p186 q186
                        obtain rfl : ad180 = ad186 := (by injection e186)
                        replace p186 := eq_true p186
                        replace q186 := eq_true q186
                        have p187 : 0 ≤ (x7_1 : Int) := of_decide_eq_true (by first | (with_reducible assumption) | assumption)
                        have q187 : x7_1 < (l1.length : Int) := of_decide_eq_true (by first | (with_reducible assumption) | assumption)
                        obtain ⟨ad187, e187, hx187_0, hx187_1, hx187_2, hx187_3⟩ := at_T31 HR1.out x7_1 p187 q187
                        obtain rfl : ad181 = ad187 := (by injection e187)
                        replace p187 := eq_true p187
                        replace q187 := eq_true q187
                        go_wp2
                        repeat (go_quiet (fail); try go_wp2)
                        go_roundg k1
                        case measure => have := HK1.out; omega
                        case rel => exact ⟨(wrap64 (x7_1 + 1)), (by first | rfl | (simp; done) | (simp [*]; done)), H', ⟨by have := HK1.out; omega⟩, by repeat (first | exact Drawn0.refl _ | apply Drawn0.step)⟩
                      · rw [if_neg c12] at H
                        have c12b0 : (((rd_T31 l0 x7_1).f3) == ((rd_T31 l1 x7_1).f3)) = false := beq_eq_false_iff_ne.mpr c12
                        have c12b1 : (((rd_T31 l0 x7_1).f3) != ((rd_T31 l1 x7_1).f3)) = true := bne_iff_ne.mpr c12
                        obtain rfl := Option.some.inj H
                        have p180 : 0 ≤ (x7_1 : Int) := of_decide_eq_true (by first | (with_reducible assumption) | assumption)
                        have q180 : x7_1 < (l0.length : Int) := of_decide_eq_true (by first | (with_reducible assumption) | assumption)
                        obtain ⟨ad180, e180, hx180_0, hx180_1, hx180_2, hx180_3⟩ := at_T31 HR0.out x7_1 p180 q180
                        cases e180
                        replace p180 := eq_true p180
                        replace q180 := eq_true q180
                        have p181 : 0 ≤ (x7_1 : Int) := of_decide_eq_true (by first | (with_reducible assumption) | assumption)
                        have q181 : x7_1 < (l1.length : Int) := of_decide_eq_true (by first | (with_reducible assumption) | assumption)
                        obtain ⟨ad181, e181, hx181_0, hx181_1, hx181_2, hx181_3⟩ := at_T31 HR1.out x7_1 p181 q181
                        cases e181
                        replace p181 := eq_true p181
                        replace q181 := eq_true q181
                        have p182 : 0 ≤ (x7_1 : Int) := of_decide_eq_true (by first | (with_reducible assumption) | assumption)
                        have q182 : x7_1 < (l0.length : Int) := of_decide_eq_true (by first | (with_reducible assumption) | assumption)
                        obtain ⟨ad182, e182, hx182_0, hx182_1, hx182_2, hx182_3⟩ := at_T31 HR0.out x7_1 p182 q182
                        obtain rfl : ad180 = ad182 := (by injection e182)
                        replace p182 := eq_true p182
                        replace q182 := eq_true q182
                        have p183 : 0 ≤ (x7_1 : Int) := of_decide_eq_true (by first | (with_reducible assumption) | assumption)
                        have q183 : x7_1 < (l1.length : Int) := of_decide_eq_true (by first | (with_reducible assumption) | assumption)
                        obtain ⟨ad183, e183, hx183_0, hx183_1, hx183_2, hx183_3⟩ := at_T31 HR1.out x7_1 p183 q183
                        obtain rfl : ad181 = ad183 := (by injection e183)
                        replace p183 := eq_true p183
                        replace q183 := eq_true q183
                        have p184 : 0 ≤ (x7_1 : Int) := of_decide_eq_true (by first | (with_reducible assumption) | assumption)
                        have q184 : x7_1 < (l0.length : Int) := of_decide_eq_true (by first | (with_reducible assumption) | assumption)
                        obtain ⟨ad184, e184, hx184_0, hx184_1, hx184_2, hx184_3⟩ := at_T31 HR0.out x7_1 p184 q184
                        obtain rfl : ad180 = ad184 := (by injection e184)
                        replace p184 := eq_true p184
                        replace q184 := eq_true q184
                        have p185 : 0 ≤ (x7_1 : Int) := of_decide_eq_true (by first | (with_reducible assumption) | assumption)
                        have q185 : x7_1 < (l1.length : Int) := of_decide_eq_true (by first | (with_reducible assumption) | assumption)
                        obtain ⟨ad185, e185, hx185_0, hx185_1, hx185_2, hx185_3⟩ := at_T31 HR1.out x7_1 p185 q185
                        obtain rfl : ad181 = ad185 := (by injection e185)
                        replace p185 := eq_true p185
                        replace q185 := eq_true q185
                        have p186 : 0 ≤ (x7_1 : Int) := of_decide_eq_true (by first | (with_reducible assumption) | assumption)
                        have q186 : x7_1 < (l0.length : Int) := of_decide_eq_true (by first | (with_reducible assumption) | assumption)
                        obtain ⟨ad186, e186, hx186_0, hx186_1, hx186_2, hx186_3⟩ := at_T31 HR0.out x7_1 p186 q186
                        obtain rfl : ad180 = ad186 := (by injection e186)
                        replace p186 := eq_true p186
                        replace q186 := eq_true q186
                        have p187 : 0 ≤ (x7_1 : Int) := of_decide_eq_true (by first | (with_reducible assumption) | assumption)
                        have q187 : x7_1 < (l1.length : Int) := of_decide_eq_true (by first | (with_reducible assumption) | assumption)
                        obtain ⟨ad187, e187, hx187_0, hx187_1, hx187_2, hx187_3⟩ := at_T31 HR1.out x7_1 p187 q187
                        obtain rfl : ad181 = ad187 := (by injection e187)
                        replace p187 := eq_true p187
                        replace q187 := eq_true q187
                        go_wp2
                        repeat (go_quiet (fail); try go_wp2)
                        go_ret
                        exact ⟨by first | rfl | (simp; done) | (simp [*]; done), by repeat (first | exact Drawn0.refl _ | apply Drawn0.step)⟩
                    · rw [if_neg c11] at H
                      have c11b0 : (((rd_T31 l0 x7_1).f2) == ((rd_T31 l1 x7_1).f2)) = false := beq_eq_false_iff_ne.mpr c11
                      have c11b1 : (((rd_T31 l0 x7_1).f2) != ((rd_T31 l1 x7_1).f2)) = true := bne_iff_ne.mpr c11
                      obtain rfl := Option.some.inj H
                      have p180 : 0 ≤ (x7_1 : Int) := of_decide_eq_true (by first | (with_reducible assumption) | assumption)
                      have q180 : x7_1 < (l0.length : Int) := of_decide_eq_true (by first | (with_reducible assumption) | assumption)
                      obtain ⟨ad180, e180, hx180_0, hx180_1, hx180_2, hx180_3⟩ := at_T31 HR0.out x7_1 p180 q180
                      cases e180
                      replace p180 := eq_true p180
                      replace q180 := eq_true q180
                      have p181 : 0 ≤ (x7_1 : Int) := of_decide_eq_true (by first | (with_reducible assumption) | assumption)
                      have q181 : x7_1 < (l1.length : Int) := of_decide_eq_true (by first | (with_reducible assumption) | assumption)
                      obtain ⟨ad181, e181, hx181_0, hx181_1, hx181_2, hx181_3⟩ := at_T31 HR1.out x7_1 p181 q181
                      cases e181
                      replace p181 := eq_true p181
                      replace q181 := eq_true q181
                      have p182 : 0 ≤ (x7_1 : Int) := of_decide_eq_true (by first | (with_reducible assumption) | assumption)
                      have q182 : x7_1 < (l0.length : Int) := of_decide_eq_true (by first | (with_reducible assumption) | assumption)
                      obtain ⟨ad182, e182, hx182_0, hx182_1, hx182_2, hx182_3⟩ := at_T31 HR0.out x7_1 p182 q182
                      obtain rfl : ad180 = ad182 := (by injection e182)
                      replace p182 := eq_true p182
                      replace q182 := eq_true q182
                      have p183 : 0 ≤ (x7_1 : Int) := of_decide_eq_true (by first | (with_reducible assumption) | assumption)
                      have q183 : x7_1 < (l1.length : Int) := of_decide_eq_true (by first | (with_reducible assumption) | assumption)
                      obtain ⟨ad183, e183, hx183_0, hx183_1, hx183_2, hx183_3⟩ := at_T31 HR1.out x7_1 p183 q183
                      obtain rfl : ad181 = ad183 := (by injection e183)
                      replace p183 := eq_true p183
                      replace q183 := eq_true q183
                      have p184 : 0 ≤ (x7_1 : Int) := of_decide_eq_true (by first | (with_reducible assumption) | assumption)
                      have q184 : x7_1 < (l0.length : Int) := of_decide_eq_true (by first | (with_reducible assumption) | assumption)
                      obtain ⟨ad184, e184, hx184_0, hx184_1, hx184_2, hx184_3⟩ := at_T31 HR0.out x7_1 p184 q184
                      obtain rfl : ad180 = ad184 := (by injection e184)
                      replace p184 := eq_true p184
                      replace q184 := eq_true q184
                      have p185 : 0 ≤ (x7_1 : Int) := of_decide_eq_true (by first | (with_reducible assumption) | assumption)
                      have q185 : x7_1 < (l1.length : Int) := of_decide_eq_true (by first | (with_reducible assumption) | assumption)
                      obtain ⟨ad185, e185, hx185_0, hx185_1, hx185_2, hx185_3⟩ := at_T31 HR1.out x7_1 p185 q185
                      obtain rfl : ad181 = ad185 := (by injection e185)
                      replace p185 := eq_true p185
                      replace q185 := eq_true q185
                      go_wp2
                      repeat (go_quiet (fail); try go_wp2)
                      go_ret
                      exact ⟨by first | rfl | (simp; done) | (simp [*]; done), by repeat (first | exact Drawn0.refl _ | apply Drawn0.step)⟩
                  · replace c10 := Bool.eq_false_iff.mpr c10
                    subst c10
                    have H1 : (vinculumref18_Same.l0 k1 l0 l1 false (wrap64 (x7_1 + 1))) = some r := by rw [if_neg (show ¬ (false = true) by decide)] at H; exact H
                    clear H
                    have H := H1
                    clear H1
                    have H' := Aside0.mk H
                    clear H
                    have p180 : 0 ≤ (x7_1 : Int) := of_decide_eq_true (by first | (with_reducible assumption) | assumption)
                    have q180 : x7_1 < (l0.length : Int) := of_decide_eq_true (by first | (with_reducible assumption) | assumption)
                    obtain ⟨ad180, e180, hx180_0, hx180_1, hx180_2, hx180_3⟩ := at_T31 HR0.out x7_1 p180 q180
                    cases e180
                    replace p180 := eq_true p180
                    replace q180 := eq_true q180
                    have p181 : 0 ≤ (x7_1 : Int) := of_decide_eq_true (by first | (with_reducible assumption) | assumption)
                    have q181 : x7_1 < (l1.length : Int) := of_decide_eq_true (by first | (with_reducible assumption) | assumption)
                    obtain ⟨ad181, e181, hx181_0, hx181_1, hx181_2, hx181_3⟩ := at_T31 HR1.out x7_1 p181 q181
                    cases e181
                    replace p181 := eq_true p181
                    replace q181 := eq_true q181
                    have p182 : 0 ≤ (x7_1 : Int) := of_decide_eq_true (by first | (with_reducible assumption) | assumption)
                    have q182 : x7_1 < (l0.length : Int) := of_decide_eq_true (by first | (with_reducible assumption) | assumption)
                    obtain ⟨ad182, e182, hx182_0, hx182_1, hx182_2, hx182_3⟩ := at_T31 HR0.out x7_1 p182 q182
                    obtain rfl : ad180 = ad182 := (by injection e182)
                    replace p182 := eq_true p182
                    replace q182 := eq_true q182
                    have p183 : 0 ≤ (x7_1 : Int) := of_decide_eq_true (by first | (with_reducible assumption) | assumption)
                    have q183 : x7_1 < (l1.length : Int) := of_decide_eq_true (by first | (with_reducible assumption) | assumption)
                    obtain ⟨ad183, e183, hx183_0, hx183_1, hx183_2, hx183_3⟩ := at_T31 HR1.out x7_1 p183 q183
                    obtain rfl : ad181 = ad183 := (by injection e183)
                    replace p183 := eq_true p183
                    replace q183 := eq_true q183
                    go_wp2
                    repeat (go_quiet (fail); try go_wp2)
                    go_roundg k1
                    case measure => have := HK1.out; omega
                    case rel => exact ⟨(wrap64 (x7_1 + 1)), (by first | rfl | (simp; done) | (simp [*]; done)), H', ⟨by have := HK1.out; omega⟩, by repeat (first | exact Drawn0.refl _ | apply Drawn0.step)⟩
                · rw [if_neg c9] at H
                  have c9b0 : (((rd_T31 l0 x7_1).f1).toList == ((rd_T31 l1 x7_1).f1).toList) = false := beq_eq_false_iff_ne.mpr c9
                  have c9b1 : (((rd_T31 l0 x7_1).f1).toList != ((rd_T31 l1 x7_1).f1).toList) = true := bne_iff_ne.mpr c9
                  obtain rfl := Option.some.inj H
                  have p180 : 0 ≤ (x7_1 : Int) := of_decide_eq_true (by first | (with_reducible assumption) | assumption)
                  have q180 : x7_1 < (l0.length : Int) := of_decide_eq_true (by first | (with_reducible assumption) | assumption)
                  obtain ⟨ad180, e180, hx180_0, hx180_1, hx180_2, hx180_3⟩ := at_T31 HR0.out x7_1 p180 q180
                  cases e180
                  replace p180 := eq_true p180
                  replace q180 := eq_true q180
                  have p181 : 0 ≤ (x7_1 : Int) := of_decide_eq_true (by first | (with_reducible assumption) | assumption)
                  have q181 : x7_1 < (l1.length : Int) := of_decide_eq_true (by first | (with_reducible assumption) | assumption)
                  obtain ⟨ad181, e181, hx181_0, hx181_1, hx181_2, hx181_3⟩ := at_T31 HR1.out x7_1 p181 q181
                  cases e181
                  replace p181 := eq_true p181
                  replace q181 := eq_true q181
                  have p182 : 0 ≤ (x7_1 : Int) := of_decide_eq_true (by first | (with_reducible assumption) | assumption)
                  have q182 : x7_1 < (l0.length : Int) := of_decide_eq_true (by first | (with_reducible assumption) | assumption)
                  obtain ⟨ad182, e182, hx182_0, hx182_1, hx182_2, hx182_3⟩ := at_T31 HR0.out x7_1 p182 q182
                  obtain rfl : ad180 = ad182 := (by injection e182)
                  replace p182 := eq_true p182
                  replace q182 := eq_true q182
                  have p183 : 0 ≤ (x7_1 : Int) := of_decide_eq_true (by first | (with_reducible assumption) | assumption)
                  have q183 : x7_1 < (l1.length : Int) := of_decide_eq_true (by first | (with_reducible assumption) | assumption)
                  obtain ⟨ad183, e183, hx183_0, hx183_1, hx183_2, hx183_3⟩ := at_T31 HR1.out x7_1 p183 q183
                  obtain rfl : ad181 = ad183 := (by injection e183)
                  replace p183 := eq_true p183
                  replace q183 := eq_true q183
                  go_wp2
                  repeat (go_quiet (fail); try go_wp2)
                  go_ret
                  exact ⟨by first | rfl | (simp; done) | (simp [*]; done), by repeat (first | exact Drawn0.refl _ | apply Drawn0.step)⟩
              · rw [if_neg c8] at H
                have c8b0 : (((rd_T31 l0 x7_1).f0) == ((rd_T31 l1 x7_1).f0)) = false := beq_eq_false_iff_ne.mpr c8
                have c8b1 : (((rd_T31 l0 x7_1).f0) != ((rd_T31 l1 x7_1).f0)) = true := bne_iff_ne.mpr c8
                obtain rfl := Option.some.inj H
                have p180 : 0 ≤ (x7_1 : Int) := of_decide_eq_true (by first | (with_reducible assumption) | assumption)
                have q180 : x7_1 < (l0.length : Int) := of_decide_eq_true (by first | (with_reducible assumption) | assumption)
                obtain ⟨ad180, e180, hx180_0, hx180_1, hx180_2, hx180_3⟩ := at_T31 HR0.out x7_1 p180 q180
                cases e180
                replace p180 := eq_true p180
                replace q180 := eq_true q180
                have p181 : 0 ≤ (x7_1 : Int) := of_decide_eq_true (by first | (with_reducible assumption) | assumption)
                have q181 : x7_1 < (l1.length : Int) := of_decide_eq_true (by first | (with_reducible assumption) | assumption)
                obtain ⟨ad181, e181, hx181_0, hx181_1, hx181_2, hx181_3⟩ := at_T31 HR1.out x7_1 p181 q181
                cases e181
                replace p181 := eq_true p181
                replace q181 := eq_true q181
                go_wp2
                repeat (go_quiet (fail); try go_wp2)
                go_ret
                exact ⟨by first | rfl | (simp; done) | (simp [*]; done), by repeat (first | exact Drawn0.refl _ | apply Drawn0.step)⟩
            · rw [if_neg c7] at H
              exact absurd H (by simp)
          · rw [if_neg c6] at H
            exact absurd H (by simp)
        · rw [if_neg c5] at H
          have c5b0 : decide (x7_1 < (l0.length : Int)) = false := decide_eq_false c5
          clear c5
          obtain rfl := Option.some.inj H
          go_wp2
          repeat (go_quiet (fail); try go_wp2)
          go_ret
          exact ⟨by first | rfl | (simp; done) | (simp [*]; done), by repeat (first | exact Drawn0.refl _ | apply Drawn0.step)⟩
  · rw [if_neg c4] at H
    have c4b0 : ((l0.length : Int) == (l1.length : Int)) = false := beq_eq_false_iff_ne.mpr c4
    have c4b1 : ((l0.length : Int) != (l1.length : Int)) = true := bne_iff_ne.mpr c4
    have c4b2 : (l0.length == l1.length) = false := by first | simpa using c4 | (simp at c4 ⊢; omega)
    obtain rfl := Option.some.inj H
    go_enter Try.func14, Try.ntmps14
    go_wp2
    repeat (go_quiet (fail); try go_wp2)
    go_ret
    exact ⟨by first | rfl | (simp; done) | (simp [*]; done), by repeat (first | exact Drawn0.refl _ | apply Drawn0.step)⟩

/-! ### vinculumlaw18_from: function 15 -/
def vinculumlaw18_from.l0 : Nat → List (S31) → List (S28) → Int → Int → Option ((List (S31)))
  | 0, _, _, _, _ => none
  | k + 1, x3, x6, x7, x8 => if x8 < x7 then (if 0 ≤ x8 then (if x8 < (x6.length : Int) then (if x3.length < 3518437208883 then (vinculumlaw18_from.l0 k (x3 ++ [(⟨(rd_T28 x6 x8).f0, (rd_T28 x6 x8).f1, (rd_T28 x6 x8).f2, (rd_T28 x6 x8).f3⟩ : S31)]) x6 x7 (wrap64 (x8 + 1))) else (none)) else (none)) else (none)) else (some x3)
def vinculumlaw18_from.f (k : Nat) (l0 : List (S28)) : Option ((List (S31))) := vinculumlaw18_from.l0 k ([] : List (S31)) l0 (l0.length : Int) 0
theorem vinculumlaw18_from.mono_l : ∀ k, (∀ y0 y1 y2 y3, LeO (vinculumlaw18_from.l0 k y0 y1 y2 y3) (vinculumlaw18_from.l0 (k + 1) y0 y1 y2 y3))
  | 0 => fun _ _ _ _ r h => by simp [vinculumlaw18_from.l0] at h
  | k + 1 => by
    have ih0 := vinculumlaw18_from.mono_l k
    · intro y0 y1 y2 y3
      unfold vinculumlaw18_from.l0
      repeat' first
      | (with_reducible exact ih0 _ _ _ _)
      | (with_reducible exact LeO.refl _)
      | (with_reducible exact LeO.none _)
      | (with_reducible refine LeO.ite ?_ ?_)
      | (with_reducible refine LeO.bind ?_ (fun _ => ?_))
      | exact ih0 _ _ _ _
      | exact LeO.none _
      | refine LeO.ite ?_ ?_
      | refine LeO.bind ?_ (fun _ => ?_)
theorem vinculumlaw18_from.mono : ∀ a0 k, LeO (vinculumlaw18_from.f k a0) (vinculumlaw18_from.f (k + 1) a0) := by
  intro a0 k
  have ih0 := vinculumlaw18_from.mono_l k
  unfold vinculumlaw18_from.f
  repeat' first
      | (with_reducible exact ih0 _ _ _ _)
      | (with_reducible exact LeO.refl _)
      | (with_reducible exact LeO.none _)
      | (with_reducible refine LeO.ite ?_ ?_)
      | (with_reducible refine LeO.bind ?_ (fun _ => ?_))
      | exact ih0 _ _ _ _
      | exact LeO.none _
      | refine LeO.ite ?_ ?_
      | refine LeO.bind ?_ (fun _ => ?_)
set_option maxHeartbeats 8000000 in
set_option maxRecDepth 100000 in
theorem vinculumlaw18_from.calls (k : Nat) (A0 : Option Addr) (c0 : Nat) (l0 : List (S28)) (r : List (S31)) (w : World) (hr0 : Kd.C k28 w A0 l0.length l0) (hc0 : l0.length ≤ c0) (h : vinculumlaw18_from.f k l0 = some r) :
    Calls Try.prog 15 #[.slice A0 l0.length c0] w fun e w' => ∃ v0_ : Value, e = .returned (v0_) ∧ Kd.R k31 31 w' w.heap.size (fun _ => True) v0_ r ∧ Below w.heap.size w w' := by
  have hu28 := Try.underlying28
  have HR0 := Aside0.mk hr0
  have HC0 := Aside0.mk hc0
  clear hr0 hc0
  have HB := Aside0.mk (Below.refl w.heap.size w)
  have H : (vinculumlaw18_from.l0 k ([] : List (S31)) l0 (l0.length : Int) 0) = some r := h
  clear h
  have H' := Aside0.mk H
  clear H
  go_enter Try.func15, Try.ntmps15
  go_wp2
  go_loopg [3, 8] k (fun kq v3 v8 w' => ∃ (x3_1 : List (S31)) (x8_1 : Int), v8 = .int .i64 x8_1 ∧ Aside0 (vinculumlaw18_from.l0 kq x3_1 l0 (l0.length : Int) x8_1 = some r) ∧ Aside0 (kq ≤ k) ∧ Aside0 (Kd.R k31 31 w' w.heap.size (fun _ => True) v3 x3_1) ∧ Aside0 (Below w.heap.size w w'))
  case atStart => exact ⟨(([] : List (S31))), (0), (by first | rfl | (simp; done) | (simp [*]; done)), H', ⟨Nat.le_refl _⟩, ⟨by first | exact Kd.R_nil _ _ _ _ _ | exact Kd.N_nil _ _ _ _ _ | exact Kd.V_nil _ _ _ _ _ | exact Kd.Q_nil _ _ _ _ _ | exact Kd.S_nil _ _ _ _ _⟩, ⟨by repeat (first | (with_reducible first | exact HB.out | apply below_alloc | apply pw_below_drewN | apply below_drew1) | exact HB.out)⟩⟩
  case round =>
    clear H'
    try clear c1
    obtain ⟨x3_1, x8_1, rfl, HA, HK1, HO_3, HB⟩ := hrel
    cases gk with
    | zero => exact absurd HA.out (by simp [vinculumlaw18_from.l0])
    | succ k1 =>
      have H := HA.out
      clear HA
      simp only [vinculumlaw18_from.l0] at H
      by_cases c2 : x8_1 < (l0.length : Int)
      · rw [if_pos c2] at H
        have c2b0 : decide (x8_1 < (l0.length : Int)) = true := decide_eq_true c2
        clear c2
        by_cases c3 : 0 ≤ x8_1
        · rw [if_pos c3] at H
          have c3b0 : decide (0 ≤ x8_1) = true := decide_eq_true c3
          clear c3
          by_cases c4 : x8_1 < (l0.length : Int)
          · rw [if_pos c4] at H
            have c4b0 : decide (x8_1 < (l0.length : Int)) = true := decide_eq_true c4
            clear c4
            by_cases c5 : x3_1.length < 3518437208883
            · rw [if_pos c5] at H
              have LMc5 := Aside0.mk c5
              clear c5
              obtain ⟨y190, hy190⟩ : ∃ y_ : List (S31), y_ = (x3_1 ++ [(⟨(rd_T28 l0 x8_1).f0, (rd_T28 l0 x8_1).f1, (rd_T28 l0 x8_1).f2, (rd_T28 l0 x8_1).f3⟩ : S31)]) := ⟨_, rfl⟩
              replace H : (vinculumlaw18_from.l0 k1 y190 l0 (l0.length : Int) (wrap64 (x8_1 + 1))) = some r := by first | (rw [hy190]; with_reducible exact H) | (have H2_ := (Option.bind_some _ _).symm.trans H; rw [hy190]; with_reducible exact H2_) | (have H2_ := (Option.bind_some _ _).symm.trans H; with_reducible exact H2_) | with_reducible exact H | (rw [hy190]; exact H) | exact H
              have Ny190 := Aside0.mk hy190
              clear hy190
              have H' := Aside0.mk H
              clear H
              have p188 : 0 ≤ (x8_1 : Int) := of_decide_eq_true (by first | (with_reducible assumption) | assumption)
              have q188 : x8_1 < (l0.length : Int) := of_decide_eq_true (by first | (with_reducible assumption) | assumption)
              obtain ⟨ad188, e188, hx188_0, hx188_1, hx188_2, hx188_3⟩ := at_T28 HR0.out x8_1 p188 q188
              cases e188
              replace hx188_0 := (HB.out.cell (World.block_lt_of_cell? w _ hx188_0)).trans hx188_0
              replace hx188_1 := (HB.out.cell (World.block_lt_of_cell? w _ hx188_1)).trans hx188_1
              replace hx188_2 := (HB.out.cell (World.block_lt_of_cell? w _ hx188_2)).trans hx188_2
              replace hx188_3 := (HB.out.cell (World.block_lt_of_cell? w _ hx188_3)).trans hx188_3
              replace p188 := eq_true p188
              replace q188 := eq_true q188
              go_wp2_with (first | ((with_reducible refine gate_dst (N := 5) rfl ?_); refine box_event ?hg (N := 5) ?hd (cs := #[.int .i64 0, .string (⟨#[]⟩ : ByteArray), .int .i64 0, .int .i64 0]) (t := 28) ?hr ?_; (case hd => rfl); (case hg => rfl); (case hr => first | (go_simp; done) | (go_simp; rfl)); intro gb189 hg w6 hbox hb; have n0_ := Aside0.mk (Kd.R_below (by (with_reducible repeat (first | apply Kd.R_alloc | apply Kd.R_drewN | apply Kd.R_drew)); exact HO_3.out) hb); have n1_ := Aside0.mk (below_step (by repeat (first | (with_reducible first | exact HB.out | apply below_alloc | apply pw_below_drewN | apply below_drew1) | exact HB.out)) hb); have n2_ := Aside0.mk (hbox); have n3_ := Aside0.mk ((by rw [hg]; exact (below_size (by repeat (first | (with_reducible first | exact HB.out | apply below_alloc | apply pw_below_drewN | apply below_drew1) | exact HB.out))) : w.heap.size ≤ gb189)); have n4_ := Aside0.mk ((by rw [hg]; exact (below_size (by repeat (first | (with_reducible first | exact HB.out | apply below_alloc | apply pw_below_drewN | apply below_drew1) | exact HB.out))) : w.heap.size ≤ gb189)); clear HO_3; clear HB; have HO_3 := n0_; have HB := n1_; have BK189 := n2_; have GW189 := n3_; have GE189 := n4_; clear n0_ n1_ n2_ n3_ n4_; clear hb hbox hg; have hcz7_0 : w6.cell? ⟨gb189, 0, none⟩ = some (.int .i64 0) := (blk_cell BK189.out 0).trans rfl; have hcz7_1 : w6.cell? ⟨gb189, 1, none⟩ = some (.string (⟨#[]⟩ : ByteArray)) := (blk_cell BK189.out 1).trans rfl; have hcz7_2 : w6.cell? ⟨gb189, 2, none⟩ = some (.int .i64 0) := (blk_cell BK189.out 2).trans rfl; have hcz7_3 : w6.cell? ⟨gb189, 3, none⟩ = some (.int .i64 0) := (blk_cell BK189.out 3).trans rfl; have hfz7_0 := blk_frozen BK189.out 0; have hfz7_1 := blk_frozen BK189.out 1; have hfz7_2 := blk_frozen BK189.out 2; have hfz7_3 := blk_frozen BK189.out 3) | ((with_reducible refine gate_builtin (b := .append) (xs := #[.tmp 12, .tmp 14]) rfl ?_); at_builtin; refine Kd.R_append k31 (w0 := w) w.heap.size rfl (.tmp 12) (.tmp 14) 38 31 (.agg #[(.int .i64 0), (.string ⟨#[]⟩), (.int .i64 0), (.int .i64 0)]) 40 rfl Try.underlying38 info31 rfl (by decide) (by omega) u3 x3_1 (⟨(rd_T28 l0 x8_1).f0, (rd_T28 l0 x8_1).f1, (rd_T28 l0 x8_1).f2, (rd_T28 l0 x8_1).f3⟩ : S31) [.int .i64 ((rd_T28 l0 x8_1).f0), .string ((rd_T28 l0 x8_1).f1), .int .i64 ((rd_T28 l0 x8_1).f2), .int .i64 ((rd_T28 l0 x8_1).f3)] (fun _ => True) (fun _ => False) rfl (by first | (go_simp; done) | (go_simp; rfl)) ?aP (fun _ hk => hk.elim) ?aF ?aO ?aB ?aS ?aL ?_; (case aP => exact k31_mkM _ _ _ (⟨(rd_T28 l0 x8_1).f0, (rd_T28 l0 x8_1).f1, (rd_T28 l0 x8_1).f2, (rd_T28 l0 x8_1).f3⟩ : S31)); (case aB => exact (by repeat (first | (with_reducible first | exact HB.out | apply below_alloc | apply pw_below_drewN | apply below_drew1 | refine below_set ?_ GE189.out) | exact HB.out))); (case aF => exact (fun _ _ => trivial)); (case aO => exact (by (with_reducible repeat (first | apply Kd.R_alloc | apply Kd.R_drewN | apply Kd.R_drew)); exact Kd.R_mono (Kd.R_far (p := ⟨gb189, 3, none⟩) (Kd.R_far (p := ⟨gb189, 2, none⟩) (Kd.R_far (p := ⟨gb189, 1, none⟩) (Kd.R_far (p := ⟨gb189, 0, none⟩) (Kd.R_types HO_3.out BK189.out (by decide)) (fun _ hk => hk.2) (.int .i64 ((rd_T28 l0 x8_1).f0))) (fun _ hk => hk.2) (.string ((rd_T28 l0 x8_1).f1))) (fun _ hk => hk.2) (.int .i64 ((rd_T28 l0 x8_1).f2))) (fun _ hk => hk.2) (.int .i64 ((rd_T28 l0 x8_1).f3))) (fun _ hk => trivial))); (case aS => exact (below_size (by repeat (first | (with_reducible first | exact HB.out | apply below_alloc | apply pw_below_drewN | apply below_drew1 | refine below_set ?_ GE189.out) | exact HB.out)))); (case aL => have := LMc5.out; omega); intro v191 w8 ho hb hg hat; rw [← Ny190.out] at ho; have n0_ := Aside0.mk (blk_grown (g := gb189) (o := .cells #[.int .i64 ((rd_T28 l0 x8_1).f0), .string ((rd_T28 l0 x8_1).f1), .int .i64 ((rd_T28 l0 x8_1).f2), .int .i64 ((rd_T28 l0 x8_1).f3)] 28 (0, 0)) (by (with_reducible repeat (first | refine blk_drewN ?_ _ | refine blk_drew ?_ | refine blk_alloc ?_ _)); refine blk_put (cs := #[.int .i64 ((rd_T28 l0 x8_1).f0), .string ((rd_T28 l0 x8_1).f1), .int .i64 ((rd_T28 l0 x8_1).f2), .int .i64 0]) ?_ 3 _ rfl; (with_reducible repeat (first | refine blk_drewN ?_ _ | refine blk_drew ?_ | refine blk_alloc ?_ _)); refine blk_put (cs := #[.int .i64 ((rd_T28 l0 x8_1).f0), .string ((rd_T28 l0 x8_1).f1), .int .i64 0, .int .i64 0]) ?_ 2 _ rfl; (with_reducible repeat (first | refine blk_drewN ?_ _ | refine blk_drew ?_ | refine blk_alloc ?_ _)); refine blk_put (cs := #[.int .i64 ((rd_T28 l0 x8_1).f0), .string (⟨#[]⟩ : ByteArray), .int .i64 0, .int .i64 0]) ?_ 1 _ rfl; (with_reducible repeat (first | refine blk_drewN ?_ _ | refine blk_drew ?_ | refine blk_alloc ?_ _)); refine blk_put (cs := #[.int .i64 0, .string (⟨#[]⟩ : ByteArray), .int .i64 0, .int .i64 0]) ?_ 0 _ rfl; (with_reducible repeat (first | refine blk_drewN ?_ _ | refine blk_drew ?_ | refine blk_alloc ?_ _)); exact BK189.out) hg (Kd.R_ne HO_3.out BK189.out (by decide))); have n1_ := Aside0.mk (hb); have n2_ := Aside0.mk (ho); clear BK189; clear HB; clear HO_3; have BK189 := n0_; have HB := n1_; have HO192 := n2_; clear n0_ n1_ n2_; clear ho hb hg hat))
              go_roundg k1
              case measure => have := HK1.out; omega
              case rel => exact ⟨(y190), (wrap64 (x8_1 + 1)), (by first | rfl | (simp; done) | (simp [*]; done)), H', ⟨by have := HK1.out; omega⟩, ⟨by (with_reducible repeat (first | apply Kd.R_alloc | apply Kd.R_drewN | apply Kd.R_drew)); exact HO192.out⟩, ⟨by repeat (first | (with_reducible first | exact HB.out | apply below_alloc | apply pw_below_drewN | apply below_drew1 | refine below_set ?_ GE189.out) | exact HB.out)⟩⟩
            · rw [if_neg c5] at H
              exact absurd H (by simp)
          · rw [if_neg c4] at H
            exact absurd H (by simp)
        · rw [if_neg c3] at H
          exact absurd H (by simp)
      · rw [if_neg c2] at H
        have c2b0 : decide (x8_1 < (l0.length : Int)) = false := decide_eq_false c2
        clear c2
        obtain rfl := Option.some.inj H
        go_wp2
        go_ret
        exact ⟨_, by first | rfl | (simp [errW_none, errW_some] <;> rfl) | (simp [*, errW_none, errW_some] <;> rfl), by (with_reducible repeat (first | apply Kd.R_alloc | apply Kd.R_drewN | apply Kd.R_drew)); exact HO_3.out, by repeat (first | (with_reducible first | exact HB.out | apply below_alloc | apply pw_below_drewN | apply below_drew1) | exact HB.out)⟩

end Go.Proofs.Ytjihcncajpmgiaa.A
