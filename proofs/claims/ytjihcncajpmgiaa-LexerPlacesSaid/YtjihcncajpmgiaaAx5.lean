/- Made for this claim by a program of the session: the Go functions' plain twins and their contracts. Lean checks it. -/
import Derived.Test.YtjihcncajpmgiaaAx0
import Derived.Test.YtjihcncajpmgiaaAx2
import Derived.Test.YtjihcncajpmgiaaAx4
import Derived.Test.YtjihcncajpmgiaaL9
namespace Go.Proofs.Ytjihcncajpmgiaa.A
open Go.RowKit Go.Proofs.YtjihcncajpmgiaaW.PrintWords Go.Proofs.YtjihcncajpmgiaaW.PrintLast Go.Proofs.YtjihcncajpmgiaaW.PrintMore
attribute [local go_sem] max2_int min2_int max_two min_two max_three min_three max_four min_four   -- for this text's walks alone
set_option linter.unusedVariables false
set_option linter.unusedSimpArgs false

/-! ### vinculumlaw18_LexerPlaces: function 3 -/
mutual
def vinculumlaw18_LexerPlaces.j0 : Nat → ByteArray → Bool → Option (Bool)
  | 0, _, _ => none
  | k + 1, x0, x15 => if x15 = true then ((vinculumlaw18_awake.f k).bind fun t169 => (some t169)) else ((lexer_Tokens.f k x0).bind fun bt170 => (if bt170.2.2 = 0 then (vinculumlaw18_LexerPlaces.l0 k x0 0 bt170.1 (bt170.1.length : Int) 0) else (if (bt170.1.length : Int) = 0 then (if bt170.2.1 ≥ 0 then (some (decide (bt170.2.1 ≤ (x0.size : Int)))) else (some false)) else (some false))))
def vinculumlaw18_LexerPlaces.l0 : Nat → ByteArray → Int → List (S28) → Int → Int → Option (Bool)
  | 0, _, _, _, _, _ => none
  | k + 1, x0, x6, x38, x39, x40 => if x40 < x39 then (if 0 ≤ x40 then (if x40 < (x38.length : Int) then (if ((rd_T28 x38 x40).f2) < x6 then (vinculumlaw18_LexerPlaces.j2 k x0 x38 x39 x40 true ((rd_T28 x38 x40).f0) ((rd_T28 x38 x40).f1) ((rd_T28 x38 x40).f2) ((rd_T28 x38 x40).f3)) else (if ((rd_T28 x38 x40).f3) ≤ ((rd_T28 x38 x40).f2) then (vinculumlaw18_LexerPlaces.j2 k x0 x38 x39 x40 true ((rd_T28 x38 x40).f0) ((rd_T28 x38 x40).f1) ((rd_T28 x38 x40).f2) ((rd_T28 x38 x40).f3)) else (if ((rd_T28 x38 x40).f3) > (x0.size : Int) then (vinculumlaw18_LexerPlaces.j2 k x0 x38 x39 x40 true ((rd_T28 x38 x40).f0) ((rd_T28 x38 x40).f1) ((rd_T28 x38 x40).f2) ((rd_T28 x38 x40).f3)) else (if 0 ≤ x6 then (if x6 ≤ ((rd_T28 x38 x40).f2) then (if ((rd_T28 x38 x40).f2) ≤ (x0.size : Int) then ((vinculumlaw18_blank.f k (x0.extract (x6 : Int).toNat (((rd_T28 x38 x40).f2) : Int).toNat)).bind fun t178 => (vinculumlaw18_LexerPlaces.j2 k x0 x38 x39 x40 (!t178) ((rd_T28 x38 x40).f0) ((rd_T28 x38 x40).f1) ((rd_T28 x38 x40).f2) ((rd_T28 x38 x40).f3))) else (none)) else (none)) else (none))))) else (none)) else (none)) else (if 0 ≤ x6 then (if x6 ≤ (x0.size : Int) then ((vinculumlaw18_blank.f k (x0.extract (x6 : Int).toNat x0.size)).bind fun t175 => (some t175)) else (none)) else (none))
def vinculumlaw18_LexerPlaces.j2 : Nat → ByteArray → List (S28) → Int → Int → Bool → Int → ByteArray → Int → Int → Option (Bool)
  | 0, _, _, _, _, _, _, _, _, _ => none
  | k + 1, x0, x38, x39, x40, x70, x178000, x178001, x178002, x178003 => if x70 = true then (some false) else (if 0 ≤ x178002 then (if x178002 ≤ x178003 then (if x178003 ≤ (x0.size : Int) then ((lexer_Spell.f x178000 x178001 x178002 x178003).bind fun t179 => (if (x0.extract (x178002 : Int).toNat (x178003 : Int).toNat).toList = t179.toList then (vinculumlaw18_LexerPlaces.l0 k x0 x178003 x38 x39 (wrap64 (x40 + 1))) else (some false))) else (none)) else (none)) else (none))
end
def vinculumlaw18_LexerPlaces.f (k : Nat) (a0 : ByteArray) : Option (Bool) := (vinculumlaw18_awake.f k).bind fun t168 => (if t168 = true then (vinculumlaw18_LexerPlaces.j0 k a0 (decide ((a0.size : Int) > 2000))) else (vinculumlaw18_LexerPlaces.j0 k a0 true))
theorem vinculumlaw18_LexerPlaces.mono_l : ∀ k, (∀ y0 y1, LeO (vinculumlaw18_LexerPlaces.j0 k y0 y1) (vinculumlaw18_LexerPlaces.j0 (k + 1) y0 y1)) ∧ (∀ y0 y1 y2 y3 y4, LeO (vinculumlaw18_LexerPlaces.l0 k y0 y1 y2 y3 y4) (vinculumlaw18_LexerPlaces.l0 (k + 1) y0 y1 y2 y3 y4)) ∧ (∀ y0 y1 y2 y3 y4 y5 y6 y7 y8, LeO (vinculumlaw18_LexerPlaces.j2 k y0 y1 y2 y3 y4 y5 y6 y7 y8) (vinculumlaw18_LexerPlaces.j2 (k + 1) y0 y1 y2 y3 y4 y5 y6 y7 y8))
  | 0 => ⟨fun _ _ r h => by simp [vinculumlaw18_LexerPlaces.j0] at h, fun _ _ _ _ _ r h => by simp [vinculumlaw18_LexerPlaces.l0] at h, fun _ _ _ _ _ _ _ _ _ r h => by simp [vinculumlaw18_LexerPlaces.j2] at h⟩
  | k + 1 => by
    obtain ⟨ih0, ih1, ih2⟩ := vinculumlaw18_LexerPlaces.mono_l k
    refine ⟨?_, ?_, ?_⟩
    · intro y0 y1
      unfold vinculumlaw18_LexerPlaces.j0
      repeat' first
      | (with_reducible exact ih0 _ _)
      | (with_reducible exact ih1 _ _ _ _ _)
      | (with_reducible exact ih2 _ _ _ _ _ _ _ _ _)
      | (with_reducible exact lexer_Tokens.mono _ _)
      | (with_reducible exact vinculumlaw18_awake.mono _)
      | (with_reducible exact vinculumlaw18_blank.mono _ _)
      | (with_reducible exact LeO.refl _)
      | (with_reducible exact LeO.none _)
      | (with_reducible refine LeO.ite ?_ ?_)
      | (with_reducible refine LeO.bind ?_ (fun _ => ?_))
      | exact ih0 _ _
      | exact ih1 _ _ _ _ _
      | exact ih2 _ _ _ _ _ _ _ _ _
      | exact lexer_Tokens.mono _ _
      | exact vinculumlaw18_awake.mono _
      | exact vinculumlaw18_blank.mono _ _
      | exact LeO.none _
      | refine LeO.ite ?_ ?_
      | refine LeO.bind ?_ (fun _ => ?_)
    · intro y0 y1 y2 y3 y4
      unfold vinculumlaw18_LexerPlaces.l0
      repeat' first
      | (with_reducible exact ih0 _ _)
      | (with_reducible exact ih1 _ _ _ _ _)
      | (with_reducible exact ih2 _ _ _ _ _ _ _ _ _)
      | (with_reducible exact lexer_Tokens.mono _ _)
      | (with_reducible exact vinculumlaw18_awake.mono _)
      | (with_reducible exact vinculumlaw18_blank.mono _ _)
      | (with_reducible exact LeO.refl _)
      | (with_reducible exact LeO.none _)
      | (with_reducible refine LeO.ite ?_ ?_)
      | (with_reducible refine LeO.bind ?_ (fun _ => ?_))
      | exact ih0 _ _
      | exact ih1 _ _ _ _ _
      | exact ih2 _ _ _ _ _ _ _ _ _
      | exact lexer_Tokens.mono _ _
      | exact vinculumlaw18_awake.mono _
      | exact vinculumlaw18_blank.mono _ _
      | exact LeO.none _
      | refine LeO.ite ?_ ?_
      | refine LeO.bind ?_ (fun _ => ?_)
    · intro y0 y1 y2 y3 y4 y5 y6 y7 y8
      unfold vinculumlaw18_LexerPlaces.j2
      repeat' first
      | (with_reducible exact ih0 _ _)
      | (with_reducible exact ih1 _ _ _ _ _)
      | (with_reducible exact ih2 _ _ _ _ _ _ _ _ _)
      | (with_reducible exact lexer_Tokens.mono _ _)
      | (with_reducible exact vinculumlaw18_awake.mono _)
      | (with_reducible exact vinculumlaw18_blank.mono _ _)
      | (with_reducible exact LeO.refl _)
      | (with_reducible exact LeO.none _)
      | (with_reducible refine LeO.ite ?_ ?_)
      | (with_reducible refine LeO.bind ?_ (fun _ => ?_))
      | exact ih0 _ _
      | exact ih1 _ _ _ _ _
      | exact ih2 _ _ _ _ _ _ _ _ _
      | exact lexer_Tokens.mono _ _
      | exact vinculumlaw18_awake.mono _
      | exact vinculumlaw18_blank.mono _ _
      | exact LeO.none _
      | refine LeO.ite ?_ ?_
      | refine LeO.bind ?_ (fun _ => ?_)
theorem vinculumlaw18_LexerPlaces.mono : ∀ a0 k, LeO (vinculumlaw18_LexerPlaces.f k a0) (vinculumlaw18_LexerPlaces.f (k + 1) a0) := by
  intro a0 k
  obtain ⟨ih0, ih1, ih2⟩ := vinculumlaw18_LexerPlaces.mono_l k
  unfold vinculumlaw18_LexerPlaces.f
  repeat' first
      | (with_reducible exact ih0 _ _)
      | (with_reducible exact ih1 _ _ _ _ _)
      | (with_reducible exact ih2 _ _ _ _ _ _ _ _ _)
      | (with_reducible exact lexer_Tokens.mono _ _)
      | (with_reducible exact vinculumlaw18_awake.mono _)
      | (with_reducible exact vinculumlaw18_blank.mono _ _)
      | (with_reducible exact LeO.refl _)
      | (with_reducible exact LeO.none _)
      | (with_reducible refine LeO.ite ?_ ?_)
      | (with_reducible refine LeO.bind ?_ (fun _ => ?_))
      | exact ih0 _ _
      | exact ih1 _ _ _ _ _
      | exact ih2 _ _ _ _ _ _ _ _ _
      | exact lexer_Tokens.mono _ _
      | exact vinculumlaw18_awake.mono _
      | exact vinculumlaw18_blank.mono _ _
      | exact LeO.none _
      | refine LeO.ite ?_ ?_
      | refine LeO.bind ?_ (fun _ => ?_)
def vinculumlaw18_LexerPlaces.T12 : Bool × List (List Nat × List Nat) := (true, [([], []), ([], []), ([1], [1]), ([], []), ([3], [3]), ([0, 2, 4], [0, 2, 4]), ([], []), ([6], [6]), ([5, 7], [5, 7])])
def vinculumlaw18_LexerPlaces.B12 : List Nat := [0, 0, 2, 0, 8, 31, 0, 64, 255]
theorem vinculumlaw18_LexerPlaces.tab12 : rtab .any (opsOf Try.f3 12) = vinculumlaw18_LexerPlaces.T12 := by kernel_rfl
theorem vinculumlaw18_LexerPlaces.bits12 : waitsOk vinculumlaw18_LexerPlaces.T12.2 vinculumlaw18_LexerPlaces.B12 = true := by kernel_rfl
set_option maxHeartbeats 8000000 in
set_option maxRecDepth 100000 in
theorem vinculumlaw18_LexerPlaces.calls (k : Nat) (a0 : ByteArray) (r : Bool) (w : World) (h : vinculumlaw18_LexerPlaces.f k a0 = some r) :
    Calls Try.prog 3 #[.string a0] w fun e w' => e = .returned (.bool r) ∧ Below w.heap.size w w' := by
  have hu28 := Try.underlying28
  have HB := Aside0.mk (Below.refl w.heap.size w)
  have H : ((vinculumlaw18_awake.f k).bind fun t168 => (if t168 = true then (vinculumlaw18_LexerPlaces.j0 k a0 (decide ((a0.size : Int) > 2000))) else (vinculumlaw18_LexerPlaces.j0 k a0 true))) = some r := h
  clear h
  have HC2 := Aside0.mk H
  clear H
  go_enter Try.func3, Try.ntmps3
  go_upto_region 1 with (fail)
  go_cut [15] (fun v15 wc => ∃ (kq : Nat) (x15_1 : Bool), v15 = .bool x15_1 ∧ Aside0 (vinculumlaw18_LexerPlaces.j0 kq a0 x15_1 = some r) ∧ Aside0 (kq ≤ k) ∧ Aside0 (Below w.heap.size w wc))
  case first =>
    have H := HC2.out
    clear HC2
    replace H := Option.bind_eq_some_iff.mp H
    obtain ⟨t168, A30, H⟩ := H
    replace H : (if t168 = true then (vinculumlaw18_LexerPlaces.j0 k a0 (decide ((a0.size : Int) > 2000))) else (vinculumlaw18_LexerPlaces.j0 k a0 true)) = some r := H
    have A3 := Aside0.mk A30
    clear A30
    by_cases c4 : t168 = true
    · subst c4
      have H1 : (vinculumlaw18_LexerPlaces.j0 k a0 (decide ((a0.size : Int) > 2000))) = some r := by rw [if_pos rfl] at H; exact H
      clear H
      have H := H1
      clear H1
      have H' := Aside0.mk H
      clear H
      go_wp2_with (first | ((with_reducible refine gate_callee (f := 7) rfl ?_); refine goesL_ (some 9) rfl rfl Try.func7 (by kernel_rfl) rfl #[] rfl (by (try simp only [List.map_toArray, List.map_cons, List.map_nil]); first | done | rfl | (simp only [List.length_drop, List.length_take]; rfl)) ?_; (with_reducible refine (vinculumlaw18_awake.calls k  true _ A3.out).mono ?_); rintro e w5 ⟨rfl, hb⟩; refine ⟨_, rfl, ?_⟩; have n0_ := Aside0.mk (below_step (by repeat (first | (with_reducible first | exact HB.out | apply below_alloc | apply pw_below_drewN | apply below_drew1) | exact HB.out)) hb); clear HB; have HB := n0_; clear n0_; (try clear hb); (try clear hb2); (try clear hk); (try clear hi)))
      go_meet
      case rel => exact ⟨_, (decide ((a0.size : Int) > 2000)), (by first | rfl | (simp; done) | (simp [*]; done)), H', ⟨by first | omega | exact Nat.le_refl _⟩, ⟨by repeat (first | (with_reducible first | exact HB.out | apply below_alloc | apply pw_below_drewN | apply below_drew1) | exact HB.out)⟩⟩
    · replace c4 := Bool.eq_false_iff.mpr c4
      subst c4
      have H1 : (vinculumlaw18_LexerPlaces.j0 k a0 true) = some r := by rw [if_neg (show ¬ (false = true) by decide)] at H; exact H
      clear H
      have H := H1
      clear H1
      have H' := Aside0.mk H
      clear H
      go_wp2_with (first | ((with_reducible refine gate_callee (f := 7) rfl ?_); refine goesL_ (some 9) rfl rfl Try.func7 (by kernel_rfl) rfl #[] rfl (by (try simp only [List.map_toArray, List.map_cons, List.map_nil]); first | done | rfl | (simp only [List.length_drop, List.length_take]; rfl)) ?_; (with_reducible refine (vinculumlaw18_awake.calls k  false _ A3.out).mono ?_); rintro e w6 ⟨rfl, hb⟩; refine ⟨_, rfl, ?_⟩; have n0_ := Aside0.mk (below_step (by repeat (first | (with_reducible first | exact HB.out | apply below_alloc | apply pw_below_drewN | apply below_drew1) | exact HB.out)) hb); clear HB; have HB := n0_; clear n0_; (try clear hb); (try clear hb2); (try clear hk); (try clear hi)))
      go_meet
      case rel => exact ⟨_, (true), (by first | rfl | (simp; done) | (simp [*]; done)), H', ⟨by first | omega | exact Nat.le_refl _⟩, ⟨by repeat (first | (with_reducible first | exact HB.out | apply below_alloc | apply pw_below_drewN | apply below_drew1) | exact HB.out)⟩⟩
  case rest =>
    clear HC2
    try clear p2
    try clear c3
    try clear c4
    obtain ⟨kq, x15_1, rfl, HA, HJ1, HB⟩ := hcut
    cases kq with
    | zero => exact absurd HA.out (by simp [vinculumlaw18_LexerPlaces.j0])
    | succ kj1 =>
      have H := HA.out
      clear HA
      simp only [vinculumlaw18_LexerPlaces.j0] at H
      by_cases c7 : x15_1 = true
      · subst c7
        have H1 : ((vinculumlaw18_awake.f kj1).bind fun t169 => (some t169)) = some r := by rw [if_pos rfl] at H; exact H
        clear H
        have H := H1
        clear H1
        replace H := Option.bind_eq_some_iff.mp H
        obtain ⟨t169, A80, H⟩ := H
        replace H : (some t169) = some r := H
        have A8 := Aside0.mk A80
        clear A80
        obtain rfl := Option.some.inj H
        go_wp2_with (first | ((with_reducible refine gate_callee (f := 7) rfl ?_); refine goesL_ (some 16) rfl rfl Try.func7 (by kernel_rfl) rfl #[] rfl (by (try simp only [List.map_toArray, List.map_cons, List.map_nil]); first | done | rfl | (simp only [List.length_drop, List.length_take]; rfl)) ?_; (with_reducible refine (vinculumlaw18_awake.calls kj1  t169 _ A8.out).mono ?_); rintro e w9 ⟨rfl, hb⟩; refine ⟨_, rfl, ?_⟩; have n0_ := Aside0.mk (below_step (by repeat (first | (with_reducible first | exact HB.out | apply below_alloc | apply pw_below_drewN | apply below_drew1) | exact HB.out)) hb); clear HB; have HB := n0_; clear n0_; (try clear hb); (try clear hb2); (try clear hk); (try clear hi)))
        go_ret
        exact ⟨by first | rfl | (simp [errW_none, errW_some] <;> rfl) | (simp [*, errW_none, errW_some] <;> rfl), by repeat (first | (with_reducible first | exact HB.out | apply below_alloc | apply pw_below_drewN | apply below_drew1) | exact HB.out)⟩
      · replace c7 := Bool.eq_false_iff.mpr c7
        subst c7
        have H1 : ((lexer_Tokens.f kj1 a0).bind fun bt170 => (if bt170.2.2 = 0 then (vinculumlaw18_LexerPlaces.l0 kj1 a0 0 bt170.1 (bt170.1.length : Int) 0) else (if (bt170.1.length : Int) = 0 then (if bt170.2.1 ≥ 0 then (some (decide (bt170.2.1 ≤ (a0.size : Int)))) else (some false)) else (some false)))) = some r := by rw [if_neg (show ¬ (false = true) by decide)] at H; exact H
        clear H
        have H := H1
        clear H1
        replace H := Option.bind_eq_some_iff.mp H
        obtain ⟨⟨t170, t171, t172⟩, A100, H⟩ := H
        replace H : (if t172 = 0 then (vinculumlaw18_LexerPlaces.l0 kj1 a0 0 t170 (t170.length : Int) 0) else (if (t170.length : Int) = 0 then (if t171 ≥ 0 then (some (decide (t171 ≤ (a0.size : Int)))) else (some false)) else (some false))) = some r := H
        have A10 := Aside0.mk A100
        clear A100
        by_cases c11 : t172 = 0
        · rw [if_pos c11] at H
          have c11b0 : (t172 == 0) = true := beq_iff_eq.mpr c11
          have c11b1 : (t172 != 0) = false := bne_eq_false_iff_eq.mpr c11
          clear c11
          have H' := Aside0.mk H
          clear H
          go_wp2_with (first | ((with_reducible refine gate_callee (f := 8) rfl ?_); refine goesL_ (some 19) rfl rfl Try.func8 (by kernel_rfl) rfl #[.string a0] rfl (by (try simp only [List.map_toArray, List.map_cons, List.map_nil]); first | done | rfl | (simp only [List.length_drop, List.length_take]; rfl)) ?_; (with_reducible refine (lexer_Tokens.calls kj1 a0 t170 t171 t172 _ A10.out).mono ?_); rintro e w12 ⟨v173, rfl, ho0, hb⟩; refine ⟨_, rfl, ?_⟩; have n0_ := Aside0.mk (Kd.R_lower ho0 (below_size (by repeat (first | (with_reducible first | exact HB.out | apply below_alloc | apply pw_below_drewN | apply below_drew1) | exact HB.out)))); have n1_ := Aside0.mk (below_step (by repeat (first | (with_reducible first | exact HB.out | apply below_alloc | apply pw_below_drewN | apply below_drew1) | exact HB.out)) hb); clear HB; have HO174 := n0_; have HB := n1_; clear n0_ n1_; (try clear hb); (try clear hb2); (try clear hk); (try clear hi); (try clear ho0); obtain ⟨Ao13, co13, eo13⟩ := Kd.R_slice HO174.out; subst eo13))
          go_loopg [6, 40] kj1 (fun kq v6 v40 w' => ∃ (x6_2 : Int) (x40_2 : Int), v6 = .int .i64 x6_2 ∧ v40 = .int .i64 x40_2 ∧ Aside0 (vinculumlaw18_LexerPlaces.l0 kq a0 x6_2 t170 (t170.length : Int) x40_2 = some r) ∧ Aside0 (kq ≤ kj1) ∧ Aside0 (Kd.R k28 28 w' w.heap.size (fun _ => True) (.slice Ao13 t170.length co13) t170) ∧ Aside0 (Below w.heap.size w w'))
          case atStart => exact ⟨(0), (0), (by first | rfl | (simp; done) | (simp [*]; done)), (by first | rfl | (simp; done) | (simp [*]; done)), H', ⟨Nat.le_refl _⟩, ⟨by (with_reducible repeat (first | apply Kd.R_alloc | apply Kd.R_drewN | apply Kd.R_drew)); exact HO174.out⟩, ⟨by repeat (first | (with_reducible first | exact HB.out | apply below_alloc | apply pw_below_drewN | apply below_drew1) | exact HB.out)⟩⟩
          case round =>
            clear H'
            try clear c1
            try clear p2
            try clear c3
            try clear c4
            try clear c7
            try clear c8
            try clear c11
            try clear c11b0
            try clear c11b1
            try clear p2
            obtain ⟨x6_2, x40_2, rfl, rfl, HA, HK2, HO_38, HB⟩ := hrel
            cases gk with
            | zero => exact absurd HA.out (by simp [vinculumlaw18_LexerPlaces.l0])
            | succ k2 =>
              have H := HA.out
              clear HA
              simp only [vinculumlaw18_LexerPlaces.l0] at H
              by_cases c14 : x40_2 < (t170.length : Int)
              · rw [if_pos c14] at H
                have c14b0 : decide (x40_2 < (t170.length : Int)) = true := decide_eq_true c14
                clear c14
                by_cases c15 : 0 ≤ x40_2
                · rw [if_pos c15] at H
                  have c15b0 : decide (0 ≤ x40_2) = true := decide_eq_true c15
                  clear c15
                  by_cases c16 : x40_2 < (t170.length : Int)
                  · rw [if_pos c16] at H
                    have c16b0 : decide (x40_2 < (t170.length : Int)) = true := decide_eq_true c16
                    clear c16
                    have HC17 := Aside0.mk H
                    clear H
                    have p176 : 0 ≤ (x40_2 : Int) := of_decide_eq_true (by first | (with_reducible assumption) | assumption)
                    have q176 : x40_2 < (t170.length : Int) := of_decide_eq_true (by first | (with_reducible assumption) | assumption)
                    obtain ⟨ad176, e176, hx176_0, hx176_1, hx176_2, hx176_3⟩ := at_T28 (Kd.R_reads' HO_38.out).2.2 x40_2 p176 q176
                    cases e176
                    replace p176 := eq_true p176
                    replace q176 := eq_true q176
                    go_upto_region 10 with (first | ((with_reducible refine gate_dst (N := 8) rfl ?_); (try (refine gate_guard (by rfl) ?_; dsimp only)); refine box_event ?hg (N := 8) ?hd (cs := #[.int .i64 0, .string (⟨#[]⟩ : ByteArray), .int .i64 0, .int .i64 0]) (t := 28) ?hr ?_; (case hd => rfl); (case hg => rfl); (case hr => first | (go_simp; done) | (go_simp; rfl)); intro gb177 hg w18 hbox hb; have n0_ := Aside0.mk (Kd.R_below (Kd.R_elderB (by (with_reducible repeat (first | apply Kd.R_alloc | apply Kd.R_drewN | apply Kd.R_drew)); exact HO_38.out) gb177 (Nat.le_of_eq hg.symm)) hb); have n1_ := Aside0.mk (below_step (by repeat (first | (with_reducible first | exact HB.out | apply below_alloc | apply pw_below_drewN | apply below_drew1) | exact HB.out)) hb); have n2_ := Aside0.mk (hbox); have n3_ := Aside0.mk ((by rw [hg]; exact (below_size (by repeat (first | (with_reducible first | exact HB.out | apply below_alloc | apply pw_below_drewN | apply below_drew1) | exact HB.out))) : w.heap.size ≤ gb177)); have n4_ := Aside0.mk ((by rw [hg]; exact (below_size (by repeat (first | (with_reducible first | exact HB.out | apply below_alloc | apply pw_below_drewN | apply below_drew1) | exact HB.out))) : w.heap.size ≤ gb177)); clear HO_38; clear HB; have HO_38 := n0_; have HB := n1_; have BK177 := n2_; have GW177 := n3_; have GE177 := n4_; clear n0_ n1_ n2_ n3_ n4_; clear hb hbox hg; have hcz19_0 : w18.cell? ⟨gb177, 0, none⟩ = some (.int .i64 0) := (blk_cell BK177.out 0).trans rfl; have hcz19_1 : w18.cell? ⟨gb177, 1, none⟩ = some (.string (⟨#[]⟩ : ByteArray)) := (blk_cell BK177.out 1).trans rfl; have hcz19_2 : w18.cell? ⟨gb177, 2, none⟩ = some (.int .i64 0) := (blk_cell BK177.out 2).trans rfl; have hcz19_3 : w18.cell? ⟨gb177, 3, none⟩ = some (.int .i64 0) := (blk_cell BK177.out 3).trans rfl; have hfz19_0 := blk_frozen BK177.out 0; have hfz19_1 := blk_frozen BK177.out 1; have hfz19_2 := blk_frozen BK177.out 2; have hfz19_3 := blk_frozen BK177.out 3))
                    (try simp only [Act.put, List.setIfInBounds_toArray, List.set_cons_zero, List.set_cons_succ])
                    go_cut [70] (fun v70 wc => ∃ (kq : Nat) (x70_16 : Bool), v70 = .bool x70_16 ∧ Aside0 (vinculumlaw18_LexerPlaces.j2 kq a0 t170 (t170.length : Int) x40_2 x70_16 ((rd_T28 t170 x40_2).f0) ((rd_T28 t170 x40_2).f1) ((rd_T28 t170 x40_2).f2) ((rd_T28 t170 x40_2).f3) = some r) ∧ Aside0 (kq ≤ k2) ∧ Aside0 (Kd.R k28 28 wc w.heap.size (fun k_ => k_ ≠ gb177) (.slice (some ad176) t170.length co13) t170) ∧ Aside0 (wc.heap[gb177]? = some (.cells #[.int .i64 ((rd_T28 t170 x40_2).f0), .string ((rd_T28 t170 x40_2).f1), .int .i64 ((rd_T28 t170 x40_2).f2), .int .i64 ((rd_T28 t170 x40_2).f3)] 28 (0, 0))) ∧ Aside0 (Below w.heap.size w wc))
                    case first =>
                      have H := HC17.out
                      clear HC17
                      by_cases c20 : ((rd_T28 t170 x40_2).f2) < x6_2
                      · rw [if_pos c20] at H
                        have c20b0 : decide (((rd_T28 t170 x40_2).f2) < x6_2) = true := decide_eq_true c20
                        clear c20
                        (first | rw [c20b0] | (simp only [i64_w, i32_w]; rw [c20b0]) | skip)
                        have H' := Aside0.mk H
                        clear H
                        have hcz21_0 : w18.cell? ⟨gb177, 0, none⟩ = some (.int .i64 0) := (blk_cell BK177.out 0).trans rfl
                        have hcz21_1 : w18.cell? ⟨gb177, 1, none⟩ = some (.string (⟨#[]⟩ : ByteArray)) := (blk_cell BK177.out 1).trans rfl
                        have hcz21_2 : w18.cell? ⟨gb177, 2, none⟩ = some (.int .i64 0) := (blk_cell BK177.out 2).trans rfl
                        have hcz21_3 : w18.cell? ⟨gb177, 3, none⟩ = some (.int .i64 0) := (blk_cell BK177.out 3).trans rfl
                        have hfz21_0 := blk_frozen BK177.out 0
                        have hfz21_1 := blk_frozen BK177.out 1
                        have hfz21_2 := blk_frozen BK177.out 2
                        have hfz21_3 := blk_frozen BK177.out 3
                        go_wp2
                        go_meet
                        case rel => exact ⟨_, (true), (by first | rfl | (simp; done) | (simp [*]; done)), H', ⟨by have := HJ1.out; have := HK2.out; first | omega | exact Nat.le_refl _⟩, ⟨by (with_reducible repeat (first | apply Kd.R_alloc | apply Kd.R_drewN | apply Kd.R_drew)); exact Kd.R_mono (Kd.R_far (p := ⟨gb177, 3, none⟩) (Kd.R_far (p := ⟨gb177, 2, none⟩) (Kd.R_far (p := ⟨gb177, 1, none⟩) (Kd.R_far (p := ⟨gb177, 0, none⟩) (Kd.R_mono HO_38.out (fun k_ hk => (⟨hk, hk.2⟩ : _ ∧ k_ ≠ gb177))) (fun _ hk => hk.2) (.int .i64 ((rd_T28 t170 x40_2).f0))) (fun _ hk => hk.2) (.string ((rd_T28 t170 x40_2).f1))) (fun _ hk => hk.2) (.int .i64 ((rd_T28 t170 x40_2).f2))) (fun _ hk => hk.2) (.int .i64 ((rd_T28 t170 x40_2).f3))) (fun _ hk => hk.1.2)⟩, ⟨by (with_reducible repeat (first | refine blk_drewN ?_ _ | refine blk_drew ?_ | refine blk_alloc ?_ _)); refine blk_put (cs := #[.int .i64 ((rd_T28 t170 x40_2).f0), .string ((rd_T28 t170 x40_2).f1), .int .i64 ((rd_T28 t170 x40_2).f2), .int .i64 0]) ?_ 3 _ rfl; (with_reducible repeat (first | refine blk_drewN ?_ _ | refine blk_drew ?_ | refine blk_alloc ?_ _)); refine blk_put (cs := #[.int .i64 ((rd_T28 t170 x40_2).f0), .string ((rd_T28 t170 x40_2).f1), .int .i64 0, .int .i64 0]) ?_ 2 _ rfl; (with_reducible repeat (first | refine blk_drewN ?_ _ | refine blk_drew ?_ | refine blk_alloc ?_ _)); refine blk_put (cs := #[.int .i64 ((rd_T28 t170 x40_2).f0), .string (⟨#[]⟩ : ByteArray), .int .i64 0, .int .i64 0]) ?_ 1 _ rfl; (with_reducible repeat (first | refine blk_drewN ?_ _ | refine blk_drew ?_ | refine blk_alloc ?_ _)); refine blk_put (cs := #[.int .i64 0, .string (⟨#[]⟩ : ByteArray), .int .i64 0, .int .i64 0]) ?_ 0 _ rfl; (with_reducible repeat (first | refine blk_drewN ?_ _ | refine blk_drew ?_ | refine blk_alloc ?_ _)); exact BK177.out⟩, ⟨by repeat (first | (with_reducible first | exact HB.out | apply below_alloc | apply pw_below_drewN | apply below_drew1 | refine below_set ?_ GE177.out) | exact HB.out)⟩⟩
                      · rw [if_neg c20] at H
                        have c20b0 : decide (((rd_T28 t170 x40_2).f2) < x6_2) = false := decide_eq_false c20
                        clear c20
                        (first | rw [c20b0] | (simp only [i64_w, i32_w]; rw [c20b0]) | skip)
                        by_cases c22 : ((rd_T28 t170 x40_2).f3) ≤ ((rd_T28 t170 x40_2).f2)
                        · rw [if_pos c22] at H
                          have c22b0 : decide (((rd_T28 t170 x40_2).f3) ≤ ((rd_T28 t170 x40_2).f2)) = true := decide_eq_true c22
                          clear c22
                          have H' := Aside0.mk H
                          clear H
                          have hcz23_0 : w18.cell? ⟨gb177, 0, none⟩ = some (.int .i64 0) := (blk_cell BK177.out 0).trans rfl
                          have hcz23_1 : w18.cell? ⟨gb177, 1, none⟩ = some (.string (⟨#[]⟩ : ByteArray)) := (blk_cell BK177.out 1).trans rfl
                          have hcz23_2 : w18.cell? ⟨gb177, 2, none⟩ = some (.int .i64 0) := (blk_cell BK177.out 2).trans rfl
                          have hcz23_3 : w18.cell? ⟨gb177, 3, none⟩ = some (.int .i64 0) := (blk_cell BK177.out 3).trans rfl
                          have hfz23_0 := blk_frozen BK177.out 0
                          have hfz23_1 := blk_frozen BK177.out 1
                          have hfz23_2 := blk_frozen BK177.out 2
                          have hfz23_3 := blk_frozen BK177.out 3
                          go_wp2
                          go_meet
                          case rel => exact ⟨_, (true), (by first | rfl | (simp; done) | (simp [*]; done)), H', ⟨by have := HJ1.out; have := HK2.out; first | omega | exact Nat.le_refl _⟩, ⟨by (with_reducible repeat (first | apply Kd.R_alloc | apply Kd.R_drewN | apply Kd.R_drew)); exact Kd.R_mono (Kd.R_far (p := ⟨gb177, 3, none⟩) (Kd.R_far (p := ⟨gb177, 2, none⟩) (Kd.R_far (p := ⟨gb177, 1, none⟩) (Kd.R_far (p := ⟨gb177, 0, none⟩) (Kd.R_mono HO_38.out (fun k_ hk => (⟨hk, hk.2⟩ : _ ∧ k_ ≠ gb177))) (fun _ hk => hk.2) (.int .i64 ((rd_T28 t170 x40_2).f0))) (fun _ hk => hk.2) (.string ((rd_T28 t170 x40_2).f1))) (fun _ hk => hk.2) (.int .i64 ((rd_T28 t170 x40_2).f2))) (fun _ hk => hk.2) (.int .i64 ((rd_T28 t170 x40_2).f3))) (fun _ hk => hk.1.2)⟩, ⟨by (with_reducible repeat (first | refine blk_drewN ?_ _ | refine blk_drew ?_ | refine blk_alloc ?_ _)); refine blk_put (cs := #[.int .i64 ((rd_T28 t170 x40_2).f0), .string ((rd_T28 t170 x40_2).f1), .int .i64 ((rd_T28 t170 x40_2).f2), .int .i64 0]) ?_ 3 _ rfl; (with_reducible repeat (first | refine blk_drewN ?_ _ | refine blk_drew ?_ | refine blk_alloc ?_ _)); refine blk_put (cs := #[.int .i64 ((rd_T28 t170 x40_2).f0), .string ((rd_T28 t170 x40_2).f1), .int .i64 0, .int .i64 0]) ?_ 2 _ rfl; (with_reducible repeat (first | refine blk_drewN ?_ _ | refine blk_drew ?_ | refine blk_alloc ?_ _)); refine blk_put (cs := #[.int .i64 ((rd_T28 t170 x40_2).f0), .string (⟨#[]⟩ : ByteArray), .int .i64 0, .int .i64 0]) ?_ 1 _ rfl; (with_reducible repeat (first | refine blk_drewN ?_ _ | refine blk_drew ?_ | refine blk_alloc ?_ _)); refine blk_put (cs := #[.int .i64 0, .string (⟨#[]⟩ : ByteArray), .int .i64 0, .int .i64 0]) ?_ 0 _ rfl; (with_reducible repeat (first | refine blk_drewN ?_ _ | refine blk_drew ?_ | refine blk_alloc ?_ _)); exact BK177.out⟩, ⟨by repeat (first | (with_reducible first | exact HB.out | apply below_alloc | apply pw_below_drewN | apply below_drew1 | refine below_set ?_ GE177.out) | exact HB.out)⟩⟩
                        · rw [if_neg c22] at H
                          have c22b0 : decide (((rd_T28 t170 x40_2).f3) ≤ ((rd_T28 t170 x40_2).f2)) = false := decide_eq_false c22
                          clear c22
                          by_cases c24 : ((rd_T28 t170 x40_2).f3) > (a0.size : Int)
                          · rw [if_pos c24] at H
                            have c24b0 : decide ((a0.size : Int) < ((rd_T28 t170 x40_2).f3)) = true := decide_eq_true c24
                            clear c24
                            have H' := Aside0.mk H
                            clear H
                            have hcz25_0 : w18.cell? ⟨gb177, 0, none⟩ = some (.int .i64 0) := (blk_cell BK177.out 0).trans rfl
                            have hcz25_1 : w18.cell? ⟨gb177, 1, none⟩ = some (.string (⟨#[]⟩ : ByteArray)) := (blk_cell BK177.out 1).trans rfl
                            have hcz25_2 : w18.cell? ⟨gb177, 2, none⟩ = some (.int .i64 0) := (blk_cell BK177.out 2).trans rfl
                            have hcz25_3 : w18.cell? ⟨gb177, 3, none⟩ = some (.int .i64 0) := (blk_cell BK177.out 3).trans rfl
                            have hfz25_0 := blk_frozen BK177.out 0
                            have hfz25_1 := blk_frozen BK177.out 1
                            have hfz25_2 := blk_frozen BK177.out 2
                            have hfz25_3 := blk_frozen BK177.out 3
                            go_wp2
                            go_meet
                            case rel => exact ⟨_, (true), (by first | rfl | (simp; done) | (simp [*]; done)), H', ⟨by have := HJ1.out; have := HK2.out; first | omega | exact Nat.le_refl _⟩, ⟨by (with_reducible repeat (first | apply Kd.R_alloc | apply Kd.R_drewN | apply Kd.R_drew)); exact Kd.R_mono (Kd.R_far (p := ⟨gb177, 3, none⟩) (Kd.R_far (p := ⟨gb177, 2, none⟩) (Kd.R_far (p := ⟨gb177, 1, none⟩) (Kd.R_far (p := ⟨gb177, 0, none⟩) (Kd.R_mono HO_38.out (fun k_ hk => (⟨hk, hk.2⟩ : _ ∧ k_ ≠ gb177))) (fun _ hk => hk.2) (.int .i64 ((rd_T28 t170 x40_2).f0))) (fun _ hk => hk.2) (.string ((rd_T28 t170 x40_2).f1))) (fun _ hk => hk.2) (.int .i64 ((rd_T28 t170 x40_2).f2))) (fun _ hk => hk.2) (.int .i64 ((rd_T28 t170 x40_2).f3))) (fun _ hk => hk.1.2)⟩, ⟨by (with_reducible repeat (first | refine blk_drewN ?_ _ | refine blk_drew ?_ | refine blk_alloc ?_ _)); refine blk_put (cs := #[.int .i64 ((rd_T28 t170 x40_2).f0), .string ((rd_T28 t170 x40_2).f1), .int .i64 ((rd_T28 t170 x40_2).f2), .int .i64 0]) ?_ 3 _ rfl; (with_reducible repeat (first | refine blk_drewN ?_ _ | refine blk_drew ?_ | refine blk_alloc ?_ _)); refine blk_put (cs := #[.int .i64 ((rd_T28 t170 x40_2).f0), .string ((rd_T28 t170 x40_2).f1), .int .i64 0, .int .i64 0]) ?_ 2 _ rfl; (with_reducible repeat (first | refine blk_drewN ?_ _ | refine blk_drew ?_ | refine blk_alloc ?_ _)); refine blk_put (cs := #[.int .i64 ((rd_T28 t170 x40_2).f0), .string (⟨#[]⟩ : ByteArray), .int .i64 0, .int .i64 0]) ?_ 1 _ rfl; (with_reducible repeat (first | refine blk_drewN ?_ _ | refine blk_drew ?_ | refine blk_alloc ?_ _)); refine blk_put (cs := #[.int .i64 0, .string (⟨#[]⟩ : ByteArray), .int .i64 0, .int .i64 0]) ?_ 0 _ rfl; (with_reducible repeat (first | refine blk_drewN ?_ _ | refine blk_drew ?_ | refine blk_alloc ?_ _)); exact BK177.out⟩, ⟨by repeat (first | (with_reducible first | exact HB.out | apply below_alloc | apply pw_below_drewN | apply below_drew1 | refine below_set ?_ GE177.out) | exact HB.out)⟩⟩
                          · rw [if_neg c24] at H
                            have c24b0 : decide ((a0.size : Int) < ((rd_T28 t170 x40_2).f3)) = false := decide_eq_false c24
                            clear c24
                            by_cases c26 : 0 ≤ x6_2
                            · rw [if_pos c26] at H
                              have c26b0 := eq_true c26
                              have c26b1 : decide (0 ≤ x6_2) = true := decide_eq_true c26
                              clear c26
                              by_cases c27 : x6_2 ≤ ((rd_T28 t170 x40_2).f2)
                              · rw [if_pos c27] at H
                                have c27b0 := eq_true c27
                                have c27b1 : decide (x6_2 ≤ ((rd_T28 t170 x40_2).f2)) = true := decide_eq_true c27
                                clear c27
                                by_cases c28 : ((rd_T28 t170 x40_2).f2) ≤ (a0.size : Int)
                                · rw [if_pos c28] at H
                                  have c28b0 := eq_true c28
                                  have c28b1 : decide (((rd_T28 t170 x40_2).f2) ≤ (a0.size : Int)) = true := decide_eq_true c28
                                  clear c28
                                  replace H := Option.bind_eq_some_iff.mp H
                                  obtain ⟨t178, A290, H⟩ := H
                                  replace H : (vinculumlaw18_LexerPlaces.j2 k2 a0 t170 (t170.length : Int) x40_2 (!t178) ((rd_T28 t170 x40_2).f0) ((rd_T28 t170 x40_2).f1) ((rd_T28 t170 x40_2).f2) ((rd_T28 t170 x40_2).f3)) = some r := H
                                  have A29 := Aside0.mk A290
                                  clear A290
                                  have H' := Aside0.mk H
                                  clear H
                                  have hcz30_0 : w18.cell? ⟨gb177, 0, none⟩ = some (.int .i64 0) := (blk_cell BK177.out 0).trans rfl
                                  have hcz30_1 : w18.cell? ⟨gb177, 1, none⟩ = some (.string (⟨#[]⟩ : ByteArray)) := (blk_cell BK177.out 1).trans rfl
                                  have hcz30_2 : w18.cell? ⟨gb177, 2, none⟩ = some (.int .i64 0) := (blk_cell BK177.out 2).trans rfl
                                  have hcz30_3 : w18.cell? ⟨gb177, 3, none⟩ = some (.int .i64 0) := (blk_cell BK177.out 3).trans rfl
                                  have hfz30_0 := blk_frozen BK177.out 0
                                  have hfz30_1 := blk_frozen BK177.out 1
                                  have hfz30_2 := blk_frozen BK177.out 2
                                  have hfz30_3 := blk_frozen BK177.out 3
                                  go_wp2_with (first | (go_at_call 9; (with_reducible refine (vinculumlaw18_blank.calls k2 (a0.extract (x6_2 : Int).toNat (((rd_T28 t170 x40_2).f2) : Int).toNat) t178 _ A29.out).mono ?_); rintro e w' ⟨rfl, ⟨nd, rfl⟩⟩))
                                  go_meet
                                  case rel => exact ⟨_, (!t178), (by first | rfl | (simp; done) | (simp [*]; done)), H', ⟨by have := HJ1.out; have := HK2.out; first | omega | exact Nat.le_refl _⟩, ⟨by (with_reducible repeat (first | apply Kd.R_alloc | apply Kd.R_drewN | apply Kd.R_drew)); exact Kd.R_mono (Kd.R_far (p := ⟨gb177, 3, none⟩) (Kd.R_far (p := ⟨gb177, 2, none⟩) (Kd.R_far (p := ⟨gb177, 1, none⟩) (Kd.R_far (p := ⟨gb177, 0, none⟩) (Kd.R_mono HO_38.out (fun k_ hk => (⟨hk, hk.2⟩ : _ ∧ k_ ≠ gb177))) (fun _ hk => hk.2) (.int .i64 ((rd_T28 t170 x40_2).f0))) (fun _ hk => hk.2) (.string ((rd_T28 t170 x40_2).f1))) (fun _ hk => hk.2) (.int .i64 ((rd_T28 t170 x40_2).f2))) (fun _ hk => hk.2) (.int .i64 ((rd_T28 t170 x40_2).f3))) (fun _ hk => hk.1.2)⟩, ⟨by (with_reducible repeat (first | refine blk_drewN ?_ _ | refine blk_drew ?_ | refine blk_alloc ?_ _)); refine blk_put (cs := #[.int .i64 ((rd_T28 t170 x40_2).f0), .string ((rd_T28 t170 x40_2).f1), .int .i64 ((rd_T28 t170 x40_2).f2), .int .i64 0]) ?_ 3 _ rfl; (with_reducible repeat (first | refine blk_drewN ?_ _ | refine blk_drew ?_ | refine blk_alloc ?_ _)); refine blk_put (cs := #[.int .i64 ((rd_T28 t170 x40_2).f0), .string ((rd_T28 t170 x40_2).f1), .int .i64 0, .int .i64 0]) ?_ 2 _ rfl; (with_reducible repeat (first | refine blk_drewN ?_ _ | refine blk_drew ?_ | refine blk_alloc ?_ _)); refine blk_put (cs := #[.int .i64 ((rd_T28 t170 x40_2).f0), .string (⟨#[]⟩ : ByteArray), .int .i64 0, .int .i64 0]) ?_ 1 _ rfl; (with_reducible repeat (first | refine blk_drewN ?_ _ | refine blk_drew ?_ | refine blk_alloc ?_ _)); refine blk_put (cs := #[.int .i64 0, .string (⟨#[]⟩ : ByteArray), .int .i64 0, .int .i64 0]) ?_ 0 _ rfl; (with_reducible repeat (first | refine blk_drewN ?_ _ | refine blk_drew ?_ | refine blk_alloc ?_ _)); exact BK177.out⟩, ⟨by repeat (first | (with_reducible first | exact HB.out | apply below_alloc | apply pw_below_drewN | apply below_drew1 | refine below_set ?_ GE177.out) | exact HB.out)⟩⟩
                                · rw [if_neg c28] at H
                                  exact absurd H (by simp)
                              · rw [if_neg c27] at H
                                exact absurd H (by simp)
                            · rw [if_neg c26] at H
                              exact absurd H (by simp)
                    case rest =>
                      clear HC17
                      try clear c1
                      try clear p1
                      try clear q1
                      try clear hx1
                      try clear c2
                      try clear p2
                      try clear c3
                      try clear c4
                      try clear c7
                      try clear c8
                      try clear c11
                      try clear c11b0
                      try clear c11b1
                      try clear c14
                      try clear c14b0
                      try clear c15
                      try clear c15b0
                      try clear c16
                      try clear c16b0
                      try clear p17
                      try clear q17
                      try clear hx17
                      try clear c20
                      try clear c20b0
                      try clear c22
                      try clear c22b0
                      try clear c24
                      try clear c24b0
                      try clear c26
                      try clear c26b0
                      try clear c26b1
                      try clear c27
                      try clear c27b0
                      try clear c27b1
                      try clear c28
                      try clear c28b0
                      try clear c28b1
                      try clear hcz19_0
                      try clear hcz19_1
                      try clear hcz19_2
                      try clear hcz19_3
                      try clear hcz21_0
                      try clear hcz21_1
                      try clear hcz21_2
                      try clear hcz21_3
                      try clear hcz23_0
                      try clear hcz23_1
                      try clear hcz23_2
                      try clear hcz23_3
                      try clear hcz25_0
                      try clear hcz25_1
                      try clear hcz25_2
                      try clear hcz25_3
                      try clear hcz30_0
                      try clear hcz30_1
                      try clear hcz30_2
                      try clear hcz30_3
                      try clear hfz19_0
                      try clear hfz19_1
                      try clear hfz19_2
                      try clear hfz19_3
                      try clear hfz21_0
                      try clear hfz21_1
                      try clear hfz21_2
                      try clear hfz21_3
                      try clear hfz23_0
                      try clear hfz23_1
                      try clear hfz23_2
                      try clear hfz23_3
                      try clear hfz25_0
                      try clear hfz25_1
                      try clear hfz25_2
                      try clear hfz25_3
                      try clear hfz30_0
                      try clear hfz30_1
                      try clear hfz30_2
                      try clear hfz30_3
                      try clear hx176_0
                      try clear hx176_1
                      try clear hx176_2
                      try clear hx176_3
                      try clear p176
                      try clear p2
                      try clear q176
                      obtain ⟨kq, x70_16, rfl, HA, HJ16, HO_38, BK177, HB⟩ := hcut
                      cases kq with
                      | zero => exact absurd HA.out (by simp [vinculumlaw18_LexerPlaces.j2])
                      | succ kj16 =>
                        have H := HA.out
                        clear HA
                        simp only [vinculumlaw18_LexerPlaces.j2] at H
                        by_cases c31 : x70_16 = true
                        · subst c31
                          have H1 : (some false) = some r := by rw [if_pos rfl] at H; exact H
                          clear H
                          have H := H1
                          clear H1
                          obtain rfl := Option.some.inj H
                          go_wp2
                          go_ret
                          exact ⟨by first | rfl | (simp [errW_none, errW_some] <;> rfl) | (simp [*, errW_none, errW_some] <;> rfl), by repeat (first | (with_reducible first | exact HB.out | apply below_alloc | apply pw_below_drewN | apply below_drew1 | refine below_set ?_ GE177.out) | exact HB.out)⟩
                        · replace c31 := Bool.eq_false_iff.mpr c31
                          subst c31
                          have H1 : (if 0 ≤ ((rd_T28 t170 x40_2).f2) then (if ((rd_T28 t170 x40_2).f2) ≤ ((rd_T28 t170 x40_2).f3) then (if ((rd_T28 t170 x40_2).f3) ≤ (a0.size : Int) then ((lexer_Spell.f ((rd_T28 t170 x40_2).f0) ((rd_T28 t170 x40_2).f1) ((rd_T28 t170 x40_2).f2) ((rd_T28 t170 x40_2).f3)).bind fun t179 => (if (a0.extract (((rd_T28 t170 x40_2).f2) : Int).toNat (((rd_T28 t170 x40_2).f3) : Int).toNat).toList = t179.toList then (vinculumlaw18_LexerPlaces.l0 kj16 a0 ((rd_T28 t170 x40_2).f3) t170 (t170.length : Int) (wrap64 (x40_2 + 1))) else (some false))) else (none)) else (none)) else (none)) = some r := by rw [if_neg (show ¬ (false = true) by decide)] at H; exact H
                          clear H
                          have H := H1
                          clear H1
                          by_cases c32 : 0 ≤ ((rd_T28 t170 x40_2).f2)
                          · rw [if_pos c32] at H
                            have c32b0 := eq_true c32
                            have c32b1 : decide (0 ≤ ((rd_T28 t170 x40_2).f2)) = true := decide_eq_true c32
                            clear c32
                            by_cases c33 : ((rd_T28 t170 x40_2).f2) ≤ ((rd_T28 t170 x40_2).f3)
                            · rw [if_pos c33] at H
                              have c33b0 := eq_true c33
                              have c33b1 : decide (((rd_T28 t170 x40_2).f2) ≤ ((rd_T28 t170 x40_2).f3)) = true := decide_eq_true c33
                              clear c33
                              by_cases c34 : ((rd_T28 t170 x40_2).f3) ≤ (a0.size : Int)
                              · rw [if_pos c34] at H
                                have c34b0 := eq_true c34
                                have c34b1 : decide (((rd_T28 t170 x40_2).f3) ≤ (a0.size : Int)) = true := decide_eq_true c34
                                clear c34
                                replace H := Option.bind_eq_some_iff.mp H
                                obtain ⟨t179, A350, H⟩ := H
                                replace H : (if (a0.extract (((rd_T28 t170 x40_2).f2) : Int).toNat (((rd_T28 t170 x40_2).f3) : Int).toNat).toList = t179.toList then (vinculumlaw18_LexerPlaces.l0 kj16 a0 ((rd_T28 t170 x40_2).f3) t170 (t170.length : Int) (wrap64 (x40_2 + 1))) else (some false)) = some r := H
                                have A35 := Aside0.mk A350
                                clear A350
                                by_cases c36 : (a0.extract (((rd_T28 t170 x40_2).f2) : Int).toNat (((rd_T28 t170 x40_2).f3) : Int).toNat).toList = t179.toList
                                · rw [if_pos c36] at H
                                  have c36b0 : ((a0.extract (((rd_T28 t170 x40_2).f2) : Int).toNat (((rd_T28 t170 x40_2).f3) : Int).toNat).toList == t179.toList) = true := beq_iff_eq.mpr c36
                                  have c36b1 : ((a0.extract (((rd_T28 t170 x40_2).f2) : Int).toNat (((rd_T28 t170 x40_2).f3) : Int).toNat).toList != t179.toList) = false := bne_eq_false_iff_eq.mpr c36
                                  clear c36
                                  have H' := Aside0.mk H
                                  clear H
                                  try go_wp2
                                  have n0_ := Aside0.mk (Kd.R_drew HO_38.out)
                                  have n1_ := Aside0.mk (blk_drew BK177.out)
                                  have n2_ := Aside0.mk (below_drew1 HB.out)
                                  clear HO_38
                                  clear BK177
                                  clear HB
                                  have HO_38 := n0_
                                  have BK177 := n1_
                                  have HB := n2_
                                  clear n0_ n1_ n2_
                                  refine start_ (n := 9) (S := fun w' => w'.cell? ⟨gb177, 0, none⟩ = some (.int .i64 ((rd_T28 t170 x40_2).f0)) ∧ w'.cell? ⟨gb177, 1, none⟩ = some (.string ((rd_T28 t170 x40_2).f1)) ∧ w'.cell? ⟨gb177, 2, none⟩ = some (.int .i64 ((rd_T28 t170 x40_2).f2)) ∧ w'.cell? ⟨gb177, 3, none⟩ = some (.int .i64 ((rd_T28 t170 x40_2).f3))) (ds := []) #[false, false, false, false, false, false, false, false, false] (by kernel_rfl) rfl rfl ⟨(blk_cell BK177.out 0).trans rfl, (blk_cell BK177.out 1).trans rfl, (blk_cell BK177.out 2).trans rfl, (blk_cell BK177.out 3).trans rfl⟩ (fun hHeld => ?_); refine with_tabW vinculumlaw18_LexerPlaces.tab12 vinculumlaw18_LexerPlaces.bits12 (fun HT_ HW_ => ?_)
                                  generalize wc.drew = w37 at HO_38 BK177 HB hHeld ⊢
                                  refine pure_ (i := 0) (N := some 71) (v := ?_) (a' := ?_) #[true, false, false, false, false, false, false, false, false] rfl rfl (any_of HT_.out (by kernel_rfl)) (fun _ _ _ h => h) (Or.inl ⟨by rfl, ?_⟩) ?_ ?_
                                  rotate_left
                                  · intro w'
                                    go_simp
                                    with_reducible rfl
                                  rotate_left
                                  · simp only [Act.put, List.setIfInBounds_toArray, List.set_cons_zero, List.set_cons_succ, i64_w, i32_w]
                                    rfl
                                  refine pure_ (i := 1) (N := some 72) (v := ?_) (a' := ?_) #[true, true, false, false, false, false, false, false, false] rfl rfl (any_of HT_.out (by kernel_rfl)) (fun _ _ _ h => h) (Or.inl ⟨by rfl, ?_⟩) ?_ ?_
                                  rotate_left
                                  · intro w'
                                    go_simp
                                    with_reducible rfl
                                  rotate_left
                                  · simp only [Act.put, List.setIfInBounds_toArray, List.set_cons_zero, List.set_cons_succ, i64_w, i32_w]
                                    rfl
                                  refine pure_ (i := 3) (N := some 74) (v := ?_) (a' := ?_) #[true, true, false, true, false, false, false, false, false] rfl rfl (any_of HT_.out (by kernel_rfl)) (fun _ _ _ h => h) (Or.inl ⟨by rfl, ?_⟩) ?_ ?_
                                  rotate_left
                                  · intro w'
                                    go_simp
                                    with_reducible rfl
                                  rotate_left
                                  · simp only [Act.put, List.setIfInBounds_toArray, List.set_cons_zero, List.set_cons_succ, i64_w, i32_w]
                                    rfl
                                  refine take_ (i := 2) (N := some 73) (v := ?_) (a' := ?_) #[true, true, true, true, false, false, false, false, false] rfl rfl (take_ofW HT_.out HW_.out (by kernel_rfl)) (fun _ _ _ h => h) (Or.inl ⟨by rfl, ?_⟩) hHeld ?_ ?_
                                  rotate_left
                                  · rintro w' ⟨s0, s1, s2, s3⟩
                                    go_simp
                                    with_reducible rfl
                                  rotate_left
                                  · simp only [Act.put, List.setIfInBounds_toArray, List.set_cons_zero, List.set_cons_succ, i64_w, i32_w]
                                    rfl
                                  refine take_ (i := 4) (N := some 75) (v := ?_) (a' := ?_) #[true, true, true, true, true, false, false, false, false] rfl rfl (take_ofW HT_.out HW_.out (by kernel_rfl)) (fun _ _ _ h => h) (Or.inl ⟨by rfl, ?_⟩) hHeld ?_ ?_
                                  rotate_left
                                  · rintro w' ⟨s0, s1, s2, s3⟩
                                    go_simp
                                    with_reducible rfl
                                  rotate_left
                                  · simp only [Act.put, List.setIfInBounds_toArray, List.set_cons_zero, List.set_cons_succ, i64_w, i32_w]
                                    rfl
                                  refine pure_ (i := 5) (N := some 76) (v := ?_) (a' := ?_) #[true, true, true, true, true, true, false, false, false] rfl rfl (any_of HT_.out (by kernel_rfl)) (fun _ _ _ h => h) (Or.inl ⟨by rfl, ?_⟩) ?_ ?_
                                  rotate_left
                                  · intro w'
                                    go_simp
                                    with_reducible rfl
                                  rotate_left
                                  · simp only [Act.put, List.setIfInBounds_toArray, List.set_cons_zero, List.set_cons_succ, i64_w, i32_w]
                                    rfl
                                  refine take_ (i := 6) (N := some 77) (v := ?_) (a' := ?_) #[true, true, true, true, true, true, true, false, false] rfl rfl (take_ofW HT_.out HW_.out (by kernel_rfl)) (fun _ _ _ h => h) (Or.inl ⟨by rfl, ?_⟩) hHeld ?_ ?_
                                  rotate_left
                                  · rintro w' ⟨s0, s1, s2, s3⟩
                                    go_simp
                                    with_reducible rfl
                                  rotate_left
                                  · simp only [Act.put, List.setIfInBounds_toArray, List.set_cons_zero, List.set_cons_succ, i64_w, i32_w]
                                    rfl
                                  refine one_ (i := 7) (N := some 78) #[true, true, true, true, true, true, true, true, false] rfl rfl (one_of HT_.out (by kernel_rfl)) (by decide) (fun K hK => ?_)
                                  refine goes_ Try.func10 (by kernel_rfl) rfl #[.agg #[.int .i64 ((rd_T28 t170 x40_2).f0), .string ((rd_T28 t170 x40_2).f1), .int .i64 ((rd_T28 t170 x40_2).f2), .int .i64 ((rd_T28 t170 x40_2).f3)]] (by rfl) rfl rfl (by (try simp only [List.map_toArray, List.map_cons, List.map_nil]); first | done | rfl | (simp only [List.length_drop, List.length_take]; rfl)) ?_
                                  with_reducible refine (lexer_Spell.calls ((rd_T28 t170 x40_2).f0) ((rd_T28 t170 x40_2).f1) ((rd_T28 t170 x40_2).f2) ((rd_T28 t170 x40_2).f3) t179 _ A35.out).mono ?_
                                  rintro e w38 ⟨rfl, hb⟩
                                  refine ⟨_, rfl, ?_⟩
                                  have n0_ := Aside0.mk (Kd.R_below (by (with_reducible repeat (first | apply Kd.R_alloc | apply Kd.R_drewN | apply Kd.R_drew)); exact HO_38.out) hb)
                                  have n1_ := Aside0.mk (blk_below (g := gb177) (o := .cells #[.int .i64 ((rd_T28 t170 x40_2).f0), .string ((rd_T28 t170 x40_2).f1), .int .i64 ((rd_T28 t170 x40_2).f2), .int .i64 ((rd_T28 t170 x40_2).f3)] 28 (0, 0)) (by (with_reducible repeat (first | refine blk_drewN ?_ _ | refine blk_drew ?_ | refine blk_alloc ?_ _)); exact BK177.out) hb)
                                  have n2_ := Aside0.mk (below_step (by repeat (first | (with_reducible first | exact HB.out | apply below_alloc | apply pw_below_drewN | apply below_drew1 | refine below_set ?_ GE177.out) | exact HB.out)) hb)
                                  clear HO_38
                                  clear BK177
                                  clear HB
                                  have HO_38 := n0_
                                  have BK177 := n1_
                                  have HB := n2_
                                  clear n0_ n1_ n2_
                                  (try clear hb)
                                  (try clear hb2)
                                  (try clear hk)
                                  (try clear hi)
                                  refine hK.out _ _ ⟨(blk_cell BK177.out 0).trans rfl, (blk_cell BK177.out 1).trans rfl, (blk_cell BK177.out 2).trans rfl, (blk_cell BK177.out 3).trans rfl⟩ (fun hHeld => ?_)
                                  clear hK K
                                  refine norm_ (a' := ?_) ?_ ?_
                                  rotate_left
                                  · show Act.put _ (some 78) _ = _
                                    simp only [Act.put, List.setIfInBounds_toArray, List.set_cons_zero, List.set_cons_succ, i64_w, i32_w]
                                    rfl
                                  refine pure_ (i := 8) (N := some 79) (v := ?_) (a' := ?_) #[true, true, true, true, true, true, true, true, true] rfl rfl (any_of HT_.out (by kernel_rfl)) (fun _ _ _ h => h) (Or.inl ⟨by rfl, ?_⟩) ?_ ?_
                                  rotate_left
                                  · intro w'
                                    go_simp
                                    with_reducible rfl
                                  rotate_left
                                  · simp only [Act.put, List.setIfInBounds_toArray, List.set_cons_zero, List.set_cons_succ, i64_w, i32_w]
                                    rfl
                                  refine done_ (done_of HT_.out (by kernel_rfl)) ?_
                                  have hcz39_0 : w38.cell? ⟨gb177, 0, none⟩ = some (.int .i64 ((rd_T28 t170 x40_2).f0)) := (blk_cell BK177.out 0).trans rfl
                                  have hcz39_1 : w38.cell? ⟨gb177, 1, none⟩ = some (.string ((rd_T28 t170 x40_2).f1)) := (blk_cell BK177.out 1).trans rfl
                                  have hcz39_2 : w38.cell? ⟨gb177, 2, none⟩ = some (.int .i64 ((rd_T28 t170 x40_2).f2)) := (blk_cell BK177.out 2).trans rfl
                                  have hcz39_3 : w38.cell? ⟨gb177, 3, none⟩ = some (.int .i64 ((rd_T28 t170 x40_2).f3)) := (blk_cell BK177.out 3).trans rfl
                                  have hfz39_0 := blk_frozen BK177.out 0
                                  have hfz39_1 := blk_frozen BK177.out 1
                                  have hfz39_2 := blk_frozen BK177.out 2
                                  have hfz39_3 := blk_frozen BK177.out 3
                                  try go_wp2
                                  go_roundg kj16
                                  case measure => have := HJ1.out; have := HK2.out; have := HJ16.out; omega
                                  case rel => exact ⟨(((rd_T28 t170 x40_2).f3)), (wrap64 (x40_2 + 1)), (by first | rfl | (simp; done) | (simp [*]; done)), (by first | rfl | (simp; done) | (simp [*]; done)), H', ⟨by have := HJ1.out; have := HK2.out; have := HJ16.out; omega⟩, ⟨by (with_reducible repeat (first | apply Kd.R_alloc | apply Kd.R_drewN | apply Kd.R_drew)); exact Kd.R_mono HO_38.out (fun _ hk => trivial)⟩, ⟨by repeat (first | (with_reducible first | exact HB.out | apply below_alloc | apply pw_below_drewN | apply below_drew1 | refine below_set ?_ GE177.out) | exact HB.out)⟩⟩
                                · rw [if_neg c36] at H
                                  have c36b0 : ((a0.extract (((rd_T28 t170 x40_2).f2) : Int).toNat (((rd_T28 t170 x40_2).f3) : Int).toNat).toList == t179.toList) = false := beq_eq_false_iff_ne.mpr c36
                                  have c36b1 : ((a0.extract (((rd_T28 t170 x40_2).f2) : Int).toNat (((rd_T28 t170 x40_2).f3) : Int).toNat).toList != t179.toList) = true := bne_iff_ne.mpr c36
                                  obtain rfl := Option.some.inj H
                                  try go_wp2
                                  have n0_ := Aside0.mk (Kd.R_drew HO_38.out)
                                  have n1_ := Aside0.mk (blk_drew BK177.out)
                                  have n2_ := Aside0.mk (below_drew1 HB.out)
                                  clear HO_38
                                  clear BK177
                                  clear HB
                                  have HO_38 := n0_
                                  have BK177 := n1_
                                  have HB := n2_
                                  clear n0_ n1_ n2_
                                  refine start_ (n := 9) (S := fun w' => w'.cell? ⟨gb177, 0, none⟩ = some (.int .i64 ((rd_T28 t170 x40_2).f0)) ∧ w'.cell? ⟨gb177, 1, none⟩ = some (.string ((rd_T28 t170 x40_2).f1)) ∧ w'.cell? ⟨gb177, 2, none⟩ = some (.int .i64 ((rd_T28 t170 x40_2).f2)) ∧ w'.cell? ⟨gb177, 3, none⟩ = some (.int .i64 ((rd_T28 t170 x40_2).f3))) (ds := []) #[false, false, false, false, false, false, false, false, false] (by kernel_rfl) rfl rfl ⟨(blk_cell BK177.out 0).trans rfl, (blk_cell BK177.out 1).trans rfl, (blk_cell BK177.out 2).trans rfl, (blk_cell BK177.out 3).trans rfl⟩ (fun hHeld => ?_); refine with_tabW vinculumlaw18_LexerPlaces.tab12 vinculumlaw18_LexerPlaces.bits12 (fun HT_ HW_ => ?_)
                                  generalize wc.drew = w40 at HO_38 BK177 HB hHeld ⊢
                                  refine pure_ (i := 0) (N := some 71) (v := ?_) (a' := ?_) #[true, false, false, false, false, false, false, false, false] rfl rfl (any_of HT_.out (by kernel_rfl)) (fun _ _ _ h => h) (Or.inl ⟨by rfl, ?_⟩) ?_ ?_
                                  rotate_left
                                  · intro w'
                                    go_simp
                                    with_reducible rfl
                                  rotate_left
                                  · simp only [Act.put, List.setIfInBounds_toArray, List.set_cons_zero, List.set_cons_succ, i64_w, i32_w]
                                    rfl
                                  refine pure_ (i := 1) (N := some 72) (v := ?_) (a' := ?_) #[true, true, false, false, false, false, false, false, false] rfl rfl (any_of HT_.out (by kernel_rfl)) (fun _ _ _ h => h) (Or.inl ⟨by rfl, ?_⟩) ?_ ?_
                                  rotate_left
                                  · intro w'
                                    go_simp
                                    with_reducible rfl
                                  rotate_left
                                  · simp only [Act.put, List.setIfInBounds_toArray, List.set_cons_zero, List.set_cons_succ, i64_w, i32_w]
                                    rfl
                                  refine pure_ (i := 3) (N := some 74) (v := ?_) (a' := ?_) #[true, true, false, true, false, false, false, false, false] rfl rfl (any_of HT_.out (by kernel_rfl)) (fun _ _ _ h => h) (Or.inl ⟨by rfl, ?_⟩) ?_ ?_
                                  rotate_left
                                  · intro w'
                                    go_simp
                                    with_reducible rfl
                                  rotate_left
                                  · simp only [Act.put, List.setIfInBounds_toArray, List.set_cons_zero, List.set_cons_succ, i64_w, i32_w]
                                    rfl
                                  refine take_ (i := 2) (N := some 73) (v := ?_) (a' := ?_) #[true, true, true, true, false, false, false, false, false] rfl rfl (take_ofW HT_.out HW_.out (by kernel_rfl)) (fun _ _ _ h => h) (Or.inl ⟨by rfl, ?_⟩) hHeld ?_ ?_
                                  rotate_left
                                  · rintro w' ⟨s0, s1, s2, s3⟩
                                    go_simp
                                    with_reducible rfl
                                  rotate_left
                                  · simp only [Act.put, List.setIfInBounds_toArray, List.set_cons_zero, List.set_cons_succ, i64_w, i32_w]
                                    rfl
                                  refine take_ (i := 4) (N := some 75) (v := ?_) (a' := ?_) #[true, true, true, true, true, false, false, false, false] rfl rfl (take_ofW HT_.out HW_.out (by kernel_rfl)) (fun _ _ _ h => h) (Or.inl ⟨by rfl, ?_⟩) hHeld ?_ ?_
                                  rotate_left
                                  · rintro w' ⟨s0, s1, s2, s3⟩
                                    go_simp
                                    with_reducible rfl
                                  rotate_left
                                  · simp only [Act.put, List.setIfInBounds_toArray, List.set_cons_zero, List.set_cons_succ, i64_w, i32_w]
                                    rfl
                                  refine pure_ (i := 5) (N := some 76) (v := ?_) (a' := ?_) #[true, true, true, true, true, true, false, false, false] rfl rfl (any_of HT_.out (by kernel_rfl)) (fun _ _ _ h => h) (Or.inl ⟨by rfl, ?_⟩) ?_ ?_
                                  rotate_left
                                  · intro w'
                                    go_simp
                                    with_reducible rfl
                                  rotate_left
                                  · simp only [Act.put, List.setIfInBounds_toArray, List.set_cons_zero, List.set_cons_succ, i64_w, i32_w]
                                    rfl
                                  refine take_ (i := 6) (N := some 77) (v := ?_) (a' := ?_) #[true, true, true, true, true, true, true, false, false] rfl rfl (take_ofW HT_.out HW_.out (by kernel_rfl)) (fun _ _ _ h => h) (Or.inl ⟨by rfl, ?_⟩) hHeld ?_ ?_
                                  rotate_left
                                  · rintro w' ⟨s0, s1, s2, s3⟩
                                    go_simp
                                    with_reducible rfl
                                  rotate_left
                                  · simp only [Act.put, List.setIfInBounds_toArray, List.set_cons_zero, List.set_cons_succ, i64_w, i32_w]
                                    rfl
                                  refine one_ (i := 7) (N := some 78) #[true, true, true, true, true, true, true, true, false] rfl rfl (one_of HT_.out (by kernel_rfl)) (by decide) (fun K hK => ?_)
                                  refine goes_ Try.func10 (by kernel_rfl) rfl #[.agg #[.int .i64 ((rd_T28 t170 x40_2).f0), .string ((rd_T28 t170 x40_2).f1), .int .i64 ((rd_T28 t170 x40_2).f2), .int .i64 ((rd_T28 t170 x40_2).f3)]] (by rfl) rfl rfl (by (try simp only [List.map_toArray, List.map_cons, List.map_nil]); first | done | rfl | (simp only [List.length_drop, List.length_take]; rfl)) ?_
                                  with_reducible refine (lexer_Spell.calls ((rd_T28 t170 x40_2).f0) ((rd_T28 t170 x40_2).f1) ((rd_T28 t170 x40_2).f2) ((rd_T28 t170 x40_2).f3) t179 _ A35.out).mono ?_
                                  rintro e w41 ⟨rfl, hb⟩
                                  refine ⟨_, rfl, ?_⟩
                                  have n0_ := Aside0.mk (Kd.R_below (by (with_reducible repeat (first | apply Kd.R_alloc | apply Kd.R_drewN | apply Kd.R_drew)); exact HO_38.out) hb)
                                  have n1_ := Aside0.mk (blk_below (g := gb177) (o := .cells #[.int .i64 ((rd_T28 t170 x40_2).f0), .string ((rd_T28 t170 x40_2).f1), .int .i64 ((rd_T28 t170 x40_2).f2), .int .i64 ((rd_T28 t170 x40_2).f3)] 28 (0, 0)) (by (with_reducible repeat (first | refine blk_drewN ?_ _ | refine blk_drew ?_ | refine blk_alloc ?_ _)); exact BK177.out) hb)
                                  have n2_ := Aside0.mk (below_step (by repeat (first | (with_reducible first | exact HB.out | apply below_alloc | apply pw_below_drewN | apply below_drew1 | refine below_set ?_ GE177.out) | exact HB.out)) hb)
                                  clear HO_38
                                  clear BK177
                                  clear HB
                                  have HO_38 := n0_
                                  have BK177 := n1_
                                  have HB := n2_
                                  clear n0_ n1_ n2_
                                  (try clear hb)
                                  (try clear hb2)
                                  (try clear hk)
                                  (try clear hi)
                                  refine hK.out _ _ ⟨(blk_cell BK177.out 0).trans rfl, (blk_cell BK177.out 1).trans rfl, (blk_cell BK177.out 2).trans rfl, (blk_cell BK177.out 3).trans rfl⟩ (fun hHeld => ?_)
                                  clear hK K
                                  refine norm_ (a' := ?_) ?_ ?_
                                  rotate_left
                                  · show Act.put _ (some 78) _ = _
                                    simp only [Act.put, List.setIfInBounds_toArray, List.set_cons_zero, List.set_cons_succ, i64_w, i32_w]
                                    rfl
                                  refine pure_ (i := 8) (N := some 79) (v := ?_) (a' := ?_) #[true, true, true, true, true, true, true, true, true] rfl rfl (any_of HT_.out (by kernel_rfl)) (fun _ _ _ h => h) (Or.inl ⟨by rfl, ?_⟩) ?_ ?_
                                  rotate_left
                                  · intro w'
                                    go_simp
                                    with_reducible rfl
                                  rotate_left
                                  · simp only [Act.put, List.setIfInBounds_toArray, List.set_cons_zero, List.set_cons_succ, i64_w, i32_w]
                                    rfl
                                  refine done_ (done_of HT_.out (by kernel_rfl)) ?_
                                  try go_wp2
                                  go_ret
                                  exact ⟨by first | rfl | (simp [errW_none, errW_some] <;> rfl) | (simp [*, errW_none, errW_some] <;> rfl), by repeat (first | (with_reducible first | exact HB.out | apply below_alloc | apply pw_below_drewN | apply below_drew1 | refine below_set ?_ GE177.out) | exact HB.out)⟩
                              · rw [if_neg c34] at H
                                exact absurd H (by simp)
                            · rw [if_neg c33] at H
                              exact absurd H (by simp)
                          · rw [if_neg c32] at H
                            exact absurd H (by simp)
                  · rw [if_neg c16] at H
                    exact absurd H (by simp)
                · rw [if_neg c15] at H
                  exact absurd H (by simp)
              · rw [if_neg c14] at H
                have c14b0 : decide (x40_2 < (t170.length : Int)) = false := decide_eq_false c14
                clear c14
                by_cases c42 : 0 ≤ x6_2
                · rw [if_pos c42] at H
                  have c42b0 := eq_true c42
                  have c42b1 : decide (0 ≤ x6_2) = true := decide_eq_true c42
                  clear c42
                  by_cases c43 : x6_2 ≤ (a0.size : Int)
                  · rw [if_pos c43] at H
                    have c43b0 := eq_true c43
                    have c43b1 : decide (x6_2 ≤ (a0.size : Int)) = true := decide_eq_true c43
                    clear c43
                    replace H := Option.bind_eq_some_iff.mp H
                    obtain ⟨t175, A440, H⟩ := H
                    replace H : (some t175) = some r := H
                    have A44 := Aside0.mk A440
                    clear A440
                    obtain rfl := Option.some.inj H
                    go_wp2_with (first | ((with_reducible refine gate_callee (f := 9) rfl ?_); refine goesL_ (some 86) rfl rfl Try.func9 (by kernel_rfl) rfl #[.string (a0.extract (x6_2 : Int).toNat a0.size)] rfl (by (try simp only [List.map_toArray, List.map_cons, List.map_nil]); first | done | rfl | (simp only [List.length_drop, List.length_take]; rfl)) ?_; (with_reducible refine (vinculumlaw18_blank.calls k2 (a0.extract (x6_2 : Int).toNat a0.size) t175 _ A44.out).mono ?_); rintro e w' ⟨rfl, ⟨nd, rfl⟩⟩; refine ⟨_, rfl, ?_⟩))
                    go_ret
                    exact ⟨by first | rfl | (simp [errW_none, errW_some] <;> rfl) | (simp [*, errW_none, errW_some] <;> rfl), by repeat (first | (with_reducible first | exact HB.out | apply below_alloc | apply pw_below_drewN | apply below_drew1) | exact HB.out)⟩
                  · rw [if_neg c43] at H
                    exact absurd H (by simp)
                · rw [if_neg c42] at H
                  exact absurd H (by simp)
        · rw [if_neg c11] at H
          have c11b0 : (t172 == 0) = false := beq_eq_false_iff_ne.mpr c11
          have c11b1 : (t172 != 0) = true := bne_iff_ne.mpr c11
          by_cases c45 : (t170.length : Int) = 0
          · rw [if_pos c45] at H
            have c45b0 : ((t170.length : Int) == 0) = true := beq_iff_eq.mpr c45
            have c45b1 : ((t170.length : Int) != 0) = false := bne_eq_false_iff_eq.mpr c45
            clear c45
            by_cases c46 : t171 ≥ 0
            · rw [if_pos c46] at H
              have c46b0 : decide (0 ≤ t171) = true := decide_eq_true c46
              clear c46
              obtain rfl := Option.some.inj H
              go_wp2_with (first | ((with_reducible refine gate_callee (f := 8) rfl ?_); refine goesL_ (some 19) rfl rfl Try.func8 (by kernel_rfl) rfl #[.string a0] rfl (by (try simp only [List.map_toArray, List.map_cons, List.map_nil]); first | done | rfl | (simp only [List.length_drop, List.length_take]; rfl)) ?_; (with_reducible refine (lexer_Tokens.calls kj1 a0 t170 t171 t172 _ A10.out).mono ?_); rintro e w47 ⟨v173, rfl, ho0, hb⟩; refine ⟨_, rfl, ?_⟩; have n0_ := Aside0.mk (Kd.R_lower ho0 (below_size (by repeat (first | (with_reducible first | exact HB.out | apply below_alloc | apply pw_below_drewN | apply below_drew1) | exact HB.out)))); have n1_ := Aside0.mk (below_step (by repeat (first | (with_reducible first | exact HB.out | apply below_alloc | apply pw_below_drewN | apply below_drew1) | exact HB.out)) hb); clear HB; have HO174 := n0_; have HB := n1_; clear n0_ n1_; (try clear hb); (try clear hb2); (try clear hk); (try clear hi); (try clear ho0); obtain ⟨Ao48, co48, eo48⟩ := Kd.R_slice HO174.out; subst eo48))
              go_ret
              exact ⟨by first | rfl | (simp [errW_none, errW_some] <;> rfl) | (simp [*, errW_none, errW_some] <;> rfl), by repeat (first | (with_reducible first | exact HB.out | apply below_alloc | apply pw_below_drewN | apply below_drew1) | exact HB.out)⟩
            · rw [if_neg c46] at H
              have c46b0 : decide (0 ≤ t171) = false := decide_eq_false c46
              clear c46
              obtain rfl := Option.some.inj H
              go_wp2_with (first | ((with_reducible refine gate_callee (f := 8) rfl ?_); refine goesL_ (some 19) rfl rfl Try.func8 (by kernel_rfl) rfl #[.string a0] rfl (by (try simp only [List.map_toArray, List.map_cons, List.map_nil]); first | done | rfl | (simp only [List.length_drop, List.length_take]; rfl)) ?_; (with_reducible refine (lexer_Tokens.calls kj1 a0 t170 t171 t172 _ A10.out).mono ?_); rintro e w49 ⟨v173, rfl, ho0, hb⟩; refine ⟨_, rfl, ?_⟩; have n0_ := Aside0.mk (Kd.R_lower ho0 (below_size (by repeat (first | (with_reducible first | exact HB.out | apply below_alloc | apply pw_below_drewN | apply below_drew1) | exact HB.out)))); have n1_ := Aside0.mk (below_step (by repeat (first | (with_reducible first | exact HB.out | apply below_alloc | apply pw_below_drewN | apply below_drew1) | exact HB.out)) hb); clear HB; have HO174 := n0_; have HB := n1_; clear n0_ n1_; (try clear hb); (try clear hb2); (try clear hk); (try clear hi); (try clear ho0); obtain ⟨Ao50, co50, eo50⟩ := Kd.R_slice HO174.out; subst eo50))
              go_ret
              exact ⟨by first | rfl | (simp [errW_none, errW_some] <;> rfl) | (simp [*, errW_none, errW_some] <;> rfl), by repeat (first | (with_reducible first | exact HB.out | apply below_alloc | apply pw_below_drewN | apply below_drew1) | exact HB.out)⟩
          · rw [if_neg c45] at H
            have c45b0 : ((t170.length : Int) == 0) = false := beq_eq_false_iff_ne.mpr c45
            have c45b1 : ((t170.length : Int) != 0) = true := bne_iff_ne.mpr c45
            have c45b2 : ¬ (t170 = []) := fun h_ => c45 (by rw [h_]; rfl)
            obtain rfl := Option.some.inj H
            go_wp2_with (first | ((with_reducible refine gate_callee (f := 8) rfl ?_); refine goesL_ (some 19) rfl rfl Try.func8 (by kernel_rfl) rfl #[.string a0] rfl (by (try simp only [List.map_toArray, List.map_cons, List.map_nil]); first | done | rfl | (simp only [List.length_drop, List.length_take]; rfl)) ?_; (with_reducible refine (lexer_Tokens.calls kj1 a0 t170 t171 t172 _ A10.out).mono ?_); rintro e w51 ⟨v173, rfl, ho0, hb⟩; refine ⟨_, rfl, ?_⟩; have n0_ := Aside0.mk (Kd.R_lower ho0 (below_size (by repeat (first | (with_reducible first | exact HB.out | apply below_alloc | apply pw_below_drewN | apply below_drew1) | exact HB.out)))); have n1_ := Aside0.mk (below_step (by repeat (first | (with_reducible first | exact HB.out | apply below_alloc | apply pw_below_drewN | apply below_drew1) | exact HB.out)) hb); clear HB; have HO174 := n0_; have HB := n1_; clear n0_ n1_; (try clear hb); (try clear hb2); (try clear hk); (try clear hi); (try clear ho0); obtain ⟨Ao52, co52, eo52⟩ := Kd.R_slice HO174.out; subst eo52))
            go_ret
            exact ⟨by first | rfl | (simp [errW_none, errW_some] <;> rfl) | (simp [*, errW_none, errW_some] <;> rfl), by repeat (first | (with_reducible first | exact HB.out | apply below_alloc | apply pw_below_drewN | apply below_drew1) | exact HB.out)⟩

/-- THE ONE PURE STATEMENT of vinculumlaw18_LexerPlaces: yours. -/
def vinculumlaw18_LexerPlaces.Pure : Prop := ∀ (a0 : ByteArray), a0.size ≤ 140737488351232 → ∃ k, vinculumlaw18_LexerPlaces.f k a0 = some true
theorem vinculumlaw18_LexerPlaces.walk (P : vinculumlaw18_LexerPlaces.Pure) (a0 : ByteArray) (w : World) (w0 : a0.size ≤ 140737488351232) :
    Calls Try.prog 3 #[.string a0] w fun e w' => e = .returned (.bool true) ∧ Below w.heap.size w w' := by
  obtain ⟨k, h⟩ := P a0 w0
  refine (vinculumlaw18_LexerPlaces.calls k a0 true w h).mono ?_
  rintro e w' ⟨rfl, hd⟩
  exact ⟨rfl, hd⟩

end Go.Proofs.Ytjihcncajpmgiaa.A
