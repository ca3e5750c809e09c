/- Made for this claim by a program of the session: the Go functions' plain twins and their contracts. Lean checks it. -/
import Derived.Test.YtjihcncajpmgiaaAx0
import Derived.Test.YtjihcncajpmgiaaAx2
import Derived.Test.YtjihcncajpmgiaaAx6
import Derived.Test.YtjihcncajpmgiaaL9
namespace Go.Proofs.Ytjihcncajpmgiaa.A
open Go.RowKit Go.Proofs.YtjihcncajpmgiaaW.PrintWords Go.Proofs.YtjihcncajpmgiaaW.PrintLast Go.Proofs.YtjihcncajpmgiaaW.PrintMore
attribute [local go_sem] max2_int min2_int max_two min_two max_three min_three max_four min_four   -- for this text's walks alone
set_option linter.unusedVariables false
set_option linter.unusedSimpArgs false

/-! ### vinculumlaw18_LexerWrites: function 5 -/
mutual
def vinculumlaw18_LexerWrites.j0 : Nat → ByteArray → List Int → Bool → Option (Bool)
  | 0, _, _, _ => none
  | k + 1, x0, x1, x25 => if x25 = true then ((vinculumlaw18_awake.f k).bind fun t194 => (some t194)) else ((lexer_Tokens.f k x0).bind fun bt195 => (if bt195.2.2 = 0 then (vinculumlaw18_LexerWrites.l0 k x1 bt195.1 (⟨#[]⟩ : ByteArray) bt195.1 (bt195.1.length : Int) 0) else (some true)))
def vinculumlaw18_LexerWrites.l0 : Nat → List Int → List (S28) → ByteArray → List (S28) → Int → Int → Option (Bool)
  | 0, _, _, _, _, _, _ => none
  | k + 1, x1, x5, x8, x35, x36, x37 => if x37 < x36 then (if 0 ≤ x37 then (if x37 < (x35.length : Int) then (if x37 > 0 then (if 0 ≤ (wrap64 (x37 - 1)) then (if (wrap64 (x37 - 1)) < (x5.length : Int) then ((lexer_Joins.f ((rd_T28 x5 (wrap64 (x37 - 1))).f0) ((rd_T28 x5 (wrap64 (x37 - 1))).f1) ((rd_T28 x5 (wrap64 (x37 - 1))).f2) ((rd_T28 x5 (wrap64 (x37 - 1))).f3) ((rd_T28 x35 x37).f0) ((rd_T28 x35 x37).f1) ((rd_T28 x35 x37).f2) ((rd_T28 x35 x37).f3)).bind fun t203 => (vinculumlaw18_LexerWrites.j2 k x1 x5 x8 x37 x35 x36 x37 t203 ((rd_T28 x35 x37).f0) ((rd_T28 x35 x37).f1) ((rd_T28 x35 x37).f2) ((rd_T28 x35 x37).f3))) else (none)) else (none)) else (vinculumlaw18_LexerWrites.j2 k x1 x5 x8 x37 x35 x36 x37 false ((rd_T28 x35 x37).f0) ((rd_T28 x35 x37).f1) ((rd_T28 x35 x37).f2) ((rd_T28 x35 x37).f3))) else (none)) else (none)) else ((lexer_Tokens.f k x8).bind fun bt218 => (if bt218.2.2 = 0 then ((vinculumlaw18_from.f k x5).bind fun t223 => ((vinculumlaw18_from.f k bt218.1).bind fun t226 => ((vinculumref18_Same.f k t223 t226 false).bind fun t229 => (some t229)))) else (some false)))
def vinculumlaw18_LexerWrites.j2 : Nat → List Int → List (S28) → ByteArray → Int → List (S28) → Int → Int → Bool → Int → ByteArray → Int → Int → Option (Bool)
  | 0, _, _, _, _, _, _, _, _, _, _, _, _ => none
  | k + 1, x1, x5, x8, x9, x35, x36, x37, x52, x202000, x202001, x202002, x202003 => if x52 = true then (if x8.size + 1 ≤ 9223372036854775807 then (if x9 < (x1.length : Int) then ((some (([(⟨#[]⟩ : ByteArray), (⟨#[]⟩ : ByteArray), (⟨#[32]⟩ : ByteArray), (⟨#[9, 10]⟩ : ByteArray), (⟨#[32, 32]⟩ : ByteArray)] : List ByteArray) : List ByteArray)).bind fun y204 => (if 0 ≤ x9 then (if 0 ≤ (Int.tmod (rd x1 x9) 5) then (if (Int.tmod (rd x1 x9) 5) < (y204.length : Int) then (if (x8 ++ (⟨#[32]⟩ : ByteArray)).size + (rdOf ByteArray.empty y204 (Int.tmod (rd x1 x9) 5)).size ≤ 9223372036854775807 then ((lexer_Spell.f x202000 x202001 x202002 x202003).bind fun t209 => (if ((x8 ++ (⟨#[32]⟩ : ByteArray)) ++ (rdOf ByteArray.empty y204 (Int.tmod (rd x1 x9) 5))).size + t209.size ≤ 9223372036854775807 then (vinculumlaw18_LexerWrites.l0 k x1 x5 (((x8 ++ (⟨#[32]⟩ : ByteArray)) ++ (rdOf ByteArray.empty y204 (Int.tmod (rd x1 x9) 5))) ++ t209) x35 x36 (wrap64 (x37 + 1))) else (none))) else (none)) else (none)) else (none)) else (none))) else ((lexer_Spell.f x202000 x202001 x202002 x202003).bind fun t210 => (if (x8 ++ (⟨#[32]⟩ : ByteArray)).size + t210.size ≤ 9223372036854775807 then (vinculumlaw18_LexerWrites.l0 k x1 x5 ((x8 ++ (⟨#[32]⟩ : ByteArray)) ++ t210) x35 x36 (wrap64 (x37 + 1))) else (none)))) else (none)) else (if x9 < (x1.length : Int) then ((some (([(⟨#[]⟩ : ByteArray), (⟨#[]⟩ : ByteArray), (⟨#[32]⟩ : ByteArray), (⟨#[9, 10]⟩ : ByteArray), (⟨#[32, 32]⟩ : ByteArray)] : List ByteArray) : List ByteArray)).bind fun y211 => (if 0 ≤ x9 then (if 0 ≤ (Int.tmod (rd x1 x9) 5) then (if (Int.tmod (rd x1 x9) 5) < (y211.length : Int) then (if x8.size + (rdOf ByteArray.empty y211 (Int.tmod (rd x1 x9) 5)).size ≤ 9223372036854775807 then ((lexer_Spell.f x202000 x202001 x202002 x202003).bind fun t216 => (if (x8 ++ (rdOf ByteArray.empty y211 (Int.tmod (rd x1 x9) 5))).size + t216.size ≤ 9223372036854775807 then (vinculumlaw18_LexerWrites.l0 k x1 x5 ((x8 ++ (rdOf ByteArray.empty y211 (Int.tmod (rd x1 x9) 5))) ++ t216) x35 x36 (wrap64 (x37 + 1))) else (none))) else (none)) else (none)) else (none)) else (none))) else ((lexer_Spell.f x202000 x202001 x202002 x202003).bind fun t217 => (if x8.size + t217.size ≤ 9223372036854775807 then (vinculumlaw18_LexerWrites.l0 k x1 x5 (x8 ++ t217) x35 x36 (wrap64 (x37 + 1))) else (none))))
end
def vinculumlaw18_LexerWrites.f (k : Nat) (a0 : ByteArray) (l1 : List Int) : Option (Bool) := (vinculumlaw18_awake.f k).bind fun t193 => (if t193 = true then (if (a0.size : Int) > 2000 then (vinculumlaw18_LexerWrites.j0 k a0 l1 true) else (vinculumlaw18_LexerWrites.j0 k a0 l1 (decide ((l1.length : Int) > 100)))) else (vinculumlaw18_LexerWrites.j0 k a0 l1 true))
theorem vinculumlaw18_LexerWrites.mono_l : ∀ k, (∀ y0 y1 y2, LeO (vinculumlaw18_LexerWrites.j0 k y0 y1 y2) (vinculumlaw18_LexerWrites.j0 (k + 1) y0 y1 y2)) ∧ (∀ y0 y1 y2 y3 y4 y5, LeO (vinculumlaw18_LexerWrites.l0 k y0 y1 y2 y3 y4 y5) (vinculumlaw18_LexerWrites.l0 (k + 1) y0 y1 y2 y3 y4 y5)) ∧ (∀ y0 y1 y2 y3 y4 y5 y6 y7 y8 y9 y10 y11, LeO (vinculumlaw18_LexerWrites.j2 k y0 y1 y2 y3 y4 y5 y6 y7 y8 y9 y10 y11) (vinculumlaw18_LexerWrites.j2 (k + 1) y0 y1 y2 y3 y4 y5 y6 y7 y8 y9 y10 y11))
  | 0 => ⟨fun _ _ _ r h => by simp [vinculumlaw18_LexerWrites.j0] at h, fun _ _ _ _ _ _ r h => by simp [vinculumlaw18_LexerWrites.l0] at h, fun _ _ _ _ _ _ _ _ _ _ _ _ r h => by simp [vinculumlaw18_LexerWrites.j2] at h⟩
  | k + 1 => by
    obtain ⟨ih0, ih1, ih2⟩ := vinculumlaw18_LexerWrites.mono_l k
    refine ⟨?_, ?_, ?_⟩
    · intro y0 y1 y2
      unfold vinculumlaw18_LexerWrites.j0
      repeat' first
      | (with_reducible exact ih0 _ _ _)
      | (with_reducible exact ih1 _ _ _ _ _ _)
      | (with_reducible exact ih2 _ _ _ _ _ _ _ _ _ _ _ _)
      | (with_reducible exact lexer_Tokens.mono _ _)
      | (with_reducible exact vinculumlaw18_awake.mono _)
      | (with_reducible exact vinculumlaw18_from.mono _ _)
      | (with_reducible exact vinculumref18_Same.mono _ _ _ _)
      | (with_reducible exact LeO.refl _)
      | (with_reducible exact LeO.none _)
      | (with_reducible refine LeO.ite ?_ ?_)
      | (with_reducible refine LeO.bind ?_ (fun _ => ?_))
      | exact ih0 _ _ _
      | exact ih1 _ _ _ _ _ _
      | exact ih2 _ _ _ _ _ _ _ _ _ _ _ _
      | exact lexer_Tokens.mono _ _
      | exact vinculumlaw18_awake.mono _
      | exact vinculumlaw18_from.mono _ _
      | exact vinculumref18_Same.mono _ _ _ _
      | exact LeO.none _
      | refine LeO.ite ?_ ?_
      | refine LeO.bind ?_ (fun _ => ?_)
    · intro y0 y1 y2 y3 y4 y5
      unfold vinculumlaw18_LexerWrites.l0
      repeat' first
      | (with_reducible exact ih0 _ _ _)
      | (with_reducible exact ih1 _ _ _ _ _ _)
      | (with_reducible exact ih2 _ _ _ _ _ _ _ _ _ _ _ _)
      | (with_reducible exact lexer_Tokens.mono _ _)
      | (with_reducible exact vinculumlaw18_awake.mono _)
      | (with_reducible exact vinculumlaw18_from.mono _ _)
      | (with_reducible exact vinculumref18_Same.mono _ _ _ _)
      | (with_reducible exact LeO.refl _)
      | (with_reducible exact LeO.none _)
      | (with_reducible refine LeO.ite ?_ ?_)
      | (with_reducible refine LeO.bind ?_ (fun _ => ?_))
      | exact ih0 _ _ _
      | exact ih1 _ _ _ _ _ _
      | exact ih2 _ _ _ _ _ _ _ _ _ _ _ _
      | exact lexer_Tokens.mono _ _
      | exact vinculumlaw18_awake.mono _
      | exact vinculumlaw18_from.mono _ _
      | exact vinculumref18_Same.mono _ _ _ _
      | exact LeO.none _
      | refine LeO.ite ?_ ?_
      | refine LeO.bind ?_ (fun _ => ?_)
    · intro y0 y1 y2 y3 y4 y5 y6 y7 y8 y9 y10 y11
      unfold vinculumlaw18_LexerWrites.j2
      repeat' first
      | (with_reducible exact ih0 _ _ _)
      | (with_reducible exact ih1 _ _ _ _ _ _)
      | (with_reducible exact ih2 _ _ _ _ _ _ _ _ _ _ _ _)
      | (with_reducible exact lexer_Tokens.mono _ _)
      | (with_reducible exact vinculumlaw18_awake.mono _)
      | (with_reducible exact vinculumlaw18_from.mono _ _)
      | (with_reducible exact vinculumref18_Same.mono _ _ _ _)
      | (with_reducible exact LeO.refl _)
      | (with_reducible exact LeO.none _)
      | (with_reducible refine LeO.ite ?_ ?_)
      | (with_reducible refine LeO.bind ?_ (fun _ => ?_))
      | exact ih0 _ _ _
      | exact ih1 _ _ _ _ _ _
      | exact ih2 _ _ _ _ _ _ _ _ _ _ _ _
      | exact lexer_Tokens.mono _ _
      | exact vinculumlaw18_awake.mono _
      | exact vinculumlaw18_from.mono _ _
      | exact vinculumref18_Same.mono _ _ _ _
      | exact LeO.none _
      | refine LeO.ite ?_ ?_
      | refine LeO.bind ?_ (fun _ => ?_)
theorem vinculumlaw18_LexerWrites.mono : ∀ a0 a1 k, LeO (vinculumlaw18_LexerWrites.f k a0 a1) (vinculumlaw18_LexerWrites.f (k + 1) a0 a1) := by
  intro a0 a1 k
  obtain ⟨ih0, ih1, ih2⟩ := vinculumlaw18_LexerWrites.mono_l k
  unfold vinculumlaw18_LexerWrites.f
  repeat' first
      | (with_reducible exact ih0 _ _ _)
      | (with_reducible exact ih1 _ _ _ _ _ _)
      | (with_reducible exact ih2 _ _ _ _ _ _ _ _ _ _ _ _)
      | (with_reducible exact lexer_Tokens.mono _ _)
      | (with_reducible exact vinculumlaw18_awake.mono _)
      | (with_reducible exact vinculumlaw18_from.mono _ _)
      | (with_reducible exact vinculumref18_Same.mono _ _ _ _)
      | (with_reducible exact LeO.refl _)
      | (with_reducible exact LeO.none _)
      | (with_reducible refine LeO.ite ?_ ?_)
      | (with_reducible refine LeO.bind ?_ (fun _ => ?_))
      | exact ih0 _ _ _
      | exact ih1 _ _ _ _ _ _
      | exact ih2 _ _ _ _ _ _ _ _ _ _ _ _
      | exact lexer_Tokens.mono _ _
      | exact vinculumlaw18_awake.mono _
      | exact vinculumlaw18_from.mono _ _
      | exact vinculumref18_Same.mono _ _ _ _
      | exact LeO.none _
      | refine LeO.ite ?_ ?_
      | refine LeO.bind ?_ (fun _ => ?_)
def vinculumlaw18_LexerWrites.T10 : Bool × List (List Nat × List Nat) := (true, [([], []), ([0], [0]), ([1], [1]), ([2], [2]), ([2], [2]), ([4, 2], [2, 4]), ([3, 5, 2], [2, 3, 5]), ([6, 2], [2, 6]), ([2], [2]), ([7, 8, 2, 2], [2, 7, 8]), ([2, 9], [2, 9])])
def vinculumlaw18_LexerWrites.B10 : List Nat := [0, 1, 3, 7, 7, 23, 63, 127, 7, 511, 1023]
theorem vinculumlaw18_LexerWrites.tab10 : rtab .any (opsOf Try.f5 10) = vinculumlaw18_LexerWrites.T10 := by kernel_rfl
theorem vinculumlaw18_LexerWrites.bits10 : waitsOk vinculumlaw18_LexerWrites.T10.2 vinculumlaw18_LexerWrites.B10 = true := by kernel_rfl
set_option maxHeartbeats 8000000 in
set_option maxRecDepth 100000 in
theorem vinculumlaw18_LexerWrites.calls (k : Nat) (a0 : ByteArray) (A1 : Option Addr) (c1 : Nat) (l1 : List Int) (r : Bool) (w : World) (hr1 : Kd.C (Kd.int .u8) w A1 l1.length l1) (hc1 : l1.length ≤ c1) (h : vinculumlaw18_LexerWrites.f k a0 l1 = some r) :
    Calls Try.prog 5 #[.string a0, .slice A1 l1.length c1] w fun e w' => e = .returned (.bool r) ∧ Below w.heap.size w w' := by
  have hu28 := Try.underlying28
  have HR1 := Aside0.mk hr1
  have HC1 := Aside0.mk hc1
  clear hr1 hc1
  have HB := Aside0.mk (Below.refl w.heap.size w)
  have H : ((vinculumlaw18_awake.f k).bind fun t193 => (if t193 = true then (if (a0.size : Int) > 2000 then (vinculumlaw18_LexerWrites.j0 k a0 l1 true) else (vinculumlaw18_LexerWrites.j0 k a0 l1 (decide ((l1.length : Int) > 100)))) else (vinculumlaw18_LexerWrites.j0 k a0 l1 true))) = some r := h
  clear h
  have HC3 := Aside0.mk H
  clear H
  go_enter Try.func5, Try.ntmps5
  go_upto_region 1 with (fail)
  go_cut [25] (fun v25 wc => ∃ (kq : Nat) (x25_2 : Bool), v25 = .bool x25_2 ∧ Aside0 (vinculumlaw18_LexerWrites.j0 kq a0 l1 x25_2 = some r) ∧ Aside0 (kq ≤ k) ∧ Aside0 (Below w.heap.size w wc))
  case first =>
    have H := HC3.out
    clear HC3
    replace H := Option.bind_eq_some_iff.mp H
    obtain ⟨t193, A40, H⟩ := H
    replace H : (if t193 = true then (if (a0.size : Int) > 2000 then (vinculumlaw18_LexerWrites.j0 k a0 l1 true) else (vinculumlaw18_LexerWrites.j0 k a0 l1 (decide ((l1.length : Int) > 100)))) else (vinculumlaw18_LexerWrites.j0 k a0 l1 true)) = some r := H
    have A4 := Aside0.mk A40
    clear A40
    by_cases c5 : t193 = true
    · subst c5
      have H1 : (if (a0.size : Int) > 2000 then (vinculumlaw18_LexerWrites.j0 k a0 l1 true) else (vinculumlaw18_LexerWrites.j0 k a0 l1 (decide ((l1.length : Int) > 100)))) = some r := by rw [if_pos rfl] at H; exact H
      clear H
      have H := H1
      clear H1
      by_cases c6 : (a0.size : Int) > 2000
      · rw [if_pos c6] at H
        have c6b0 : decide (2000 < (a0.size : Int)) = true := decide_eq_true c6
        have c6b1 : decide (2000 < a0.size) = true := decide_eq_true (by omega)
        clear c6
        (first | rw [c6b0] | (simp only [i64_w, i32_w]; rw [c6b0]) | skip)
        have H' := Aside0.mk H
        clear H
        go_wp2_with (first | ((with_reducible refine gate_callee (f := 7) rfl ?_); refine goesL_ (some 14) rfl rfl Try.func7 (by kernel_rfl) rfl #[] rfl (by (try simp only [List.map_toArray, List.map_cons, List.map_nil]); first | done | rfl | (simp only [List.length_drop, List.length_take]; rfl)) ?_; (with_reducible refine (vinculumlaw18_awake.calls k  true _ A4.out).mono ?_); rintro e w7 ⟨rfl, hb⟩; refine ⟨_, rfl, ?_⟩; have n0_ := Aside0.mk (below_step (by repeat (first | (with_reducible first | exact HB.out | apply below_alloc | apply pw_below_drewN | apply below_drew1) | exact HB.out)) hb); clear HB; have HB := n0_; clear n0_; (try clear hb); (try clear hb2); (try clear hk); (try clear hi)))
        go_meet
        case rel => exact ⟨_, (true), (by first | rfl | (simp; done) | (simp [*]; done)), H', ⟨by first | omega | exact Nat.le_refl _⟩, ⟨by repeat (first | (with_reducible first | exact HB.out | apply below_alloc | apply pw_below_drewN | apply below_drew1) | exact HB.out)⟩⟩
      · rw [if_neg c6] at H
        have c6b0 : decide (2000 < (a0.size : Int)) = false := decide_eq_false c6
        have c6b1 : decide (2000 < a0.size) = false := decide_eq_false (by omega)
        clear c6
        (first | rw [c6b0] | (simp only [i64_w, i32_w]; rw [c6b0]) | skip)
        have H' := Aside0.mk H
        clear H
        go_wp2_with (first | ((with_reducible refine gate_callee (f := 7) rfl ?_); refine goesL_ (some 14) rfl rfl Try.func7 (by kernel_rfl) rfl #[] rfl (by (try simp only [List.map_toArray, List.map_cons, List.map_nil]); first | done | rfl | (simp only [List.length_drop, List.length_take]; rfl)) ?_; (with_reducible refine (vinculumlaw18_awake.calls k  true _ A4.out).mono ?_); rintro e w8 ⟨rfl, hb⟩; refine ⟨_, rfl, ?_⟩; have n0_ := Aside0.mk (below_step (by repeat (first | (with_reducible first | exact HB.out | apply below_alloc | apply pw_below_drewN | apply below_drew1) | exact HB.out)) hb); clear HB; have HB := n0_; clear n0_; (try clear hb); (try clear hb2); (try clear hk); (try clear hi)))
        go_meet
        case rel => exact ⟨_, (decide ((l1.length : Int) > 100)), (by first | rfl | (simp; done) | (simp [*]; done)), H', ⟨by first | omega | exact Nat.le_refl _⟩, ⟨by repeat (first | (with_reducible first | exact HB.out | apply below_alloc | apply pw_below_drewN | apply below_drew1) | exact HB.out)⟩⟩
    · replace c5 := Bool.eq_false_iff.mpr c5
      subst c5
      have H1 : (vinculumlaw18_LexerWrites.j0 k a0 l1 true) = some r := by rw [if_neg (show ¬ (false = true) by decide)] at H; exact H
      clear H
      have H := H1
      clear H1
      have H' := Aside0.mk H
      clear H
      go_wp2_with (first | ((with_reducible refine gate_callee (f := 7) rfl ?_); refine goesL_ (some 14) rfl rfl Try.func7 (by kernel_rfl) rfl #[] rfl (by (try simp only [List.map_toArray, List.map_cons, List.map_nil]); first | done | rfl | (simp only [List.length_drop, List.length_take]; rfl)) ?_; (with_reducible refine (vinculumlaw18_awake.calls k  false _ A4.out).mono ?_); rintro e w9 ⟨rfl, hb⟩; refine ⟨_, rfl, ?_⟩; have n0_ := Aside0.mk (below_step (by repeat (first | (with_reducible first | exact HB.out | apply below_alloc | apply pw_below_drewN | apply below_drew1) | exact HB.out)) hb); clear HB; have HB := n0_; clear n0_; (try clear hb); (try clear hb2); (try clear hk); (try clear hi)))
      go_meet
      case rel => exact ⟨_, (true), (by first | rfl | (simp; done) | (simp [*]; done)), H', ⟨by first | omega | exact Nat.le_refl _⟩, ⟨by repeat (first | (with_reducible first | exact HB.out | apply below_alloc | apply pw_below_drewN | apply below_drew1) | exact HB.out)⟩⟩
  case rest =>
    clear HC3
    try clear c1
    try clear p2
    try clear c5
    try clear c6
    try clear c6b0
    try clear c6b1
    try clear c7
    obtain ⟨kq, x25_2, rfl, HA, HJ2, HB⟩ := hcut
    cases kq with
    | zero => exact absurd HA.out (by simp [vinculumlaw18_LexerWrites.j0])
    | succ kj2 =>
      have H := HA.out
      clear HA
      simp only [vinculumlaw18_LexerWrites.j0] at H
      by_cases c10 : x25_2 = true
      · subst c10
        have H1 : ((vinculumlaw18_awake.f kj2).bind fun t194 => (some t194)) = some r := by rw [if_pos rfl] at H; exact H
        clear H
        have H := H1
        clear H1
        replace H := Option.bind_eq_some_iff.mp H
        obtain ⟨t194, A110, H⟩ := H
        replace H : (some t194) = some r := H
        have A11 := Aside0.mk A110
        clear A110
        obtain rfl := Option.some.inj H
        go_wp2_with (first | ((with_reducible refine gate_callee (f := 7) rfl ?_); refine goesL_ (some 26) rfl rfl Try.func7 (by kernel_rfl) rfl #[] rfl (by (try simp only [List.map_toArray, List.map_cons, List.map_nil]); first | done | rfl | (simp only [List.length_drop, List.length_take]; rfl)) ?_; (with_reducible refine (vinculumlaw18_awake.calls kj2  t194 _ A11.out).mono ?_); rintro e w12 ⟨rfl, hb⟩; refine ⟨_, rfl, ?_⟩; have n0_ := Aside0.mk (below_step (by repeat (first | (with_reducible first | exact HB.out | apply below_alloc | apply pw_below_drewN | apply below_drew1) | exact HB.out)) hb); clear HB; have HB := n0_; clear n0_; (try clear hb); (try clear hb2); (try clear hk); (try clear hi)))
        go_ret
        exact ⟨by first | rfl | (simp [errW_none, errW_some] <;> rfl) | (simp [*, errW_none, errW_some] <;> rfl), by repeat (first | (with_reducible first | exact HB.out | apply below_alloc | apply pw_below_drewN | apply below_drew1) | exact HB.out)⟩
      · replace c10 := Bool.eq_false_iff.mpr c10
        subst c10
        have H1 : ((lexer_Tokens.f kj2 a0).bind fun bt195 => (if bt195.2.2 = 0 then (vinculumlaw18_LexerWrites.l0 kj2 l1 bt195.1 (⟨#[]⟩ : ByteArray) bt195.1 (bt195.1.length : Int) 0) else (some true))) = some r := by rw [if_neg (show ¬ (false = true) by decide)] at H; exact H
        clear H
        have H := H1
        clear H1
        replace H := Option.bind_eq_some_iff.mp H
        obtain ⟨⟨t195, t196, t197⟩, A130, H⟩ := H
        replace H : (if t197 = 0 then (vinculumlaw18_LexerWrites.l0 kj2 l1 t195 (⟨#[]⟩ : ByteArray) t195 (t195.length : Int) 0) else (some true)) = some r := H
        have A13 := Aside0.mk A130
        clear A130
        by_cases c14 : t197 = 0
        · rw [if_pos c14] at H
          have c14b0 : (t197 == 0) = true := beq_iff_eq.mpr c14
          have c14b1 : (t197 != 0) = false := bne_eq_false_iff_eq.mpr c14
          clear c14
          have H' := Aside0.mk H
          clear H
          go_wp2_with (first | ((with_reducible refine gate_callee (f := 8) rfl ?_); refine goesL_ (some 29) rfl rfl Try.func8 (by kernel_rfl) rfl #[.string a0] rfl (by (try simp only [List.map_toArray, List.map_cons, List.map_nil]); first | done | rfl | (simp only [List.length_drop, List.length_take]; rfl)) ?_; (with_reducible refine (lexer_Tokens.calls kj2 a0 t195 t196 t197 _ A13.out).mono ?_); rintro e w15 ⟨v198, rfl, ho0, hb⟩; refine ⟨_, rfl, ?_⟩; have n0_ := Aside0.mk (Kd.R_lower ho0 (below_size (by repeat (first | (with_reducible first | exact HB.out | apply below_alloc | apply pw_below_drewN | apply below_drew1) | exact HB.out)))); have n1_ := Aside0.mk (below_step (by repeat (first | (with_reducible first | exact HB.out | apply below_alloc | apply pw_below_drewN | apply below_drew1) | exact HB.out)) hb); clear HB; have HO199 := n0_; have HB := n1_; clear n0_ n1_; (try clear hb); (try clear hb2); (try clear hk); (try clear hi); (try clear ho0); obtain ⟨Ao16, co16, eo16⟩ := Kd.R_slice HO199.out; subst eo16))
          go_loopg [8, 37] kj2 (fun kq v8 v37 w' => ∃ (x8_2 : ByteArray) (x37_2 : Int), v8 = .string x8_2 ∧ v37 = .int .i64 x37_2 ∧ Aside0 (vinculumlaw18_LexerWrites.l0 kq l1 t195 x8_2 t195 (t195.length : Int) x37_2 = some r) ∧ Aside0 (kq ≤ kj2) ∧ Aside0 (Kd.R k28 28 w' w.heap.size (fun _ => True) (.slice Ao16 t195.length co16) t195) ∧ Aside0 (Kd.R k28 28 w' w.heap.size (fun _ => True) (.slice Ao16 t195.length co16) t195) ∧ Aside0 (Below w.heap.size w w'))
          case atStart => exact ⟨((⟨#[]⟩ : ByteArray)), (0), (by first | rfl | (simp; done) | (simp [*]; done)), (by first | rfl | (simp; done) | (simp [*]; done)), H', ⟨Nat.le_refl _⟩, ⟨by (with_reducible repeat (first | apply Kd.R_alloc | apply Kd.R_drewN | apply Kd.R_drew)); exact HO199.out⟩, ⟨by (with_reducible repeat (first | apply Kd.R_alloc | apply Kd.R_drewN | apply Kd.R_drew)); exact HO199.out⟩, ⟨by repeat (first | (with_reducible first | exact HB.out | apply below_alloc | apply pw_below_drewN | apply below_drew1) | exact HB.out)⟩⟩
          case round =>
            clear H'
            try clear c1
            try clear p2
            try clear c5
            try clear c6
            try clear c6b0
            try clear c6b1
            try clear c7
            try clear c8
            try clear c10
            try clear c14
            try clear c14b0
            try clear c14b1
            try clear p2
            obtain ⟨x8_2, x37_2, rfl, rfl, HA, HK2, HO_5, HO_35, HB⟩ := hrel
            cases gk with
            | zero => exact absurd HA.out (by simp [vinculumlaw18_LexerWrites.l0])
            | succ k2 =>
              have H := HA.out
              clear HA
              simp only [vinculumlaw18_LexerWrites.l0] at H
              by_cases c17 : x37_2 < (t195.length : Int)
              · rw [if_pos c17] at H
                have c17b0 : decide (x37_2 < (t195.length : Int)) = true := decide_eq_true c17
                clear c17
                by_cases c18 : 0 ≤ x37_2
                · rw [if_pos c18] at H
                  have c18b0 : decide (0 ≤ x37_2) = true := decide_eq_true c18
                  clear c18
                  by_cases c19 : x37_2 < (t195.length : Int)
                  · rw [if_pos c19] at H
                    have c19b0 : decide (x37_2 < (t195.length : Int)) = true := decide_eq_true c19
                    clear c19
                    have HC20 := Aside0.mk H
                    clear H
                    have p200 : 0 ≤ (x37_2 : Int) := of_decide_eq_true (by first | (with_reducible assumption) | assumption)
                    have q200 : x37_2 < (t195.length : Int) := of_decide_eq_true (by first | (with_reducible assumption) | assumption)
                    obtain ⟨ad200, e200, hx200_0, hx200_1, hx200_2, hx200_3⟩ := at_T28 (Kd.R_reads' HO_35.out).2.2 x37_2 p200 q200
                    cases e200
                    replace p200 := eq_true p200
                    replace q200 := eq_true q200
                    go_upto_region 10 with (first | ((with_reducible refine gate_dst (N := 10) rfl ?_); (try (refine gate_guard (by rfl) ?_; dsimp only)); refine box_event ?hg (N := 10) ?hd (cs := #[.int .i64 0, .string (⟨#[]⟩ : ByteArray), .int .i64 0, .int .i64 0]) (t := 28) ?hr ?_; (case hd => rfl); (case hg => rfl); (case hr => first | (go_simp; done) | (go_simp; rfl)); intro gb201 hg w21 hbox hb; have n0_ := Aside0.mk (Kd.R_below (Kd.R_elderB (by (with_reducible repeat (first | apply Kd.R_alloc | apply Kd.R_drewN | apply Kd.R_drew)); exact HO_5.out) gb201 (Nat.le_of_eq hg.symm)) hb); have n1_ := Aside0.mk (Kd.R_below (Kd.R_elderB (by (with_reducible repeat (first | apply Kd.R_alloc | apply Kd.R_drewN | apply Kd.R_drew)); exact HO_35.out) gb201 (Nat.le_of_eq hg.symm)) hb); have n2_ := Aside0.mk (below_step (by repeat (first | (with_reducible first | exact HB.out | apply below_alloc | apply pw_below_drewN | apply below_drew1) | exact HB.out)) hb); have n3_ := Aside0.mk (hbox); have n4_ := Aside0.mk ((by rw [hg]; exact (below_size (by repeat (first | (with_reducible first | exact HB.out | apply below_alloc | apply pw_below_drewN | apply below_drew1) | exact HB.out))) : w.heap.size ≤ gb201)); have n5_ := Aside0.mk ((by rw [hg]; exact (below_size (by repeat (first | (with_reducible first | exact HB.out | apply below_alloc | apply pw_below_drewN | apply below_drew1) | exact HB.out))) : w.heap.size ≤ gb201)); clear HO_5; clear HO_35; clear HB; have HO_5 := n0_; have HO_35 := n1_; have HB := n2_; have BK201 := n3_; have GW201 := n4_; have GE201 := n5_; clear n0_ n1_ n2_ n3_ n4_ n5_; clear hb hbox hg; have hcz22_0 : w21.cell? ⟨gb201, 0, none⟩ = some (.int .i64 0) := (blk_cell BK201.out 0).trans rfl; have hcz22_1 : w21.cell? ⟨gb201, 1, none⟩ = some (.string (⟨#[]⟩ : ByteArray)) := (blk_cell BK201.out 1).trans rfl; have hcz22_2 : w21.cell? ⟨gb201, 2, none⟩ = some (.int .i64 0) := (blk_cell BK201.out 2).trans rfl; have hcz22_3 : w21.cell? ⟨gb201, 3, none⟩ = some (.int .i64 0) := (blk_cell BK201.out 3).trans rfl; have hfz22_0 := blk_frozen BK201.out 0; have hfz22_1 := blk_frozen BK201.out 1; have hfz22_2 := blk_frozen BK201.out 2; have hfz22_3 := blk_frozen BK201.out 3))
                    (try simp only [Act.put, List.setIfInBounds_toArray, List.set_cons_zero, List.set_cons_succ])
                    go_cut [52] (fun v52 wc => ∃ (kq : Nat) (x52_19 : Bool), v52 = .bool x52_19 ∧ Aside0 (vinculumlaw18_LexerWrites.j2 kq l1 t195 x8_2 x37_2 t195 (t195.length : Int) x37_2 x52_19 ((rd_T28 t195 x37_2).f0) ((rd_T28 t195 x37_2).f1) ((rd_T28 t195 x37_2).f2) ((rd_T28 t195 x37_2).f3) = some r) ∧ Aside0 (kq ≤ k2) ∧ Aside0 (Kd.R k28 28 wc w.heap.size (fun k_ => k_ ≠ gb201) (.slice (some ad200) t195.length co16) t195) ∧ Aside0 (Kd.R k28 28 wc w.heap.size (fun k_ => k_ ≠ gb201) (.slice (some ad200) t195.length co16) t195) ∧ Aside0 (wc.heap[gb201]? = some (.cells #[.int .i64 ((rd_T28 t195 x37_2).f0), .string ((rd_T28 t195 x37_2).f1), .int .i64 ((rd_T28 t195 x37_2).f2), .int .i64 ((rd_T28 t195 x37_2).f3)] 28 (0, 0))) ∧ Aside0 (Below w.heap.size w wc))
                    case first =>
                      have H := HC20.out
                      clear HC20
                      by_cases c23 : x37_2 > 0
                      · rw [if_pos c23] at H
                        have c23b0 : decide (0 < x37_2) = true := decide_eq_true c23
                        clear c23
                        (first | rw [c23b0] | (simp only [i64_w, i32_w]; rw [c23b0]) | skip)
                        obtain ⟨ji24, hji24⟩ : ∃ j_ : Int, (wrap64 (x37_2 - 1)) = j_ := ⟨_, rfl⟩
                        replace H : (if 0 ≤ (ji24) then (if (ji24) < (t195.length : Int) then ((lexer_Joins.f ((rd_T28 t195 (ji24)).f0) ((rd_T28 t195 (ji24)).f1) ((rd_T28 t195 (ji24)).f2) ((rd_T28 t195 (ji24)).f3) ((rd_T28 t195 x37_2).f0) ((rd_T28 t195 x37_2).f1) ((rd_T28 t195 x37_2).f2) ((rd_T28 t195 x37_2).f3)).bind fun t203 => (vinculumlaw18_LexerWrites.j2 k2 l1 t195 x8_2 x37_2 t195 (t195.length : Int) x37_2 t203 ((rd_T28 t195 x37_2).f0) ((rd_T28 t195 x37_2).f1) ((rd_T28 t195 x37_2).f2) ((rd_T28 t195 x37_2).f3))) else (none)) else (none)) = some r := by first | (rw [hji24] at H; exact H) | (simp only [hji24] at H ⊢; exact H)
                        have hji24w : (IntKind.i64.wrap (x37_2 - 1)) = ji24 := (i64_w _).trans hji24
                        by_cases c25 : 0 ≤ (ji24)
                        · rw [if_pos c25] at H
                          have c25b0 : decide (0 ≤ (ji24)) = true := decide_eq_true c25
                          clear c25
                          by_cases c26 : (ji24) < (t195.length : Int)
                          · rw [if_pos c26] at H
                            have c26b0 : decide ((ji24) < (t195.length : Int)) = true := decide_eq_true c26
                            clear c26
                            replace H := Option.bind_eq_some_iff.mp H
                            obtain ⟨t203, A270, H⟩ := H
                            replace H : (vinculumlaw18_LexerWrites.j2 k2 l1 t195 x8_2 x37_2 t195 (t195.length : Int) x37_2 t203 ((rd_T28 t195 x37_2).f0) ((rd_T28 t195 x37_2).f1) ((rd_T28 t195 x37_2).f2) ((rd_T28 t195 x37_2).f3)) = some r := H
                            have A27 := Aside0.mk A270
                            clear A270
                            have H' := Aside0.mk H
                            clear H
                            try go_wp2
                            have n0_ : Aside0 (Kd.R k28 28 ((((w21.setCell ⟨gb201, 0, none⟩ (.int .i64 ((rd_T28 t195 x37_2).f0))).setCell ⟨gb201, 1, none⟩ (.string ((rd_T28 t195 x37_2).f1))).setCell ⟨gb201, 2, none⟩ (.int .i64 ((rd_T28 t195 x37_2).f2))).setCell ⟨gb201, 3, none⟩ (.int .i64 ((rd_T28 t195 x37_2).f3))) w.heap.size (fun k_ => k_ ≠ gb201) (.slice (some ad200) t195.length co16) t195) := ⟨by (with_reducible repeat (first | apply Kd.R_alloc | apply Kd.R_drewN | apply Kd.R_drew)); exact Kd.R_mono (Kd.R_far (p := ⟨gb201, 3, none⟩) (Kd.R_far (p := ⟨gb201, 2, none⟩) (Kd.R_far (p := ⟨gb201, 1, none⟩) (Kd.R_far (p := ⟨gb201, 0, none⟩) (Kd.R_mono HO_5.out (fun k_ hk => (⟨hk, hk.2⟩ : _ ∧ k_ ≠ gb201))) (fun _ hk => hk.2) (.int .i64 ((rd_T28 t195 x37_2).f0))) (fun _ hk => hk.2) (.string ((rd_T28 t195 x37_2).f1))) (fun _ hk => hk.2) (.int .i64 ((rd_T28 t195 x37_2).f2))) (fun _ hk => hk.2) (.int .i64 ((rd_T28 t195 x37_2).f3))) (fun _ hk => hk.1.2)⟩
                            have n1_ : Aside0 (Kd.R k28 28 ((((w21.setCell ⟨gb201, 0, none⟩ (.int .i64 ((rd_T28 t195 x37_2).f0))).setCell ⟨gb201, 1, none⟩ (.string ((rd_T28 t195 x37_2).f1))).setCell ⟨gb201, 2, none⟩ (.int .i64 ((rd_T28 t195 x37_2).f2))).setCell ⟨gb201, 3, none⟩ (.int .i64 ((rd_T28 t195 x37_2).f3))) w.heap.size (fun k_ => k_ ≠ gb201) (.slice (some ad200) t195.length co16) t195) := ⟨by (with_reducible repeat (first | apply Kd.R_alloc | apply Kd.R_drewN | apply Kd.R_drew)); exact Kd.R_mono (Kd.R_far (p := ⟨gb201, 3, none⟩) (Kd.R_far (p := ⟨gb201, 2, none⟩) (Kd.R_far (p := ⟨gb201, 1, none⟩) (Kd.R_far (p := ⟨gb201, 0, none⟩) (Kd.R_mono HO_35.out (fun k_ hk => (⟨hk, hk.2⟩ : _ ∧ k_ ≠ gb201))) (fun _ hk => hk.2) (.int .i64 ((rd_T28 t195 x37_2).f0))) (fun _ hk => hk.2) (.string ((rd_T28 t195 x37_2).f1))) (fun _ hk => hk.2) (.int .i64 ((rd_T28 t195 x37_2).f2))) (fun _ hk => hk.2) (.int .i64 ((rd_T28 t195 x37_2).f3))) (fun _ hk => hk.1.2)⟩
                            have n2_ : Aside0 (((((w21.setCell ⟨gb201, 0, none⟩ (.int .i64 ((rd_T28 t195 x37_2).f0))).setCell ⟨gb201, 1, none⟩ (.string ((rd_T28 t195 x37_2).f1))).setCell ⟨gb201, 2, none⟩ (.int .i64 ((rd_T28 t195 x37_2).f2))).setCell ⟨gb201, 3, none⟩ (.int .i64 ((rd_T28 t195 x37_2).f3))).heap[gb201]? = some (.cells #[.int .i64 ((rd_T28 t195 x37_2).f0), .string ((rd_T28 t195 x37_2).f1), .int .i64 ((rd_T28 t195 x37_2).f2), .int .i64 ((rd_T28 t195 x37_2).f3)] 28 (0, 0))) := ⟨by (with_reducible repeat (first | refine blk_drewN ?_ _ | refine blk_drew ?_ | refine blk_alloc ?_ _)); refine blk_put (cs := #[.int .i64 ((rd_T28 t195 x37_2).f0), .string ((rd_T28 t195 x37_2).f1), .int .i64 ((rd_T28 t195 x37_2).f2), .int .i64 0]) ?_ 3 _ rfl; (with_reducible repeat (first | refine blk_drewN ?_ _ | refine blk_drew ?_ | refine blk_alloc ?_ _)); refine blk_put (cs := #[.int .i64 ((rd_T28 t195 x37_2).f0), .string ((rd_T28 t195 x37_2).f1), .int .i64 0, .int .i64 0]) ?_ 2 _ rfl; (with_reducible repeat (first | refine blk_drewN ?_ _ | refine blk_drew ?_ | refine blk_alloc ?_ _)); refine blk_put (cs := #[.int .i64 ((rd_T28 t195 x37_2).f0), .string (⟨#[]⟩ : ByteArray), .int .i64 0, .int .i64 0]) ?_ 1 _ rfl; (with_reducible repeat (first | refine blk_drewN ?_ _ | refine blk_drew ?_ | refine blk_alloc ?_ _)); refine blk_put (cs := #[.int .i64 0, .string (⟨#[]⟩ : ByteArray), .int .i64 0, .int .i64 0]) ?_ 0 _ rfl; (with_reducible repeat (first | refine blk_drewN ?_ _ | refine blk_drew ?_ | refine blk_alloc ?_ _)); exact BK201.out⟩
                            have n3_ : Aside0 (Below w.heap.size w ((((w21.setCell ⟨gb201, 0, none⟩ (.int .i64 ((rd_T28 t195 x37_2).f0))).setCell ⟨gb201, 1, none⟩ (.string ((rd_T28 t195 x37_2).f1))).setCell ⟨gb201, 2, none⟩ (.int .i64 ((rd_T28 t195 x37_2).f2))).setCell ⟨gb201, 3, none⟩ (.int .i64 ((rd_T28 t195 x37_2).f3)))) := ⟨by repeat (first | (with_reducible first | exact HB.out | apply below_alloc | apply pw_below_drewN | apply below_drew1 | refine below_set ?_ GE201.out) | exact HB.out)⟩
                            (try clear HO_5)
                            (try clear HO_35)
                            (try clear BK201)
                            (try clear HB)
                            generalize ((((w21.setCell ⟨gb201, 0, none⟩ (.int .i64 ((rd_T28 t195 x37_2).f0))).setCell ⟨gb201, 1, none⟩ (.string ((rd_T28 t195 x37_2).f1))).setCell ⟨gb201, 2, none⟩ (.int .i64 ((rd_T28 t195 x37_2).f2))).setCell ⟨gb201, 3, none⟩ (.int .i64 ((rd_T28 t195 x37_2).f3))) = w28 at n0_ n1_ n2_ n3_ ⊢
                            have HO_5 := n0_
                            have HO_35 := n1_
                            have BK201 := n2_
                            have HB := n3_
                            clear n0_ n1_ n2_ n3_
                            have n0_ := Aside0.mk (Kd.R_drew HO_5.out)
                            have n1_ := Aside0.mk (Kd.R_drew HO_35.out)
                            have n2_ := Aside0.mk (blk_drew BK201.out)
                            have n3_ := Aside0.mk (below_drew1 HB.out)
                            clear HO_5
                            clear HO_35
                            clear BK201
                            clear HB
                            have HO_5 := n0_
                            have HO_35 := n1_
                            have BK201 := n2_
                            have HB := n3_
                            clear n0_ n1_ n2_ n3_
                            have p202 : 0 ≤ ((ji24) : Int) := of_decide_eq_true (by first | (with_reducible assumption) | assumption)
                            have q202 : (ji24) < (t195.length : Int) := of_decide_eq_true (by first | (with_reducible assumption) | assumption)
                            obtain ⟨ad202, e202, hx202_0, hx202_1, hx202_2, hx202_3⟩ := at_T28 (Kd.R_reads' HO_5.out).2.2 (ji24) p202 q202
                            obtain rfl : ad200 = ad202 := (by injection e202)
                            replace p202 := eq_true p202
                            replace q202 := eq_true q202
                            refine start_ (n := 11) (S := fun w' => w'.cell? ⟨gb201, 0, none⟩ = some (.int .i64 ((rd_T28 t195 x37_2).f0)) ∧ w'.cell? ⟨gb201, 1, none⟩ = some (.string ((rd_T28 t195 x37_2).f1)) ∧ w'.cell? ⟨gb201, 2, none⟩ = some (.int .i64 ((rd_T28 t195 x37_2).f2)) ∧ w'.cell? ⟨gb201, 3, none⟩ = some (.int .i64 ((rd_T28 t195 x37_2).f3)) ∧ w'.cell? (ad200.add (((ji24)).toNat * 4)) = some (.int .i64 ((rd_T28 t195 (ji24)).f0)) ∧ w'.cell? ⟨(ad200.add (((ji24)).toNat * 4)).block, (ad200.add (((ji24)).toNat * 4)).off + 1, none⟩ = some (.string ((rd_T28 t195 (ji24)).f1)) ∧ w'.cell? ⟨(ad200.add (((ji24)).toNat * 4)).block, (ad200.add (((ji24)).toNat * 4)).off + 2, none⟩ = some (.int .i64 ((rd_T28 t195 (ji24)).f2)) ∧ w'.cell? ⟨(ad200.add (((ji24)).toNat * 4)).block, (ad200.add (((ji24)).toNat * 4)).off + 3, none⟩ = some (.int .i64 ((rd_T28 t195 (ji24)).f3))) (ds := []) #[false, false, false, false, false, false, false, false, false, false, false] (by kernel_rfl) rfl rfl ⟨(blk_cell BK201.out 0).trans rfl, (blk_cell BK201.out 1).trans rfl, (blk_cell BK201.out 2).trans rfl, (blk_cell BK201.out 3).trans rfl, hx202_0, hx202_1, hx202_2, hx202_3⟩ (fun hHeld => ?_); refine with_tabW vinculumlaw18_LexerWrites.tab10 vinculumlaw18_LexerWrites.bits10 (fun HT_ HW_ => ?_)
                            generalize w28.drew = w29 at HO_5 HO_35 BK201 HB hx202_0 hx202_1 hx202_2 hx202_3 hHeld ⊢
                            refine pure_ (i := 0) (N := some 42) (v := ?_) (a' := ?_) #[true, false, false, false, false, false, false, false, false, false, false] rfl rfl (any_of HT_.out (by kernel_rfl)) (fun _ _ _ h => h) (Or.inl ⟨by rfl, ?_⟩) ?_ ?_
                            rotate_left
                            · intro w'
                              go_simp
                              with_reducible rfl
                            rotate_left
                            · simp only [Act.put, List.setIfInBounds_toArray, List.set_cons_zero, List.set_cons_succ, i64_w, i32_w]
                              rfl
                            refine pure_ (i := 1) (N := some 43) (v := ?_) (a' := ?_) #[true, true, false, false, false, false, false, false, false, false, false] rfl rfl (any_of HT_.out (by kernel_rfl)) (fun _ _ _ h => h) (Or.inl ⟨by rfl, ?_⟩) ?_ ?_
                            rotate_left
                            · intro w'
                              go_simp
                              with_reducible rfl
                            rotate_left
                            · simp only [Act.put, List.setIfInBounds_toArray, List.set_cons_zero, List.set_cons_succ, i64_w, i32_w]
                              rfl
                            refine pure_ (i := 2) (N := some 44) (v := ?_) (a' := ?_) #[true, true, true, false, false, false, false, false, false, false, false] rfl rfl (any_of HT_.out (by kernel_rfl)) (fun _ _ _ h => h) (Or.inl ⟨by rfl, ?_⟩) ?_ ?_
                            rotate_left
                            · intro w'
                              go_simp
                              with_reducible rfl
                            rotate_left
                            · simp only [Act.put, List.setIfInBounds_toArray, List.set_cons_zero, List.set_cons_succ, i64_w, i32_w]
                              rfl
                            refine pure_ (i := 3) (N := some 45) (v := ?_) (a' := ?_) #[true, true, true, true, false, false, false, false, false, false, false] rfl rfl (any_of HT_.out (by kernel_rfl)) (fun _ _ _ h => h) (Or.inl ⟨by rfl, ?_⟩) ?_ ?_
                            rotate_left
                            · intro w'
                              go_simp
                              with_reducible rfl
                            rotate_left
                            · simp only [Act.put, List.setIfInBounds_toArray, List.set_cons_zero, List.set_cons_succ, i64_w, i32_w]
                              rfl
                            refine pure_ (i := 4) (N := some 46) (v := ?_) (a' := ?_) #[true, true, true, true, true, false, false, false, false, false, false] rfl rfl (any_of HT_.out (by kernel_rfl)) (fun _ _ _ h => h) (Or.inl ⟨by rfl, ?_⟩) ?_ ?_
                            rotate_left
                            · intro w'
                              go_simp
                              with_reducible rfl
                            rotate_left
                            · simp only [Act.put, List.setIfInBounds_toArray, List.set_cons_zero, List.set_cons_succ, i64_w, i32_w]
                              rfl
                            refine pure_ (i := 5) (N := some 47) (v := ?_) (a' := ?_) #[true, true, true, true, true, true, false, false, false, false, false] rfl rfl (any_of HT_.out (by kernel_rfl)) (fun _ _ _ h => h) (Or.inl ⟨by rfl, ?_⟩) ?_ ?_
                            rotate_left
                            · intro w'
                              go_simp
                              with_reducible rfl
                            rotate_left
                            · simp only [Act.put, List.setIfInBounds_toArray, List.set_cons_zero, List.set_cons_succ, i64_w, i32_w]
                              rfl
                            refine pure_ (i := 6) (N := some 48) (v := ?_) (a' := ?_) #[true, true, true, true, true, true, true, false, false, false, false] rfl rfl (any_of HT_.out (by kernel_rfl)) (fun _ _ _ h => h) (Or.inl ⟨by rfl, ?_⟩) ?_ ?_
                            rotate_left
                            · intro w'
                              go_simp
                              with_reducible rfl
                            rotate_left
                            · simp only [Act.put, List.setIfInBounds_toArray, List.set_cons_zero, List.set_cons_succ, i64_w, i32_w]
                              rfl
                            refine take_ (i := 7) (N := some 49) (v := ?_) (a' := ?_) #[true, true, true, true, true, true, true, true, false, false, false] rfl rfl (take_ofW HT_.out HW_.out (by kernel_rfl)) (fun _ _ _ h => h) (Or.inl ⟨by rfl, ?_⟩) hHeld ?_ ?_
                            rotate_left
                            · rintro w' ⟨s0, s1, s2, s3, s4, s5, s6, s7⟩
                              go_simp
                              with_reducible rfl
                            rotate_left
                            · simp only [Act.put, List.setIfInBounds_toArray, List.set_cons_zero, List.set_cons_succ, i64_w, i32_w]
                              rfl
                            refine take_ (i := 8) (N := some 50) (v := ?_) (a' := ?_) #[true, true, true, true, true, true, true, true, true, false, false] rfl rfl (take_ofW HT_.out HW_.out (by kernel_rfl)) (fun _ _ _ h => h) (Or.inl ⟨by rfl, ?_⟩) hHeld ?_ ?_
                            rotate_left
                            · rintro w' ⟨s0, s1, s2, s3, s4, s5, s6, s7⟩
                              go_simp
                              with_reducible rfl
                            rotate_left
                            · simp only [Act.put, List.setIfInBounds_toArray, List.set_cons_zero, List.set_cons_succ, i64_w, i32_w]
                              rfl
                            refine one_ (i := 9) (N := some 51) #[true, true, true, true, true, true, true, true, true, true, false] rfl rfl (one_of HT_.out (by kernel_rfl)) (by decide) (fun K hK => ?_)
                            refine goes_ Try.func12 (by kernel_rfl) rfl #[.agg #[.int .i64 ((rd_T28 t195 (ji24)).f0), .string ((rd_T28 t195 (ji24)).f1), .int .i64 ((rd_T28 t195 (ji24)).f2), .int .i64 ((rd_T28 t195 (ji24)).f3)], .agg #[.int .i64 ((rd_T28 t195 x37_2).f0), .string ((rd_T28 t195 x37_2).f1), .int .i64 ((rd_T28 t195 x37_2).f2), .int .i64 ((rd_T28 t195 x37_2).f3)]] (by rfl) rfl rfl (by (try simp only [List.map_toArray, List.map_cons, List.map_nil]); first | done | (simp only [hji24]; rfl) | rfl | (simp only [List.length_drop, List.length_take]; rfl)) ?_
                            with_reducible refine (lexer_Joins.calls ((rd_T28 t195 (ji24)).f0) ((rd_T28 t195 (ji24)).f1) ((rd_T28 t195 (ji24)).f2) ((rd_T28 t195 (ji24)).f3) ((rd_T28 t195 x37_2).f0) ((rd_T28 t195 x37_2).f1) ((rd_T28 t195 x37_2).f2) ((rd_T28 t195 x37_2).f3) t203 _ A27.out).mono ?_
                            rintro e w30 ⟨rfl, hb⟩
                            have HS4_ := (hb.cell (World.block_lt_of_cell? _ _ (hHeld.2.2.2.2.1))).trans (hHeld.2.2.2.2.1)
                            have HS5_ := (hb.cell (World.block_lt_of_cell? _ _ (hHeld.2.2.2.2.2.1))).trans (hHeld.2.2.2.2.2.1)
                            have HS6_ := (hb.cell (World.block_lt_of_cell? _ _ (hHeld.2.2.2.2.2.2.1))).trans (hHeld.2.2.2.2.2.2.1)
                            have HS7_ := (hb.cell (World.block_lt_of_cell? _ _ (hHeld.2.2.2.2.2.2.2))).trans (hHeld.2.2.2.2.2.2.2)
                            refine ⟨_, rfl, ?_⟩
                            have n0_ := Aside0.mk (Kd.R_below (by (with_reducible repeat (first | apply Kd.R_alloc | apply Kd.R_drewN | apply Kd.R_drew)); exact HO_5.out) hb)
                            have n1_ := Aside0.mk (Kd.R_below (by (with_reducible repeat (first | apply Kd.R_alloc | apply Kd.R_drewN | apply Kd.R_drew)); exact HO_35.out) hb)
                            have n2_ := Aside0.mk (blk_below (g := gb201) (o := .cells #[.int .i64 ((rd_T28 t195 x37_2).f0), .string ((rd_T28 t195 x37_2).f1), .int .i64 ((rd_T28 t195 x37_2).f2), .int .i64 ((rd_T28 t195 x37_2).f3)] 28 (0, 0)) (by (with_reducible repeat (first | refine blk_drewN ?_ _ | refine blk_drew ?_ | refine blk_alloc ?_ _)); exact BK201.out) hb)
                            have n3_ := Aside0.mk (below_step (by repeat (first | (with_reducible first | exact HB.out | apply below_alloc | apply pw_below_drewN | apply below_drew1 | refine below_set ?_ GE201.out) | exact HB.out)) hb)
                            clear HO_5
                            clear HO_35
                            clear BK201
                            clear HB
                            have HO_5 := n0_
                            have HO_35 := n1_
                            have BK201 := n2_
                            have HB := n3_
                            clear n0_ n1_ n2_ n3_
                            (try clear hb)
                            (try clear hb2)
                            (try clear hk)
                            (try clear hi)
                            refine hK.out _ _ ⟨(blk_cell BK201.out 0).trans rfl, (blk_cell BK201.out 1).trans rfl, (blk_cell BK201.out 2).trans rfl, (blk_cell BK201.out 3).trans rfl, HS4_, HS5_, HS6_, HS7_⟩ (fun hHeld => ?_)
                            clear hK K
                            refine norm_ (a' := ?_) ?_ ?_
                            rotate_left
                            · show Act.put _ (some 51) _ = _
                              simp only [Act.put, List.setIfInBounds_toArray, List.set_cons_zero, List.set_cons_succ, i64_w, i32_w]
                              rfl
                            refine pure_ (i := 10) (N := some 52) (v := ?_) (a' := ?_) #[true, true, true, true, true, true, true, true, true, true, true] rfl rfl (any_of HT_.out (by kernel_rfl)) (fun _ _ _ h => h) (Or.inl ⟨by rfl, ?_⟩) ?_ ?_
                            rotate_left
                            · intro w'
                              go_simp
                              with_reducible rfl
                            rotate_left
                            · simp only [Act.put, List.setIfInBounds_toArray, List.set_cons_zero, List.set_cons_succ, i64_w, i32_w]
                              rfl
                            refine done_ (done_of HT_.out (by kernel_rfl)) ?_
                            try go_wp2
                            go_meet
                            case rel => exact ⟨_, (t203), (by first | rfl | (simp; done) | (simp [*]; done)), H', ⟨by have := HJ2.out; have := HK2.out; first | omega | exact Nat.le_refl _⟩, ⟨by (with_reducible repeat (first | apply Kd.R_alloc | apply Kd.R_drewN | apply Kd.R_drew)); exact HO_5.out⟩, ⟨by (with_reducible repeat (first | apply Kd.R_alloc | apply Kd.R_drewN | apply Kd.R_drew)); exact HO_35.out⟩, ⟨by (with_reducible repeat (first | refine blk_drewN ?_ _ | refine blk_drew ?_ | refine blk_alloc ?_ _)); exact BK201.out⟩, ⟨by repeat (first | (with_reducible first | exact HB.out | apply below_alloc | apply pw_below_drewN | apply below_drew1 | refine below_set ?_ GE201.out) | exact HB.out)⟩⟩
                          · rw [if_neg c26] at H
                            exact absurd H (by simp)
                        · rw [if_neg c25] at H
                          exact absurd H (by simp)
                      · rw [if_neg c23] at H
                        have c23b0 : decide (0 < x37_2) = false := decide_eq_false c23
                        clear c23
                        (first | rw [c23b0] | (simp only [i64_w, i32_w]; rw [c23b0]) | skip)
                        have H' := Aside0.mk H
                        clear H
                        try go_wp2
                        have n0_ : Aside0 (Kd.R k28 28 ((((w21.setCell ⟨gb201, 0, none⟩ (.int .i64 ((rd_T28 t195 x37_2).f0))).setCell ⟨gb201, 1, none⟩ (.string ((rd_T28 t195 x37_2).f1))).setCell ⟨gb201, 2, none⟩ (.int .i64 ((rd_T28 t195 x37_2).f2))).setCell ⟨gb201, 3, none⟩ (.int .i64 ((rd_T28 t195 x37_2).f3))) w.heap.size (fun k_ => k_ ≠ gb201) (.slice (some ad200) t195.length co16) t195) := ⟨by (with_reducible repeat (first | apply Kd.R_alloc | apply Kd.R_drewN | apply Kd.R_drew)); exact Kd.R_mono (Kd.R_far (p := ⟨gb201, 3, none⟩) (Kd.R_far (p := ⟨gb201, 2, none⟩) (Kd.R_far (p := ⟨gb201, 1, none⟩) (Kd.R_far (p := ⟨gb201, 0, none⟩) (Kd.R_mono HO_5.out (fun k_ hk => (⟨hk, hk.2⟩ : _ ∧ k_ ≠ gb201))) (fun _ hk => hk.2) (.int .i64 ((rd_T28 t195 x37_2).f0))) (fun _ hk => hk.2) (.string ((rd_T28 t195 x37_2).f1))) (fun _ hk => hk.2) (.int .i64 ((rd_T28 t195 x37_2).f2))) (fun _ hk => hk.2) (.int .i64 ((rd_T28 t195 x37_2).f3))) (fun _ hk => hk.1.2)⟩
                        have n1_ : Aside0 (Kd.R k28 28 ((((w21.setCell ⟨gb201, 0, none⟩ (.int .i64 ((rd_T28 t195 x37_2).f0))).setCell ⟨gb201, 1, none⟩ (.string ((rd_T28 t195 x37_2).f1))).setCell ⟨gb201, 2, none⟩ (.int .i64 ((rd_T28 t195 x37_2).f2))).setCell ⟨gb201, 3, none⟩ (.int .i64 ((rd_T28 t195 x37_2).f3))) w.heap.size (fun k_ => k_ ≠ gb201) (.slice (some ad200) t195.length co16) t195) := ⟨by (with_reducible repeat (first | apply Kd.R_alloc | apply Kd.R_drewN | apply Kd.R_drew)); exact Kd.R_mono (Kd.R_far (p := ⟨gb201, 3, none⟩) (Kd.R_far (p := ⟨gb201, 2, none⟩) (Kd.R_far (p := ⟨gb201, 1, none⟩) (Kd.R_far (p := ⟨gb201, 0, none⟩) (Kd.R_mono HO_35.out (fun k_ hk => (⟨hk, hk.2⟩ : _ ∧ k_ ≠ gb201))) (fun _ hk => hk.2) (.int .i64 ((rd_T28 t195 x37_2).f0))) (fun _ hk => hk.2) (.string ((rd_T28 t195 x37_2).f1))) (fun _ hk => hk.2) (.int .i64 ((rd_T28 t195 x37_2).f2))) (fun _ hk => hk.2) (.int .i64 ((rd_T28 t195 x37_2).f3))) (fun _ hk => hk.1.2)⟩
                        have n2_ : Aside0 (((((w21.setCell ⟨gb201, 0, none⟩ (.int .i64 ((rd_T28 t195 x37_2).f0))).setCell ⟨gb201, 1, none⟩ (.string ((rd_T28 t195 x37_2).f1))).setCell ⟨gb201, 2, none⟩ (.int .i64 ((rd_T28 t195 x37_2).f2))).setCell ⟨gb201, 3, none⟩ (.int .i64 ((rd_T28 t195 x37_2).f3))).heap[gb201]? = some (.cells #[.int .i64 ((rd_T28 t195 x37_2).f0), .string ((rd_T28 t195 x37_2).f1), .int .i64 ((rd_T28 t195 x37_2).f2), .int .i64 ((rd_T28 t195 x37_2).f3)] 28 (0, 0))) := ⟨by (with_reducible repeat (first | refine blk_drewN ?_ _ | refine blk_drew ?_ | refine blk_alloc ?_ _)); refine blk_put (cs := #[.int .i64 ((rd_T28 t195 x37_2).f0), .string ((rd_T28 t195 x37_2).f1), .int .i64 ((rd_T28 t195 x37_2).f2), .int .i64 0]) ?_ 3 _ rfl; (with_reducible repeat (first | refine blk_drewN ?_ _ | refine blk_drew ?_ | refine blk_alloc ?_ _)); refine blk_put (cs := #[.int .i64 ((rd_T28 t195 x37_2).f0), .string ((rd_T28 t195 x37_2).f1), .int .i64 0, .int .i64 0]) ?_ 2 _ rfl; (with_reducible repeat (first | refine blk_drewN ?_ _ | refine blk_drew ?_ | refine blk_alloc ?_ _)); refine blk_put (cs := #[.int .i64 ((rd_T28 t195 x37_2).f0), .string (⟨#[]⟩ : ByteArray), .int .i64 0, .int .i64 0]) ?_ 1 _ rfl; (with_reducible repeat (first | refine blk_drewN ?_ _ | refine blk_drew ?_ | refine blk_alloc ?_ _)); refine blk_put (cs := #[.int .i64 0, .string (⟨#[]⟩ : ByteArray), .int .i64 0, .int .i64 0]) ?_ 0 _ rfl; (with_reducible repeat (first | refine blk_drewN ?_ _ | refine blk_drew ?_ | refine blk_alloc ?_ _)); exact BK201.out⟩
                        have n3_ : Aside0 (Below w.heap.size w ((((w21.setCell ⟨gb201, 0, none⟩ (.int .i64 ((rd_T28 t195 x37_2).f0))).setCell ⟨gb201, 1, none⟩ (.string ((rd_T28 t195 x37_2).f1))).setCell ⟨gb201, 2, none⟩ (.int .i64 ((rd_T28 t195 x37_2).f2))).setCell ⟨gb201, 3, none⟩ (.int .i64 ((rd_T28 t195 x37_2).f3)))) := ⟨by repeat (first | (with_reducible first | exact HB.out | apply below_alloc | apply pw_below_drewN | apply below_drew1 | refine below_set ?_ GE201.out) | exact HB.out)⟩
                        (try clear HO_5)
                        (try clear HO_35)
                        (try clear BK201)
                        (try clear HB)
                        generalize ((((w21.setCell ⟨gb201, 0, none⟩ (.int .i64 ((rd_T28 t195 x37_2).f0))).setCell ⟨gb201, 1, none⟩ (.string ((rd_T28 t195 x37_2).f1))).setCell ⟨gb201, 2, none⟩ (.int .i64 ((rd_T28 t195 x37_2).f2))).setCell ⟨gb201, 3, none⟩ (.int .i64 ((rd_T28 t195 x37_2).f3))) = w31 at n0_ n1_ n2_ n3_ ⊢
                        have HO_5 := n0_
                        have HO_35 := n1_
                        have BK201 := n2_
                        have HB := n3_
                        clear n0_ n1_ n2_ n3_
                        have n0_ := Aside0.mk (Kd.R_drew HO_5.out)
                        have n1_ := Aside0.mk (Kd.R_drew HO_35.out)
                        have n2_ := Aside0.mk (blk_drew BK201.out)
                        have n3_ := Aside0.mk (below_drew1 HB.out)
                        clear HO_5
                        clear HO_35
                        clear BK201
                        clear HB
                        have HO_5 := n0_
                        have HO_35 := n1_
                        have BK201 := n2_
                        have HB := n3_
                        clear n0_ n1_ n2_ n3_
                        refine start_ (n := 11) (S := fun w' => True) (ds := []) #[false, false, false, false, false, false, false, false, false, false, false] (by kernel_rfl) rfl rfl trivial (fun hHeld => ?_); refine with_tabW vinculumlaw18_LexerWrites.tab10 vinculumlaw18_LexerWrites.bits10 (fun HT_ HW_ => ?_)
                        generalize w31.drew = w32 at HO_5 HO_35 BK201 HB hHeld ⊢
                        refine pure_ (i := 0) (N := some 42) (v := ?_) (a' := ?_) #[true, false, false, false, false, false, false, false, false, false, false] rfl rfl (any_of HT_.out (by kernel_rfl)) (fun _ _ _ h => h) (Or.inl ⟨by rfl, ?_⟩) ?_ ?_
                        rotate_left
                        · intro w'
                          go_simp
                          with_reducible rfl
                        rotate_left
                        · simp only [Act.put, List.setIfInBounds_toArray, List.set_cons_zero, List.set_cons_succ, i64_w, i32_w]
                          rfl
                        refine pure_ (i := 1) (N := some 43) (v := ?_) (a' := ?_) #[true, true, false, false, false, false, false, false, false, false, false] rfl rfl (any_of HT_.out (by kernel_rfl)) (fun _ _ _ h => h) (Or.inl ⟨by rfl, ?_⟩) ?_ ?_
                        rotate_left
                        · intro w'
                          go_simp
                          with_reducible rfl
                        rotate_left
                        · simp only [Act.put, List.setIfInBounds_toArray, List.set_cons_zero, List.set_cons_succ, i64_w, i32_w]
                          rfl
                        refine pure_ (i := 2) (N := some 44) (v := ?_) (a' := ?_) #[true, true, true, false, false, false, false, false, false, false, false] rfl rfl (any_of HT_.out (by kernel_rfl)) (fun _ _ _ h => h) (Or.inl ⟨by rfl, ?_⟩) ?_ ?_
                        rotate_left
                        · intro w'
                          go_simp
                          with_reducible rfl
                        rotate_left
                        · simp only [Act.put, List.setIfInBounds_toArray, List.set_cons_zero, List.set_cons_succ, i64_w, i32_w]
                          rfl
                        refine pure_ (i := 3) (N := some 45) (v := undef) (a' := ?_) #[true, true, true, true, false, false, false, false, false, false, false] rfl rfl (any_of HT_.out (by kernel_rfl)) (fun _ _ _ h => h) (Or.inr ⟨by rfl, rfl⟩) ?_ ?_
                        rotate_left
                        · simp only [Act.put, List.setIfInBounds_toArray, List.set_cons_zero, List.set_cons_succ, i64_w, i32_w]
                          rfl
                        refine pure_ (i := 4) (N := some 46) (v := undef) (a' := ?_) #[true, true, true, true, true, false, false, false, false, false, false] rfl rfl (any_of HT_.out (by kernel_rfl)) (fun _ _ _ h => h) (Or.inr ⟨by rfl, rfl⟩) ?_ ?_
                        rotate_left
                        · simp only [Act.put, List.setIfInBounds_toArray, List.set_cons_zero, List.set_cons_succ, i64_w, i32_w]
                          rfl
                        refine pure_ (i := 5) (N := some 47) (v := undef) (a' := ?_) #[true, true, true, true, true, true, false, false, false, false, false] rfl rfl (any_of HT_.out (by kernel_rfl)) (fun _ _ _ h => h) (Or.inr ⟨by rfl, rfl⟩) ?_ ?_
                        rotate_left
                        · simp only [Act.put, List.setIfInBounds_toArray, List.set_cons_zero, List.set_cons_succ, i64_w, i32_w]
                          rfl
                        refine pure_ (i := 6) (N := some 48) (v := undef) (a' := ?_) #[true, true, true, true, true, true, true, false, false, false, false] rfl rfl (any_of HT_.out (by kernel_rfl)) (fun _ _ _ h => h) (Or.inr ⟨by rfl, rfl⟩) ?_ ?_
                        rotate_left
                        · simp only [Act.put, List.setIfInBounds_toArray, List.set_cons_zero, List.set_cons_succ, i64_w, i32_w]
                          rfl
                        refine pure_ (i := 7) (N := some 49) (v := undef) (a' := ?_) #[true, true, true, true, true, true, true, true, false, false, false] rfl rfl (any_of HT_.out (by kernel_rfl)) (fun _ _ _ h => h) (Or.inr ⟨by rfl, rfl⟩) ?_ ?_
                        rotate_left
                        · simp only [Act.put, List.setIfInBounds_toArray, List.set_cons_zero, List.set_cons_succ, i64_w, i32_w]
                          rfl
                        refine pure_ (i := 8) (N := some 50) (v := undef) (a' := ?_) #[true, true, true, true, true, true, true, true, true, false, false] rfl rfl (any_of HT_.out (by kernel_rfl)) (fun _ _ _ h => h) (Or.inr ⟨by rfl, rfl⟩) ?_ ?_
                        rotate_left
                        · simp only [Act.put, List.setIfInBounds_toArray, List.set_cons_zero, List.set_cons_succ, i64_w, i32_w]
                          rfl
                        refine pure_ (i := 9) (N := some 51) (v := undef) (a' := ?_) #[true, true, true, true, true, true, true, true, true, true, false] rfl rfl (any_of HT_.out (by kernel_rfl)) (fun _ _ _ h => h) (Or.inr ⟨by rfl, rfl⟩) ?_ ?_
                        rotate_left
                        · simp only [Act.put, List.setIfInBounds_toArray, List.set_cons_zero, List.set_cons_succ, i64_w, i32_w]
                          rfl
                        refine pure_ (i := 10) (N := some 52) (v := ?_) (a' := ?_) #[true, true, true, true, true, true, true, true, true, true, true] rfl rfl (any_of HT_.out (by kernel_rfl)) (fun _ _ _ h => h) (Or.inl ⟨by rfl, ?_⟩) ?_ ?_
                        rotate_left
                        · intro w'
                          go_simp
                          with_reducible rfl
                        rotate_left
                        · simp only [Act.put, List.setIfInBounds_toArray, List.set_cons_zero, List.set_cons_succ, i64_w, i32_w]
                          rfl
                        refine done_ (done_of HT_.out (by kernel_rfl)) ?_
                        try go_wp2
                        go_meet
                        case rel => exact ⟨_, (false), (by first | rfl | (simp; done) | (simp [*]; done)), H', ⟨by have := HJ2.out; have := HK2.out; first | omega | exact Nat.le_refl _⟩, ⟨by (with_reducible repeat (first | apply Kd.R_alloc | apply Kd.R_drewN | apply Kd.R_drew)); exact HO_5.out⟩, ⟨by (with_reducible repeat (first | apply Kd.R_alloc | apply Kd.R_drewN | apply Kd.R_drew)); exact HO_35.out⟩, ⟨by (with_reducible repeat (first | refine blk_drewN ?_ _ | refine blk_drew ?_ | refine blk_alloc ?_ _)); exact BK201.out⟩, ⟨by repeat (first | (with_reducible first | exact HB.out | apply below_alloc | apply pw_below_drewN | apply below_drew1 | refine below_set ?_ GE201.out) | exact HB.out)⟩⟩
                    case rest =>
                      clear HC20
                      try clear c1
                      try clear c2
                      try clear p2
                      try clear q2
                      try clear hx2
                      try clear c5
                      try clear c6
                      try clear c6b0
                      try clear c6b1
                      try clear p6
                      try clear c7
                      try clear c8
                      try clear c10
                      try clear c12
                      try clear c14
                      try clear c14b0
                      try clear c14b1
                      try clear c17
                      try clear c17b0
                      try clear c18
                      try clear c18b0
                      try clear c19
                      try clear c19b0
                      try clear p20
                      try clear q20
                      try clear hx20
                      try clear c23
                      try clear c23b0
                      try clear c25
                      try clear c25b0
                      try clear c26
                      try clear c26b0
                      try clear hcz22_0
                      try clear hcz22_1
                      try clear hcz22_2
                      try clear hcz22_3
                      try clear hfz22_0
                      try clear hfz22_1
                      try clear hfz22_2
                      try clear hfz22_3
                      try clear hx200_0
                      try clear hx200_1
                      try clear hx200_2
                      try clear hx200_3
                      try clear hx202_0
                      try clear hx202_1
                      try clear hx202_2
                      try clear hx202_3
                      try clear p2
                      try clear p200
                      try clear p202
                      try clear q200
                      try clear q202
                      obtain ⟨kq, x52_19, rfl, HA, HJ19, HO_5, HO_35, BK201, HB⟩ := hcut
                      cases kq with
                      | zero => exact absurd HA.out (by simp [vinculumlaw18_LexerWrites.j2])
                      | succ kj19 =>
                        have H := HA.out
                        clear HA
                        simp only [vinculumlaw18_LexerWrites.j2] at H
                        by_cases c33 : x52_19 = true
                        · subst c33
                          have H1 : (if x8_2.size + 1 ≤ 9223372036854775807 then (if x37_2 < (l1.length : Int) then ((some (([(⟨#[]⟩ : ByteArray), (⟨#[]⟩ : ByteArray), (⟨#[32]⟩ : ByteArray), (⟨#[9, 10]⟩ : ByteArray), (⟨#[32, 32]⟩ : ByteArray)] : List ByteArray) : List ByteArray)).bind fun y204 => (if 0 ≤ x37_2 then (if 0 ≤ (Int.tmod (rd l1 x37_2) 5) then (if (Int.tmod (rd l1 x37_2) 5) < (y204.length : Int) then (if (x8_2 ++ (⟨#[32]⟩ : ByteArray)).size + (rdOf ByteArray.empty y204 (Int.tmod (rd l1 x37_2) 5)).size ≤ 9223372036854775807 then ((lexer_Spell.f ((rd_T28 t195 x37_2).f0) ((rd_T28 t195 x37_2).f1) ((rd_T28 t195 x37_2).f2) ((rd_T28 t195 x37_2).f3)).bind fun t209 => (if ((x8_2 ++ (⟨#[32]⟩ : ByteArray)) ++ (rdOf ByteArray.empty y204 (Int.tmod (rd l1 x37_2) 5))).size + t209.size ≤ 9223372036854775807 then (vinculumlaw18_LexerWrites.l0 kj19 l1 t195 (((x8_2 ++ (⟨#[32]⟩ : ByteArray)) ++ (rdOf ByteArray.empty y204 (Int.tmod (rd l1 x37_2) 5))) ++ t209) t195 (t195.length : Int) (wrap64 (x37_2 + 1))) else (none))) else (none)) else (none)) else (none)) else (none))) else ((lexer_Spell.f ((rd_T28 t195 x37_2).f0) ((rd_T28 t195 x37_2).f1) ((rd_T28 t195 x37_2).f2) ((rd_T28 t195 x37_2).f3)).bind fun t210 => (if (x8_2 ++ (⟨#[32]⟩ : ByteArray)).size + t210.size ≤ 9223372036854775807 then (vinculumlaw18_LexerWrites.l0 kj19 l1 t195 ((x8_2 ++ (⟨#[32]⟩ : ByteArray)) ++ t210) t195 (t195.length : Int) (wrap64 (x37_2 + 1))) else (none)))) else (none)) = some r := by rw [if_pos rfl] at H; exact H
                          clear H
                          have H := H1
                          clear H1
                          by_cases c34 : x8_2.size + 1 ≤ 9223372036854775807
                          · rw [if_pos c34] at H
                            have c34b0 := eq_true c34
                            have c34b1 : decide (x8_2.size + 1 ≤ 9223372036854775807) = true := decide_eq_true c34
                            try have c34b2 : (9223372036854775807 < x8_2.size + 1) = False := eq_false (Nat.not_lt.2 c34)
                            by_cases c35 : x37_2 < (l1.length : Int)
                            · rw [if_pos c35] at H
                              have c35b0 : decide (x37_2 < (l1.length : Int)) = true := decide_eq_true c35
                              clear c35
                              obtain ⟨y204, hy204⟩ : ∃ y_ : List ByteArray, y_ = (([(⟨#[]⟩ : ByteArray), (⟨#[]⟩ : ByteArray), (⟨#[32]⟩ : ByteArray), (⟨#[9, 10]⟩ : ByteArray), (⟨#[32, 32]⟩ : ByteArray)] : List ByteArray)) := ⟨_, rfl⟩
                              replace H : (if 0 ≤ x37_2 then (if 0 ≤ (Int.tmod (rd l1 x37_2) 5) then (if (Int.tmod (rd l1 x37_2) 5) < (y204.length : Int) then (if (x8_2 ++ (⟨#[32]⟩ : ByteArray)).size + (rdOf ByteArray.empty y204 (Int.tmod (rd l1 x37_2) 5)).size ≤ 9223372036854775807 then ((lexer_Spell.f ((rd_T28 t195 x37_2).f0) ((rd_T28 t195 x37_2).f1) ((rd_T28 t195 x37_2).f2) ((rd_T28 t195 x37_2).f3)).bind fun t209 => (if ((x8_2 ++ (⟨#[32]⟩ : ByteArray)) ++ (rdOf ByteArray.empty y204 (Int.tmod (rd l1 x37_2) 5))).size + t209.size ≤ 9223372036854775807 then (vinculumlaw18_LexerWrites.l0 kj19 l1 t195 (((x8_2 ++ (⟨#[32]⟩ : ByteArray)) ++ (rdOf ByteArray.empty y204 (Int.tmod (rd l1 x37_2) 5))) ++ t209) t195 (t195.length : Int) (wrap64 (x37_2 + 1))) else (none))) else (none)) else (none)) else (none)) else (none)) = some r := by first | (rw [hy204]; with_reducible exact H) | (have H2_ := (Option.bind_some _ _).symm.trans H; rw [hy204]; with_reducible exact H2_) | (have H2_ := (Option.bind_some _ _).symm.trans H; with_reducible exact H2_) | with_reducible exact H | (rw [hy204]; exact H) | exact H
                              have Ny204 := Aside0.mk hy204
                              clear hy204
                              by_cases c36 : 0 ≤ x37_2
                              · rw [if_pos c36] at H
                                have c36b0 : decide (0 ≤ x37_2) = true := decide_eq_true c36
                                clear c36
                                obtain ⟨ji37, hji37⟩ : ∃ j_ : Int, (Int.tmod (rd l1 x37_2) 5) = j_ := ⟨_, rfl⟩
                                replace H : (if 0 ≤ (ji37) then (if (ji37) < (y204.length : Int) then (if (x8_2 ++ (⟨#[32]⟩ : ByteArray)).size + (rdOf ByteArray.empty y204 (ji37)).size ≤ 9223372036854775807 then ((lexer_Spell.f ((rd_T28 t195 x37_2).f0) ((rd_T28 t195 x37_2).f1) ((rd_T28 t195 x37_2).f2) ((rd_T28 t195 x37_2).f3)).bind fun t209 => (if ((x8_2 ++ (⟨#[32]⟩ : ByteArray)) ++ (rdOf ByteArray.empty y204 (ji37))).size + t209.size ≤ 9223372036854775807 then (vinculumlaw18_LexerWrites.l0 kj19 l1 t195 (((x8_2 ++ (⟨#[32]⟩ : ByteArray)) ++ (rdOf ByteArray.empty y204 (ji37))) ++ t209) t195 (t195.length : Int) (wrap64 (x37_2 + 1))) else (none))) else (none)) else (none)) else (none)) = some r := by first | (rw [hji37] at H; exact H) | (simp only [hji37] at H ⊢; exact H)
                                by_cases c38 : 0 ≤ (ji37)
                                · rw [if_pos c38] at H
                                  have c38b0 : decide (0 ≤ (ji37)) = true := decide_eq_true c38
                                  clear c38
                                  by_cases c39 : (ji37) < (y204.length : Int)
                                  · rw [if_pos c39] at H
                                    have c39b0 : decide ((ji37) < (y204.length : Int)) = true := decide_eq_true c39
                                    clear c39
                                    by_cases c40 : (x8_2 ++ (⟨#[32]⟩ : ByteArray)).size + (rdOf ByteArray.empty y204 (ji37)).size ≤ 9223372036854775807
                                    · rw [if_pos c40] at H
                                      have c40b0 := eq_true c40
                                      have c40b1 : decide ((x8_2 ++ (⟨#[32]⟩ : ByteArray)).size + (rdOf ByteArray.empty y204 (ji37)).size ≤ 9223372036854775807) = true := decide_eq_true c40
                                      try have c40b2 : (9223372036854775807 < (x8_2 ++ (⟨#[32]⟩ : ByteArray)).size + (rdOf ByteArray.empty y204 (ji37)).size) = False := eq_false (Nat.not_lt.2 c40)
                                      try have c40b3 : (9223372036854775807 < x8_2.size + 1 + (rdOf ByteArray.empty y204 (ji37)).size) = False := eq_false (by have h_ := c40; (try simp only [ByteArray.size_append] at h_); (try change x8_2.size + 1 + (rdOf ByteArray.empty y204 (ji37)).size ≤ 9223372036854775807 at h_); omega)
                                      replace H := Option.bind_eq_some_iff.mp H
                                      obtain ⟨t209, A410, H⟩ := H
                                      replace H : (if ((x8_2 ++ (⟨#[32]⟩ : ByteArray)) ++ (rdOf ByteArray.empty y204 (ji37))).size + t209.size ≤ 9223372036854775807 then (vinculumlaw18_LexerWrites.l0 kj19 l1 t195 (((x8_2 ++ (⟨#[32]⟩ : ByteArray)) ++ (rdOf ByteArray.empty y204 (ji37))) ++ t209) t195 (t195.length : Int) (wrap64 (x37_2 + 1))) else (none)) = some r := H
                                      have A41 := Aside0.mk A410
                                      clear A410
                                      by_cases c42 : ((x8_2 ++ (⟨#[32]⟩ : ByteArray)) ++ (rdOf ByteArray.empty y204 (ji37))).size + t209.size ≤ 9223372036854775807
                                      · rw [if_pos c42] at H
                                        have c42b0 := eq_true c42
                                        have c42b1 : decide (((x8_2 ++ (⟨#[32]⟩ : ByteArray)) ++ (rdOf ByteArray.empty y204 (ji37))).size + t209.size ≤ 9223372036854775807) = true := decide_eq_true c42
                                        try have c42b2 : (9223372036854775807 < ((x8_2 ++ (⟨#[32]⟩ : ByteArray)) ++ (rdOf ByteArray.empty y204 (ji37))).size + t209.size) = False := eq_false (Nat.not_lt.2 c42)
                                        try have c42b3 : (9223372036854775807 < x8_2.size + 1 + (rdOf ByteArray.empty y204 (ji37)).size + t209.size) = False := eq_false (by have h_ := c42; (try simp only [ByteArray.size_append] at h_); (try change x8_2.size + 1 + (rdOf ByteArray.empty y204 (ji37)).size + t209.size ≤ 9223372036854775807 at h_); omega)
                                        have H' := Aside0.mk H
                                        clear H
                                        go_wp2_with (first | ((with_reducible refine gate_dst (N := 60) rfl ?_); (try (refine gate_guard (by rfl) ?_; dsimp only)); refine Kd.R_lit Kd.string _ 9 ?hg (N := 60) ?hd (xs := ([(⟨#[]⟩ : ByteArray), (⟨#[]⟩ : ByteArray), (⟨#[32]⟩ : ByteArray), (⟨#[9, 10]⟩ : ByteArray), (⟨#[32, 32]⟩ : ByteArray)] : List ByteArray)) (inner := [.string (⟨#[]⟩ : ByteArray), .string (⟨#[]⟩ : ByteArray), .string (⟨#[32]⟩ : ByteArray), .string (⟨#[9, 10]⟩ : ByteArray), .string (⟨#[32, 32]⟩ : ByteArray)]) (ok := fun _ => True) (okp := fun _ => True) ?hr ?hp (fun _ hk => hk) trivial (Below.refl _ _) (Nat.le_refl _) (by simp) ?_; (case hd => rfl); (case hg => rfl); (case hr => first | (go_simp; done) | (go_simp; rfl)); (case hp => exact (Reps.one (show Kd.M Kd.string _ _ _ (⟨#[]⟩ : ByteArray) [.string (⟨#[]⟩ : ByteArray)] from rfl) (Reps.one (show Kd.M Kd.string _ _ _ (⟨#[]⟩ : ByteArray) [.string (⟨#[]⟩ : ByteArray)] from rfl) (Reps.one (show Kd.M Kd.string _ _ _ (⟨#[32]⟩ : ByteArray) [.string (⟨#[32]⟩ : ByteArray)] from rfl) (Reps.one (show Kd.M Kd.string _ _ _ (⟨#[9, 10]⟩ : ByteArray) [.string (⟨#[9, 10]⟩ : ByteArray)] from rfl) (Reps.one (show Kd.M Kd.string _ _ _ (⟨#[32, 32]⟩ : ByteArray) [.string (⟨#[32, 32]⟩ : ByteArray)] from rfl) (Reps.none _ _))))))); intro v205 w43 ho44 hb hg_ hnew_; clear hg_ hnew_; (first | rw [← Ny204.out] at ho44 | (simp only [Int.reduceToNat] at ho44; rw [← Ny204.out] at ho44)); have n0_ := Aside0.mk (Kd.R_below (by (with_reducible repeat (first | apply Kd.R_alloc | apply Kd.R_drewN | apply Kd.R_drew)); exact HO_5.out) hb); have n1_ := Aside0.mk (Kd.R_below (by (with_reducible repeat (first | apply Kd.R_alloc | apply Kd.R_drewN | apply Kd.R_drew)); exact HO_35.out) hb); have n2_ := Aside0.mk (Kd.R_lower ho44 (below_size (by repeat (first | (with_reducible first | exact HB.out | apply below_alloc | apply pw_below_drewN | apply below_drew1 | refine below_set ?_ GE201.out) | exact HB.out)))); have n3_ := Aside0.mk (blk_below (g := gb201) (o := .cells #[.int .i64 ((rd_T28 t195 x37_2).f0), .string ((rd_T28 t195 x37_2).f1), .int .i64 ((rd_T28 t195 x37_2).f2), .int .i64 ((rd_T28 t195 x37_2).f3)] 28 (0, 0)) (by (with_reducible repeat (first | refine blk_drewN ?_ _ | refine blk_drew ?_ | refine blk_alloc ?_ _)); exact BK201.out) hb); have n4_ := Aside0.mk (below_step (by repeat (first | (with_reducible first | exact HB.out | apply below_alloc | apply pw_below_drewN | apply below_drew1 | refine below_set ?_ GE201.out) | exact HB.out)) hb); clear HO_5; clear HO_35; clear BK201; clear HB; have HO_5 := n0_; have HO_35 := n1_; have HO206 := n2_; have BK201 := n3_; have HB := n4_; clear n0_ n1_ n2_ n3_ n4_; clear hb ho44; have p207 : 0 ≤ (x37_2 : Int) := of_decide_eq_true (by first | (with_reducible assumption) | assumption); have q207 : x37_2 < (l1.length : Int) := of_decide_eq_true (by first | (with_reducible assumption) | assumption); obtain ⟨ad207, e207, hx207_0⟩ := Kd.at_int HR1.out x37_2 p207 q207; cases e207; replace hx207_0 := (HB.out.cell (World.block_lt_of_cell? w _ hx207_0)).trans hx207_0; replace p207 := eq_true p207; replace q207 := eq_true q207; obtain ⟨Ao45, co45, eo45⟩ := Kd.R_slice HO206.out; subst eo45; have p208 : 0 ≤ ((ji37) : Int) := of_decide_eq_true (by first | (with_reducible assumption) | assumption); have q208 : (ji37) < (y204.length : Int) := of_decide_eq_true (by first | (with_reducible assumption) | assumption); obtain ⟨ad208, e208, hx208_0⟩ := Kd.at_string (Kd.R_reads' HO206.out).2.2 (ji37) p208 q208; cases e208; replace p208 := eq_true p208; replace q208 := eq_true q208; have hcz46_0 : w43.cell? ⟨gb201, 0, none⟩ = some (.int .i64 ((rd_T28 t195 x37_2).f0)) := (blk_cell BK201.out 0).trans rfl; have hcz46_1 : w43.cell? ⟨gb201, 1, none⟩ = some (.string ((rd_T28 t195 x37_2).f1)) := (blk_cell BK201.out 1).trans rfl; have hcz46_2 : w43.cell? ⟨gb201, 2, none⟩ = some (.int .i64 ((rd_T28 t195 x37_2).f2)) := (blk_cell BK201.out 2).trans rfl; have hcz46_3 : w43.cell? ⟨gb201, 3, none⟩ = some (.int .i64 ((rd_T28 t195 x37_2).f3)) := (blk_cell BK201.out 3).trans rfl; have hfz46_0 := blk_frozen BK201.out 0; have hfz46_1 := blk_frozen BK201.out 1; have hfz46_2 := blk_frozen BK201.out 2; have hfz46_3 := blk_frozen BK201.out 3) | ((with_reducible refine gate_callee (f := 10) rfl ?_); refine goesL_ (some 71) rfl rfl Try.func10 (by kernel_rfl) rfl #[.agg #[.int .i64 ((rd_T28 t195 x37_2).f0), .string ((rd_T28 t195 x37_2).f1), .int .i64 ((rd_T28 t195 x37_2).f2), .int .i64 ((rd_T28 t195 x37_2).f3)]] rfl (by (try simp only [List.map_toArray, List.map_cons, List.map_nil]); first | done | rfl | (simp only [List.length_drop, List.length_take]; rfl)) ?_; (with_reducible refine (lexer_Spell.calls ((rd_T28 t195 x37_2).f0) ((rd_T28 t195 x37_2).f1) ((rd_T28 t195 x37_2).f2) ((rd_T28 t195 x37_2).f3) t209 _ A41.out).mono ?_); rintro e w47 ⟨rfl, hb⟩; refine ⟨_, rfl, ?_⟩; have n0_ := Aside0.mk (Kd.R_below (by (with_reducible repeat (first | apply Kd.R_alloc | apply Kd.R_drewN | apply Kd.R_drew)); exact HO_5.out) hb); have n1_ := Aside0.mk (Kd.R_below (by (with_reducible repeat (first | apply Kd.R_alloc | apply Kd.R_drewN | apply Kd.R_drew)); exact HO_35.out) hb); have n2_ := Aside0.mk (Kd.R_below (by (with_reducible repeat (first | apply Kd.R_alloc | apply Kd.R_drewN | apply Kd.R_drew)); exact HO206.out) hb); have n3_ := Aside0.mk (blk_below (g := gb201) (o := .cells #[.int .i64 ((rd_T28 t195 x37_2).f0), .string ((rd_T28 t195 x37_2).f1), .int .i64 ((rd_T28 t195 x37_2).f2), .int .i64 ((rd_T28 t195 x37_2).f3)] 28 (0, 0)) (by (with_reducible repeat (first | refine blk_drewN ?_ _ | refine blk_drew ?_ | refine blk_alloc ?_ _)); exact BK201.out) hb); have n4_ := Aside0.mk (below_step (by repeat (first | (with_reducible first | exact HB.out | apply below_alloc | apply pw_below_drewN | apply below_drew1 | refine below_set ?_ GE201.out) | exact HB.out)) hb); clear HO_5; clear HO_35; clear HO206; clear BK201; clear HB; have HO_5 := n0_; have HO_35 := n1_; have HO206 := n2_; have BK201 := n3_; have HB := n4_; clear n0_ n1_ n2_ n3_ n4_; (try clear hb); (try clear hb2); (try clear hk); (try clear hi)))
                                        go_roundg kj19
                                        case measure => have := HJ2.out; have := HK2.out; have := HJ19.out; omega
                                        case rel => exact ⟨(((x8_2 ++ (⟨#[32]⟩ : ByteArray)) ++ (rdOf ByteArray.empty y204 (ji37))) ++ t209), (wrap64 (x37_2 + 1)), (by first | rfl | (simp; done) | (simp only [← hji37] <;> (first | rfl | simp)) | (simp [*]; done)), (by first | rfl | (simp; done) | (simp [*]; done)), H', ⟨by have := HJ2.out; have := HK2.out; have := HJ19.out; omega⟩, ⟨by (with_reducible repeat (first | apply Kd.R_alloc | apply Kd.R_drewN | apply Kd.R_drew)); exact Kd.R_mono HO_5.out (fun _ hk => trivial)⟩, ⟨by (with_reducible repeat (first | apply Kd.R_alloc | apply Kd.R_drewN | apply Kd.R_drew)); exact Kd.R_mono HO_35.out (fun _ hk => trivial)⟩, ⟨by repeat (first | (with_reducible first | exact HB.out | apply below_alloc | apply pw_below_drewN | apply below_drew1 | refine below_set ?_ GE201.out) | exact HB.out)⟩⟩
                                      · rw [if_neg c42] at H
                                        exact absurd H (by simp)
                                    · rw [if_neg c40] at H
                                      exact absurd H (by simp)
                                  · rw [if_neg c39] at H
                                    exact absurd H (by simp)
                                · rw [if_neg c38] at H
                                  exact absurd H (by simp)
                              · rw [if_neg c36] at H
                                exact absurd H (by simp)
                            · rw [if_neg c35] at H
                              have c35b0 : decide (x37_2 < (l1.length : Int)) = false := decide_eq_false c35
                              clear c35
                              replace H := Option.bind_eq_some_iff.mp H
                              obtain ⟨t210, A480, H⟩ := H
                              replace H : (if (x8_2 ++ (⟨#[32]⟩ : ByteArray)).size + t210.size ≤ 9223372036854775807 then (vinculumlaw18_LexerWrites.l0 kj19 l1 t195 ((x8_2 ++ (⟨#[32]⟩ : ByteArray)) ++ t210) t195 (t195.length : Int) (wrap64 (x37_2 + 1))) else (none)) = some r := H
                              have A48 := Aside0.mk A480
                              clear A480
                              by_cases c49 : (x8_2 ++ (⟨#[32]⟩ : ByteArray)).size + t210.size ≤ 9223372036854775807
                              · rw [if_pos c49] at H
                                have c49b0 := eq_true c49
                                have c49b1 : decide ((x8_2 ++ (⟨#[32]⟩ : ByteArray)).size + t210.size ≤ 9223372036854775807) = true := decide_eq_true c49
                                try have c49b2 : (9223372036854775807 < (x8_2 ++ (⟨#[32]⟩ : ByteArray)).size + t210.size) = False := eq_false (Nat.not_lt.2 c49)
                                try have c49b3 : (9223372036854775807 < x8_2.size + 1 + t210.size) = False := eq_false (by have h_ := c49; (try simp only [ByteArray.size_append] at h_); (try change x8_2.size + 1 + t210.size ≤ 9223372036854775807 at h_); omega)
                                have H' := Aside0.mk H
                                clear H
                                have hcz50_0 : wc.cell? ⟨gb201, 0, none⟩ = some (.int .i64 ((rd_T28 t195 x37_2).f0)) := (blk_cell BK201.out 0).trans rfl
                                have hcz50_1 : wc.cell? ⟨gb201, 1, none⟩ = some (.string ((rd_T28 t195 x37_2).f1)) := (blk_cell BK201.out 1).trans rfl
                                have hcz50_2 : wc.cell? ⟨gb201, 2, none⟩ = some (.int .i64 ((rd_T28 t195 x37_2).f2)) := (blk_cell BK201.out 2).trans rfl
                                have hcz50_3 : wc.cell? ⟨gb201, 3, none⟩ = some (.int .i64 ((rd_T28 t195 x37_2).f3)) := (blk_cell BK201.out 3).trans rfl
                                have hfz50_0 := blk_frozen BK201.out 0
                                have hfz50_1 := blk_frozen BK201.out 1
                                have hfz50_2 := blk_frozen BK201.out 2
                                have hfz50_3 := blk_frozen BK201.out 3
                                go_wp2_with (first | ((with_reducible refine gate_callee (f := 10) rfl ?_); refine goesL_ (some 71) rfl rfl Try.func10 (by kernel_rfl) rfl #[.agg #[.int .i64 ((rd_T28 t195 x37_2).f0), .string ((rd_T28 t195 x37_2).f1), .int .i64 ((rd_T28 t195 x37_2).f2), .int .i64 ((rd_T28 t195 x37_2).f3)]] rfl (by (try simp only [List.map_toArray, List.map_cons, List.map_nil]); first | done | rfl | (simp only [List.length_drop, List.length_take]; rfl)) ?_; (with_reducible refine (lexer_Spell.calls ((rd_T28 t195 x37_2).f0) ((rd_T28 t195 x37_2).f1) ((rd_T28 t195 x37_2).f2) ((rd_T28 t195 x37_2).f3) t210 _ A48.out).mono ?_); rintro e w51 ⟨rfl, hb⟩; refine ⟨_, rfl, ?_⟩; have n0_ := Aside0.mk (Kd.R_below (by (with_reducible repeat (first | apply Kd.R_alloc | apply Kd.R_drewN | apply Kd.R_drew)); exact HO_5.out) hb); have n1_ := Aside0.mk (Kd.R_below (by (with_reducible repeat (first | apply Kd.R_alloc | apply Kd.R_drewN | apply Kd.R_drew)); exact HO_35.out) hb); have n2_ := Aside0.mk (blk_below (g := gb201) (o := .cells #[.int .i64 ((rd_T28 t195 x37_2).f0), .string ((rd_T28 t195 x37_2).f1), .int .i64 ((rd_T28 t195 x37_2).f2), .int .i64 ((rd_T28 t195 x37_2).f3)] 28 (0, 0)) (by (with_reducible repeat (first | refine blk_drewN ?_ _ | refine blk_drew ?_ | refine blk_alloc ?_ _)); exact BK201.out) hb); have n3_ := Aside0.mk (below_step (by repeat (first | (with_reducible first | exact HB.out | apply below_alloc | apply pw_below_drewN | apply below_drew1 | refine below_set ?_ GE201.out) | exact HB.out)) hb); clear HO_5; clear HO_35; clear BK201; clear HB; have HO_5 := n0_; have HO_35 := n1_; have BK201 := n2_; have HB := n3_; clear n0_ n1_ n2_ n3_; (try clear hb); (try clear hb2); (try clear hk); (try clear hi)))
                                go_roundg kj19
                                case measure => have := HJ2.out; have := HK2.out; have := HJ19.out; omega
                                case rel => exact ⟨((x8_2 ++ (⟨#[32]⟩ : ByteArray)) ++ t210), (wrap64 (x37_2 + 1)), (by first | rfl | (simp; done) | (simp [*]; done)), (by first | rfl | (simp; done) | (simp [*]; done)), H', ⟨by have := HJ2.out; have := HK2.out; have := HJ19.out; omega⟩, ⟨by (with_reducible repeat (first | apply Kd.R_alloc | apply Kd.R_drewN | apply Kd.R_drew)); exact Kd.R_mono HO_5.out (fun _ hk => trivial)⟩, ⟨by (with_reducible repeat (first | apply Kd.R_alloc | apply Kd.R_drewN | apply Kd.R_drew)); exact Kd.R_mono HO_35.out (fun _ hk => trivial)⟩, ⟨by repeat (first | (with_reducible first | exact HB.out | apply below_alloc | apply pw_below_drewN | apply below_drew1 | refine below_set ?_ GE201.out) | exact HB.out)⟩⟩
                              · rw [if_neg c49] at H
                                exact absurd H (by simp)
                          · rw [if_neg c34] at H
                            exact absurd H (by simp)
                        · replace c33 := Bool.eq_false_iff.mpr c33
                          subst c33
                          have H1 : (if x37_2 < (l1.length : Int) then ((some (([(⟨#[]⟩ : ByteArray), (⟨#[]⟩ : ByteArray), (⟨#[32]⟩ : ByteArray), (⟨#[9, 10]⟩ : ByteArray), (⟨#[32, 32]⟩ : ByteArray)] : List ByteArray) : List ByteArray)).bind fun y211 => (if 0 ≤ x37_2 then (if 0 ≤ (Int.tmod (rd l1 x37_2) 5) then (if (Int.tmod (rd l1 x37_2) 5) < (y211.length : Int) then (if x8_2.size + (rdOf ByteArray.empty y211 (Int.tmod (rd l1 x37_2) 5)).size ≤ 9223372036854775807 then ((lexer_Spell.f ((rd_T28 t195 x37_2).f0) ((rd_T28 t195 x37_2).f1) ((rd_T28 t195 x37_2).f2) ((rd_T28 t195 x37_2).f3)).bind fun t216 => (if (x8_2 ++ (rdOf ByteArray.empty y211 (Int.tmod (rd l1 x37_2) 5))).size + t216.size ≤ 9223372036854775807 then (vinculumlaw18_LexerWrites.l0 kj19 l1 t195 ((x8_2 ++ (rdOf ByteArray.empty y211 (Int.tmod (rd l1 x37_2) 5))) ++ t216) t195 (t195.length : Int) (wrap64 (x37_2 + 1))) else (none))) else (none)) else (none)) else (none)) else (none))) else ((lexer_Spell.f ((rd_T28 t195 x37_2).f0) ((rd_T28 t195 x37_2).f1) ((rd_T28 t195 x37_2).f2) ((rd_T28 t195 x37_2).f3)).bind fun t217 => (if x8_2.size + t217.size ≤ 9223372036854775807 then (vinculumlaw18_LexerWrites.l0 kj19 l1 t195 (x8_2 ++ t217) t195 (t195.length : Int) (wrap64 (x37_2 + 1))) else (none)))) = some r := by rw [if_neg (show ¬ (false = true) by decide)] at H; exact H
                          clear H
                          have H := H1
                          clear H1
                          by_cases c52 : x37_2 < (l1.length : Int)
                          · rw [if_pos c52] at H
                            have c52b0 : decide (x37_2 < (l1.length : Int)) = true := decide_eq_true c52
                            clear c52
                            obtain ⟨y211, hy211⟩ : ∃ y_ : List ByteArray, y_ = (([(⟨#[]⟩ : ByteArray), (⟨#[]⟩ : ByteArray), (⟨#[32]⟩ : ByteArray), (⟨#[9, 10]⟩ : ByteArray), (⟨#[32, 32]⟩ : ByteArray)] : List ByteArray)) := ⟨_, rfl⟩
                            replace H : (if 0 ≤ x37_2 then (if 0 ≤ (Int.tmod (rd l1 x37_2) 5) then (if (Int.tmod (rd l1 x37_2) 5) < (y211.length : Int) then (if x8_2.size + (rdOf ByteArray.empty y211 (Int.tmod (rd l1 x37_2) 5)).size ≤ 9223372036854775807 then ((lexer_Spell.f ((rd_T28 t195 x37_2).f0) ((rd_T28 t195 x37_2).f1) ((rd_T28 t195 x37_2).f2) ((rd_T28 t195 x37_2).f3)).bind fun t216 => (if (x8_2 ++ (rdOf ByteArray.empty y211 (Int.tmod (rd l1 x37_2) 5))).size + t216.size ≤ 9223372036854775807 then (vinculumlaw18_LexerWrites.l0 kj19 l1 t195 ((x8_2 ++ (rdOf ByteArray.empty y211 (Int.tmod (rd l1 x37_2) 5))) ++ t216) t195 (t195.length : Int) (wrap64 (x37_2 + 1))) else (none))) else (none)) else (none)) else (none)) else (none)) = some r := by first | (rw [hy211]; with_reducible exact H) | (have H2_ := (Option.bind_some _ _).symm.trans H; rw [hy211]; with_reducible exact H2_) | (have H2_ := (Option.bind_some _ _).symm.trans H; with_reducible exact H2_) | with_reducible exact H | (rw [hy211]; exact H) | exact H
                            have Ny211 := Aside0.mk hy211
                            clear hy211
                            by_cases c53 : 0 ≤ x37_2
                            · rw [if_pos c53] at H
                              have c53b0 : decide (0 ≤ x37_2) = true := decide_eq_true c53
                              clear c53
                              obtain ⟨ji54, hji54⟩ : ∃ j_ : Int, (Int.tmod (rd l1 x37_2) 5) = j_ := ⟨_, rfl⟩
                              replace H : (if 0 ≤ (ji54) then (if (ji54) < (y211.length : Int) then (if x8_2.size + (rdOf ByteArray.empty y211 (ji54)).size ≤ 9223372036854775807 then ((lexer_Spell.f ((rd_T28 t195 x37_2).f0) ((rd_T28 t195 x37_2).f1) ((rd_T28 t195 x37_2).f2) ((rd_T28 t195 x37_2).f3)).bind fun t216 => (if (x8_2 ++ (rdOf ByteArray.empty y211 (ji54))).size + t216.size ≤ 9223372036854775807 then (vinculumlaw18_LexerWrites.l0 kj19 l1 t195 ((x8_2 ++ (rdOf ByteArray.empty y211 (ji54))) ++ t216) t195 (t195.length : Int) (wrap64 (x37_2 + 1))) else (none))) else (none)) else (none)) else (none)) = some r := by first | (rw [hji54] at H; exact H) | (simp only [hji54] at H ⊢; exact H)
                              by_cases c55 : 0 ≤ (ji54)
                              · rw [if_pos c55] at H
                                have c55b0 : decide (0 ≤ (ji54)) = true := decide_eq_true c55
                                clear c55
                                by_cases c56 : (ji54) < (y211.length : Int)
                                · rw [if_pos c56] at H
                                  have c56b0 : decide ((ji54) < (y211.length : Int)) = true := decide_eq_true c56
                                  clear c56
                                  by_cases c57 : x8_2.size + (rdOf ByteArray.empty y211 (ji54)).size ≤ 9223372036854775807
                                  · rw [if_pos c57] at H
                                    have c57b0 := eq_true c57
                                    have c57b1 : decide (x8_2.size + (rdOf ByteArray.empty y211 (ji54)).size ≤ 9223372036854775807) = true := decide_eq_true c57
                                    try have c57b2 : (9223372036854775807 < x8_2.size + (rdOf ByteArray.empty y211 (ji54)).size) = False := eq_false (Nat.not_lt.2 c57)
                                    replace H := Option.bind_eq_some_iff.mp H
                                    obtain ⟨t216, A580, H⟩ := H
                                    replace H : (if (x8_2 ++ (rdOf ByteArray.empty y211 (ji54))).size + t216.size ≤ 9223372036854775807 then (vinculumlaw18_LexerWrites.l0 kj19 l1 t195 ((x8_2 ++ (rdOf ByteArray.empty y211 (ji54))) ++ t216) t195 (t195.length : Int) (wrap64 (x37_2 + 1))) else (none)) = some r := H
                                    have A58 := Aside0.mk A580
                                    clear A580
                                    by_cases c59 : (x8_2 ++ (rdOf ByteArray.empty y211 (ji54))).size + t216.size ≤ 9223372036854775807
                                    · rw [if_pos c59] at H
                                      have c59b0 := eq_true c59
                                      have c59b1 : decide ((x8_2 ++ (rdOf ByteArray.empty y211 (ji54))).size + t216.size ≤ 9223372036854775807) = true := decide_eq_true c59
                                      try have c59b2 : (9223372036854775807 < (x8_2 ++ (rdOf ByteArray.empty y211 (ji54))).size + t216.size) = False := eq_false (Nat.not_lt.2 c59)
                                      try have c59b3 : (9223372036854775807 < x8_2.size + (rdOf ByteArray.empty y211 (ji54)).size + t216.size) = False := eq_false (by have h_ := c59; (try simp only [ByteArray.size_append] at h_); (try change x8_2.size + (rdOf ByteArray.empty y211 (ji54)).size + t216.size ≤ 9223372036854775807 at h_); omega)
                                      have H' := Aside0.mk H
                                      clear H
                                      go_wp2_with (first | ((with_reducible refine gate_dst (N := 60) rfl ?_); (try (refine gate_guard (by rfl) ?_; dsimp only)); refine Kd.R_lit Kd.string _ 9 ?hg (N := 60) ?hd (xs := ([(⟨#[]⟩ : ByteArray), (⟨#[]⟩ : ByteArray), (⟨#[32]⟩ : ByteArray), (⟨#[9, 10]⟩ : ByteArray), (⟨#[32, 32]⟩ : ByteArray)] : List ByteArray)) (inner := [.string (⟨#[]⟩ : ByteArray), .string (⟨#[]⟩ : ByteArray), .string (⟨#[32]⟩ : ByteArray), .string (⟨#[9, 10]⟩ : ByteArray), .string (⟨#[32, 32]⟩ : ByteArray)]) (ok := fun _ => True) (okp := fun _ => True) ?hr ?hp (fun _ hk => hk) trivial (Below.refl _ _) (Nat.le_refl _) (by simp) ?_; (case hd => rfl); (case hg => rfl); (case hr => first | (go_simp; done) | (go_simp; rfl)); (case hp => exact (Reps.one (show Kd.M Kd.string _ _ _ (⟨#[]⟩ : ByteArray) [.string (⟨#[]⟩ : ByteArray)] from rfl) (Reps.one (show Kd.M Kd.string _ _ _ (⟨#[]⟩ : ByteArray) [.string (⟨#[]⟩ : ByteArray)] from rfl) (Reps.one (show Kd.M Kd.string _ _ _ (⟨#[32]⟩ : ByteArray) [.string (⟨#[32]⟩ : ByteArray)] from rfl) (Reps.one (show Kd.M Kd.string _ _ _ (⟨#[9, 10]⟩ : ByteArray) [.string (⟨#[9, 10]⟩ : ByteArray)] from rfl) (Reps.one (show Kd.M Kd.string _ _ _ (⟨#[32, 32]⟩ : ByteArray) [.string (⟨#[32, 32]⟩ : ByteArray)] from rfl) (Reps.none _ _))))))); intro v212 w60 ho61 hb hg_ hnew_; clear hg_ hnew_; (first | rw [← Ny211.out] at ho61 | (simp only [Int.reduceToNat] at ho61; rw [← Ny211.out] at ho61)); have n0_ := Aside0.mk (Kd.R_below (by (with_reducible repeat (first | apply Kd.R_alloc | apply Kd.R_drewN | apply Kd.R_drew)); exact HO_5.out) hb); have n1_ := Aside0.mk (Kd.R_below (by (with_reducible repeat (first | apply Kd.R_alloc | apply Kd.R_drewN | apply Kd.R_drew)); exact HO_35.out) hb); have n2_ := Aside0.mk (Kd.R_lower ho61 (below_size (by repeat (first | (with_reducible first | exact HB.out | apply below_alloc | apply pw_below_drewN | apply below_drew1 | refine below_set ?_ GE201.out) | exact HB.out)))); have n3_ := Aside0.mk (blk_below (g := gb201) (o := .cells #[.int .i64 ((rd_T28 t195 x37_2).f0), .string ((rd_T28 t195 x37_2).f1), .int .i64 ((rd_T28 t195 x37_2).f2), .int .i64 ((rd_T28 t195 x37_2).f3)] 28 (0, 0)) (by (with_reducible repeat (first | refine blk_drewN ?_ _ | refine blk_drew ?_ | refine blk_alloc ?_ _)); exact BK201.out) hb); have n4_ := Aside0.mk (below_step (by repeat (first | (with_reducible first | exact HB.out | apply below_alloc | apply pw_below_drewN | apply below_drew1 | refine below_set ?_ GE201.out) | exact HB.out)) hb); clear HO_5; clear HO_35; clear BK201; clear HB; have HO_5 := n0_; have HO_35 := n1_; have HO213 := n2_; have BK201 := n3_; have HB := n4_; clear n0_ n1_ n2_ n3_ n4_; clear hb ho61; have p214 : 0 ≤ (x37_2 : Int) := of_decide_eq_true (by first | (with_reducible assumption) | assumption); have q214 : x37_2 < (l1.length : Int) := of_decide_eq_true (by first | (with_reducible assumption) | assumption); obtain ⟨ad214, e214, hx214_0⟩ := Kd.at_int HR1.out x37_2 p214 q214; cases e214; replace hx214_0 := (HB.out.cell (World.block_lt_of_cell? w _ hx214_0)).trans hx214_0; replace p214 := eq_true p214; replace q214 := eq_true q214; obtain ⟨Ao62, co62, eo62⟩ := Kd.R_slice HO213.out; subst eo62; have p215 : 0 ≤ ((ji54) : Int) := of_decide_eq_true (by first | (with_reducible assumption) | assumption); have q215 : (ji54) < (y211.length : Int) := of_decide_eq_true (by first | (with_reducible assumption) | assumption); obtain ⟨ad215, e215, hx215_0⟩ := Kd.at_string (Kd.R_reads' HO213.out).2.2 (ji54) p215 q215; cases e215; replace p215 := eq_true p215; replace q215 := eq_true q215; have hcz63_0 : w60.cell? ⟨gb201, 0, none⟩ = some (.int .i64 ((rd_T28 t195 x37_2).f0)) := (blk_cell BK201.out 0).trans rfl; have hcz63_1 : w60.cell? ⟨gb201, 1, none⟩ = some (.string ((rd_T28 t195 x37_2).f1)) := (blk_cell BK201.out 1).trans rfl; have hcz63_2 : w60.cell? ⟨gb201, 2, none⟩ = some (.int .i64 ((rd_T28 t195 x37_2).f2)) := (blk_cell BK201.out 2).trans rfl; have hcz63_3 : w60.cell? ⟨gb201, 3, none⟩ = some (.int .i64 ((rd_T28 t195 x37_2).f3)) := (blk_cell BK201.out 3).trans rfl; have hfz63_0 := blk_frozen BK201.out 0; have hfz63_1 := blk_frozen BK201.out 1; have hfz63_2 := blk_frozen BK201.out 2; have hfz63_3 := blk_frozen BK201.out 3) | ((with_reducible refine gate_callee (f := 10) rfl ?_); refine goesL_ (some 71) rfl rfl Try.func10 (by kernel_rfl) rfl #[.agg #[.int .i64 ((rd_T28 t195 x37_2).f0), .string ((rd_T28 t195 x37_2).f1), .int .i64 ((rd_T28 t195 x37_2).f2), .int .i64 ((rd_T28 t195 x37_2).f3)]] rfl (by (try simp only [List.map_toArray, List.map_cons, List.map_nil]); first | done | rfl | (simp only [List.length_drop, List.length_take]; rfl)) ?_; (with_reducible refine (lexer_Spell.calls ((rd_T28 t195 x37_2).f0) ((rd_T28 t195 x37_2).f1) ((rd_T28 t195 x37_2).f2) ((rd_T28 t195 x37_2).f3) t216 _ A58.out).mono ?_); rintro e w64 ⟨rfl, hb⟩; refine ⟨_, rfl, ?_⟩; have n0_ := Aside0.mk (Kd.R_below (by (with_reducible repeat (first | apply Kd.R_alloc | apply Kd.R_drewN | apply Kd.R_drew)); exact HO_5.out) hb); have n1_ := Aside0.mk (Kd.R_below (by (with_reducible repeat (first | apply Kd.R_alloc | apply Kd.R_drewN | apply Kd.R_drew)); exact HO_35.out) hb); have n2_ := Aside0.mk (Kd.R_below (by (with_reducible repeat (first | apply Kd.R_alloc | apply Kd.R_drewN | apply Kd.R_drew)); exact HO213.out) hb); have n3_ := Aside0.mk (blk_below (g := gb201) (o := .cells #[.int .i64 ((rd_T28 t195 x37_2).f0), .string ((rd_T28 t195 x37_2).f1), .int .i64 ((rd_T28 t195 x37_2).f2), .int .i64 ((rd_T28 t195 x37_2).f3)] 28 (0, 0)) (by (with_reducible repeat (first | refine blk_drewN ?_ _ | refine blk_drew ?_ | refine blk_alloc ?_ _)); exact BK201.out) hb); have n4_ := Aside0.mk (below_step (by repeat (first | (with_reducible first | exact HB.out | apply below_alloc | apply pw_below_drewN | apply below_drew1 | refine below_set ?_ GE201.out) | exact HB.out)) hb); clear HO_5; clear HO_35; clear HO213; clear BK201; clear HB; have HO_5 := n0_; have HO_35 := n1_; have HO213 := n2_; have BK201 := n3_; have HB := n4_; clear n0_ n1_ n2_ n3_ n4_; (try clear hb); (try clear hb2); (try clear hk); (try clear hi)))
                                      go_roundg kj19
                                      case measure => have := HJ2.out; have := HK2.out; have := HJ19.out; omega
                                      case rel => exact ⟨((x8_2 ++ (rdOf ByteArray.empty y211 (ji54))) ++ t216), (wrap64 (x37_2 + 1)), (by first | rfl | (simp; done) | (simp only [← hji54] <;> (first | rfl | simp)) | (simp [*]; done)), (by first | rfl | (simp; done) | (simp [*]; done)), H', ⟨by have := HJ2.out; have := HK2.out; have := HJ19.out; omega⟩, ⟨by (with_reducible repeat (first | apply Kd.R_alloc | apply Kd.R_drewN | apply Kd.R_drew)); exact Kd.R_mono HO_5.out (fun _ hk => trivial)⟩, ⟨by (with_reducible repeat (first | apply Kd.R_alloc | apply Kd.R_drewN | apply Kd.R_drew)); exact Kd.R_mono HO_35.out (fun _ hk => trivial)⟩, ⟨by repeat (first | (with_reducible first | exact HB.out | apply below_alloc | apply pw_below_drewN | apply below_drew1 | refine below_set ?_ GE201.out) | exact HB.out)⟩⟩
                                    · rw [if_neg c59] at H
                                      exact absurd H (by simp)
                                  · rw [if_neg c57] at H
                                    exact absurd H (by simp)
                                · rw [if_neg c56] at H
                                  exact absurd H (by simp)
                              · rw [if_neg c55] at H
                                exact absurd H (by simp)
                            · rw [if_neg c53] at H
                              exact absurd H (by simp)
                          · rw [if_neg c52] at H
                            have c52b0 : decide (x37_2 < (l1.length : Int)) = false := decide_eq_false c52
                            clear c52
                            replace H := Option.bind_eq_some_iff.mp H
                            obtain ⟨t217, A650, H⟩ := H
                            replace H : (if x8_2.size + t217.size ≤ 9223372036854775807 then (vinculumlaw18_LexerWrites.l0 kj19 l1 t195 (x8_2 ++ t217) t195 (t195.length : Int) (wrap64 (x37_2 + 1))) else (none)) = some r := H
                            have A65 := Aside0.mk A650
                            clear A650
                            by_cases c66 : x8_2.size + t217.size ≤ 9223372036854775807
                            · rw [if_pos c66] at H
                              have c66b0 := eq_true c66
                              have c66b1 : decide (x8_2.size + t217.size ≤ 9223372036854775807) = true := decide_eq_true c66
                              try have c66b2 : (9223372036854775807 < x8_2.size + t217.size) = False := eq_false (Nat.not_lt.2 c66)
                              have H' := Aside0.mk H
                              clear H
                              have hcz67_0 : wc.cell? ⟨gb201, 0, none⟩ = some (.int .i64 ((rd_T28 t195 x37_2).f0)) := (blk_cell BK201.out 0).trans rfl
                              have hcz67_1 : wc.cell? ⟨gb201, 1, none⟩ = some (.string ((rd_T28 t195 x37_2).f1)) := (blk_cell BK201.out 1).trans rfl
                              have hcz67_2 : wc.cell? ⟨gb201, 2, none⟩ = some (.int .i64 ((rd_T28 t195 x37_2).f2)) := (blk_cell BK201.out 2).trans rfl
                              have hcz67_3 : wc.cell? ⟨gb201, 3, none⟩ = some (.int .i64 ((rd_T28 t195 x37_2).f3)) := (blk_cell BK201.out 3).trans rfl
                              have hfz67_0 := blk_frozen BK201.out 0
                              have hfz67_1 := blk_frozen BK201.out 1
                              have hfz67_2 := blk_frozen BK201.out 2
                              have hfz67_3 := blk_frozen BK201.out 3
                              go_wp2_with (first | ((with_reducible refine gate_callee (f := 10) rfl ?_); refine goesL_ (some 71) rfl rfl Try.func10 (by kernel_rfl) rfl #[.agg #[.int .i64 ((rd_T28 t195 x37_2).f0), .string ((rd_T28 t195 x37_2).f1), .int .i64 ((rd_T28 t195 x37_2).f2), .int .i64 ((rd_T28 t195 x37_2).f3)]] rfl (by (try simp only [List.map_toArray, List.map_cons, List.map_nil]); first | done | rfl | (simp only [List.length_drop, List.length_take]; rfl)) ?_; (with_reducible refine (lexer_Spell.calls ((rd_T28 t195 x37_2).f0) ((rd_T28 t195 x37_2).f1) ((rd_T28 t195 x37_2).f2) ((rd_T28 t195 x37_2).f3) t217 _ A65.out).mono ?_); rintro e w68 ⟨rfl, hb⟩; refine ⟨_, rfl, ?_⟩; have n0_ := Aside0.mk (Kd.R_below (by (with_reducible repeat (first | apply Kd.R_alloc | apply Kd.R_drewN | apply Kd.R_drew)); exact HO_5.out) hb); have n1_ := Aside0.mk (Kd.R_below (by (with_reducible repeat (first | apply Kd.R_alloc | apply Kd.R_drewN | apply Kd.R_drew)); exact HO_35.out) hb); have n2_ := Aside0.mk (blk_below (g := gb201) (o := .cells #[.int .i64 ((rd_T28 t195 x37_2).f0), .string ((rd_T28 t195 x37_2).f1), .int .i64 ((rd_T28 t195 x37_2).f2), .int .i64 ((rd_T28 t195 x37_2).f3)] 28 (0, 0)) (by (with_reducible repeat (first | refine blk_drewN ?_ _ | refine blk_drew ?_ | refine blk_alloc ?_ _)); exact BK201.out) hb); have n3_ := Aside0.mk (below_step (by repeat (first | (with_reducible first | exact HB.out | apply below_alloc | apply pw_below_drewN | apply below_drew1 | refine below_set ?_ GE201.out) | exact HB.out)) hb); clear HO_5; clear HO_35; clear BK201; clear HB; have HO_5 := n0_; have HO_35 := n1_; have BK201 := n2_; have HB := n3_; clear n0_ n1_ n2_ n3_; (try clear hb); (try clear hb2); (try clear hk); (try clear hi)))
                              go_roundg kj19
                              case measure => have := HJ2.out; have := HK2.out; have := HJ19.out; omega
                              case rel => exact ⟨(x8_2 ++ t217), (wrap64 (x37_2 + 1)), (by first | rfl | (simp; done) | (simp [*]; done)), (by first | rfl | (simp; done) | (simp [*]; done)), H', ⟨by have := HJ2.out; have := HK2.out; have := HJ19.out; omega⟩, ⟨by (with_reducible repeat (first | apply Kd.R_alloc | apply Kd.R_drewN | apply Kd.R_drew)); exact Kd.R_mono HO_5.out (fun _ hk => trivial)⟩, ⟨by (with_reducible repeat (first | apply Kd.R_alloc | apply Kd.R_drewN | apply Kd.R_drew)); exact Kd.R_mono HO_35.out (fun _ hk => trivial)⟩, ⟨by repeat (first | (with_reducible first | exact HB.out | apply below_alloc | apply pw_below_drewN | apply below_drew1 | refine below_set ?_ GE201.out) | exact HB.out)⟩⟩
                            · rw [if_neg c66] at H
                              exact absurd H (by simp)
                  · rw [if_neg c19] at H
                    exact absurd H (by simp)
                · rw [if_neg c18] at H
                  exact absurd H (by simp)
              · rw [if_neg c17] at H
                have c17b0 : decide (x37_2 < (t195.length : Int)) = false := decide_eq_false c17
                clear c17
                replace H := Option.bind_eq_some_iff.mp H
                obtain ⟨⟨t218, t219, t220⟩, A690, H⟩ := H
                replace H : (if t220 = 0 then ((vinculumlaw18_from.f k2 t195).bind fun t223 => ((vinculumlaw18_from.f k2 t218).bind fun t226 => ((vinculumref18_Same.f k2 t223 t226 false).bind fun t229 => (some t229)))) else (some false)) = some r := H
                have A69 := Aside0.mk A690
                clear A690
                by_cases c70 : t220 = 0
                · rw [if_pos c70] at H
                  have c70b0 : (t220 == 0) = true := beq_iff_eq.mpr c70
                  have c70b1 : (t220 != 0) = false := bne_eq_false_iff_eq.mpr c70
                  clear c70
                  replace H := Option.bind_eq_some_iff.mp H
                  obtain ⟨t223, A710, H⟩ := H
                  replace H : ((vinculumlaw18_from.f k2 t218).bind fun t226 => ((vinculumref18_Same.f k2 t223 t226 false).bind fun t229 => (some t229))) = some r := H
                  have A71 := Aside0.mk A710
                  clear A710
                  replace H := Option.bind_eq_some_iff.mp H
                  obtain ⟨t226, A720, H⟩ := H
                  replace H : ((vinculumref18_Same.f k2 t223 t226 false).bind fun t229 => (some t229)) = some r := H
                  have A72 := Aside0.mk A720
                  clear A720
                  replace H := Option.bind_eq_some_iff.mp H
                  obtain ⟨t229, A730, H⟩ := H
                  replace H : (some t229) = some r := H
                  have A73 := Aside0.mk A730
                  clear A730
                  obtain rfl := Option.some.inj H
                  go_wp2_with (first | ((with_reducible refine gate_callee (f := 8) rfl ?_); refine goesL_ (some 76) rfl rfl Try.func8 (by kernel_rfl) rfl #[.string x8_2] rfl (by (try simp only [List.map_toArray, List.map_cons, List.map_nil]); first | done | rfl | (simp only [List.length_drop, List.length_take]; rfl)) ?_; (with_reducible refine (lexer_Tokens.calls k2 x8_2 t218 t219 t220 _ A69.out).mono ?_); rintro e w74 ⟨v221, rfl, ho0, hb⟩; refine ⟨_, rfl, ?_⟩; have n0_ := Aside0.mk (Kd.R_elder' (by (with_reducible repeat (first | apply Kd.R_alloc | apply Kd.R_drewN | apply Kd.R_drew)); exact HO_5.out) (Kd.R_base ho0) hb); have n1_ := Aside0.mk (Kd.R_elder' (by (with_reducible repeat (first | apply Kd.R_alloc | apply Kd.R_drewN | apply Kd.R_drew)); exact HO_35.out) (Kd.R_base ho0) hb); have n2_ := Aside0.mk (Kd.R_lower (Kd.R_new' (Kd.R_new' ho0 (Kd.R_lt (by (with_reducible repeat (first | apply Kd.R_alloc | apply Kd.R_drewN | apply Kd.R_drew)); exact HO_5.out))) (Kd.R_lt (by (with_reducible repeat (first | apply Kd.R_alloc | apply Kd.R_drewN | apply Kd.R_drew)); exact HO_35.out))) (below_size (by repeat (first | (with_reducible first | exact HB.out | apply below_alloc | apply pw_below_drewN | apply below_drew1) | exact HB.out)))); have n3_ := Aside0.mk (below_step (by repeat (first | (with_reducible first | exact HB.out | apply below_alloc | apply pw_below_drewN | apply below_drew1) | exact HB.out)) hb); clear HO_5; clear HO_35; clear HB; have HO_5 := n0_; have HO_35 := n1_; have HO222 := n2_; have HB := n3_; clear n0_ n1_ n2_ n3_; (try clear hb); (try clear hb2); (try clear hk); (try clear hi); (try clear ho0)) | (go_at_call 15; (with_reducible refine (vinculumlaw18_from.calls k2 _ _ t195 t223 _ ?side1 ?side2 A71.out).mono ?_); (case side1 => repeat (first | exact (Kd.R_reads' HO_5.out).2.2 | (with_reducible refine Kd.C_alloc ?_ _) | (with_reducible refine Kd.C_drewN ?_ _) | (with_reducible refine Kd.C_drew ?_))); (case side2 => exact (Kd.R_reads' HO_5.out).2.1); rintro e w75 ⟨v224, rfl, ho0, hb⟩; have n0_ := Aside0.mk (Kd.R_below (by (with_reducible repeat (first | apply Kd.R_alloc | apply Kd.R_drewN | apply Kd.R_drew)); exact HO_5.out) hb); have n1_ := Aside0.mk (Kd.R_below (by (with_reducible repeat (first | apply Kd.R_alloc | apply Kd.R_drewN | apply Kd.R_drew)); exact HO_35.out) hb); have n2_ := Aside0.mk (Kd.R_below (by (with_reducible repeat (first | apply Kd.R_alloc | apply Kd.R_drewN | apply Kd.R_drew)); exact HO222.out) hb); have n3_ := Aside0.mk (Kd.R_lower ho0 (below_size (by repeat (first | (with_reducible first | exact HB.out | apply below_alloc | apply pw_below_drewN | apply below_drew1) | exact HB.out)))); have n4_ := Aside0.mk (below_step (by repeat (first | (with_reducible first | exact HB.out | apply below_alloc | apply pw_below_drewN | apply below_drew1) | exact HB.out)) hb); clear HO_5; clear HO_35; clear HO222; clear HB; have HO_5 := n0_; have HO_35 := n1_; have HO222 := n2_; have HO225 := n3_; have HB := n4_; clear n0_ n1_ n2_ n3_ n4_; (try clear hb); (try clear hb2); (try clear hk); (try clear hi); (try clear ho0); obtain ⟨Ao76, co76, eo76⟩ := Kd.R_slice HO222.out; subst eo76) | (go_at_call 15; (with_reducible refine (vinculumlaw18_from.calls k2 _ _ t218 t226 _ ?side1 ?side2 A72.out).mono ?_); (case side1 => repeat (first | exact (Kd.R_reads' HO222.out).2.2 | (with_reducible refine Kd.C_alloc ?_ _) | (with_reducible refine Kd.C_drewN ?_ _) | (with_reducible refine Kd.C_drew ?_))); (case side2 => exact (Kd.R_reads' HO222.out).2.1); rintro e w77 ⟨v227, rfl, ho0, hb⟩; have n0_ := Aside0.mk (Kd.R_below (by (with_reducible repeat (first | apply Kd.R_alloc | apply Kd.R_drewN | apply Kd.R_drew)); exact HO_5.out) hb); have n1_ := Aside0.mk (Kd.R_below (by (with_reducible repeat (first | apply Kd.R_alloc | apply Kd.R_drewN | apply Kd.R_drew)); exact HO_35.out) hb); have n2_ := Aside0.mk (Kd.R_below (by (with_reducible repeat (first | apply Kd.R_alloc | apply Kd.R_drewN | apply Kd.R_drew)); exact HO222.out) hb); have n3_ := Aside0.mk (Kd.R_elder' (by (with_reducible repeat (first | apply Kd.R_alloc | apply Kd.R_drewN | apply Kd.R_drew)); exact HO225.out) (Kd.R_base ho0) hb); have n4_ := Aside0.mk (Kd.R_lower (Kd.R_new' ho0 (Kd.R_lt (by (with_reducible repeat (first | apply Kd.R_alloc | apply Kd.R_drewN | apply Kd.R_drew)); exact HO225.out))) (below_size (by repeat (first | (with_reducible first | exact HB.out | apply below_alloc | apply pw_below_drewN | apply below_drew1) | exact HB.out)))); have n5_ := Aside0.mk (below_step (by repeat (first | (with_reducible first | exact HB.out | apply below_alloc | apply pw_below_drewN | apply below_drew1) | exact HB.out)) hb); clear HO_5; clear HO_35; clear HO222; clear HO225; clear HB; have HO_5 := n0_; have HO_35 := n1_; have HO222 := n2_; have HO225 := n3_; have HO228 := n4_; have HB := n5_; clear n0_ n1_ n2_ n3_ n4_ n5_; (try clear hb); (try clear hb2); (try clear hk); (try clear hi); (try clear ho0); obtain ⟨Ao78, co78, eo78⟩ := Kd.R_slice HO225.out; subst eo78; obtain ⟨Ao79, co79, eo79⟩ := Kd.R_slice HO228.out; subst eo79) | (go_at_call 14; (with_reducible refine (vinculumref18_Same.calls k2 _ _ t223 _ _ t226 false t229 _ ?side1 ?side2 ?side3 ?side4 A73.out).mono ?_); (case side1 => repeat (first | exact (Kd.R_reads' HO225.out).2.2 | (with_reducible refine Kd.C_alloc ?_ _) | (with_reducible refine Kd.C_drewN ?_ _) | (with_reducible refine Kd.C_drew ?_))); (case side2 => exact (Kd.R_reads' HO225.out).2.1); (case side3 => repeat (first | exact (Kd.R_reads' HO228.out).2.2 | (with_reducible refine Kd.C_alloc ?_ _) | (with_reducible refine Kd.C_drewN ?_ _) | (with_reducible refine Kd.C_drew ?_))); (case side4 => exact (Kd.R_reads' HO228.out).2.1); rintro e w' ⟨rfl, ⟨nd, rfl⟩⟩))
                  go_ret
                  exact ⟨by first | rfl | (simp [errW_none, errW_some] <;> rfl) | (simp [*, errW_none, errW_some] <;> rfl), by repeat (first | (with_reducible first | exact HB.out | apply below_alloc | apply pw_below_drewN | apply below_drew1) | exact HB.out)⟩
                · rw [if_neg c70] at H
                  have c70b0 : (t220 == 0) = false := beq_eq_false_iff_ne.mpr c70
                  have c70b1 : (t220 != 0) = true := bne_iff_ne.mpr c70
                  obtain rfl := Option.some.inj H
                  go_wp2_with (first | ((with_reducible refine gate_callee (f := 8) rfl ?_); refine goesL_ (some 76) rfl rfl Try.func8 (by kernel_rfl) rfl #[.string x8_2] rfl (by (try simp only [List.map_toArray, List.map_cons, List.map_nil]); first | done | rfl | (simp only [List.length_drop, List.length_take]; rfl)) ?_; (with_reducible refine (lexer_Tokens.calls k2 x8_2 t218 t219 t220 _ A69.out).mono ?_); rintro e w80 ⟨v221, rfl, ho0, hb⟩; refine ⟨_, rfl, ?_⟩; have n0_ := Aside0.mk (Kd.R_elder' (by (with_reducible repeat (first | apply Kd.R_alloc | apply Kd.R_drewN | apply Kd.R_drew)); exact HO_5.out) (Kd.R_base ho0) hb); have n1_ := Aside0.mk (Kd.R_elder' (by (with_reducible repeat (first | apply Kd.R_alloc | apply Kd.R_drewN | apply Kd.R_drew)); exact HO_35.out) (Kd.R_base ho0) hb); have n2_ := Aside0.mk (Kd.R_lower (Kd.R_new' (Kd.R_new' ho0 (Kd.R_lt (by (with_reducible repeat (first | apply Kd.R_alloc | apply Kd.R_drewN | apply Kd.R_drew)); exact HO_5.out))) (Kd.R_lt (by (with_reducible repeat (first | apply Kd.R_alloc | apply Kd.R_drewN | apply Kd.R_drew)); exact HO_35.out))) (below_size (by repeat (first | (with_reducible first | exact HB.out | apply below_alloc | apply pw_below_drewN | apply below_drew1) | exact HB.out)))); have n3_ := Aside0.mk (below_step (by repeat (first | (with_reducible first | exact HB.out | apply below_alloc | apply pw_below_drewN | apply below_drew1) | exact HB.out)) hb); clear HO_5; clear HO_35; clear HB; have HO_5 := n0_; have HO_35 := n1_; have HO222 := n2_; have HB := n3_; clear n0_ n1_ n2_ n3_; (try clear hb); (try clear hb2); (try clear hk); (try clear hi); (try clear ho0)))
                  go_ret
                  exact ⟨by first | rfl | (simp [errW_none, errW_some] <;> rfl) | (simp [*, errW_none, errW_some] <;> rfl), by repeat (first | (with_reducible first | exact HB.out | apply below_alloc | apply pw_below_drewN | apply below_drew1) | exact HB.out)⟩
        · rw [if_neg c14] at H
          have c14b0 : (t197 == 0) = false := beq_eq_false_iff_ne.mpr c14
          have c14b1 : (t197 != 0) = true := bne_iff_ne.mpr c14
          obtain rfl := Option.some.inj H
          go_wp2_with (first | ((with_reducible refine gate_callee (f := 8) rfl ?_); refine goesL_ (some 29) rfl rfl Try.func8 (by kernel_rfl) rfl #[.string a0] rfl (by (try simp only [List.map_toArray, List.map_cons, List.map_nil]); first | done | rfl | (simp only [List.length_drop, List.length_take]; rfl)) ?_; (with_reducible refine (lexer_Tokens.calls kj2 a0 t195 t196 t197 _ A13.out).mono ?_); rintro e w81 ⟨v198, rfl, ho0, hb⟩; refine ⟨_, rfl, ?_⟩; have n0_ := Aside0.mk (Kd.R_lower ho0 (below_size (by repeat (first | (with_reducible first | exact HB.out | apply below_alloc | apply pw_below_drewN | apply below_drew1) | exact HB.out)))); have n1_ := Aside0.mk (below_step (by repeat (first | (with_reducible first | exact HB.out | apply below_alloc | apply pw_below_drewN | apply below_drew1) | exact HB.out)) hb); clear HB; have HO199 := n0_; have HB := n1_; clear n0_ n1_; (try clear hb); (try clear hb2); (try clear hk); (try clear hi); (try clear ho0)))
          go_ret
          exact ⟨by first | rfl | (simp [errW_none, errW_some] <;> rfl) | (simp [*, errW_none, errW_some] <;> rfl), by repeat (first | (with_reducible first | exact HB.out | apply below_alloc | apply pw_below_drewN | apply below_drew1) | exact HB.out)⟩

/-- THE ONE PURE STATEMENT of vinculumlaw18_LexerWrites: yours. -/
def vinculumlaw18_LexerWrites.Pure : Prop := ∀ (a0 : ByteArray) (l1 : List Int), a0.size ≤ 140737488351232 → l1.length ≤ maxLen → l1.length * 1 ≤ 140737488351232 → (∀ x ∈ l1, (Lit.int .u8 x).wf = true) → ∃ k, vinculumlaw18_LexerWrites.f k a0 l1 = some true
theorem vinculumlaw18_LexerWrites.walk (P : vinculumlaw18_LexerWrites.Pure) (a0 : ByteArray) (a1 : Option Addr) (len1 cap1 : Nat) (z1 : List Int) (w : World) (w0 : a0.size ≤ 140737488351232) (w1 : (a1 = none ∧ len1 = 0 ∧ cap1 = 0 ∧ z1 = []) ∨ ∃ x, a1 = some x ∧ len1 ≤ cap1 ∧ cap1 ≤ maxLen ∧ z1.length = cap1 ∧ (∀ i, i < z1.length → w.cell? (x.add i) = some (.int .u8 (z1.getD i 0))) ∧ ∀ n ∈ z1, (Lit.int .u8 n).wf = true) (y1 : len1 * 1 ≤ 140737488351232) :
    Calls Try.prog 5 #[.string a0, .slice a1 len1 cap1] w fun e w' => e = .returned (.bool true) ∧ Below w.heap.size w w' := by
  obtain ⟨l1, rfl, hr1, hm1, hw1, hc1⟩ := ReadsInt.ofRowC w1
  obtain ⟨k, h⟩ := P a0 l1 w0 hm1 y1 hw1
  refine (vinculumlaw18_LexerWrites.calls k a0 _ _ l1 true w (Kd.C_of_reads (d := (0 : Int)) (h1 := fun _ => rfl) hr1) hc1 h).mono ?_
  rintro e w' ⟨rfl, hd⟩
  exact ⟨rfl, hd⟩

end Go.Proofs.Ytjihcncajpmgiaa.A
