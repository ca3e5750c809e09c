/- lexer.number: the end of a number. -/
import Derived.Test.YtjihcncajpmgiaaL1
namespace Go.Proofs.Ytjihcncajpmgiaa.A
open Go.RowKit Go.Proofs.YtjihcncajpmgiaaW.PrintWords Go.Proofs.YtjihcncajpmgiaaW.PrintLast Go.Proofs.YtjihcncajpmgiaaW.PrintMore
set_option linter.unusedVariables false
set_option linter.unusedSimpArgs false

theorem run_digit (k : Nat) (s : ByteArray) (i r : Int) (w : World) (h : lexer_run.l0 lexer_digit.f k s i = some r) :
    Calls Try.prog 16 #[.string s, .int .i64 i, .func (.func 25) #[] #[]] w fun e w' => e = .returned (.int .i64 r) ∧ Drawn0 w w' :=
  run_any 25 lexer_digit.f (fun _ _ => by kernel_rfl) (fun c b W h => lexer_digit.calls c b W h) k s i r w h
theorem run_letter (k : Nat) (s : ByteArray) (i r : Int) (w : World) (h : lexer_run.l0 lexer_letter.f k s i = some r) :
    Calls Try.prog 16 #[.string s, .int .i64 i, .func (.func 23) #[] #[]] w fun e w' => e = .returned (.int .i64 r) ∧ Drawn0 w w' :=
  run_any 23 lexer_letter.f (fun _ _ => by kernel_rfl) (fun c b W h => lexer_letter.calls c b W h) k s i r w h
theorem run_blank (k : Nat) (s : ByteArray) (i r : Int) (w : World) (h : lexer_run.l0 lexer_blank.f k s i = some r) :
    Calls Try.prog 16 #[.string s, .int .i64 i, .func (.func 17) #[] #[]] w fun e w' => e = .returned (.int .i64 r) ∧ Drawn0 w w' :=
  run_any 17 lexer_blank.f (fun _ _ => by kernel_rfl) (fun c b W h => lexer_blank.calls c b W h) k s i r w h
def lexer_number.f (k : Nat) (s : ByteArray) (i : Int) : Option Int := (lexer_run.l0 lexer_digit.f k s i).bind fun e =>
  if wrap64 (e + 1) < (s.size : Int) then (if 0 ≤ e then (if e < (s.size : Int) then (if bt s e = 46 then (if 0 ≤ wrap64 (e + 1) then ((lexer_digit.f (bt s (wrap64 (e + 1)))).bind fun b => if b = true then lexer_run.l0 lexer_digit.f k s (wrap64 (e + 1)) else some e) else none) else some e) else none) else none) else some e
theorem num_cases {k : Nat} {s : ByteArray} {i r : Int} (h : lexer_number.f k s i = some r) : ∃ e, lexer_run.l0 lexer_digit.f k s i = some e ∧
    ((wrap64 (e + 1) < (s.size : Int) ∧ 0 ≤ e ∧ e < (s.size : Int) ∧ bt s e = 46 ∧ 0 ≤ wrap64 (e + 1) ∧ lexer_digit.f (bt s (wrap64 (e + 1))) = some true ∧ lexer_run.l0 lexer_digit.f k s (wrap64 (e + 1)) = some r)
    ∨ (wrap64 (e + 1) < (s.size : Int) ∧ 0 ≤ e ∧ e < (s.size : Int) ∧ bt s e = 46 ∧ 0 ≤ wrap64 (e + 1) ∧ lexer_digit.f (bt s (wrap64 (e + 1))) = some false ∧ e = r)
    ∨ (wrap64 (e + 1) < (s.size : Int) ∧ 0 ≤ e ∧ e < (s.size : Int) ∧ ¬ bt s e = 46 ∧ e = r)
    ∨ (¬ wrap64 (e + 1) < (s.size : Int) ∧ e = r)) := by
  unfold lexer_number.f at h
  obtain ⟨e, he, h⟩ := Option.bind_eq_some_iff.mp h
  refine ⟨e, he, ?_⟩
  by_cases c1 : wrap64 (e + 1) < (s.size : Int)
  · rw [if_pos c1] at h
    by_cases c2 : 0 ≤ e
    case neg => rw [if_neg c2] at h; cases h
    rw [if_pos c2] at h
    by_cases c3 : e < (s.size : Int)
    case neg => rw [if_neg c3] at h; cases h
    rw [if_pos c3] at h
    by_cases c4 : bt s e = 46
    · rw [if_pos c4] at h
      by_cases c5 : 0 ≤ wrap64 (e + 1)
      case neg => rw [if_neg c5] at h; cases h
      rw [if_pos c5] at h
      obtain ⟨b, hb, h⟩ := Option.bind_eq_some_iff.mp h
      cases b with
      | true => exact .inl ⟨c1, c2, c3, c4, c5, hb, (if_pos rfl).symm.trans h⟩
      | false => exact .inr (.inl ⟨c1, c2, c3, c4, c5, hb, Option.some.inj ((if_neg Bool.false_ne_true).symm.trans h)⟩)
    · rw [if_neg c4] at h
      exact .inr (.inr (.inl ⟨c1, c2, c3, c4, Option.some.inj h⟩))
  · rw [if_neg c1] at h
    exact .inr (.inr (.inr ⟨c1, Option.some.inj h⟩))
set_option maxHeartbeats 1000000 in
set_option maxRecDepth 100000 in
theorem lexer_number.calls (k : Nat) (s : ByteArray) (i r : Int) (w : World) (h : lexer_number.f k s i = some r) :
    Calls Try.prog 26 #[.string s, .int .i64 i] w fun e w' => e = .returned (.int .i64 r) ∧ Drawn0 w w' := by
  obtain ⟨e, he, H⟩ := num_cases h
  have HE := Aside0.mk he
  clear h he
  rcases H with ⟨c1, c2, c3, c4, c5, hb, hr⟩ | ⟨c1, c2, c3, c4, c5, hb, rfl⟩ | ⟨c1, c2, c3, c4, rfl⟩ | ⟨c1, rfl⟩
  · have HB := Aside0.mk hb
    have HR := Aside0.mk hr
    have c1b : decide (wrap64 (e + 1) < (s.size : Int)) = true := decide_eq_true c1
    have hbt : ∀ h : e.toNat < s.size, ((s[e.toNat]'h).toNat : Int) = 46 := fun h => (bt_at s e h).trans c4
    have hbt2 := bt_at s (wrap64 (e + 1))
    replace c1 := eq_true c1
    replace c2 := eq_true c2
    replace c3 := eq_true c3
    replace c5 := eq_true c5
    clear hb hr c4
    go_enter Try.func26, Try.ntmps26
    go_wp2_with (first | (go_at_call 16; refine (run_digit k s _ _ _ HE.out).mono ?_; rintro e1 w1 ⟨rfl, ⟨m1, rfl⟩⟩; clear HE) | (go_at_call 25; refine (lexer_digit.calls _ _ _ HB.out).mono ?_; rintro e1 w1 ⟨rfl, ⟨m2, rfl⟩⟩) | (go_at_call 16; refine (run_digit k s _ _ _ HR.out).mono ?_; rintro e1 w1 ⟨rfl, ⟨m3, rfl⟩⟩))
    go_ret
    exact ⟨rfl, by repeat (first | exact Drawn0.refl _ | apply Drawn0.step | exact ⟨_, rfl⟩)⟩
  · have HB := Aside0.mk hb
    have c1b : decide (wrap64 (e + 1) < (s.size : Int)) = true := decide_eq_true c1
    have hbt : ∀ h : e.toNat < s.size, ((s[e.toNat]'h).toNat : Int) = 46 := fun h => (bt_at s e h).trans c4
    have hbt2 := bt_at s (wrap64 (e + 1))
    replace c1 := eq_true c1
    replace c2 := eq_true c2
    replace c3 := eq_true c3
    replace c5 := eq_true c5
    clear hb c4
    go_enter Try.func26, Try.ntmps26
    go_wp2_with (first | (go_at_call 16; refine (run_digit k s _ _ _ HE.out).mono ?_; rintro e1 w1 ⟨rfl, ⟨m1, rfl⟩⟩; clear HE) | (go_at_call 25; refine (lexer_digit.calls _ _ _ HB.out).mono ?_; rintro e1 w1 ⟨rfl, ⟨m2, rfl⟩⟩))
    go_ret
    exact ⟨rfl, by repeat (first | exact Drawn0.refl _ | apply Drawn0.step | exact ⟨_, rfl⟩)⟩
  · have c1b : decide (wrap64 (e + 1) < (s.size : Int)) = true := decide_eq_true c1
    have c4b : (bt s e == 46) = false := by simp [c4]
    have hbt := bt_at s e
    replace c1 := eq_true c1
    replace c2 := eq_true c2
    replace c3 := eq_true c3
    clear c4
    go_enter Try.func26, Try.ntmps26
    go_wp2_with (first | (go_at_call 16; refine (run_digit k s _ _ _ HE.out).mono ?_; rintro e1 w1 ⟨rfl, ⟨m1, rfl⟩⟩; clear HE))
    go_ret
    exact ⟨rfl, by repeat (first | exact Drawn0.refl _ | apply Drawn0.step | exact ⟨_, rfl⟩)⟩
  · have c1b : decide (wrap64 (e + 1) < (s.size : Int)) = false := decide_eq_false c1
    clear c1
    go_enter Try.func26, Try.ntmps26
    go_wp2_with (first | (go_at_call 16; refine (run_digit k s _ _ _ HE.out).mono ?_; rintro e1 w1 ⟨rfl, ⟨m1, rfl⟩⟩; clear HE))
    go_ret
    exact ⟨rfl, by repeat (first | exact Drawn0.refl _ | apply Drawn0.step | exact ⟨_, rfl⟩)⟩
end Go.Proofs.Ytjihcncajpmgiaa.A
