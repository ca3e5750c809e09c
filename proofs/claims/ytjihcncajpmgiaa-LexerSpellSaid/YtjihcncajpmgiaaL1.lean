/- lexer.run: the end of the bytes of a kind. -/
import Derived.Test.YtjihcncajpmgiaaAx1
import Derived.RegionCalls
import Derived.Deep.DeepCutAuto
namespace Go.Proofs.Ytjihcncajpmgiaa.A
open Go.RowKit Go.Proofs.YtjihcncajpmgiaaW.PrintWords Go.Proofs.YtjihcncajpmgiaaW.PrintLast Go.Proofs.YtjihcncajpmgiaaW.PrintMore
set_option linter.unusedVariables false
set_option linter.unusedSimpArgs false

def lexer_run.l0 (p : Int → Option Bool) : Nat → ByteArray → Int → Option Int
  | 0, _, _ => none
  | k + 1, s, i => if i < (s.size : Int) then (if 0 ≤ i then ((p (bt s i)).bind fun b => if b = true then lexer_run.l0 p k s (wrap64 (i + 1)) else some i) else none) else some i
set_option maxHeartbeats 1000000 in
set_option maxRecDepth 100000 in
theorem run_any (fid : Nat) (p : Int → Option Bool) (hent : ∀ (xs : Array Value) (W : World), (callFunc fid xs).run Try.prog W = .ok (.enter fid xs) W)
    (hcall : ∀ c b W, p c = some b → Calls Try.prog fid #[.int .u8 c] W fun e w' => e = .returned (.bool b) ∧ Drawn0 W w')
    (k : Nat) (s : ByteArray) (i r : Int) (w : World) (h : lexer_run.l0 p k s i = some r) :
    Calls Try.prog 16 #[.string s, .int .i64 i, .func (.func fid) #[] #[]] w fun e w' => e = .returned (.int .i64 r) ∧ Drawn0 w w' := by
  have H' := Aside0.mk h
  have HC := Aside0.mk hcall
  clear h hcall
  go_enter Try.func16, Try.ntmps16
  go_wp2_with fail
  go_loopg [1] k (fun kq v1 w' => ∃ (x : Int), v1 = .int .i64 x ∧ Aside0 (lexer_run.l0 p kq s x = some r) ∧ Aside0 (kq ≤ k) ∧ Drawn0 w w')
  case atStart => exact ⟨i, rfl, H', ⟨Nat.le_refl _⟩, by repeat (first | exact Drawn0.refl _ | apply Drawn0.step)⟩
  case round =>
    clear H'
    obtain ⟨x, rfl, HA, HK1, ⟨m1, rfl⟩⟩ := hrel
    cases gk with
    | zero => exact absurd HA.out (by simp [lexer_run.l0])
    | succ k1 =>
      have H := HA.out
      clear HA
      simp only [lexer_run.l0] at H
      by_cases c2 : x < (s.size : Int)
      · rw [if_pos c2] at H
        have c2b0 : decide (x < (s.size : Int)) = true := decide_eq_true c2
        by_cases c3 : 0 ≤ x
        case neg =>
          rw [if_neg c3] at H
          exact absurd H (by simp)
        rw [if_pos c3] at H
        have c3b0 : decide (0 ≤ x) = true := decide_eq_true c3
        replace c2 := eq_true c2
        replace c3 := eq_true c3
        have hbt := bt_at s x
        obtain ⟨b, hb, H⟩ := Option.bind_eq_some_iff.mp H
        have HB := Aside0.mk hb
        have HQ := Aside0.mk H
        clear hb H
        go_wp2_with fail
        with_reducible refine (HC.out _ _ _ HB.out).mono ?_
        rintro e w1 ⟨rfl, ⟨m2, rfl⟩⟩
        cases b with
        | true =>
          have HQ' := Aside0.mk (by simpa using HQ.out : lexer_run.l0 p k1 s (wrap64 (x + 1)) = some r)
          go_wp2_with fail
          go_roundg k1
          case measure => have := HK1.out; omega
          case rel => exact ⟨_, rfl, HQ', ⟨by have := HK1.out; omega⟩, by repeat (first | exact Drawn0.refl _ | apply Drawn0.step | exact ⟨_, rfl⟩)⟩
        | false =>
          obtain rfl : x = r := by simpa using HQ.out
          go_wp2_with fail
          go_ret
          exact ⟨rfl, by repeat (first | exact Drawn0.refl _ | apply Drawn0.step)⟩
      · rw [if_neg c2] at H
        have c2b0 : decide (x < (s.size : Int)) = false := decide_eq_false c2
        clear c2
        obtain rfl := Option.some.inj H
        go_wp2
        go_ret
        exact ⟨rfl, by repeat (first | exact Drawn0.refl _ | apply Drawn0.step)⟩
end Go.Proofs.Ytjihcncajpmgiaa.A
