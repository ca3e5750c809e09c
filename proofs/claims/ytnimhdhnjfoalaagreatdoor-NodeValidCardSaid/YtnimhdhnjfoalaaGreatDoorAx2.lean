/- Made for this claim by a program of the session: the Go functions' plain twins and their contracts. Lean checks it. -/
import Derived.Test.YtnimhdhnjfoalaaGreatDoorAx0
import Derived.Test.YtnimhdhnjfoalaaGreatDoorAx1
import Derived.Test.YtnimhdhnjfoalaaGreatDoorR12
namespace Go.Proofs.YtnimhdhnjfoalaaGreatDoor.A
open Go.RowKit Go.Proofs.YtnimhdhnjfoalaaGreatDoorW.PrintWords Go.Proofs.YtnimhdhnjfoalaaGreatDoorW.PrintLast Go.Proofs.YtnimhdhnjfoalaaGreatDoorW.PrintMore
attribute [local go_sem] max2_int min2_int max_two min_two max_three min_three max_four min_four   -- for this text's walks alone
set_option linter.unusedVariables false
set_option linter.unusedSimpArgs false

/-! ### node_printable: function 78 -/
def node_printable.l0 : Nat → ByteArray → Int → Int → Option (Bool)
  | 0, _, _, _ => none
  | k + 1, x0, x5, x6 => if x6 < x5 then (if 0 ≤ x6 then (if x6 < (x0.size : Int) then (if (bt x0 x6) < 32 then (some false) else (if (bt x0 x6) > 126 then (some false) else (node_printable.l0 k x0 x5 (wrap64 (x6 + 1))))) else (none)) else (none)) else (some (decide ((x0.size : Int) ≤ 200)))
def node_printable.f (k : Nat) (a0 : ByteArray) : Option (Bool) := node_printable.l0 k a0 (a0.size : Int) 0
theorem node_printable.mono_l : ∀ k, (∀ y0 y1 y2, LeO (node_printable.l0 k y0 y1 y2) (node_printable.l0 (k + 1) y0 y1 y2))
  | 0 => fun _ _ _ r h => by simp [node_printable.l0] at h
  | k + 1 => by
    have ih0 := node_printable.mono_l k
    · intro y0 y1 y2
      unfold node_printable.l0
      repeat' first
      | (with_reducible exact ih0 _ _ _)
      | (with_reducible exact LeO.refl _)
      | (with_reducible exact LeO.none _)
      | (with_reducible refine LeO.ite ?_ ?_)
      | (with_reducible refine LeO.bind ?_ (fun _ => ?_))
      | exact ih0 _ _ _
      | exact LeO.none _
      | refine LeO.ite ?_ ?_
      | refine LeO.bind ?_ (fun _ => ?_)
theorem node_printable.mono : ∀ a0 k, LeO (node_printable.f k a0) (node_printable.f (k + 1) a0) := by
  intro a0 k
  have ih0 := node_printable.mono_l k
  unfold node_printable.f
  repeat' first
      | (with_reducible exact ih0 _ _ _)
      | (with_reducible exact LeO.refl _)
      | (with_reducible exact LeO.none _)
      | (with_reducible refine LeO.ite ?_ ?_)
      | (with_reducible refine LeO.bind ?_ (fun _ => ?_))
      | exact ih0 _ _ _
      | exact LeO.none _
      | refine LeO.ite ?_ ?_
      | refine LeO.bind ?_ (fun _ => ?_)
set_option maxHeartbeats 8000000 in
set_option maxRecDepth 100000 in
theorem node_printable.calls (k : Nat) (a0 : ByteArray) (r : Bool) (w : World) (h : node_printable.f k a0 = some r) :
    Calls Tryz.prog 78 #[.string a0] w fun e w' => e = .returned (.bool r) ∧ Drawn0 w w' := by
  have H : (node_printable.l0 k a0 (a0.size : Int) 0) = some r := h
  clear h
  have H' := Aside0.mk H
  clear H
  go_enter Tryz.func78, Tryz.ntmps78
  go_wp2
  go_loopg [6] k (fun kq v6 w' => ∃ (x6_1 : Int), v6 = .int .i64 x6_1 ∧ Aside0 (node_printable.l0 kq a0 (a0.size : Int) x6_1 = some r) ∧ Aside0 (kq ≤ k) ∧ Drawn0 w w')
  case atStart => exact ⟨(0), (by first | rfl | (simp; done) | (simp [*]; done)), H', ⟨Nat.le_refl _⟩, by repeat (first | exact Drawn0.refl _ | apply Drawn0.step)⟩
  case round =>
    clear H'
    obtain ⟨x6_1, rfl, HA, HK1, ⟨m1, rfl⟩⟩ := hrel
    cases gk with
    | zero => exact absurd HA.out (by simp [node_printable.l0])
    | succ k1 =>
      have H := HA.out
      clear HA
      simp only [node_printable.l0] at H
      by_cases c2 : x6_1 < (a0.size : Int)
      · rw [if_pos c2] at H
        have c2b0 : decide (x6_1 < (a0.size : Int)) = true := decide_eq_true c2
        clear c2
        by_cases c3 : 0 ≤ x6_1
        · rw [if_pos c3] at H
          have c3b0 : decide (0 ≤ x6_1) = true := decide_eq_true c3
          clear c3
          by_cases c4 : x6_1 < (a0.size : Int)
          · rw [if_pos c4] at H
            have c4b0 : decide (x6_1 < (a0.size : Int)) = true := decide_eq_true c4
            clear c4
            by_cases c6 : (bt a0 x6_1) < 32
            · rw [if_pos c6] at H
              have c6b0 : decide ((bt a0 x6_1) < 32) = true := decide_eq_true c6
              clear c6
              obtain rfl := Option.some.inj H
              have p5 : 0 ≤ (x6_1 : Int) := of_decide_eq_true (by first | (with_reducible assumption) | assumption)
              have q5 : x6_1 < (a0.size : Int) := of_decide_eq_true (by first | (with_reducible assumption) | assumption)
              have hx5 := bt_at a0 x6_1
              replace p5 := eq_true p5
              replace q5 := eq_true q5
              go_wp2
              go_ret
              exact ⟨by first | rfl | (simp; done) | (simp [*]; done), by repeat (first | exact Drawn0.refl _ | apply Drawn0.step)⟩
            · rw [if_neg c6] at H
              have c6b0 : decide ((bt a0 x6_1) < 32) = false := decide_eq_false c6
              clear c6
              by_cases c8 : (bt a0 x6_1) > 126
              · rw [if_pos c8] at H
                have c8b0 : decide (126 < (bt a0 x6_1)) = true := decide_eq_true c8
                clear c8
                obtain rfl := Option.some.inj H
                have p5 : 0 ≤ (x6_1 : Int) := of_decide_eq_true (by first | (with_reducible assumption) | assumption)
                have q5 : x6_1 < (a0.size : Int) := of_decide_eq_true (by first | (with_reducible assumption) | assumption)
                have hx5 := bt_at a0 x6_1
                replace p5 := eq_true p5
                replace q5 := eq_true q5
                have p7 : 0 ≤ (x6_1 : Int) := of_decide_eq_true (by first | (with_reducible assumption) | assumption)
                have q7 : x6_1 < (a0.size : Int) := of_decide_eq_true (by first | (with_reducible assumption) | assumption)
                have hx7 := bt_at a0 x6_1
                replace p7 := eq_true p7
                replace q7 := eq_true q7
                go_wp2
                go_ret
                exact ⟨by first | rfl | (simp; done) | (simp [*]; done), by repeat (first | exact Drawn0.refl _ | apply Drawn0.step)⟩
              · rw [if_neg c8] at H
                have c8b0 : decide (126 < (bt a0 x6_1)) = false := decide_eq_false c8
                clear c8
                have H' := Aside0.mk H
                clear H
                have p5 : 0 ≤ (x6_1 : Int) := of_decide_eq_true (by first | (with_reducible assumption) | assumption)
                have q5 : x6_1 < (a0.size : Int) := of_decide_eq_true (by first | (with_reducible assumption) | assumption)
                have hx5 := bt_at a0 x6_1
                replace p5 := eq_true p5
                replace q5 := eq_true q5
                have p7 : 0 ≤ (x6_1 : Int) := of_decide_eq_true (by first | (with_reducible assumption) | assumption)
                have q7 : x6_1 < (a0.size : Int) := of_decide_eq_true (by first | (with_reducible assumption) | assumption)
                have hx7 := bt_at a0 x6_1
                replace p7 := eq_true p7
                replace q7 := eq_true q7
                go_wp2
                go_roundg k1
                case measure => have := HK1.out; omega
                case rel => exact ⟨(wrap64 (x6_1 + 1)), (by first | rfl | (simp; done) | (simp [*]; done)), H', ⟨by have := HK1.out; omega⟩, by repeat (first | exact Drawn0.refl _ | apply Drawn0.step)⟩
          · rw [if_neg c4] at H
            exact absurd H (by simp)
        · rw [if_neg c3] at H
          exact absurd H (by simp)
      · rw [if_neg c2] at H
        have c2b0 : decide (x6_1 < (a0.size : Int)) = false := decide_eq_false c2
        clear c2
        obtain rfl := Option.some.inj H
        go_wp2
        go_ret
        exact ⟨by first | rfl | (simp; done) | (simp [*]; done), by repeat (first | exact Drawn0.refl _ | apply Drawn0.step)⟩

/-! ### node_fence: function 79 -/
def node_fence.f (a0 : ByteArray) : Option (Bool) := if (a0.size : Int) = 2 then (if 0 ≤ 1 then (if 1 ≤ (a0.size : Int) then ((strings_Contains.f (⟨#[40, 41, 91, 93, 123, 125, 60, 62, 47, 124, 46]⟩ : ByteArray) (a0.extract 0 1)).bind fun t127 => (if t127 = true then ((strings_Contains.f (⟨#[40, 41, 91, 93, 123, 125, 60, 62, 47, 124, 46]⟩ : ByteArray) (a0.extract 1 a0.size)).bind fun t128 => (some t128)) else (some false))) else (none)) else (none)) else (some false)
set_option maxHeartbeats 8000000 in
set_option maxRecDepth 100000 in
theorem node_fence.calls (a0 : ByteArray) (r : Bool) (w : World) (h : node_fence.f a0 = some r) :
    Calls Tryz.prog 79 #[.string a0] w fun e w' => e = .returned (.bool r) ∧ Drawn0 w w' := by
  have H : (if (a0.size : Int) = 2 then (if 0 ≤ 1 then (if 1 ≤ (a0.size : Int) then ((strings_Contains.f (⟨#[40, 41, 91, 93, 123, 125, 60, 62, 47, 124, 46]⟩ : ByteArray) (a0.extract 0 1)).bind fun t127 => (if t127 = true then ((strings_Contains.f (⟨#[40, 41, 91, 93, 123, 125, 60, 62, 47, 124, 46]⟩ : ByteArray) (a0.extract 1 a0.size)).bind fun t128 => (some t128)) else (some false))) else (none)) else (none)) else (some false)) = some r := h
  clear h
  by_cases c2 : (a0.size : Int) = 2
  · rw [if_pos c2] at H
    have c2b0 : ((a0.size : Int) == 2) = true := beq_iff_eq.mpr c2
    have c2b1 : ((a0.size : Int) != 2) = false := bne_eq_false_iff_eq.mpr c2
    clear c2
    by_cases c3 : 0 ≤ 1
    · rw [if_pos c3] at H
      have c3b0 := eq_true c3
      have c3b1 : decide (0 ≤ 1) = true := decide_eq_true c3
      clear c3
      by_cases c4 : 1 ≤ (a0.size : Int)
      · rw [if_pos c4] at H
        have c4b0 := eq_true c4
        have c4b1 : decide (1 ≤ (a0.size : Int)) = true := decide_eq_true c4
        clear c4
        replace H := Option.bind_eq_some_iff.mp H
        obtain ⟨t127, A50, H⟩ := H
        replace H : (if t127 = true then ((strings_Contains.f (⟨#[40, 41, 91, 93, 123, 125, 60, 62, 47, 124, 46]⟩ : ByteArray) (a0.extract 1 a0.size)).bind fun t128 => (some t128)) else (some false)) = some r := H
        have A5 := Aside0.mk A50
        clear A50
        by_cases c6 : t127 = true
        · subst c6
          have H1 : ((strings_Contains.f (⟨#[40, 41, 91, 93, 123, 125, 60, 62, 47, 124, 46]⟩ : ByteArray) (a0.extract 1 a0.size)).bind fun t128 => (some t128)) = some r := by rw [if_pos rfl] at H; exact H
          clear H
          have H := H1
          clear H1
          have c7b0 := eq_true (of_decide_eq_true (by first | (with_reducible assumption) | assumption) : 1 ≤ (a0.size : Int))
          replace H := Option.bind_eq_some_iff.mp H
          obtain ⟨t128, A80, H⟩ := H
          replace H : (some t128) = some r := H
          have A8 := Aside0.mk A80
          clear A80
          obtain rfl := Option.some.inj H
          go_enter Tryz.func79, Tryz.ntmps79
          go_wp2_with (first | (go_at_call 40; (with_reducible refine (strings_Contains.calls (⟨#[40, 41, 91, 93, 123, 125, 60, 62, 47, 124, 46]⟩ : ByteArray) (a0.extract 0 1) true _ A5.out).mono ?_); rintro e w' ⟨rfl, ⟨nd, rfl⟩⟩) | (go_at_call 40; (with_reducible refine (strings_Contains.calls (⟨#[40, 41, 91, 93, 123, 125, 60, 62, 47, 124, 46]⟩ : ByteArray) (a0.extract 1 a0.size) t128 _ A8.out).mono ?_); rintro e w' ⟨rfl, ⟨nd, rfl⟩⟩))
          go_ret
          exact ⟨by first | rfl | (simp; done) | (simp [*]; done), by repeat (first | exact Drawn0.refl _ | apply Drawn0.step)⟩
        · replace c6 := Bool.eq_false_iff.mpr c6
          subst c6
          have H1 : (some false) = some r := by rw [if_neg (show ¬ (false = true) by decide)] at H; exact H
          clear H
          have H := H1
          clear H1
          obtain rfl := Option.some.inj H
          go_enter Tryz.func79, Tryz.ntmps79
          go_wp2_with (first | (go_at_call 40; (with_reducible refine (strings_Contains.calls (⟨#[40, 41, 91, 93, 123, 125, 60, 62, 47, 124, 46]⟩ : ByteArray) (a0.extract 0 1) false _ A5.out).mono ?_); rintro e w' ⟨rfl, ⟨nd, rfl⟩⟩))
          go_ret
          exact ⟨by first | rfl | (simp; done) | (simp [*]; done), by repeat (first | exact Drawn0.refl _ | apply Drawn0.step)⟩
      · rw [if_neg c4] at H
        exact absurd H (by simp)
    · rw [if_neg c3] at H
      exact absurd H (by simp)
  · rw [if_neg c2] at H
    have c2b0 : ((a0.size : Int) == 2) = false := beq_eq_false_iff_ne.mpr c2
    have c2b1 : ((a0.size : Int) != 2) = true := bne_iff_ne.mpr c2
    obtain rfl := Option.some.inj H
    go_enter Tryz.func79, Tryz.ntmps79
    go_wp2
    go_ret
    exact ⟨by first | rfl | (simp; done) | (simp [*]; done), by repeat (first | exact Drawn0.refl _ | apply Drawn0.step)⟩

/-! ### node_Dump: function 17 -/


/-! ### node_Valid: function 23 -/
def FORMS : Array Value := #[.string ⟨#[]⟩, .nilFunc, .int .i64 0, .string ⟨#[114, 111, 119]⟩, .func (.func 77) #[] #[], .int .i64 (-1), .string ⟨#[115, 121, 109]⟩, .func (.func 12) #[] #[], .int .i64 0, .string ⟨#[110, 117, 109]⟩, .func (.func 14) #[] #[], .int .i64 0, .string ⟨#[116, 101, 120, 116]⟩, .func (.func 78) #[] #[], .int .i64 0, .string ⟨#[102, 114, 97, 99]⟩, .func (.func 77) #[] #[], .int .i64 2, .string ⟨#[114, 111, 111, 116]⟩, .func (.func 77) #[] #[], .int .i64 2, .string ⟨#[115, 117, 98]⟩, .func (.func 77) #[] #[], .int .i64 2, .string ⟨#[115, 117, 112]⟩, .func (.func 77) #[] #[], .int .i64 2, .string ⟨#[98, 111, 116, 104]⟩, .func (.func 77) #[] #[], .int .i64 3, .string ⟨#[97, 99, 99, 101, 110, 116]⟩, .func (.func 41) #[] #[], .int .i64 1, .string ⟨#[102, 101, 110, 99, 101]⟩, .func (.func 79) #[] #[], .int .i64 1, .string ⟨#[109, 97, 116, 114, 105, 120]⟩, .func (.func 77) #[] #[], .int .i64 (-1)]
set_option maxHeartbeats 1000000 in
set_option maxRecDepth 100000 in
theorem node_forms.calls (w : World) :
    Calls Tryz.prog 57 #[] w fun e w' => e = .returned (.slice (some ⟨w.heap.size, 0, none⟩) 13 13) ∧ w' = w.alloc (.cells FORMS 81) := by
  have hu81 := Tryz.underlying81
  go_enter Tryz.func57, Tryz.ntmps57
  go_wp2
  go_ret
  exact ⟨rfl, rfl⟩
set_option maxHeartbeats 2000000 in
set_option maxRecDepth 100000 in
theorem shape_mid (g gf n c : Nat) (left cols kind sl : Int) (s nm : ByteArray) (fid : Nat) (A3 : Option Addr) (w : World) (t : Bool)
    (hk1 : 2 ≤ kind) (hk2 : kind ≤ 11)
    (hg : w.heap[g]? = some (.cells #[.slice (some ⟨gf, 0, none⟩) 13 13, .int .i64 left] 65 (0, 0))) (hf : w.heap[gf]? = some (.cells FORMS 81 (0, 0)))
    (f0 : FORMS[kind.toNat * 3]? = some (.string nm)) (f1 : FORMS[kind.toNat * 3 + 1]? = some (.func (.func fid) #[] #[])) (f2 : FORMS[kind.toNat * 3 + 2]? = some (.int .i64 sl))
    (hent : ∀ (xs : Array Value) (W : World), (callFunc fid xs).run Tryz.prog W = .ok (.enter fid xs) W)
    (hcall : ∀ W, Calls Tryz.prog fid #[.string s] W fun e w' => e = .returned (.bool t) ∧ Below W.heap.size W w') :
    Calls Tryz.prog 80 #[.pointer (some ⟨g, 0, none⟩), .agg #[.int .i64 kind, .string s, .int .i64 cols, .slice A3 n c]] w fun e w' => e = .returned (.bool (t && (cols == 0) && ((n : Int) == sl))) ∧ Below w.heap.size w w' := by
  have hu26 := Tryz.underlying26
  have hu81 := Tryz.underlying81
  have hu65 := Tryz.underlying65
  have HG := Aside0.mk hg
  have HF := Aside0.mk hf
  have HC := Aside0.mk hcall
  have hsz : g < w.heap.size := blk_lt hg
  have F0 := Aside0.mk f0
  have F1 := Aside0.mk f1
  have F2 := Aside0.mk f2
  have k1 : decide (kind < 1) = false := decide_eq_false (by omega)
  have k2 : decide (12 < kind) = false := decide_eq_false (by omega)
  have k3 : (kind == 1) = false := beq_eq_false_iff_ne.2 (by omega)
  have k4 : (kind == 12) = false := beq_eq_false_iff_ne.2 (by omega)
  have k5 : decide (0 ≤ kind) = true := decide_eq_true (by omega)
  have k6 : decide (kind < 13) = true := decide_eq_true (by omega)
  have k7 : (0 ≤ kind) = True := eq_true (by omega)
  have k8 : (kind < 13) = True := eq_true (by omega)
  clear hg hf hcall f0 f1 f2 hk1 hk2
  go_enter Tryz.func80, Tryz.ntmps80
  go_wp2_with (first | ((with_reducible refine gate_dst (N := 3) rfl ?_); refine box_event ?hg (N := 3) ?hd (cs := #[.int .i64 kind, .string s, .int .i64 cols, .slice A3 n c]) (t := 26) ?hr ?_; (case hd => rfl); (case hg => rfl); (case hr => first | (go_simp; done) | (go_simp; rfl)); intro gb hgb w3 hbox hb; have HX := Aside0.mk hbox; have HB := Aside0.mk hb; have hg3 := blk_below HG.out hb; have hf3 := blk_below HF.out hb; have c0 : w3.cell? ⟨g, 0, none⟩ = some (.slice (some ⟨gf, 0, none⟩) 13 13) := (blk_cell hg3 0).trans rfl; have d0 : w3.cell? ⟨gf, kind.toNat * 3, none⟩ = some (.string nm) := (blk_cell hf3 _).trans F0.out; have d1 : w3.cell? ⟨gf, kind.toNat * 3 + 1, none⟩ = some (.func (.func fid) #[] #[]) := (blk_cell hf3 _).trans F1.out; have d2 : w3.cell? ⟨gf, kind.toNat * 3 + 2, none⟩ = some (.int .i64 sl) := (blk_cell hf3 _).trans F2.out; have b0 : w3.cell? ⟨gb, 0, none⟩ = some (.int .i64 kind) := (blk_cell hbox 0).trans rfl; have b1 : w3.cell? ⟨gb, 1, none⟩ = some (.string s) := (blk_cell hbox 1).trans rfl; have b2 : w3.cell? ⟨gb, 2, none⟩ = some (.int .i64 cols) := (blk_cell hbox 2).trans rfl; have b3 : w3.cell? ⟨gb, 3, none⟩ = some (.slice A3 n c) := (blk_cell hbox 3).trans rfl; have lb := blk_lt hbox; have lg := blk_lt hg3; have lf := blk_lt hf3; clear hg3 hf3 hbox hgb hb))
  go_region
  go_wp2_with fail
  refine (HC.out _).mono ?_
  rintro e w4 ⟨rfl, hb4⟩
  have hx4 := blk_below (blk_drew (blk_alloc HX.out _)) hb4
  have hv4 := blk_below (blk_drew (blk_new _ _)) hb4
  have b0' : w4.cell? ⟨gb, 0, none⟩ = some (.int .i64 kind) := (blk_cell hx4 0).trans rfl
  have b2' : w4.cell? ⟨gb, 2, none⟩ = some (.int .i64 cols) := (blk_cell hx4 2).trans rfl
  have b3' : w4.cell? ⟨gb, 3, none⟩ = some (.slice A3 n c) := (blk_cell hx4 3).trans rfl
  have v2' : w4.cell? ⟨w3.heap.size, 2, none⟩ = some (.int .i64 sl) := (blk_cell hv4 2).trans rfl
  have hB : Below w.heap.size w w4 := below_step (below_drew1 (below_alloc HB.out _)) hb4
  clear b0 b1 b2 b3 c0 d0 d1 d2 hb4 hx4 hv4
  go_wp2
  all_goals go_ret
  all_goals exact ⟨by simp [*], hB⟩
set_option maxHeartbeats 2000000 in
set_option maxRecDepth 100000 in
theorem shape_out (g gf n c : Nat) (left cols kind : Int) (s : ByteArray) (A3 : Option Addr) (w : World) (hk : kind < 1 ∨ 12 < kind) :
    Calls Tryz.prog 80 #[.pointer (some ⟨g, 0, none⟩), .agg #[.int .i64 kind, .string s, .int .i64 cols, .slice A3 n c]] w fun e w' => e = .returned (.bool false) ∧ Below w.heap.size w w' := by
  have hu26 := Tryz.underlying26
  by_cases h1 : kind < 1
  · have k1 : decide (kind < 1) = true := decide_eq_true h1
    clear hk h1
    go_enter Tryz.func80, Tryz.ntmps80
    go_wp2
    go_ret
    exact ⟨rfl, (by repeat (first | exact Below.refl _ _ | apply below_alloc | apply below_drew1))⟩
  · have k1 : decide (kind < 1) = false := decide_eq_false h1
    have k2 : decide (12 < kind) = true := decide_eq_true (by omega)
    clear hk h1
    go_enter Tryz.func80, Tryz.ntmps80
    go_wp2
    go_ret
    exact ⟨rfl, (by repeat (first | exact Below.refl _ _ | apply below_alloc | apply below_drew1))⟩

set_option maxHeartbeats 2000000 in
set_option maxRecDepth 100000 in
theorem shape_row (g gf n c : Nat) (left cols : Int) (s : ByteArray) (A3 : Option Addr) (w : World)
    (hg : w.heap[g]? = some (.cells #[.slice (some ⟨gf, 0, none⟩) 13 13, .int .i64 left] 65 (0, 0))) (hf : w.heap[gf]? = some (.cells FORMS 81 (0, 0))) :
    Calls Tryz.prog 80 #[.pointer (some ⟨g, 0, none⟩), .agg #[.int .i64 1, .string s, .int .i64 cols, .slice A3 n c]] w fun e w' => e = .returned (.bool (s.toList == ([] : List UInt8) && (cols == 0 && decide ((n : Int) ≤ 200)))) ∧ Below w.heap.size w w' := by
  have hu26 := Tryz.underlying26
  have hu81 := Tryz.underlying81
  have hu65 := Tryz.underlying65
  have HG := Aside0.mk hg
  have HF := Aside0.mk hf
  clear hg hf
  go_enter Tryz.func80, Tryz.ntmps80
  go_wp2_with (first | ((with_reducible refine gate_dst (N := 3) rfl ?_); refine box_event ?hg (N := 3) ?hd (cs := #[.int .i64 1, .string s, .int .i64 cols, .slice A3 n c]) (t := 26) ?hr ?_; (case hd => rfl); (case hg => rfl); (case hr => first | (go_simp; done) | (go_simp; rfl)); intro gb hgb w3 hbox hb; have HB := Aside0.mk hb; have hg3 := blk_below HG.out hb; have hf3 := blk_below HF.out hb; have c0 : w3.cell? ⟨g, 0, none⟩ = some (.slice (some ⟨gf, 0, none⟩) 13 13) := (blk_cell hg3 0).trans rfl; have d0 : w3.cell? ⟨gf, 3, none⟩ = some (.string ⟨#[114, 111, 119]⟩) := (blk_cell hf3 _).trans rfl; have d1 : w3.cell? ⟨gf, 4, none⟩ = some (.func (.func 77) #[] #[]) := (blk_cell hf3 _).trans rfl; have d2 : w3.cell? ⟨gf, 5, none⟩ = some (.int .i64 (-1)) := (blk_cell hf3 _).trans rfl; have b0 : w3.cell? ⟨gb, 0, none⟩ = some (.int .i64 1) := (blk_cell hbox 0).trans rfl; have b1 : w3.cell? ⟨gb, 1, none⟩ = some (.string s) := (blk_cell hbox 1).trans rfl; have b2 : w3.cell? ⟨gb, 2, none⟩ = some (.int .i64 cols) := (blk_cell hbox 2).trans rfl; have b3 : w3.cell? ⟨gb, 3, none⟩ = some (.slice A3 n c) := (blk_cell hbox 3).trans rfl; have lb := blk_lt hbox; have lg := blk_lt hg3; have lf := blk_lt hf3; clear hg3 hf3 hbox hgb hb))
  go_region
  go_wp2
  all_goals go_ret
  all_goals exact ⟨by first | (simp [*]; done) | (simp [*]; omega), below_drew1 (below_alloc HB.out _)⟩

set_option maxHeartbeats 2000000 in
set_option maxRecDepth 100000 in
theorem shape_matrix (g gf n c : Nat) (left cols : Int) (s : ByteArray) (A3 : Option Addr) (w : World)
    (hg : w.heap[g]? = some (.cells #[.slice (some ⟨gf, 0, none⟩) 13 13, .int .i64 left] 65 (0, 0))) (hf : w.heap[gf]? = some (.cells FORMS 81 (0, 0))) :
    Calls Tryz.prog 80 #[.pointer (some ⟨g, 0, none⟩), .agg #[.int .i64 12, .string s, .int .i64 cols, .slice A3 n c]] w fun e w' => e = .returned (.bool (s.toList == ([] : List UInt8) && (decide (1 ≤ cols) && (decide (cols ≤ 16) && (decide (1 ≤ (n : Int)) && (decide ((n : Int) ≤ 256) && ((n : Int) % cols == 0))))))) ∧ Below w.heap.size w w' := by
  have hu26 := Tryz.underlying26
  have hu81 := Tryz.underlying81
  have hu65 := Tryz.underlying65
  have HG := Aside0.mk hg
  have HF := Aside0.mk hf
  clear hg hf
  go_enter Tryz.func80, Tryz.ntmps80
  go_wp2_with (first | ((with_reducible refine gate_dst (N := 3) rfl ?_); refine box_event ?hg (N := 3) ?hd (cs := #[.int .i64 12, .string s, .int .i64 cols, .slice A3 n c]) (t := 26) ?hr ?_; (case hd => rfl); (case hg => rfl); (case hr => first | (go_simp; done) | (go_simp; rfl)); intro gb hgb w3 hbox hb; have HB := Aside0.mk hb; have hg3 := blk_below HG.out hb; have hf3 := blk_below HF.out hb; have c0 : w3.cell? ⟨g, 0, none⟩ = some (.slice (some ⟨gf, 0, none⟩) 13 13) := (blk_cell hg3 0).trans rfl; have d0 : w3.cell? ⟨gf, 36, none⟩ = some (.string ⟨#[109, 97, 116, 114, 105, 120]⟩) := (blk_cell hf3 _).trans rfl; have d1 : w3.cell? ⟨gf, 37, none⟩ = some (.func (.func 77) #[] #[]) := (blk_cell hf3 _).trans rfl; have d2 : w3.cell? ⟨gf, 38, none⟩ = some (.int .i64 (-1)) := (blk_cell hf3 _).trans rfl; have b0 : w3.cell? ⟨gb, 0, none⟩ = some (.int .i64 12) := (blk_cell hbox 0).trans rfl; have b1 : w3.cell? ⟨gb, 1, none⟩ = some (.string s) := (blk_cell hbox 1).trans rfl; have b2 : w3.cell? ⟨gb, 2, none⟩ = some (.int .i64 cols) := (blk_cell hbox 2).trans rfl; have b3 : w3.cell? ⟨gb, 3, none⟩ = some (.slice A3 n c) := (blk_cell hbox 3).trans rfl; have lb := blk_lt hbox; have lg := blk_lt hg3; have lf := blk_lt hf3; clear hg3 hf3 hbox hgb hb))
  go_region
  go_wp2
  all_goals go_ret
  all_goals exact ⟨by first | (simp [*]; done) | (simp [*]; omega), below_drew1 (below_alloc HB.out _)⟩

/-- What a form says of a text. -/
def node_textok.f (k : Nat) (kind : Int) (s : ByteArray) : Option Bool :=
  if kind = 2 then node_Symbol.f k s else if kind = 3 then node_Number.f s else if kind = 4 then node_printable.f k s else if kind = 10 then node_accent.f k s else if kind = 11 then node_fence.f s else node_empty.f s
def node_slots (kind : Int) : Int := if kind ≤ 4 then 0 else if kind ≤ 8 then 2 else if kind = 9 then 3 else 1
/-- (*checker).shape. -/
def node_shape.f (k : Nat) (kind : Int) (s : ByteArray) (cols : Int) (n : Nat) : Option Bool :=
  if kind < 1 then some false
  else if 12 < kind then some false
  else if kind = 1 then some (s.toList == ([] : List UInt8) && (cols == 0 && decide ((n : Int) ≤ 200)))
  else if kind = 12 then some (s.toList == ([] : List UInt8) && (decide (1 ≤ cols) && (decide (cols ≤ 16) && (decide (1 ≤ (n : Int)) && (decide ((n : Int) ≤ 256) && ((n : Int) % cols == 0))))))
  else (node_textok.f k kind s).bind fun t => some (t && (cols == 0) && ((n : Int) == node_slots kind))
theorem node_textok.mono (a0 : Int) (a1 : ByteArray) (k : Nat) : LeO (node_textok.f k a0 a1) (node_textok.f (k + 1) a0 a1) := by
  unfold node_textok.f
  repeat' first
    | exact node_Symbol.mono _ _
    | exact node_printable.mono _ _
    | exact node_accent.mono _ _
    | exact LeO.refl _
    | refine LeO.ite ?_ ?_
theorem node_shape.mono (a0 : Int) (a1 : ByteArray) (a2 : Int) (a3 : Nat) (k : Nat) : LeO (node_shape.f k a0 a1 a2 a3) (node_shape.f (k + 1) a0 a1 a2 a3) := by
  unfold node_shape.f
  repeat' first
    | exact LeO.bind (node_textok.mono _ _ _) (fun _ => LeO.refl _)
    | exact LeO.refl _
    | refine LeO.ite ?_ ?_
theorem drawn_below {a : Bool} {e : Ending} {W w' : World} (h : e = .returned (.bool a) ∧ Drawn0 W w') : e = .returned (.bool a) ∧ Below W.heap.size W w' := ⟨h.1, h.2.below⟩
theorem ent_Symbol (xs : Array Value) (W : World) : (callFunc 12 xs).run Tryz.prog W = .ok (.enter 12 xs) W := by go_simp
theorem ent_Number (xs : Array Value) (W : World) : (callFunc 14 xs).run Tryz.prog W = .ok (.enter 14 xs) W := by go_simp
theorem ent_printable (xs : Array Value) (W : World) : (callFunc 78 xs).run Tryz.prog W = .ok (.enter 78 xs) W := by go_simp
theorem ent_empty (xs : Array Value) (W : World) : (callFunc 77 xs).run Tryz.prog W = .ok (.enter 77 xs) W := by go_simp
theorem ent_accent (xs : Array Value) (W : World) : (callFunc 41 xs).run Tryz.prog W = .ok (.enter 41 xs) W := by go_simp
theorem ent_fence (xs : Array Value) (W : World) : (callFunc 79 xs).run Tryz.prog W = .ok (.enter 79 xs) W := by go_simp
theorem node_shape.calls (k : Nat) (g gf n c : Nat) (left cols kind : Int) (s : ByteArray) (A3 : Option Addr) (r : Bool) (w : World)
    (hg : w.heap[g]? = some (.cells #[.slice (some ⟨gf, 0, none⟩) 13 13, .int .i64 left] 65 (0, 0))) (hf : w.heap[gf]? = some (.cells FORMS 81 (0, 0)))
    (h : node_shape.f k kind s cols n = some r) :
    Calls Tryz.prog 80 #[.pointer (some ⟨g, 0, none⟩), .agg #[.int .i64 kind, .string s, .int .i64 cols, .slice A3 n c]] w fun e w' => e = .returned (.bool r) ∧ Below w.heap.size w w' := by
  unfold node_shape.f at h
  split at h
  · rename_i h1
    obtain rfl := Option.some.inj h
    exact shape_out g gf n c left cols kind s A3 w (.inl h1)
  split at h
  · rename_i h1 h2
    obtain rfl := Option.some.inj h
    exact shape_out g gf n c left cols kind s A3 w (.inr h2)
  split at h
  · rename_i h3
    obtain rfl := Option.some.inj h
    subst h3
    exact shape_row g gf n c left cols s A3 w hg hf
  split at h
  · rename_i h4
    obtain rfl := Option.some.inj h
    subst h4
    exact shape_matrix g gf n c left cols s A3 w hg hf
  rename_i h1 h2 h3 h4
  obtain ⟨t, ht, h⟩ := Option.bind_eq_some_iff.mp h
  obtain rfl := Option.some.inj h
  have hcases : kind = 2 ∨ kind = 3 ∨ kind = 4 ∨ kind = 5 ∨ kind = 6 ∨ kind = 7 ∨ kind = 8 ∨ kind = 9 ∨ kind = 10 ∨ kind = 11 := by omega
  rcases hcases with rfl | rfl | rfl | rfl | rfl | rfl | rfl | rfl | rfl | rfl
  · exact shape_mid g gf n c left cols 2 0 s _ 12 A3 w t (by omega) (by omega) hg hf rfl rfl rfl ent_Symbol (fun W => node_Symbol.calls k s t W ht)
  · exact shape_mid g gf n c left cols 3 0 s _ 14 A3 w t (by omega) (by omega) hg hf rfl rfl rfl ent_Number (fun W => node_Number.calls s t W ht)
  · exact shape_mid g gf n c left cols 4 0 s _ 78 A3 w t (by omega) (by omega) hg hf rfl rfl rfl ent_printable (fun W => (node_printable.calls k s t W ht).mono fun _ _ h => drawn_below h)
  · exact shape_mid g gf n c left cols 5 2 s _ 77 A3 w t (by omega) (by omega) hg hf rfl rfl rfl ent_empty (fun W => (node_empty.calls s t W ht).mono fun _ _ h => drawn_below h)
  · exact shape_mid g gf n c left cols 6 2 s _ 77 A3 w t (by omega) (by omega) hg hf rfl rfl rfl ent_empty (fun W => (node_empty.calls s t W ht).mono fun _ _ h => drawn_below h)
  · exact shape_mid g gf n c left cols 7 2 s _ 77 A3 w t (by omega) (by omega) hg hf rfl rfl rfl ent_empty (fun W => (node_empty.calls s t W ht).mono fun _ _ h => drawn_below h)
  · exact shape_mid g gf n c left cols 8 2 s _ 77 A3 w t (by omega) (by omega) hg hf rfl rfl rfl ent_empty (fun W => (node_empty.calls s t W ht).mono fun _ _ h => drawn_below h)
  · exact shape_mid g gf n c left cols 9 3 s _ 77 A3 w t (by omega) (by omega) hg hf rfl rfl rfl ent_empty (fun W => (node_empty.calls s t W ht).mono fun _ _ h => drawn_below h)
  · exact shape_mid g gf n c left cols 10 1 s _ 41 A3 w t (by omega) (by omega) hg hf rfl rfl rfl ent_accent (fun W => node_accent.calls k s t W ht)
  · exact shape_mid g gf n c left cols 11 1 s _ 79 A3 w t (by omega) (by omega) hg hf rfl rfl rfl ent_fence (fun W => (node_fence.calls s t W ht).mono fun _ _ h => drawn_below h)
mutual
def node_check.l0 : Nat → Int → Int → List S26 → Int → Int → Option (Bool × Int)
  | 0, _, _, _, _, _ => none
  | k + 1, left, kind, l, depth, i => if i < (l.length : Int) then (if 0 ≤ i then (if ((rd_T26 l i).f0 == 1) = (kind == 1) then some (false, left) else ((node_check.f k left (rd_T26 l i).f0 (rd_T26 l i).f1 (rd_T26 l i).f2 (rd_T26 l i).f3 (wrap64 (depth - 1))).bind fun b => (if b.1 = true then (node_check.l0 k b.2 kind l depth (wrap64 (i + 1))) else some (false, b.2)))) else none) else some (true, left)
def node_check.f : Nat → Int → Int → ByteArray → Int → List S26 → Int → Option (Bool × Int)
  | 0, _, _, _, _, _, _ => none
  | k + 1, left, kind, s, cols, l, depth => if wrap64 (left - 1) < 0 then some (false, wrap64 (left - 1)) else (if depth = 0 then some (false, wrap64 (left - 1)) else ((node_shape.f k kind s cols l.length).bind fun t => (if t = true then node_check.l0 k (wrap64 (left - 1)) kind l depth 0 else some (false, wrap64 (left - 1)))))
end

/-- What a checker's world holds. -/
structure Chk (w0 : World) (g gf : Nat) (left : Int) (w : World) : Prop where
  g0 : w0.heap.size ≤ g
  ne : gf ≠ g
  hg : w.heap[g]? = some (.cells #[.slice (some ⟨gf, 0, none⟩) 13 13, .int .i64 left] 65 (0, 0))
  hf : w.heap[gf]? = some (.cells FORMS 81 (0, 0))
  hb : Below w0.heap.size w0 w
theorem Chk.step {w0 : World} {g gf : Nat} {left : Int} {w w1 : World} (h : Chk w0 g gf left w) (hb : Below w.heap.size w w1) : Chk w0 g gf left w1 :=
  ⟨h.g0, h.ne, blk_below h.hg hb, blk_below h.hf hb, below_step h.hb hb⟩
theorem Chk.alloc {w0 : World} {g gf : Nat} {left : Int} {w : World} (h : Chk w0 g gf left w) (o : Obj) : Chk w0 g gf left (w.alloc o) := h.step (below_alloc (Below.refl _ _) o)
theorem Chk.drew {w0 : World} {g gf : Nat} {left : Int} {w : World} (h : Chk w0 g gf left w) : Chk w0 g gf left w.drew := h.step (below_drew1 (Below.refl _ _))
theorem Chk.set {w0 : World} {g gf : Nat} {left : Int} {w : World} (h : Chk w0 g gf left w) (x : Int) : Chk w0 g gf x (w.setCell ⟨g, 1, none⟩ (.int .i64 x)) :=
  ⟨h.g0, h.ne, by simpa using blk_set h.hg 1 (.int .i64 x), blk_far h.hf h.ne _, h.hb.setCell (p := ⟨g, 1, none⟩) h.g0 _⟩

set_option maxHeartbeats 4000000 in
set_option maxRecDepth 100000 in
theorem node_check.calls (k : Nat) : ∀ (g gf c : Nat) (left kind : Int) (s : ByteArray) (cols : Int) (A3 : Option Addr) (l : List S26) (depth : Int) (r : Bool) (L : Int) (w0 w : World) (hr : Kd.C k26 w0 A3 l.length l) (hc : l.length ≤ c)
    (hI : Chk w0 g gf left w) (h : node_check.f k left kind s cols l depth = some (r, L)),
    Calls Tryz.prog 58 #[.pointer (some ⟨g, 0, none⟩), .agg #[.int .i64 kind, .string s, .int .i64 cols, .slice A3 l.length c], .int .i64 depth] w fun e w' => e = .returned (.bool r) ∧ Chk w0 g gf L w' ∧ KeepBut w w' g none := by
  induction k using Nat.strongRecOn with
  | _ k ih =>
  intro g gf c left kind s cols A3 l depth r L w0 w hr hc hI h
  cases k with
  | zero => exact absurd h (by simp [node_check.f])
  | succ k =>
  simp only [node_check.f] at h
  have hu26 := Tryz.underlying26
  have hu65 := Tryz.underlying65
  have HR := Aside0.mk hr
  have HC := Aside0.mk hc
  have HI := Aside0.mk hI
  have HK := Aside0.mk (KeepBut.refl w g none)
  have e1 : w.cell? ⟨g, 1, none⟩ = some (.int .i64 left) := (blk_cell hI.hg 1).trans rfl
  have lg : g < w.heap.size := blk_lt hI.hg
  have fz : w.frozen? ⟨g, 1, none⟩ = false := blk_frozen hI.hg 1
  clear hr hc hI
  by_cases h1 : wrap64 (left - 1) < 0
  · rw [if_pos h1] at h
    simp only [Option.some.injEq, Prod.mk.injEq] at h
    obtain ⟨rfl, rfl⟩ := h
    have d1 : decide (wrap64 (left - 1) < 0) = true := decide_eq_true h1
    clear h1
    go_enter Tryz.func58, Tryz.ntmps58
    go_wp2_with fail
    go_ret
    exact ⟨rfl, (HI.out.set _).alloc _, keep_alloc (KeepBut.set_ HK.out _ _) _⟩
  rw [if_neg h1] at h
  have d1 : decide (wrap64 (left - 1) < 0) = false := decide_eq_false h1
  clear h1
  by_cases h2 : depth = 0
  · rw [if_pos h2] at h
    subst h2
    simp only [Option.some.injEq, Prod.mk.injEq] at h
    obtain ⟨rfl, rfl⟩ := h
    go_enter Tryz.func58, Tryz.ntmps58
    go_wp2_with fail
    go_ret
    exact ⟨rfl, (HI.out.set _).alloc _, keep_alloc (KeepBut.set_ HK.out _ _) _⟩
  rw [if_neg h2] at h
  have d2 : (depth == 0) = false := beq_eq_false_iff_ne.2 h2
  clear h2
  obtain ⟨t, ht, h⟩ := Option.bind_eq_some_iff.mp h
  have HT := Aside0.mk ht
  clear ht
  go_enter Tryz.func58, Tryz.ntmps58
  go_wp2_with fail
  refine (node_shape.calls k g gf l.length c (wrap64 (left - 1)) cols kind s A3 t _ ((HI.out.set _).alloc _).hg ((HI.out.set _).alloc _).hf HT.out).mono ?_
  rintro e w1 ⟨rfl, hb1⟩
  have HI1 := Aside0.mk (((HI.out.set _).alloc _).step hb1)
  have HK1 := Aside0.mk (KeepBut.trans (keep_alloc (KeepBut.set_ HK.out 1 _) _) (KeepBut.of_below hb1 g none) (.inl rfl))
  have hx : w1.heap[w.heap.size]? = some (.cells #[.int .i64 kind, .string s, .int .i64 cols, .slice A3 l.length c] 26 (0, 0)) := by
    have z := blk_below (blk_new (w.setCell ⟨g, 1, none⟩ (.int .i64 (wrap64 (left - 1)))) (.cells #[.int .i64 kind, .string s, .int .i64 cols, .slice A3 l.length c] 26 (0, 0))) hb1
    simpa using z
  have HX := Aside0.mk hx
  clear hb1 hx HI HK e1 lg fz
  generalize w.heap.size = gb at HX ⊢
  cases t with
  | false =>
    simp only [Bool.false_eq_true, if_false, Option.some.injEq, Prod.mk.injEq] at h
    obtain ⟨rfl, rfl⟩ := h
    go_wp2
    go_ret
    exact ⟨rfl, HI1.out, HK1.out⟩
  | true =>
    simp only [if_true] at h
    have b0 : w1.cell? ⟨gb, 3, none⟩ = some (.slice A3 l.length c) := (blk_cell HX.out 3).trans rfl
    have H' := Aside0.mk h
    clear h
    go_wp2
    clear b0
    go_loopg [34] k (fun kq v34 w' => ∃ (i : Int) (lf : Int), v34 = .int .i64 i ∧ Aside0 (node_check.l0 kq lf kind l depth i = some (r, L)) ∧ Aside0 (kq ≤ k) ∧ Aside0 (Chk w0 g gf lf w') ∧ Aside0 (KeepBut w w' g none) ∧ Aside0 (w'.heap[gb]? = some (.cells #[.int .i64 kind, .string s, .int .i64 cols, .slice A3 l.length c] 26 (0, 0))))
    case atStart => exact ⟨0, _, rfl, H', ⟨Nat.le_refl _⟩, HI1, HK1, HX⟩
    case round =>
      clear H' HI1 HK1 HX
      obtain ⟨i, lf, rfl, HA, HQ, HI, HK, HX⟩ := hrel
      cases gk with
      | zero => exact absurd HA.out (by simp [node_check.l0])
      | succ k1 =>
        have h := HA.out
        clear HA
        simp only [node_check.l0] at h
        by_cases c1 : i < (l.length : Int)
        · rw [if_pos c1] at h
          by_cases c2 : 0 ≤ i
          · rw [if_pos c2] at h
            have c1b : decide (i < (l.length : Int)) = true := decide_eq_true c1
            have b0 : wr.cell? ⟨gb, 0, none⟩ = some (.int .i64 kind) := (blk_cell HX.out 0).trans rfl
            obtain ⟨ad, A4, c4, e, hx0, hx1, hx2, hx3, hl4, hi4⟩ := at_T26 HR.out i c2 c1
            cases e
            replace hx0 := (HI.out.hb.cell (World.block_lt_of_cell? w0 _ hx0)).trans hx0
            replace hx1 := (HI.out.hb.cell (World.block_lt_of_cell? w0 _ hx1)).trans hx1
            replace hx2 := (HI.out.hb.cell (World.block_lt_of_cell? w0 _ hx2)).trans hx2
            replace hx3 := (HI.out.hb.cell (World.block_lt_of_cell? w0 _ hx3)).trans hx3
            have HI4 := Aside0.mk hi4
            have HL4 := Aside0.mk hl4
            clear hi4 hl4
            have lgb : gb < wr.heap.size := blk_lt HX.out
            replace c2 := eq_true c2
            replace c1 := eq_true c1
            by_cases c3 : ((rd_T26 l i).f0 == 1) = (kind == 1)
            · rw [if_pos c3] at h
              simp only [Option.some.injEq, Prod.mk.injEq] at h
              obtain ⟨rfl, rfl⟩ := h
              have d3 : (((rd_T26 l i).f0 == 1) == (kind == 1)) = true := by simpa using c3
              clear c3
              go_wp2_with fail
              go_ret
              exact ⟨rfl, HI.out.alloc _, keep_alloc HK.out _⟩
            · rw [if_neg c3] at h
              have d3 : (((rd_T26 l i).f0 == 1) == (kind == 1)) = false := by simpa using c3
              clear c3
              obtain ⟨⟨r1, L1⟩, hq, h⟩ := Option.bind_eq_some_iff.mp h
              have HQ1 := Aside0.mk hq
              clear hq
              simp only at h
              go_wp2_with fail
              refine (ih k1 (by have := HQ.out; omega) g gf c4 lf _ _ _ A4 (rd_T26 l i).f3 _ r1 L1 w0 _ HI4.out HL4.out (HI.out.alloc _) HQ1.out).mono ?_
              rintro e w2 ⟨rfl, hI2, hK2⟩
              have HI2 := Aside0.mk hI2
              have HK2 := Aside0.mk (KeepBut.trans (keep_alloc HK.out _) hK2 (.inl rfl))
              have HX2 := Aside0.mk (KeepBut.blk hK2 (blk_alloc HX.out _) (fun e => by subst e; have z := (Option.some.inj (HI.out.hg.symm.trans HX.out)); injection z with _ z2; exact absurd z2 (by decide)) (by simp))
              clear hI2 hK2 HI HK HX b0 hx0 hx1 hx2 hx3 HI4 HL4 lgb
              cases r1 with
              | false =>
                simp only [Bool.false_eq_true, if_false, Option.some.injEq, Prod.mk.injEq] at h
                obtain ⟨rfl, rfl⟩ := h
                go_wp2
                go_ret
                exact ⟨rfl, HI2.out, HK2.out⟩
              | true =>
                simp only [if_true] at h
                have H' := Aside0.mk h
                clear h
                go_wp2
                go_roundg k1
                case measure => have := HQ.out; omega
                case rel => exact ⟨_, L1, rfl, H', ⟨by have := HQ.out; omega⟩, HI2, HK2, HX2⟩
          · rw [if_neg c2] at h
            exact absurd h (by simp)
        · rw [if_neg c1] at h
          have c1b : decide (i < (l.length : Int)) = false := decide_eq_false c1
          clear c1
          simp only [Option.some.injEq, Prod.mk.injEq] at h
          obtain ⟨rfl, rfl⟩ := h
          go_wp2
          go_ret
          exact ⟨rfl, HI.out, HK.out⟩
def node_Valid.f (k : Nat) (a0_0 : Int) (a0_1 : ByteArray) (a0_2 : Int) (l0_3 : List S26) : Option Bool := if a0_0 = 1 then ((node_check.f k 1000 a0_0 a0_1 a0_2 l0_3 24).bind fun b => some b.1) else some false
theorem node_check.mono_l : ∀ k, (∀ y0 y1 y2 y3 y4 y5, LeO (node_check.f k y0 y1 y2 y3 y4 y5) (node_check.f (k + 1) y0 y1 y2 y3 y4 y5)) ∧ (∀ y0 y1 y2 y3 y4, LeO (node_check.l0 k y0 y1 y2 y3 y4) (node_check.l0 (k + 1) y0 y1 y2 y3 y4))
  | 0 => ⟨fun _ _ _ _ _ _ r h => by simp [node_check.f] at h, fun _ _ _ _ _ r h => by simp [node_check.l0] at h⟩
  | k + 1 => by
    obtain ⟨ih0, ih1⟩ := node_check.mono_l k
    refine ⟨?_, ?_⟩
    · intro y0 y1 y2 y3 y4 y5
      unfold node_check.f
      repeat' first
        | exact ih1 _ _ _ _ _
        | exact LeO.refl _
        | refine LeO.ite ?_ ?_
        | refine LeO.bind (node_shape.mono _ _ _ _ _) (fun _ => ?_)
    · intro y0 y1 y2 y3 y4
      unfold node_check.l0
      repeat' first
        | exact ih1 _ _ _ _ _
        | exact LeO.refl _
        | refine LeO.ite ?_ ?_
        | refine LeO.bind (ih0 _ _ _ _ _ _) (fun _ => ?_)
theorem node_Valid.mono : ∀ a0 a1 a2 a3 k, LeO (node_Valid.f k a0 a1 a2 a3) (node_Valid.f (k + 1) a0 a1 a2 a3) := by
  intro a0 a1 a2 a3 k
  unfold node_Valid.f
  exact LeO.ite (LeO.bind ((node_check.mono_l k).1 _ _ _ _ _ _) (fun _ => LeO.refl _)) (LeO.refl _)

set_option maxHeartbeats 4000000 in
set_option maxRecDepth 100000 in
theorem node_Valid.calls (k : Nat) (a0_0 : Int) (a0_1 : ByteArray) (a0_2 : Int) (A0_3 : Option Addr) (c0_3 : Nat) (l0_3 : List (S26)) (r : Bool) (w : World) (hr0_3 : Kd.C k26 w A0_3 l0_3.length l0_3) (hc0_3 : l0_3.length ≤ c0_3) (h : node_Valid.f k a0_0 a0_1 a0_2 l0_3 = some r) :
    Calls Tryz.prog 23 #[.agg #[.int .i64 a0_0, .string a0_1, .int .i64 a0_2, .slice A0_3 l0_3.length c0_3]] w fun e w' => e = .returned (.bool r) ∧ Below w.heap.size w w' := by
  have hu26 := Tryz.underlying26
  have hu65 := Tryz.underlying65
  have HR := Aside0.mk hr0_3
  have HC := Aside0.mk hc0_3
  clear hr0_3 hc0_3
  unfold node_Valid.f at h
  by_cases h1 : a0_0 = 1
  · rw [if_pos h1] at h
    subst h1
    obtain ⟨⟨r1, L1⟩, hq, h⟩ := Option.bind_eq_some_iff.mp h
    obtain rfl := Option.some.inj h
    have HQ := Aside0.mk hq
    clear hq h
    go_enter Tryz.func23, Tryz.ntmps23
    go_wp2_with fail
    refine (node_forms.calls _).mono ?_
    rintro e w1 ⟨rfl, rfl⟩
    go_wp2_with fail
    refine (node_check.calls k (w.heap.size + 1 + 1) (w.heap.size + 1) c0_3 1000 _ _ _ _ l0_3 24 r1 L1 w _ HR.out HC.out ⟨by omega, by omega, ?_, ?_, (by repeat (first | exact Below.refl _ _ | apply below_alloc | apply below_drew1))⟩ HQ.out).mono ?_
    · simpa using blk_new (((w.alloc (.cells #[.int .i64 1, .string a0_1, .int .i64 a0_2, .slice A0_3 l0_3.length c0_3] 26)).alloc (.cells FORMS 81))) (.cells #[.slice (some ⟨w.heap.size + 1, 0, none⟩) 13 13, .int .i64 1000] 65)
    · refine blk_alloc ?_ _
      simpa using blk_new (w.alloc (.cells #[.int .i64 1, .string a0_1, .int .i64 a0_2, .slice A0_3 l0_3.length c0_3] 26)) (.cells FORMS 81)
    rintro e w1 ⟨rfl, hI, hK⟩
    have HB := Aside0.mk hI.hb
    clear hI hK
    go_wp2
    go_ret
    exact ⟨rfl, HB.out⟩
  · rw [if_neg h1] at h
    obtain rfl := Option.some.inj h
    have d1 : (a0_0 == 1) = false := beq_eq_false_iff_ne.2 h1
    clear h1 h
    go_enter Tryz.func23, Tryz.ntmps23
    go_wp2_with fail
    refine (node_forms.calls _).mono ?_
    rintro e w1 ⟨rfl, rfl⟩
    go_wp2_with fail
    go_ret
    exact ⟨rfl, (by repeat (first | exact Below.refl _ _ | apply below_alloc | apply below_drew1))⟩


/-! ### vinculumlaw09_awake: function 11 -/
def vinculumlaw09_awake.f (k : Nat)  : Option (Bool) := (some (([(⟨2, (⟨#[120]⟩ : ByteArray), 0, ([] : List (S26))⟩ : S26), (⟨5, (⟨#[]⟩ : ByteArray), 0, (([(⟨1, (⟨#[]⟩ : ByteArray), 0, ([] : List (S26))⟩ : S26), (⟨1, (⟨#[]⟩ : ByteArray), 0, ([] : List (S26))⟩ : S26)] : List (S26)))⟩ : S26)] : List (S26)) : List (S26))).bind fun y132 => ((node_Valid.f k 1 (⟨#[]⟩ : ByteArray) 0 y132).bind fun t136 => (if t136 = true then ((node_Dump.f k 1 (⟨#[]⟩ : ByteArray) 0 y132).bind fun t137 => (some (t137.toList == ([114, 111, 119, 40, 115, 121, 109, 58, 34, 120, 34, 32, 102, 114, 97, 99, 40, 114, 111, 119, 32, 114, 111, 119, 41, 41] : List UInt8)))) else (some false)))
theorem vinculumlaw09_awake.mono : ∀ k, LeO (vinculumlaw09_awake.f k ) (vinculumlaw09_awake.f (k + 1) ) := by
  intro  k
  unfold vinculumlaw09_awake.f
  repeat' first
      | (with_reducible exact node_Dump.mono _ _ _ _ _)
      | (with_reducible exact node_Valid.mono _ _ _ _ _)
      | (with_reducible exact LeO.refl _)
      | (with_reducible exact LeO.none _)
      | (with_reducible refine LeO.ite ?_ ?_)
      | (with_reducible refine LeO.bind ?_ (fun _ => ?_))
      | exact node_Dump.mono _ _ _ _ _
      | exact node_Valid.mono _ _ _ _ _
      | exact LeO.none _
      | refine LeO.ite ?_ ?_
      | refine LeO.bind ?_ (fun _ => ?_)
set_option maxHeartbeats 8000000 in
set_option maxRecDepth 100000 in
theorem vinculumlaw09_awake.calls (k : Nat)  (r : Bool) (w : World) (h : vinculumlaw09_awake.f k  = some r) :
    Calls Tryz.prog 11 #[] w fun e w' => e = .returned (.bool r) ∧ Below w.heap.size w w' := by
  have hu26 := Tryz.underlying26
  have HB := Aside0.mk (Below.refl w.heap.size w)
  have H : ((some (([(⟨2, (⟨#[120]⟩ : ByteArray), 0, ([] : List (S26))⟩ : S26), (⟨5, (⟨#[]⟩ : ByteArray), 0, (([(⟨1, (⟨#[]⟩ : ByteArray), 0, ([] : List (S26))⟩ : S26), (⟨1, (⟨#[]⟩ : ByteArray), 0, ([] : List (S26))⟩ : S26)] : List (S26)))⟩ : S26)] : List (S26)) : List (S26))).bind fun y132 => ((node_Valid.f k 1 (⟨#[]⟩ : ByteArray) 0 y132).bind fun t136 => (if t136 = true then ((node_Dump.f k 1 (⟨#[]⟩ : ByteArray) 0 y132).bind fun t137 => (some (t137.toList == ([114, 111, 119, 40, 115, 121, 109, 58, 34, 120, 34, 32, 102, 114, 97, 99, 40, 114, 111, 119, 32, 114, 111, 119, 41, 41] : List UInt8)))) else (some false)))) = some r := h
  clear h
  obtain ⟨y129, hy129⟩ : ∃ y_ : List (S26), y_ = (([(⟨1, (⟨#[]⟩ : ByteArray), 0, ([] : List (S26))⟩ : S26), (⟨1, (⟨#[]⟩ : ByteArray), 0, ([] : List (S26))⟩ : S26)] : List (S26))) := ⟨_, rfl⟩
  replace H : ((some (([(⟨2, (⟨#[120]⟩ : ByteArray), 0, ([] : List (S26))⟩ : S26), (⟨5, (⟨#[]⟩ : ByteArray), 0, y129⟩ : S26)] : List (S26)) : List (S26))).bind fun y132 => ((node_Valid.f k 1 (⟨#[]⟩ : ByteArray) 0 y132).bind fun t136 => (if t136 = true then ((node_Dump.f k 1 (⟨#[]⟩ : ByteArray) 0 y132).bind fun t137 => (some (t137.toList == ([114, 111, 119, 40, 115, 121, 109, 58, 34, 120, 34, 32, 102, 114, 97, 99, 40, 114, 111, 119, 32, 114, 111, 119, 41, 41] : List UInt8)))) else (some false)))) = some r := by first | (rw [hy129]; with_reducible exact H) | (have H2_ := (Option.bind_some _ _).symm.trans H; rw [hy129]; with_reducible exact H2_) | (have H2_ := (Option.bind_some _ _).symm.trans H; with_reducible exact H2_) | with_reducible exact H | (rw [hy129]; exact H) | exact H
  have Ny129 := Aside0.mk hy129
  clear hy129
  obtain ⟨y132, hy132⟩ : ∃ y_ : List (S26), y_ = (([(⟨2, (⟨#[120]⟩ : ByteArray), 0, ([] : List (S26))⟩ : S26), (⟨5, (⟨#[]⟩ : ByteArray), 0, y129⟩ : S26)] : List (S26))) := ⟨_, rfl⟩
  replace H : ((node_Valid.f k 1 (⟨#[]⟩ : ByteArray) 0 y132).bind fun t136 => (if t136 = true then ((node_Dump.f k 1 (⟨#[]⟩ : ByteArray) 0 y132).bind fun t137 => (some (t137.toList == ([114, 111, 119, 40, 115, 121, 109, 58, 34, 120, 34, 32, 102, 114, 97, 99, 40, 114, 111, 119, 32, 114, 111, 119, 41, 41] : List UInt8)))) else (some false))) = some r := by first | (rw [hy132]; with_reducible exact H) | (have H2_ := (Option.bind_some _ _).symm.trans H; rw [hy132]; with_reducible exact H2_) | (have H2_ := (Option.bind_some _ _).symm.trans H; with_reducible exact H2_) | with_reducible exact H | (rw [hy132]; exact H) | exact H
  have Ny132 := Aside0.mk hy132
  clear hy132
  replace H := Option.bind_eq_some_iff.mp H
  obtain ⟨t136, A10, H⟩ := H
  replace H : (if t136 = true then ((node_Dump.f k 1 (⟨#[]⟩ : ByteArray) 0 y132).bind fun t137 => (some (t137.toList == ([114, 111, 119, 40, 115, 121, 109, 58, 34, 120, 34, 32, 102, 114, 97, 99, 40, 114, 111, 119, 32, 114, 111, 119, 41, 41] : List UInt8)))) else (some false)) = some r := H
  have A1 := Aside0.mk A10
  clear A10
  by_cases c2 : t136 = true
  · subst c2
    have H1 : ((node_Dump.f k 1 (⟨#[]⟩ : ByteArray) 0 y132).bind fun t137 => (some (t137.toList == ([114, 111, 119, 40, 115, 121, 109, 58, 34, 120, 34, 32, 102, 114, 97, 99, 40, 114, 111, 119, 32, 114, 111, 119, 41, 41] : List UInt8)))) = some r := by rw [if_pos rfl] at H; exact H
    clear H
    have H := H1
    clear H1
    replace H := Option.bind_eq_some_iff.mp H
    obtain ⟨t137, A30, H⟩ := H
    replace H : (some (t137.toList == ([114, 111, 119, 40, 115, 121, 109, 58, 34, 120, 34, 32, 102, 114, 97, 99, 40, 114, 111, 119, 32, 114, 111, 119, 41, 41] : List UInt8))) = some r := H
    have A3 := Aside0.mk A30
    clear A30
    obtain rfl := Option.some.inj H
    go_enter Tryz.func11, Tryz.ntmps11
    go_wp2_with (first | ((with_reducible refine gate_dst (N := 5) rfl ?_); refine Kd.N_lit k26 _ 26 ?hg (N' := 5) ?hd (xs := ([(⟨1, (⟨#[]⟩ : ByteArray), 0, ([] : List (S26))⟩ : S26), (⟨1, (⟨#[]⟩ : ByteArray), 0, ([] : List (S26))⟩ : S26)] : List (S26))) (inner := [.int .i64 1, .string (⟨#[]⟩ : ByteArray), .int .i64 0, .slice none 0 0, .int .i64 1, .string (⟨#[]⟩ : ByteArray), .int .i64 0, .slice none 0 0]) (ok := (fun _ => True)) (okp := (fun _ => True)) ?hr ?hp (fun _ hk => hk) ((show ∀ k_, w.heap.size ≤ k_ → (fun _ => True) k_ from fun k_ hk => trivial) _ (Nat.le_refl _)) (Below.refl _ _) (Nat.le_refl _) (by simp) ?_; (case hd => rfl); (case hg => rfl); (case hr => first | (go_simp; done) | (go_simp; rfl)); (case hp => exact (Reps.c4 (show Kd.FK k26 _ _ (⟨1, (⟨#[]⟩ : ByteArray), 0, ([] : List (S26))⟩ : S26) [.int .i64 1, .string (⟨#[]⟩ : ByteArray), .int .i64 0, .slice none 0 0] from (k26_mkF _ _ (⟨1, (⟨#[]⟩ : ByteArray), 0, ([] : List (S26))⟩ : S26) (Nat.le_refl _) (Kd.F_nil _ _ _))) (Reps.c4 (show Kd.FK k26 _ _ (⟨1, (⟨#[]⟩ : ByteArray), 0, ([] : List (S26))⟩ : S26) [.int .i64 1, .string (⟨#[]⟩ : ByteArray), .int .i64 0, .slice none 0 0] from (k26_mkF _ _ (⟨1, (⟨#[]⟩ : ByteArray), 0, ([] : List (S26))⟩ : S26) (Nat.le_refl _) (Kd.F_nil _ _ _))) (Reps.none _ _)))); intro v130 w4 ho5 hb hg_ hnew_; clear hg_ hnew_; (first | rw [← Ny129.out] at ho5 | (simp only [Int.reduceToNat] at ho5; rw [← Ny129.out] at ho5)); have n0_ := Aside0.mk (Kd.N_lower ho5 (below_size (by repeat (first | (with_reducible first | exact HB.out | apply below_alloc | apply pw_below_drewN | apply below_drew1) | exact HB.out)))); have n1_ := Aside0.mk (below_step (by repeat (first | (with_reducible first | exact HB.out | apply below_alloc | apply pw_below_drewN | apply below_drew1) | exact HB.out)) hb); clear HB; have HO131 := n0_; have HB := n1_; clear n0_ n1_; clear hb ho5; obtain ⟨Ao6, co6, eo6⟩ := Kd.N_slice HO131.out; subst eo6) | ((with_reducible refine gate_dst (N := 7) rfl ?_); refine Kd.N_lit k26 _ 26 ?hg (N' := 7) ?hd (xs := ([(⟨2, (⟨#[120]⟩ : ByteArray), 0, ([] : List (S26))⟩ : S26), (⟨5, (⟨#[]⟩ : ByteArray), 0, y129⟩ : S26)] : List (S26))) (inner := [.int .i64 2, .string (⟨#[120]⟩ : ByteArray), .int .i64 0, .slice none 0 0, .int .i64 5, .string (⟨#[]⟩ : ByteArray), .int .i64 0, .slice Ao6 y129.length co6]) (ok := (fun _ => True)) (okp := (fun _ => True)) ?hr ?hp (fun _ hk => hk) ((show ∀ k_, w4.heap.size ≤ k_ → (fun _ => True) k_ from fun k_ hk => trivial) _ (Nat.le_refl _)) (Below.refl _ _) (Nat.le_refl _) (by simp) ?_; (case hd => rfl); (case hg => rfl); (case hr => first | (go_simp; done) | (go_simp; rfl)); (case hp => exact (Reps.c4 (show Kd.FK k26 _ _ (⟨2, (⟨#[120]⟩ : ByteArray), 0, ([] : List (S26))⟩ : S26) [.int .i64 2, .string (⟨#[120]⟩ : ByteArray), .int .i64 0, .slice none 0 0] from (k26_mkF _ _ (⟨2, (⟨#[120]⟩ : ByteArray), 0, ([] : List (S26))⟩ : S26) (Nat.le_refl _) (Kd.F_nil _ _ _))) (Reps.c4 (show Kd.FK k26 _ _ (⟨5, (⟨#[]⟩ : ByteArray), 0, y129⟩ : S26) [.int .i64 5, .string (⟨#[]⟩ : ByteArray), .int .i64 0, .slice Ao6 y129.length co6] from (k26_mkF _ _ (⟨5, (⟨#[]⟩ : ByteArray), 0, y129⟩ : S26) (Kd.N_reads' (Kd.N_mono (ok' := (fun _ => True)) (HO131.out) (fun k_ hk => trivial))).2.1 (Kd.N_F (Kd.N_mono (ok' := (fun _ => True)) (HO131.out) (fun k_ hk => trivial))))) (Reps.none _ _)))); intro v133 w7 ho8 hb hg_ hnew_; clear hg_ hnew_; (first | rw [← Ny132.out] at ho8 | (simp only [Int.reduceToNat] at ho8; rw [← Ny132.out] at ho8)); have n0_ := Aside0.mk (Kd.N_lower ho8 (below_size (by repeat (first | (with_reducible first | exact HB.out | apply below_alloc | apply pw_below_drewN | apply below_drew1) | exact HB.out)))); have n1_ := Aside0.mk (below_step (by repeat (first | (with_reducible first | exact HB.out | apply below_alloc | apply pw_below_drewN | apply below_drew1) | exact HB.out)) hb); clear HB; clear HO131; have HO134 := n0_; have HB := n1_; clear n0_ n1_; clear hb ho8; obtain ⟨Ao9, co9, eo9⟩ := Kd.N_slice HO134.out; subst eo9) | ((with_reducible refine gate_dst (N := 1) rfl ?_); refine box_event ?hg (N := 1) ?hd (cs := #[.int .i64 0, .string (⟨#[]⟩ : ByteArray), .int .i64 0, .slice none 0 0]) (t := 26) ?hr ?_; (case hd => rfl); (case hg => rfl); (case hr => first | (go_simp; done) | (go_simp; rfl)); intro gb135 hg w10 hbox hb; have n0_ := Aside0.mk (Kd.N_below (Kd.N_elderB (by (with_reducible repeat (first | apply Kd.N_alloc | apply Kd.N_drewN | apply Kd.N_drew)); exact HO134.out) gb135 (Nat.le_of_eq hg.symm)) hb); have n1_ := Aside0.mk (below_step (by repeat (first | (with_reducible first | exact HB.out | apply below_alloc | apply pw_below_drewN | apply below_drew1) | exact HB.out)) hb); have n2_ := Aside0.mk (hbox); have n3_ := Aside0.mk ((by rw [hg]; exact (below_size (by repeat (first | (with_reducible first | exact HB.out | apply below_alloc | apply pw_below_drewN | apply below_drew1) | exact HB.out))) : w.heap.size ≤ gb135)); have n4_ := Aside0.mk ((by rw [hg]; exact (below_size (by repeat (first | (with_reducible first | exact HB.out | apply below_alloc | apply pw_below_drewN | apply below_drew1) | exact HB.out))) : w.heap.size ≤ gb135)); clear HO134; clear HB; have HO134 := n0_; have HB := n1_; have BK135 := n2_; have GW135 := n3_; have GE135 := n4_; clear n0_ n1_ n2_ n3_ n4_; clear hb hbox hg; have hcz11_0 : w10.cell? ⟨gb135, 0, none⟩ = some (.int .i64 0) := (blk_cell BK135.out 0).trans rfl; have hcz11_1 : w10.cell? ⟨gb135, 1, none⟩ = some (.string (⟨#[]⟩ : ByteArray)) := (blk_cell BK135.out 1).trans rfl; have hcz11_2 : w10.cell? ⟨gb135, 2, none⟩ = some (.int .i64 0) := (blk_cell BK135.out 2).trans rfl; have hcz11_3 : w10.cell? ⟨gb135, 3, none⟩ = some (.slice none 0 0) := (blk_cell BK135.out 3).trans rfl; have hfz11_0 := blk_frozen BK135.out 0; have hfz11_1 := blk_frozen BK135.out 1; have hfz11_2 := blk_frozen BK135.out 2; have hfz11_3 := blk_frozen BK135.out 3) | ((with_reducible refine gate_callee (f := 23) rfl ?_); refine goesL_ (some 10) rfl rfl Tryz.func23 (by kernel_rfl) rfl #[.agg #[.int .i64 1, .string (⟨#[]⟩ : ByteArray), .int .i64 0, .slice Ao9 y132.length co9]] rfl (by (try simp only [List.map_toArray, List.map_cons, List.map_nil]); first | done | rfl | (simp only [List.length_drop, List.length_take]; rfl)) ?_; (with_reducible refine (node_Valid.calls k 1 (⟨#[]⟩ : ByteArray) 0 _ _ y132 true _ ?side1 ?side2 A1.out).mono ?_); (case side1 => refine (Kd.N_reads' (e := 26) (base := w.heap.size) (ok := fun k_ => (True ∧ k_ ≠ gb135)) (n := y132.length) (c := co9) ?_).2.2; exact (by (with_reducible repeat (first | apply Kd.N_alloc | apply Kd.N_drewN | apply Kd.N_drew)); exact (Kd.N_mono (Kd.N_far (p := ⟨gb135, 3, none⟩) (Kd.N_far (p := ⟨gb135, 2, none⟩) (Kd.N_far (p := ⟨gb135, 1, none⟩) (Kd.N_far (p := ⟨gb135, 0, none⟩) (Kd.N_mono HO134.out (fun k_ hk => (⟨hk, hk.2⟩ : _ ∧ k_ ≠ gb135))) (fun _ hk => hk.2) (.int .i64 1)) (fun _ hk => hk.2) (.string (⟨#[]⟩ : ByteArray))) (fun _ hk => hk.2) (.int .i64 0)) (fun _ hk => hk.2) (.slice Ao9 y132.length co9)) (fun _ h_ => h_.1)))); (case side2 => exact (Kd.N_reads' HO134.out).2.1); rintro e w12 ⟨rfl, hb⟩; refine ⟨_, rfl, ?_⟩; have n0_ := Aside0.mk (Kd.N_below (by (with_reducible repeat (first | apply Kd.N_alloc | apply Kd.N_drewN | apply Kd.N_drew)); exact (Kd.N_mono (Kd.N_far (p := ⟨gb135, 3, none⟩) (Kd.N_far (p := ⟨gb135, 2, none⟩) (Kd.N_far (p := ⟨gb135, 1, none⟩) (Kd.N_far (p := ⟨gb135, 0, none⟩) (Kd.N_mono HO134.out (fun k_ hk => (⟨hk, hk.2⟩ : _ ∧ k_ ≠ gb135))) (fun _ hk => hk.2) (.int .i64 1)) (fun _ hk => hk.2) (.string (⟨#[]⟩ : ByteArray))) (fun _ hk => hk.2) (.int .i64 0)) (fun _ hk => hk.2) (.slice Ao9 y132.length co9)) (fun _ h_ => h_.1))) hb); have n1_ := Aside0.mk (blk_below (g := gb135) (o := .cells #[.int .i64 1, .string (⟨#[]⟩ : ByteArray), .int .i64 0, .slice Ao9 y132.length co9] 26 (0, 0)) (by (with_reducible repeat (first | refine blk_drewN ?_ _ | refine blk_drew ?_ | refine blk_alloc ?_ _)); refine blk_put (cs := #[.int .i64 1, .string (⟨#[]⟩ : ByteArray), .int .i64 0, .slice none 0 0]) ?_ 3 _ rfl; (with_reducible repeat (first | refine blk_drewN ?_ _ | refine blk_drew ?_ | refine blk_alloc ?_ _)); refine blk_put (cs := #[.int .i64 1, .string (⟨#[]⟩ : ByteArray), .int .i64 0, .slice none 0 0]) ?_ 2 _ rfl; (with_reducible repeat (first | refine blk_drewN ?_ _ | refine blk_drew ?_ | refine blk_alloc ?_ _)); refine blk_put (cs := #[.int .i64 1, .string (⟨#[]⟩ : ByteArray), .int .i64 0, .slice none 0 0]) ?_ 1 _ rfl; (with_reducible repeat (first | refine blk_drewN ?_ _ | refine blk_drew ?_ | refine blk_alloc ?_ _)); refine blk_put (cs := #[.int .i64 0, .string (⟨#[]⟩ : ByteArray), .int .i64 0, .slice none 0 0]) ?_ 0 _ rfl; (with_reducible repeat (first | refine blk_drewN ?_ _ | refine blk_drew ?_ | refine blk_alloc ?_ _)); exact BK135.out) hb); have n2_ := Aside0.mk (below_step (by repeat (first | (with_reducible first | exact HB.out | apply below_alloc | apply pw_below_drewN | apply below_drew1 | refine below_set ?_ GE135.out) | exact HB.out)) hb); clear HO134; clear BK135; clear HB; have HO134 := n0_; have BK135 := n1_; have HB := n2_; clear n0_ n1_ n2_; (try clear hb); (try clear hb2); (try clear hk); (try clear hi); have hcz13_0 : w12.cell? ⟨gb135, 0, none⟩ = some (.int .i64 1) := (blk_cell BK135.out 0).trans rfl; have hcz13_1 : w12.cell? ⟨gb135, 1, none⟩ = some (.string (⟨#[]⟩ : ByteArray)) := (blk_cell BK135.out 1).trans rfl; have hcz13_2 : w12.cell? ⟨gb135, 2, none⟩ = some (.int .i64 0) := (blk_cell BK135.out 2).trans rfl; have hcz13_3 : w12.cell? ⟨gb135, 3, none⟩ = some (.slice Ao9 y132.length co9) := (blk_cell BK135.out 3).trans rfl; have hfz13_0 := blk_frozen BK135.out 0; have hfz13_1 := blk_frozen BK135.out 1; have hfz13_2 := blk_frozen BK135.out 2; have hfz13_3 := blk_frozen BK135.out 3) | (go_at_call 17; (with_reducible refine (node_Dump.calls k 1 (⟨#[]⟩ : ByteArray) 0 _ _ y132 t137 _ ?side1 ?side2 A3.out).mono ?_); (case side1 => repeat (first | exact (Kd.N_reads' HO134.out).2.2 | (with_reducible refine Kd.C_alloc ?_ _) | (with_reducible refine Kd.C_drewN ?_ _) | (with_reducible refine Kd.C_drew ?_))); (case side2 => exact (Kd.N_reads' HO134.out).2.1); rintro e w14 ⟨rfl, hb⟩; have n0_ := Aside0.mk (Kd.N_below (by (with_reducible repeat (first | apply Kd.N_alloc | apply Kd.N_drewN | apply Kd.N_drew)); exact HO134.out) hb); have n1_ := Aside0.mk (blk_below (g := gb135) (o := .cells #[.int .i64 1, .string (⟨#[]⟩ : ByteArray), .int .i64 0, .slice Ao9 y132.length co9] 26 (0, 0)) (by (with_reducible repeat (first | refine blk_drewN ?_ _ | refine blk_drew ?_ | refine blk_alloc ?_ _)); exact BK135.out) hb); have n2_ := Aside0.mk (below_step (by repeat (first | (with_reducible first | exact HB.out | apply below_alloc | apply pw_below_drewN | apply below_drew1 | refine below_set ?_ GE135.out) | exact HB.out)) hb); clear HO134; clear BK135; clear HB; have HO134 := n0_; have BK135 := n1_; have HB := n2_; clear n0_ n1_ n2_; (try clear hb); (try clear hb2); (try clear hk); (try clear hi)))
    go_ret
    exact ⟨by first | rfl | (simp [errW_none, errW_some] <;> rfl) | (simp [*, errW_none, errW_some] <;> rfl), by repeat (first | (with_reducible first | exact HB.out | apply below_alloc | apply pw_below_drewN | apply below_drew1 | refine below_set ?_ GE135.out) | exact HB.out)⟩
  · replace c2 := Bool.eq_false_iff.mpr c2
    subst c2
    have H1 : (some false) = some r := by rw [if_neg (show ¬ (false = true) by decide)] at H; exact H
    clear H
    have H := H1
    clear H1
    obtain rfl := Option.some.inj H
    go_enter Tryz.func11, Tryz.ntmps11
    go_wp2_with (first | ((with_reducible refine gate_dst (N := 5) rfl ?_); refine Kd.N_lit k26 _ 26 ?hg (N' := 5) ?hd (xs := ([(⟨1, (⟨#[]⟩ : ByteArray), 0, ([] : List (S26))⟩ : S26), (⟨1, (⟨#[]⟩ : ByteArray), 0, ([] : List (S26))⟩ : S26)] : List (S26))) (inner := [.int .i64 1, .string (⟨#[]⟩ : ByteArray), .int .i64 0, .slice none 0 0, .int .i64 1, .string (⟨#[]⟩ : ByteArray), .int .i64 0, .slice none 0 0]) (ok := (fun _ => True)) (okp := (fun _ => True)) ?hr ?hp (fun _ hk => hk) ((show ∀ k_, w.heap.size ≤ k_ → (fun _ => True) k_ from fun k_ hk => trivial) _ (Nat.le_refl _)) (Below.refl _ _) (Nat.le_refl _) (by simp) ?_; (case hd => rfl); (case hg => rfl); (case hr => first | (go_simp; done) | (go_simp; rfl)); (case hp => exact (Reps.c4 (show Kd.FK k26 _ _ (⟨1, (⟨#[]⟩ : ByteArray), 0, ([] : List (S26))⟩ : S26) [.int .i64 1, .string (⟨#[]⟩ : ByteArray), .int .i64 0, .slice none 0 0] from (k26_mkF _ _ (⟨1, (⟨#[]⟩ : ByteArray), 0, ([] : List (S26))⟩ : S26) (Nat.le_refl _) (Kd.F_nil _ _ _))) (Reps.c4 (show Kd.FK k26 _ _ (⟨1, (⟨#[]⟩ : ByteArray), 0, ([] : List (S26))⟩ : S26) [.int .i64 1, .string (⟨#[]⟩ : ByteArray), .int .i64 0, .slice none 0 0] from (k26_mkF _ _ (⟨1, (⟨#[]⟩ : ByteArray), 0, ([] : List (S26))⟩ : S26) (Nat.le_refl _) (Kd.F_nil _ _ _))) (Reps.none _ _)))); intro v130 w15 ho16 hb hg_ hnew_; clear hg_ hnew_; (first | rw [← Ny129.out] at ho16 | (simp only [Int.reduceToNat] at ho16; rw [← Ny129.out] at ho16)); have n0_ := Aside0.mk (Kd.N_lower ho16 (below_size (by repeat (first | (with_reducible first | exact HB.out | apply below_alloc | apply pw_below_drewN | apply below_drew1) | exact HB.out)))); have n1_ := Aside0.mk (below_step (by repeat (first | (with_reducible first | exact HB.out | apply below_alloc | apply pw_below_drewN | apply below_drew1) | exact HB.out)) hb); clear HB; have HO131 := n0_; have HB := n1_; clear n0_ n1_; clear hb ho16; obtain ⟨Ao17, co17, eo17⟩ := Kd.N_slice HO131.out; subst eo17) | ((with_reducible refine gate_dst (N := 7) rfl ?_); refine Kd.N_lit k26 _ 26 ?hg (N' := 7) ?hd (xs := ([(⟨2, (⟨#[120]⟩ : ByteArray), 0, ([] : List (S26))⟩ : S26), (⟨5, (⟨#[]⟩ : ByteArray), 0, y129⟩ : S26)] : List (S26))) (inner := [.int .i64 2, .string (⟨#[120]⟩ : ByteArray), .int .i64 0, .slice none 0 0, .int .i64 5, .string (⟨#[]⟩ : ByteArray), .int .i64 0, .slice Ao17 y129.length co17]) (ok := (fun _ => True)) (okp := (fun _ => True)) ?hr ?hp (fun _ hk => hk) ((show ∀ k_, w15.heap.size ≤ k_ → (fun _ => True) k_ from fun k_ hk => trivial) _ (Nat.le_refl _)) (Below.refl _ _) (Nat.le_refl _) (by simp) ?_; (case hd => rfl); (case hg => rfl); (case hr => first | (go_simp; done) | (go_simp; rfl)); (case hp => exact (Reps.c4 (show Kd.FK k26 _ _ (⟨2, (⟨#[120]⟩ : ByteArray), 0, ([] : List (S26))⟩ : S26) [.int .i64 2, .string (⟨#[120]⟩ : ByteArray), .int .i64 0, .slice none 0 0] from (k26_mkF _ _ (⟨2, (⟨#[120]⟩ : ByteArray), 0, ([] : List (S26))⟩ : S26) (Nat.le_refl _) (Kd.F_nil _ _ _))) (Reps.c4 (show Kd.FK k26 _ _ (⟨5, (⟨#[]⟩ : ByteArray), 0, y129⟩ : S26) [.int .i64 5, .string (⟨#[]⟩ : ByteArray), .int .i64 0, .slice Ao17 y129.length co17] from (k26_mkF _ _ (⟨5, (⟨#[]⟩ : ByteArray), 0, y129⟩ : S26) (Kd.N_reads' (Kd.N_mono (ok' := (fun _ => True)) (HO131.out) (fun k_ hk => trivial))).2.1 (Kd.N_F (Kd.N_mono (ok' := (fun _ => True)) (HO131.out) (fun k_ hk => trivial))))) (Reps.none _ _)))); intro v133 w18 ho19 hb hg_ hnew_; clear hg_ hnew_; (first | rw [← Ny132.out] at ho19 | (simp only [Int.reduceToNat] at ho19; rw [← Ny132.out] at ho19)); have n0_ := Aside0.mk (Kd.N_lower ho19 (below_size (by repeat (first | (with_reducible first | exact HB.out | apply below_alloc | apply pw_below_drewN | apply below_drew1) | exact HB.out)))); have n1_ := Aside0.mk (below_step (by repeat (first | (with_reducible first | exact HB.out | apply below_alloc | apply pw_below_drewN | apply below_drew1) | exact HB.out)) hb); clear HB; clear HO131; have HO134 := n0_; have HB := n1_; clear n0_ n1_; clear hb ho19; obtain ⟨Ao20, co20, eo20⟩ := Kd.N_slice HO134.out; subst eo20) | ((with_reducible refine gate_dst (N := 1) rfl ?_); refine box_event ?hg (N := 1) ?hd (cs := #[.int .i64 0, .string (⟨#[]⟩ : ByteArray), .int .i64 0, .slice none 0 0]) (t := 26) ?hr ?_; (case hd => rfl); (case hg => rfl); (case hr => first | (go_simp; done) | (go_simp; rfl)); intro gb135 hg w21 hbox hb; have n0_ := Aside0.mk (Kd.N_below (Kd.N_elderB (by (with_reducible repeat (first | apply Kd.N_alloc | apply Kd.N_drewN | apply Kd.N_drew)); exact HO134.out) gb135 (Nat.le_of_eq hg.symm)) hb); have n1_ := Aside0.mk (below_step (by repeat (first | (with_reducible first | exact HB.out | apply below_alloc | apply pw_below_drewN | apply below_drew1) | exact HB.out)) hb); have n2_ := Aside0.mk (hbox); have n3_ := Aside0.mk ((by rw [hg]; exact (below_size (by repeat (first | (with_reducible first | exact HB.out | apply below_alloc | apply pw_below_drewN | apply below_drew1) | exact HB.out))) : w.heap.size ≤ gb135)); have n4_ := Aside0.mk ((by rw [hg]; exact (below_size (by repeat (first | (with_reducible first | exact HB.out | apply below_alloc | apply pw_below_drewN | apply below_drew1) | exact HB.out))) : w.heap.size ≤ gb135)); clear HO134; clear HB; have HO134 := n0_; have HB := n1_; have BK135 := n2_; have GW135 := n3_; have GE135 := n4_; clear n0_ n1_ n2_ n3_ n4_; clear hb hbox hg; have hcz22_0 : w21.cell? ⟨gb135, 0, none⟩ = some (.int .i64 0) := (blk_cell BK135.out 0).trans rfl; have hcz22_1 : w21.cell? ⟨gb135, 1, none⟩ = some (.string (⟨#[]⟩ : ByteArray)) := (blk_cell BK135.out 1).trans rfl; have hcz22_2 : w21.cell? ⟨gb135, 2, none⟩ = some (.int .i64 0) := (blk_cell BK135.out 2).trans rfl; have hcz22_3 : w21.cell? ⟨gb135, 3, none⟩ = some (.slice none 0 0) := (blk_cell BK135.out 3).trans rfl; have hfz22_0 := blk_frozen BK135.out 0; have hfz22_1 := blk_frozen BK135.out 1; have hfz22_2 := blk_frozen BK135.out 2; have hfz22_3 := blk_frozen BK135.out 3) | ((with_reducible refine gate_callee (f := 23) rfl ?_); refine goesL_ (some 10) rfl rfl Tryz.func23 (by kernel_rfl) rfl #[.agg #[.int .i64 1, .string (⟨#[]⟩ : ByteArray), .int .i64 0, .slice Ao20 y132.length co20]] rfl (by (try simp only [List.map_toArray, List.map_cons, List.map_nil]); first | done | rfl | (simp only [List.length_drop, List.length_take]; rfl)) ?_; (with_reducible refine (node_Valid.calls k 1 (⟨#[]⟩ : ByteArray) 0 _ _ y132 false _ ?side1 ?side2 A1.out).mono ?_); (case side1 => refine (Kd.N_reads' (e := 26) (base := w.heap.size) (ok := fun k_ => (True ∧ k_ ≠ gb135)) (n := y132.length) (c := co20) ?_).2.2; exact (by (with_reducible repeat (first | apply Kd.N_alloc | apply Kd.N_drewN | apply Kd.N_drew)); exact (Kd.N_mono (Kd.N_far (p := ⟨gb135, 3, none⟩) (Kd.N_far (p := ⟨gb135, 2, none⟩) (Kd.N_far (p := ⟨gb135, 1, none⟩) (Kd.N_far (p := ⟨gb135, 0, none⟩) (Kd.N_mono HO134.out (fun k_ hk => (⟨hk, hk.2⟩ : _ ∧ k_ ≠ gb135))) (fun _ hk => hk.2) (.int .i64 1)) (fun _ hk => hk.2) (.string (⟨#[]⟩ : ByteArray))) (fun _ hk => hk.2) (.int .i64 0)) (fun _ hk => hk.2) (.slice Ao20 y132.length co20)) (fun _ h_ => h_.1)))); (case side2 => exact (Kd.N_reads' HO134.out).2.1); rintro e w23 ⟨rfl, hb⟩; refine ⟨_, rfl, ?_⟩; have n0_ := Aside0.mk (Kd.N_below (by (with_reducible repeat (first | apply Kd.N_alloc | apply Kd.N_drewN | apply Kd.N_drew)); exact (Kd.N_mono (Kd.N_far (p := ⟨gb135, 3, none⟩) (Kd.N_far (p := ⟨gb135, 2, none⟩) (Kd.N_far (p := ⟨gb135, 1, none⟩) (Kd.N_far (p := ⟨gb135, 0, none⟩) (Kd.N_mono HO134.out (fun k_ hk => (⟨hk, hk.2⟩ : _ ∧ k_ ≠ gb135))) (fun _ hk => hk.2) (.int .i64 1)) (fun _ hk => hk.2) (.string (⟨#[]⟩ : ByteArray))) (fun _ hk => hk.2) (.int .i64 0)) (fun _ hk => hk.2) (.slice Ao20 y132.length co20)) (fun _ h_ => h_.1))) hb); have n1_ := Aside0.mk (blk_below (g := gb135) (o := .cells #[.int .i64 1, .string (⟨#[]⟩ : ByteArray), .int .i64 0, .slice Ao20 y132.length co20] 26 (0, 0)) (by (with_reducible repeat (first | refine blk_drewN ?_ _ | refine blk_drew ?_ | refine blk_alloc ?_ _)); refine blk_put (cs := #[.int .i64 1, .string (⟨#[]⟩ : ByteArray), .int .i64 0, .slice none 0 0]) ?_ 3 _ rfl; (with_reducible repeat (first | refine blk_drewN ?_ _ | refine blk_drew ?_ | refine blk_alloc ?_ _)); refine blk_put (cs := #[.int .i64 1, .string (⟨#[]⟩ : ByteArray), .int .i64 0, .slice none 0 0]) ?_ 2 _ rfl; (with_reducible repeat (first | refine blk_drewN ?_ _ | refine blk_drew ?_ | refine blk_alloc ?_ _)); refine blk_put (cs := #[.int .i64 1, .string (⟨#[]⟩ : ByteArray), .int .i64 0, .slice none 0 0]) ?_ 1 _ rfl; (with_reducible repeat (first | refine blk_drewN ?_ _ | refine blk_drew ?_ | refine blk_alloc ?_ _)); refine blk_put (cs := #[.int .i64 0, .string (⟨#[]⟩ : ByteArray), .int .i64 0, .slice none 0 0]) ?_ 0 _ rfl; (with_reducible repeat (first | refine blk_drewN ?_ _ | refine blk_drew ?_ | refine blk_alloc ?_ _)); exact BK135.out) hb); have n2_ := Aside0.mk (below_step (by repeat (first | (with_reducible first | exact HB.out | apply below_alloc | apply pw_below_drewN | apply below_drew1 | refine below_set ?_ GE135.out) | exact HB.out)) hb); clear HO134; clear BK135; clear HB; have HO134 := n0_; have BK135 := n1_; have HB := n2_; clear n0_ n1_ n2_; (try clear hb); (try clear hb2); (try clear hk); (try clear hi)))
    go_ret
    exact ⟨by first | rfl | (simp [errW_none, errW_some] <;> rfl) | (simp [*, errW_none, errW_some] <;> rfl), by repeat (first | (with_reducible first | exact HB.out | apply below_alloc | apply pw_below_drewN | apply below_drew1 | refine below_set ?_ GE135.out) | exact HB.out)⟩

/-! ### vinculumref09_Letter: function 44 -/
def vinculumref09_Letter.f (a0 : Int) : Option (Bool) := if a0 ≥ 97 then (if a0 ≤ 122 then (some true) else (if a0 ≥ 65 then (some (decide (a0 ≤ 90))) else (some false))) else (if a0 ≥ 65 then (some (decide (a0 ≤ 90))) else (some false))
set_option maxHeartbeats 8000000 in
set_option maxRecDepth 100000 in
theorem vinculumref09_Letter.calls (a0 : Int) (r : Bool) (w : World) (h : vinculumref09_Letter.f a0 = some r) :
    Calls Tryz.prog 44 #[.int .u8 a0] w fun e w' => e = .returned (.bool r) ∧ Drawn0 w w' := by
  have H : (if a0 ≥ 97 then (if a0 ≤ 122 then (some true) else (if a0 ≥ 65 then (some (decide (a0 ≤ 90))) else (some false))) else (if a0 ≥ 65 then (some (decide (a0 ≤ 90))) else (some false))) = some r := h
  clear h
  by_cases c2 : a0 ≥ 97
  · rw [if_pos c2] at H
    have c2b0 : decide (97 ≤ a0) = true := decide_eq_true c2
    clear c2
    by_cases c3 : a0 ≤ 122
    · rw [if_pos c3] at H
      have c3b0 : decide (a0 ≤ 122) = true := decide_eq_true c3
      clear c3
      obtain rfl := Option.some.inj H
      go_enter Tryz.func44, Tryz.ntmps44
      go_wp2
      go_ret
      exact ⟨by first | rfl | (simp; done) | (simp [*]; done), by repeat (first | exact Drawn0.refl _ | apply Drawn0.step)⟩
    · rw [if_neg c3] at H
      have c3b0 : decide (a0 ≤ 122) = false := decide_eq_false c3
      clear c3
      by_cases c4 : a0 ≥ 65
      · rw [if_pos c4] at H
        have c4b0 : decide (65 ≤ a0) = true := decide_eq_true c4
        clear c4
        obtain rfl := Option.some.inj H
        go_enter Tryz.func44, Tryz.ntmps44
        go_wp2
        go_ret
        exact ⟨by first | rfl | (simp; done) | (simp [*]; done), by repeat (first | exact Drawn0.refl _ | apply Drawn0.step)⟩
      · rw [if_neg c4] at H
        have c4b0 : decide (65 ≤ a0) = false := decide_eq_false c4
        clear c4
        obtain rfl := Option.some.inj H
        go_enter Tryz.func44, Tryz.ntmps44
        go_wp2
        go_ret
        exact ⟨by first | rfl | (simp; done) | (simp [*]; done), by repeat (first | exact Drawn0.refl _ | apply Drawn0.step)⟩
  · rw [if_neg c2] at H
    have c2b0 : decide (97 ≤ a0) = false := decide_eq_false c2
    clear c2
    by_cases c5 : a0 ≥ 65
    · rw [if_pos c5] at H
      have c5b0 : decide (65 ≤ a0) = true := decide_eq_true c5
      clear c5
      obtain rfl := Option.some.inj H
      go_enter Tryz.func44, Tryz.ntmps44
      go_wp2
      go_ret
      exact ⟨by first | rfl | (simp; done) | (simp [*]; done), by repeat (first | exact Drawn0.refl _ | apply Drawn0.step)⟩
    · rw [if_neg c5] at H
      have c5b0 : decide (65 ≤ a0) = false := decide_eq_false c5
      clear c5
      obtain rfl := Option.some.inj H
      go_enter Tryz.func44, Tryz.ntmps44
      go_wp2
      go_ret
      exact ⟨by first | rfl | (simp; done) | (simp [*]; done), by repeat (first | exact Drawn0.refl _ | apply Drawn0.step)⟩

/-! ### vinculumref09_has: function 69 -/
def vinculumref09_has.l0 : Nat → ByteArray → Int → Int → Option (Bool)
  | 0, _, _, _ => none
  | k + 1, x0, x1, x5 => if x5 < (x0.size : Int) then (if 0 ≤ x5 then (if (bt x0 x5) = x1 then (some true) else (vinculumref09_has.l0 k x0 x1 (wrap64 (x5 + 1)))) else (none)) else (some false)
def vinculumref09_has.f (k : Nat) (a0 : ByteArray) (a1 : Int) : Option (Bool) := vinculumref09_has.l0 k a0 a1 0
theorem vinculumref09_has.mono_l : ∀ k, (∀ y0 y1 y2, LeO (vinculumref09_has.l0 k y0 y1 y2) (vinculumref09_has.l0 (k + 1) y0 y1 y2))
  | 0 => fun _ _ _ r h => by simp [vinculumref09_has.l0] at h
  | k + 1 => by
    have ih0 := vinculumref09_has.mono_l k
    · intro y0 y1 y2
      unfold vinculumref09_has.l0
      repeat' first
      | (with_reducible exact ih0 _ _ _)
      | (with_reducible exact LeO.refl _)
      | (with_reducible exact LeO.none _)
      | (with_reducible refine LeO.ite ?_ ?_)
      | (with_reducible refine LeO.bind ?_ (fun _ => ?_))
      | exact ih0 _ _ _
      | exact LeO.none _
      | refine LeO.ite ?_ ?_
      | refine LeO.bind ?_ (fun _ => ?_)
theorem vinculumref09_has.mono : ∀ a0 a1 k, LeO (vinculumref09_has.f k a0 a1) (vinculumref09_has.f (k + 1) a0 a1) := by
  intro a0 a1 k
  have ih0 := vinculumref09_has.mono_l k
  unfold vinculumref09_has.f
  repeat' first
      | (with_reducible exact ih0 _ _ _)
      | (with_reducible exact LeO.refl _)
      | (with_reducible exact LeO.none _)
      | (with_reducible refine LeO.ite ?_ ?_)
      | (with_reducible refine LeO.bind ?_ (fun _ => ?_))
      | exact ih0 _ _ _
      | exact LeO.none _
      | refine LeO.ite ?_ ?_
      | refine LeO.bind ?_ (fun _ => ?_)
set_option maxHeartbeats 8000000 in
set_option maxRecDepth 100000 in
theorem vinculumref09_has.calls (k : Nat) (a0 : ByteArray) (a1 : Int) (r : Bool) (w : World) (h : vinculumref09_has.f k a0 a1 = some r) :
    Calls Tryz.prog 69 #[.string a0, .int .u8 a1] w fun e w' => e = .returned (.bool r) ∧ Drawn0 w w' := by
  have H : (vinculumref09_has.l0 k a0 a1 0) = some r := h
  clear h
  have H' := Aside0.mk H
  clear H
  go_enter Tryz.func69, Tryz.ntmps69
  go_wp2
  go_loopg [5] k (fun kq v5 w' => ∃ (x5_1 : Int), v5 = .int .i64 x5_1 ∧ Aside0 (vinculumref09_has.l0 kq a0 a1 x5_1 = some r) ∧ Aside0 (kq ≤ k) ∧ Drawn0 w w')
  case atStart => exact ⟨(0), (by first | rfl | (simp; done) | (simp [*]; done)), H', ⟨Nat.le_refl _⟩, by repeat (first | exact Drawn0.refl _ | apply Drawn0.step)⟩
  case round =>
    clear H'
    try clear p2
    obtain ⟨x5_1, rfl, HA, HK1, ⟨m1, rfl⟩⟩ := hrel
    cases gk with
    | zero => exact absurd HA.out (by simp [vinculumref09_has.l0])
    | succ k1 =>
      have H := HA.out
      clear HA
      simp only [vinculumref09_has.l0] at H
      by_cases c3 : x5_1 < (a0.size : Int)
      · rw [if_pos c3] at H
        have c3b0 : decide (x5_1 < (a0.size : Int)) = true := decide_eq_true c3
        clear c3
        by_cases c4 : 0 ≤ x5_1
        · rw [if_pos c4] at H
          have c4b0 : decide (0 ≤ x5_1) = true := decide_eq_true c4
          clear c4
          by_cases c6 : (bt a0 x5_1) = a1
          · rw [if_pos c6] at H
            have c6b0 : ((bt a0 x5_1) == a1) = true := beq_iff_eq.mpr c6
            have c6b1 : ((bt a0 x5_1) != a1) = false := bne_eq_false_iff_eq.mpr c6
            clear c6
            obtain rfl := Option.some.inj H
            have p5 : 0 ≤ (x5_1 : Int) := of_decide_eq_true (by first | (with_reducible assumption) | assumption)
            have q5 : x5_1 < (a0.size : Int) := of_decide_eq_true (by first | (with_reducible assumption) | assumption)
            have hx5 := bt_at a0 x5_1
            replace p5 := eq_true p5
            replace q5 := eq_true q5
            go_wp2
            go_ret
            exact ⟨by first | rfl | (simp; done) | (simp [*]; done), by repeat (first | exact Drawn0.refl _ | apply Drawn0.step)⟩
          · rw [if_neg c6] at H
            have c6b0 : ((bt a0 x5_1) == a1) = false := beq_eq_false_iff_ne.mpr c6
            have c6b1 : ((bt a0 x5_1) != a1) = true := bne_iff_ne.mpr c6
            have H' := Aside0.mk H
            clear H
            have p5 : 0 ≤ (x5_1 : Int) := of_decide_eq_true (by first | (with_reducible assumption) | assumption)
            have q5 : x5_1 < (a0.size : Int) := of_decide_eq_true (by first | (with_reducible assumption) | assumption)
            have hx5 := bt_at a0 x5_1
            replace p5 := eq_true p5
            replace q5 := eq_true q5
            go_wp2
            go_roundg k1
            case measure => have := HK1.out; omega
            case rel => exact ⟨(wrap64 (x5_1 + 1)), (by first | rfl | (simp; done) | (simp [*]; done)), H', ⟨by have := HK1.out; omega⟩, by repeat (first | exact Drawn0.refl _ | apply Drawn0.step)⟩
        · rw [if_neg c4] at H
          exact absurd H (by simp)
      · rw [if_neg c3] at H
        have c3b0 : decide (x5_1 < (a0.size : Int)) = false := decide_eq_false c3
        clear c3
        obtain rfl := Option.some.inj H
        go_wp2
        go_ret
        exact ⟨by first | rfl | (simp; done) | (simp [*]; done), by repeat (first | exact Drawn0.refl _ | apply Drawn0.step)⟩

end Go.Proofs.YtnimhdhnjfoalaaGreatDoor.A
