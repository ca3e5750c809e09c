/- lexer.Tokens: the walk. -/
import Derived.Test.YtjihcncajpmgiaaL8
namespace Go.Proofs.Ytjihcncajpmgiaa.A
open Go.RowKit Go.Proofs.YtjihcncajpmgiaaW.PrintWords Go.Proofs.YtjihcncajpmgiaaW.PrintLast Go.Proofs.YtjihcncajpmgiaaW.PrintMore Go.Proofs.Ytjihcncajpmgiaa.R
set_option linter.unusedVariables false
set_option linter.unusedSimpArgs false
set_option maxHeartbeats 4000000 in
set_option maxRecDepth 100000 in
theorem lexer_Tokens.calls (k : Nat) (s : ByteArray) (r1 : List S28) (r2 r3 : Int) (w : World) (h : lexer_Tokens.f k s = some (r1, r2, r3)) :
    Calls Try.prog 8 #[.string s] w fun e w' => ∃ v0_ : Value, e = .returned (.tuple #[v0_, .int .i64 r2, .int .i64 r3]) ∧ Kd.R k28 28 w' w.heap.size (fun _ => True) v0_ r1 ∧ Below w.heap.size w w' := by
  have hu28 := Try.underlying28
  have hu48 := Try.underlying48
  unfold lexer_Tokens.f at h
  obtain ⟨i0, hi0, h1⟩ := Option.bind_eq_some_iff.mp h
  have H' := Aside0.mk h1
  have HI := Aside0.mk hi0
  have HB := Aside0.mk (Below.refl w.heap.size w)
  clear h hi0 h1
  go_enter Try.func8, Try.ntmps8
  go_wp2_with (first | (go_at_call 16; refine (run_blank k s _ _ _ HI.out).mono ?_; rintro e1 w1 ⟨rfl, ⟨m1, rfl⟩⟩; clear HI))
  go_loopg [5, 6] k (fun kq v5 v6 w' => ∃ (out : List S28) (i : Int), v6 = .int .i64 i ∧ Aside0 (lexer_Tokens.l0 kq s out i = some (r1, r2, r3)) ∧ Aside0 (kq ≤ k) ∧ Aside0 (Kd.R k28 28 w' w.heap.size (fun _ => True) v5 out) ∧ Aside0 (Below w.heap.size w w'))
  case atStart => exact ⟨[], _, rfl, H', ⟨Nat.le_refl _⟩, ⟨Kd.R_nil _ _ _ _ _⟩, ⟨by first | exact pw_below_drewN (Below.refl _ _) _ | exact Below.refl _ _⟩⟩
  case round =>
    clear H'
    obtain ⟨out, i, rfl, HA, HK1, HO, HB⟩ := hrel
    cases gk with
    | zero => exact absurd HA.out (by simp [lexer_Tokens.l0])
    | succ k1 =>
      have H := HA.out
      clear HA
      simp only [lexer_Tokens.l0] at H
      by_cases c1 : i < (s.size : Int)
      case neg =>
        rw [if_neg c1] at H
        have c1b : decide (i < (s.size : Int)) = false := decide_eq_false c1
        clear c1
        cases H
        go_wp2
        go_ret3
        exact ⟨_, rfl, HO.out, HB.out⟩
      rw [if_pos c1] at H
      have c1b : decide (i < (s.size : Int)) = true := decide_eq_true c1
      obtain ⟨⟨t, o⟩, hn, H⟩ := Option.bind_eq_some_iff.mp H
      have HN := Aside0.mk hn
      clear hn
      cases o with
      | some x =>
        obtain ⟨a, e⟩ := x
        simp only [tokStep] at H
        cases H
        go_wp2_with (first | (go_at_call 18; refine (lexer_next.calls k1 s i t _ _ HN.out).mono ?_; rintro e1 w5 ⟨pv, rfl, ⟨g', rfl, hg', hx'⟩, hB⟩; have HB5 := Aside0.mk (below_step HB.out hB); have HX5 := Aside0.mk hx'; clear hB hx' hg' HB HO) | ((with_reducible refine gate_dst (N := 7) rfl ?_); refine box_event ?hg (N := 7) ?hd (cs := #[.int .i64 0, .string (⟨#[]⟩ : ByteArray), .int .i64 0, .int .i64 0]) (t := 28) ?hr ?_; (case hd => rfl); (case hg => rfl); (case hr => first | (go_simp; done) | (go_simp; rfl)); intro gb hg w6 hbox hb; have BX := Aside0.mk hbox; have HX6 := Aside0.mk (blk_below HX5.out hb); have HB6 := Aside0.mk (below_step HB5.out hb); have GW := Aside0.mk (by rw [hg]; exact HB5.out.size : w.heap.size ≤ gb); have gne : gb ≠ g' := (by rw [hg]; exact Nat.ne_of_gt (blk_lt HX5.out)); have gne' : g' ≠ gb := gne.symm; have p0 : w6.cell? ⟨g', 0, none⟩ = some (.int .i64 a) := (blk_cell HX6.out 0).trans rfl; have p1 : w6.cell? ⟨g', 1, none⟩ = some (.int .i64 e) := (blk_cell HX6.out 1).trans rfl; have f0 : w6.cell? ⟨gb, 0, none⟩ = some (.int .i64 0) := (blk_cell hbox 0).trans rfl; have f1 : w6.cell? ⟨gb, 1, none⟩ = some (.string ⟨#[]⟩) := (blk_cell hbox 1).trans rfl; have f2 : w6.cell? ⟨gb, 2, none⟩ = some (.int .i64 0) := (blk_cell hbox 2).trans rfl; have f3 : w6.cell? ⟨gb, 3, none⟩ = some (.int .i64 0) := (blk_cell hbox 3).trans rfl; have z0 := blk_frozen hbox 0; have z1 := blk_frozen hbox 1; have z2 := blk_frozen hbox 2; have z3 := blk_frozen hbox 3; clear hg hbox hb HX5 HB5))
        have q0 := (blk_cell (blk_alloc HX5.out (.cells #[.int .i64 t.f0, .string t.f1, .int .i64 t.f2, .int .i64 t.f3] 28)) 0).trans (rfl : _ = some (Value.int .i64 r2))
        have q1 := (blk_cell (blk_alloc HX5.out (.cells #[.int .i64 t.f0, .string t.f1, .int .i64 t.f2, .int .i64 t.f3] 28)) 1).trans (rfl : _ = some (Value.int .i64 r3))
        have HB7 := Aside0.mk (below_alloc HB5.out (.cells #[.int .i64 t.f0, .string t.f1, .int .i64 t.f2, .int .i64 t.f3] 28))
        clear HX5 HB5
        generalize w5.heap.size = g5
        generalize w5.alloc (.cells #[.int .i64 t.f0, .string t.f1, .int .i64 t.f2, .int .i64 t.f3] 28) = W7 at q0 q1 HB7 ⊢
        go_quiet (fail)
        go_wp2
        go_ret3
        exact ⟨_, rfl, Kd.R_nil _ _ _ _ _, pw_below_drewN HB7.out _⟩
      | none =>
        simp only [tokStep] at H
        obtain ⟨b, hb, H⟩ := Option.bind_eq_some_iff.mp H
        have HL := Aside0.mk hb
        clear hb
        go_wp2_with (first | (go_at_call 18; refine (lexer_next.calls k1 s i t _ _ HN.out).mono ?_; rintro e1 w5 ⟨pv, rfl, rfl, hB⟩; have HB5 := Aside0.mk (below_step HB.out hB); have HO5 := Aside0.mk (Kd.R_below HO.out hB); clear hB HB HO))
        have BX := Aside0.mk (blk_new w5 (.cells #[.int .i64 t.f0, .string t.f1, .int .i64 t.f2, .int .i64 t.f3] 28))
        have HB7 := Aside0.mk (below_alloc HB5.out (.cells #[.int .i64 t.f0, .string t.f1, .int .i64 t.f2, .int .i64 t.f3] 28))
        have HO7 := Aside0.mk (Kd.R_alloc (o := (.cells #[.int .i64 t.f0, .string t.f1, .int .i64 t.f2, .int .i64 t.f3] 28)) HO5.out)
        have GW := Aside0.mk HB5.out.size
        have NE := Aside0.mk (Kd.R_ne_new HO5.out 0)
        simp only [Nat.add_zero] at NE
        clear HB5 HO5
        generalize w5.heap.size = g5 at BX GW NE ⊢
        generalize w5.alloc (.cells #[.int .i64 t.f0, .string t.f1, .int .i64 t.f2, .int .i64 t.f3] 28) = W7 at BX HB7 HO7 ⊢
        obtain ⟨A5, c5, rfl⟩ := Kd.R_slice HO7.out
        have lg : g5 < W7.heap.size := blk_lt BX.out
        have p0 : W7.cell? ⟨g5, 0, none⟩ = some (.int .i64 t.f0) := (blk_cell BX.out 0).trans rfl
        have p1 : W7.cell? ⟨g5, 1, none⟩ = some (.string t.f1) := (blk_cell BX.out 1).trans rfl
        have p2 : W7.cell? ⟨g5, 2, none⟩ = some (.int .i64 t.f2) := (blk_cell BX.out 2).trans rfl
        have p3 : W7.cell? ⟨g5, 3, none⟩ = some (.int .i64 t.f3) := (blk_cell BX.out 3).trans rfl
        cases b with
        | true =>
          rw [if_pos rfl] at H
          cases H
          go_wp2_with (first | (go_at_call 19; refine (lexer_long.calls t.f0 t.f1 t.f2 t.f3 true _ HL.out).mono ?_; rintro e1 w8 ⟨rfl, hB⟩; have HB8 := Aside0.mk (below_step HB7.out hB); clear hB HB7 HO7 p0 p1 p2 p3 lg BX))
          go_quiet (fail)
          go_wp2
          go_ret3
          exact ⟨_, rfl, Kd.R_nil _ _ _ _ _, pw_below_drewN (below_alloc HB8.out _) _⟩
        | false =>
          rw [if_neg Bool.false_ne_true] at H
          by_cases c2 : (out.length : Int) = 8000
          · rw [if_pos c2] at H
            have c2b : ((out.length : Int) == 8000) = true := beq_iff_eq.2 c2
            clear c2
            cases H
            go_wp2_with (first | (go_at_call 19; refine (lexer_long.calls t.f0 t.f1 t.f2 t.f3 false _ HL.out).mono ?_; rintro e1 w8 ⟨rfl, hB⟩; have HB8 := Aside0.mk (below_step HB7.out hB); clear hB HB7 HO7 p0 p1 p2 p3 lg BX))
            go_quiet (fail)
            go_wp2
            go_ret3
            exact ⟨_, rfl, Kd.R_nil _ _ _ _ _, pw_below_drewN (below_alloc HB8.out _) _⟩
          · rw [if_neg c2] at H
            have c2b : ((out.length : Int) == 8000) = false := beq_eq_false_iff_ne.2 c2
            clear c2
            by_cases c3 : out.length < 3518437208883
            case neg => rw [if_neg c3] at H; cases H
            rw [if_pos c3] at H
            have C3 := Aside0.mk c3
            obtain ⟨j, hj, H⟩ := Option.bind_eq_some_iff.mp H
            have HJ := Aside0.mk hj
            have HN' := Aside0.mk H
            clear hj H c3
            go_wp2_with (first | (go_at_call 19; refine (lexer_long.calls t.f0 t.f1 t.f2 t.f3 false _ HL.out).mono ?_; rintro e1 w8 ⟨rfl, hB⟩; have HB8 := Aside0.mk (below_step HB7.out hB); have HO8 := Aside0.mk (Kd.R_below HO7.out hB); have BX8 := Aside0.mk (blk_below BX.out hB); clear hB HB7 HO7 p0 p1 p2 p3 lg BX; have lg : g5 < w8.heap.size := blk_lt BX8.out; have p0 : w8.cell? ⟨g5, 0, none⟩ = some (.int .i64 t.f0) := (blk_cell BX8.out 0).trans rfl; have p1 : w8.cell? ⟨g5, 1, none⟩ = some (.string t.f1) := (blk_cell BX8.out 1).trans rfl; have p2 : w8.cell? ⟨g5, 2, none⟩ = some (.int .i64 t.f2) := (blk_cell BX8.out 2).trans rfl; have p3 : w8.cell? ⟨g5, 3, none⟩ = some (.int .i64 t.f3) := (blk_cell BX8.out 3).trans rfl) | ((with_reducible refine gate_builtin (b := .append) (xs := #[.tmp 48, .tmp 50]) rfl ?_); at_builtin; refine Kd.R_append k28 (w0 := w) w.heap.size rfl (.tmp 48) (.tmp 50) 23 28 (.agg #[(.int .i64 0), (.string ⟨#[]⟩), (.int .i64 0), (.int .i64 0)]) 40 rfl Try.underlying23 info28 rfl (by decide) (by omega) (.slice A5 out.length c5) out t [.int .i64 t.f0, .string t.f1, .int .i64 t.f2, .int .i64 t.f3] (fun _ => True) (fun _ => False) rfl (by first | (go_simp; done) | (go_simp; rfl)) ?aP (fun _ hk => hk.elim) ?aF ?aO ?aB ?aS ?aL ?_; (case aP => exact k28_mkM _ _ _ t); (case aB => exact (by repeat (first | (with_reducible first | exact HB8.out | apply below_alloc | apply pw_below_drewN | apply below_drew1) | exact HB8.out))); (case aF => exact (fun _ _ => trivial)); (case aO => exact (by (with_reducible repeat (first | apply Kd.R_alloc | apply Kd.R_drewN | apply Kd.R_drew)); exact HO8.out)); (case aS => exact (below_size (by repeat (first | (with_reducible first | exact HB8.out | apply below_alloc | apply pw_below_drewN | apply below_drew1) | exact HB8.out)))); (case aL => have := C3.out; omega); intro v9 w9 ho hb hg hat; have BX9 := Aside0.mk (blk_grown (g := g5) (o := .cells #[.int .i64 t.f0, .string t.f1, .int .i64 t.f2, .int .i64 t.f3] 28 (0, 0)) (by (with_reducible repeat (first | refine blk_drewN ?_ _ | refine blk_drew ?_ | refine blk_alloc ?_ _)); exact BX8.out) hg NE.out); have HB9 := Aside0.mk hb; have HO9 := Aside0.mk ho; clear BX8 HB8 HO8 NE ho hb hg hat p0 p1 p2 p3 lg; have lg : g5 < w9.heap.size := blk_lt BX9.out; have p3 : w9.cell? ⟨g5, 3, none⟩ = some (.int .i64 t.f3) := (blk_cell BX9.out 3).trans rfl) | (go_at_call 16; refine (run_blank k1 s _ _ _ HJ.out).mono ?_; rintro e1 w10 ⟨rfl, ⟨m10, rfl⟩⟩))
            go_roundg k1
            case measure => have := HK1.out; omega
            case rel => exact ⟨_, _, rfl, HN', ⟨by have := HK1.out; omega⟩, ⟨Kd.R_drewN HO9.out _⟩, ⟨pw_below_drewN HB9.out _⟩⟩
end Go.Proofs.Ytjihcncajpmgiaa.A
