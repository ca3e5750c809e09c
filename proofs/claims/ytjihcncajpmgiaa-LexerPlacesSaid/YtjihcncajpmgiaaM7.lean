/- LexerPlaces, over lists alone. -/
import Derived.Test.YtjihcncajpmgiaaM6
import Derived.Test.YtjihcncajpmgiaaAx5
namespace Go.Proofs.Ytjihcncajpmgiaa.M
open Go.RowKit Go.Proofs.YtjihcncajpmgiaaW.PrintWords Go.Proofs.YtjihcncajpmgiaaW.PrintLast Go.Proofs.YtjihcncajpmgiaaW.PrintMore Go.Proofs.Ytjihcncajpmgiaa.R Go.Proofs.Ytjihcncajpmgiaa.A
set_option linter.unusedVariables false
set_option linter.unusedSimpArgs false

theorem blank_loop (s : ByteArray) (hs : s.size ≤ 1000000) : ∀ k n, n ≤ s.size → s.size - n < k → vinculumlaw18_blank.l0 k s (n : Int) = some (((L s).drop n).all isBl) := by
  intro k
  induction k with
  | zero => intro n _ h; omega
  | succ k ih =>
    intro n hn hk
    rcases drop_cases s n with ⟨h1, h2⟩ | ⟨c, r, h⟩
    · simp only [vinculumlaw18_blank.l0]
      rw [if_neg (by omega), h2]
      rfl
    · obtain ⟨h1, h2, h3⟩ := bt_drop h
      have e32 : c = 32 ↔ (c.toNat : Int) = 32 := u8_eq c 32 (by omega)
      have e9 : c = 9 ↔ (c.toNat : Int) = 9 := u8_eq c 9 (by omega)
      have e10 : c = 10 ↔ (c.toNat : Int) = 10 := u8_eq c 10 (by omega)
      simp only [vinculumlaw18_blank.l0]
      rw [if_pos (by omega), if_pos (by omega), h1, w64_1 (by omega), ih (n + 1) h2 (by omega), h3, h, List.all_cons]
      by_cases c1 : (c.toNat : Int) = 32
      · rw [if_pos c1, e32.2 c1]; rfl
      rw [if_neg c1]
      by_cases c2 : (c.toNat : Int) = 9
      · rw [if_pos c2, e9.2 c2]; rfl
      rw [if_neg c2]
      by_cases c3 : (c.toNat : Int) = 10
      · rw [if_pos c3, e10.2 c3]; rfl
      rw [if_neg c3]
      have : isBl c = false := by
        unfold isBl
        rw [beq_eq_false_iff_ne.2 (fun h => c1 (e32.1 h)), beq_eq_false_iff_ne.2 (fun h => c2 (e9.1 h)), beq_eq_false_iff_ne.2 (fun h => c3 (e10.1 h))]
        rfl
      rw [this, Bool.false_and]
theorem blank_eval (l : Bs) (hl : l.length ≤ 1000000) (k : Nat) (hk : l.length < k) : vinculumlaw18_blank.f k (mk l) = some (l.all isBl) := by
  have := blank_loop (mk l) (by rw [mk_size]; exact hl) k 0 (by omega) (by rw [mk_size]; omega)
  exact this
theorem ext_to {s : ByteArray} {n : Nat} {l : Bs} (h : (L s).drop n = l) (m : Nat) (hm : n ≤ m) : s.extract n m = mk (l.take (m - n)) := by
  have := ext_at h (m - n)
  rw [show n + (m - n) = m by omega] at this
  exact this
theorem places_loop (s : ByteArray) (hs : s.size ≤ 2000) (ts : List S28) (hts : ts.length ≤ 8000) : ∀ (d n j : Nat), ts.length - j ≤ d → n ≤ s.size → TokP n ((L s).drop n) (ts.drop j) → ∃ K, ∀ k, K ≤ k →
    vinculumlaw18_LexerPlaces.l0 k s (n : Int) ts (ts.length : Int) (j : Int) = some true := by
  intro d
  induction d with
  | zero =>
    intro n j hd hn h
    have hj0 : ts.drop j = [] := List.drop_of_length_le (by omega)
    rw [hj0] at h
    generalize hl : (L s).drop n = l at h
    cases h with
    | nil _ _ hb =>
      have hlen := drop_len hl
      refine ⟨s.size + 2, fun k hk => ?_⟩
      obtain ⟨k, rfl⟩ : ∃ j, k = j + 1 := ⟨k - 1, by omega⟩
      unfold vinculumlaw18_LexerPlaces.l0
      rw [if_neg (by omega), if_pos (by omega), if_pos (by omega), Int.toNat_natCast, ext_to hl s.size hn, List.take_of_length_le (by omega), blank_eval l (by omega) k (by omega), Option.bind_some, hb]
  | succ d ih =>
    intro n j hd hn h
    cases hj : ts.drop j with
    | nil =>
      rw [hj] at h
      generalize hl : (L s).drop n = l at h
      cases h with
      | nil _ _ hb =>
        have hlen := drop_len hl
        have hjl : ts.length ≤ j := by
          have := congrArg List.length hj
          rw [List.length_drop, List.length_nil] at this
          omega
        refine ⟨s.size + 2, fun k hk => ?_⟩
        obtain ⟨k, rfl⟩ : ∃ j, k = j + 1 := ⟨k - 1, by omega⟩
        unfold vinculumlaw18_LexerPlaces.l0
        rw [if_neg (by omega), if_pos (by omega), if_pos (by omega), Int.toNat_natCast, ext_to hl s.size hn, List.take_of_length_le (by omega), blank_eval l (by omega) k (by omega), Option.bind_some, hb]
    | cons tk rest =>
      rw [hj] at h
      obtain ⟨g1, g2, g3⟩ := rd_drop hj
      generalize hl : (L s).drop n = l at h
      cases h with
      | cons _ b c r kd t m _ hb hc hnx hlg hrest =>
        have hlen := drop_len hl
        rw [List.length_append, List.length_cons] at hlen
        have hdr : (L s).drop (n + b.length) = c :: r := by rw [drop_drop' hl, drop_len_app]
        have hb' := next_tok hnx
        obtain ⟨q1, q2, q3⟩ := tok_of hnx
        simp only [List.length_cons] at hb'
        have hdr2 : (L s).drop (n + b.length + m) = (c :: r).drop m := drop_drop' hdr m
        rw [← g3] at hrest
        rw [← hdr2] at hrest
        obtain ⟨K, hK⟩ := ih (n + b.length + m) (j + 1) (by omega) (by omega) hrest
        refine ⟨K + s.size + 3, fun k hk => ?_⟩
        obtain ⟨k, rfl⟩ : ∃ j, k = j + 2 := ⟨k - 2, by omega⟩
        have htl : t.length ≤ 1000000 := by
          have := esc_len t
          cases q1 with
          | num t _ => rw [sp2] at q3; omega
          | mark c _ => simp
          | text u _ => rw [sp3] at q3; simp only [List.length_cons, List.length_append, List.length_nil] at q3; omega
          | brk => simp
          | name t _ _ _ => rw [sp4, List.length_cons] at q3; omega
          | fence a b _ _ => simp
          | param a _ => simp
          | sym c _ => simp
        unfold vinculumlaw18_LexerPlaces.l0
        rw [g1, if_pos (by omega), if_pos (by omega), if_pos (by omega)]
        simp only []
        rw [if_neg (by omega), if_neg (by omega), if_neg (by omega), if_pos (by omega), if_pos (by omega), if_pos (by omega), Int.toNat_natCast, Int.toNat_natCast, ext_to hl (n + b.length) (by omega),
          show n + b.length - n = b.length by omega, take_len_app, blank_eval b (by omega) (k + 1) (by omega), Option.bind_some, hb]
        unfold vinculumlaw18_LexerPlaces.j2
        rw [if_neg (by decide), if_pos (by omega), if_pos (by omega), if_pos (by omega), spell_eval kd t _ _ htl, Option.bind_some, Int.toNat_natCast, Int.toNat_natCast, ext_at hdr m, L_toList, L_toList, L_mk, L_mk,
          if_pos (by rw [q2]; rw [q3]; exact take_len_app _ _), w64_1 (by omega)]
        exact hK k (by omega)
theorem places_pure (a0 : ByteArray) (h0 : a0.size ≤ 140737488351232) : ∃ k, vinculumlaw18_LexerPlaces.f k a0 = some true := by
  refine Ev.rounds ?_
  show Ev (fun k => (vinculumlaw18_awake.f k).bind fun t168 => (if t168 = true then (vinculumlaw18_LexerPlaces.j0 k a0 (decide ((a0.size : Int) > 2000))) else (vinculumlaw18_LexerPlaces.j0 k a0 true))) true
  refine Ev.bind awake_ev ?_
  refine Ev.congr (f := fun k => vinculumlaw18_LexerPlaces.j0 k a0 (decide ((a0.size : Int) > 2000))) (fun k => if_pos rfl) ?_
  by_cases hs : a0.size ≤ 2000
  · rw [decide_eq_false (by omega)]
    refine Ev.step (f := fun k => (lexer_Tokens.f k a0).bind fun bt170 => (if bt170.2.2 = 0 then (vinculumlaw18_LexerPlaces.l0 k a0 0 bt170.1 (bt170.1.length : Int) 0) else (if (bt170.1.length : Int) = 0 then (if bt170.2.1 ≥ 0 then (some (decide (bt170.2.1 ≤ (a0.size : Int)))) else (some false)) else (some false)))) (fun k => by rw [vinculumlaw18_LexerPlaces.j0]; exact if_neg Bool.false_ne_true) ?_
    rcases Tokens_total a0 (by omega) with ⟨ts, h1, h2, h3⟩ | ⟨a, e, h1, h2, h3⟩
    · refine Ev.bind h3 ?_
      refine Ev.congr (f := fun k => vinculumlaw18_LexerPlaces.l0 k a0 0 ts (ts.length : Int) 0) (fun k => if_pos rfl) ?_
      exact places_loop a0 hs ts h2 ts.length 0 0 (by omega) (by omega) h1
    · refine Ev.bind h3 ?_
      refine Ev.congr (f := fun _ => some true) (fun k => ?_) (Ev.now _)
      rw [if_neg h1]
      show (if (0 : Int) = 0 then (if (a : Int) ≥ 0 then some (decide ((a : Int) ≤ (a0.size : Int))) else some false) else some false) = some true
      rw [if_pos rfl, if_pos (by omega), decide_eq_true (show (a : Int) ≤ a0.size by omega)]
  · rw [decide_eq_true (by omega)]
    refine Ev.step (f := fun k => (vinculumlaw18_awake.f k).bind fun t169 => (some t169)) (fun k => by rw [vinculumlaw18_LexerPlaces.j0]; exact if_pos rfl) ?_
    exact Ev.bind awake_ev (Ev.now _)
end Go.Proofs.Ytjihcncajpmgiaa.M
