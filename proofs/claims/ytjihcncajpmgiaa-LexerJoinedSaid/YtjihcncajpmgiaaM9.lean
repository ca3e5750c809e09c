/- LexerJoined, over lists alone. -/
import Derived.Test.YtjihcncajpmgiaaM8
import Derived.Test.YtjihcncajpmgiaaAx8
namespace Go.Proofs.Ytjihcncajpmgiaa.M
open Go.RowKit Go.Proofs.YtjihcncajpmgiaaW.PrintWords Go.Proofs.YtjihcncajpmgiaaW.PrintLast Go.Proofs.YtjihcncajpmgiaaW.PrintMore Go.Proofs.Ytjihcncajpmgiaa.R Go.Proofs.Ytjihcncajpmgiaa.A
set_option linter.unusedVariables false
set_option linter.unusedSimpArgs false

/-- Two tokens that do not join are read as they are. -/
theorem two_apart {a b : S28} (ha : TokOK a.f0 (L a.f1)) (hb : TokOK b.f0 (L b.f1)) (la : longM a.f0 (L a.f1) = false) (lb : longM b.f0 (L b.f1) = false) (hj : joinM a.f0 b.f0 (L b.f1) = false) :
    ∃ ts, TokP 0 (spM a.f0 (L a.f1) ++ spM b.f0 (L b.f1)) ts ∧ ts.map kt = [kt a, kt b] := by
  have h2 := TokP.push hb lb (okb_nil _) ([] : Bs) rfl (0 + ([] : Bs).length + (spM a.f0 (L a.f1)).length) (ts := []) (TokP.nil _ [] rfl)
  have h1 := TokP.push ha la (okb_tok hb hj []) [] rfl 0 (by rw [List.nil_append] at h2; exact h2)
  rw [List.nil_append, List.append_nil] at h1
  exact ⟨_, h1, rfl⟩
/-- Two tokens that join are read otherwise. -/
theorem two_joined {a b : S28} (ha : TokOK a.f0 (L a.f1)) (hb : TokOK b.f0 (L b.f1)) (hj : joinM a.f0 b.f0 (L b.f1) = true) {ts : List S28} (h : TokP 0 (spM a.f0 (L a.f1) ++ spM b.f0 (L b.f1)) ts) : [kt a, kt b] ≠ ts.map kt := by
  intro e
  obtain ⟨c0, r0, e0, _, _, _, hc0⟩ := sp_head ha
  generalize hl : spM a.f0 (L a.f1) ++ spM b.f0 (L b.f1) = l at h
  cases h with
  | nil _ _ hb => cases e
  | cons _ bl c r kd t m ts' h1 h2 h3 h4 h5 =>
    have hbl : bl = [] := by
      cases bl with
      | nil => rfl
      | cons x y =>
        rw [e0] at hl
        injection hl with hx _
        simp only [List.all_cons, Bool.and_eq_true] at h1
        rw [← hx, hc0] at h1
        cases h1.1
    subst hbl
    rw [List.map_cons, List.cons.injEq] at e
    obtain ⟨e1, _⟩ := e
    have k1 : a.f0 = kd := congrArg Prod.fst e1
    have k2 : L a.f1 = t := congrArg Prod.snd e1
    rw [← k1, ← k2] at h3
    exact tok_joined ha hb hj [] (by rw [List.append_nil]; exact hl) m h3
theorem size_two {a b : Bs} (ha : a.length ≤ 2000) (hb : b.length ≤ 2000) : (mk a ++ mk b).size ≤ 4000 := by
  rw [← L_len, L_append, L_mk, L_mk, List.length_append]
  omega
theorem joined_loop (ts : List S28) (hts : ts.length ≤ 8000) (hok : ∀ t ∈ ts, TokOK t.f0 (L t.f1) ∧ longM t.f0 (L t.f1) = false ∧ (spM t.f0 (L t.f1)).length ≤ 2000) : ∀ (d i : Nat), ts.length - i ≤ d → 1 ≤ i → ∃ K, ∀ k, K ≤ k →
    vinculumlaw18_LexerJoined.l0 k ts 0 (i : Int) = some true := by
  have stop : ∀ (i : Nat), ts.length ≤ i → ∃ K, ∀ k, K ≤ k → vinculumlaw18_LexerJoined.l0 k ts 0 (i : Int) = some true := by
    intro i hi
    refine ⟨2, fun k hk => ?_⟩
    obtain ⟨k, rfl⟩ : ∃ j, k = j + 2 := ⟨k - 2, by omega⟩
    rw [vinculumlaw18_LexerJoined.l0, if_neg (by omega), vinculumlaw18_LexerJoined.j2, if_neg Bool.false_ne_true]
  intro d
  induction d with
  | zero => intro i hd h1; exact stop i (by omega)
  | succ d ih =>
    intro i hd h1
    by_cases hi : i < ts.length
    case neg => exact stop i (by omega)
    obtain ⟨i', rfl⟩ : ∃ j, i = j + 1 := ⟨i - 1, by omega⟩
    have ga := rd_drop (List.drop_eq_getElem_cons (show i' < ts.length by omega))
    have gb := rd_drop (List.drop_eq_getElem_cons hi)
    have ha := hok ts[i'] (List.getElem_mem _)
    have hb := hok ts[i' + 1] (List.getElem_mem _)
    have htwo : (ts.take (i' + 1 + 1)).drop i' = [ts[i'], ts[i' + 1]] := by
      rw [List.drop_take, List.drop_eq_getElem_cons (show i' < ts.length by omega), List.drop_eq_getElem_cons hi, show i' + 1 + 1 - i' = 2 by omega]
      rfl
    generalize ts[i'] = a at ga ha htwo
    generalize ts[i' + 1] = b at gb hb htwo
    obtain ⟨ha1, ha2, ha3⟩ := ha
    obtain ⟨hb1, hb2, hb3⟩ := hb
    have tla := text_le ha1
    have tlb := text_le hb1
    have sa := spell_eval a.f0 (L a.f1) a.f2 a.f3 (by omega)
    have sb := spell_eval b.f0 (L b.f1) b.f2 b.f3 (by omega)
    have hj := joins_eval a.f0 b.f0 (L a.f1) (L b.f1) a.f2 a.f3 b.f2 b.f3
    rw [mk_L] at sa sb
    rw [mk_L, mk_L] at hj
    have hsz := size_two (a := spM a.f0 (L a.f1)) (b := spM b.f0 (L b.f1)) ha3 hb3
    obtain ⟨K, hK⟩ := ih (i' + 1 + 1) (by omega) (by omega)
    have hLab : L (mk (spM a.f0 (L a.f1)) ++ mk (spM b.f0 (L b.f1))) = spM a.f0 (L a.f1) ++ spM b.f0 (L b.f1) := by rw [L_append, L_mk, L_mk]
    have hm1 : wrap64 (((i' + 1 : Nat) : Int) - 1) = (i' : Int) := by unfold wrap64; omega
    have hszs : (mk (spM a.f0 (L a.f1))).size + (mk (spM b.f0 (L b.f1))).size ≤ 9223372036854775807 := by rw [mk_size, mk_size]; omega
    rcases Tokens_total (mk (spM a.f0 (L a.f1)) ++ mk (spM b.f0 (L b.f1))) (by omega) with ⟨us, p1, p2, K2, p3⟩ | ⟨at_, e, p1, p2, K2, p3⟩
    · rw [hLab] at p1
      obtain ⟨K3, p4⟩ := from_ev [a, b] (by simp)
      obtain ⟨K4, p5⟩ := from_ev us (by omega)
      obtain ⟨K5, p6⟩ := same_ev [a, b] us (by simp)
      refine ⟨K + K2 + K3 + K4 + K5 + 2, fun k hk => ?_⟩
      obtain ⟨k, rfl⟩ : ∃ j, k = j + 2 := ⟨k - 2, by omega⟩
      have p3' : lexer_Tokens.f k (mk (spM a.f0 (L a.f1)) ++ mk (spM b.f0 (L b.f1))) = some (us, 0, 0) := p3 k (by omega)
      have p4' : vinculumlaw18_from.f k [a, b] = some ([a, b].map conv) := p4 k (by omega)
      have p5' : vinculumlaw18_from.f k us = some (us.map conv) := p5 k (by omega)
      have p6' : vinculumref18_Same.f k ([a, b].map conv) (us.map conv) false = some (decide ([a, b].map kt = us.map kt)) := p6 k (by omega)
      have hsame : decide ([a, b].map kt = us.map kt) = !joinM a.f0 b.f0 (L b.f1) := by
        cases hjj : joinM a.f0 b.f0 (L b.f1) with
        | true => exact decide_eq_false (two_joined ha1 hb1 hjj p1)
        | false =>
          obtain ⟨vs, q1, q2⟩ := two_apart ha1 hb1 ha2 hb2 hjj
          have q3 := Tokens_found (mk (spM a.f0 (L a.f1)) ++ mk (spM b.f0 (L b.f1))) (by omega) vs (by rw [hLab]; exact q1) (by have := congrArg List.length q2; rw [List.length_map] at this; simp at this; omega)
          obtain ⟨K6, q3⟩ := q3
          have z1 := q3 (K2 + K6) (by omega)
          have z2 := p3 (K2 + K6) (by omega)
          rw [z1] at z2
          have e : vs = us := congrArg Prod.fst (Option.some.inj z2)
          rw [← e, q2]
          exact decide_eq_true rfl
      rw [vinculumlaw18_LexerJoined.l0, if_pos (by omega), vinculumlaw18_LexerJoined.j2, if_pos (show ((0 : Int) == 0) = true from rfl), hm1, if_pos (by omega), if_pos (by omega), ga.1, gb.1, sa, Option.bind_some, if_pos (by omega), if_pos (by omega), sb, Option.bind_some, if_pos hszs, p3', Option.bind_some]
      rw [if_pos rfl, w64_1 (by omega), if_pos (by omega), if_pos (by omega), Int.toNat_natCast, Int.toNat_natCast, htwo, p4', Option.bind_some, p5', Option.bind_some, p6', Option.bind_some, hj, Option.bind_some, hsame, if_neg (by cases joinM a.f0 b.f0 (L b.f1) <;> decide)]
      exact hK k (by omega)
    · have hjj : joinM a.f0 b.f0 (L b.f1) = true := by
        cases hjj : joinM a.f0 b.f0 (L b.f1) with
        | true => rfl
        | false =>
          obtain ⟨vs, q1, q2⟩ := two_apart ha1 hb1 ha2 hb2 hjj
          have q3 := Tokens_found (mk (spM a.f0 (L a.f1)) ++ mk (spM b.f0 (L b.f1))) (by omega) vs (by rw [hLab]; exact q1) (by have := congrArg List.length q2; rw [List.length_map] at this; simp at this; omega)
          obtain ⟨K6, q3⟩ := q3
          have z1 := q3 (K2 + K6) (by omega)
          have z2 := p3 (K2 + K6) (by omega)
          rw [z1] at z2
          exact absurd (congrArg (fun p => p.2.2) (Option.some.inj z2)).symm p1
      refine ⟨K + K2 + 2, fun k hk => ?_⟩
      obtain ⟨k, rfl⟩ : ∃ j, k = j + 2 := ⟨k - 2, by omega⟩
      have p3' : lexer_Tokens.f k (mk (spM a.f0 (L a.f1)) ++ mk (spM b.f0 (L b.f1))) = some ([], (at_ : Int), e) := p3 k (by omega)
      rw [vinculumlaw18_LexerJoined.l0, if_pos (by omega), vinculumlaw18_LexerJoined.j2, if_pos (show ((0 : Int) == 0) = true from rfl), hm1, if_pos (by omega), if_pos (by omega), ga.1, gb.1, sa, Option.bind_some, if_pos (by omega), if_pos (by omega), sb, Option.bind_some, if_pos hszs, p3', Option.bind_some]
      rw [if_neg p1, hj, Option.bind_some, hjj, if_neg (by decide), w64_1 (by omega)]
      exact hK k (by omega)
theorem joined_pure (a0 : ByteArray) (h0 : a0.size ≤ 140737488351232) : ∃ k, vinculumlaw18_LexerJoined.f k a0 = some true := by
  refine Ev.rounds ?_
  show Ev (fun k => (vinculumlaw18_awake.f k).bind fun t230 => (if t230 = true then (vinculumlaw18_LexerJoined.j0 k a0 (decide ((a0.size : Int) > 2000))) else (vinculumlaw18_LexerJoined.j0 k a0 true))) true
  refine Ev.bind awake_ev ?_
  refine Ev.congr (f := fun k => vinculumlaw18_LexerJoined.j0 k a0 (decide ((a0.size : Int) > 2000))) (fun k => if_pos rfl) ?_
  by_cases hs : a0.size ≤ 2000
  · rw [decide_eq_false (by omega)]
    refine Ev.step (f := fun k => (lexer_Tokens.f k a0).bind fun bt232 => (vinculumlaw18_LexerJoined.l0 k bt232.1 bt232.2.2 1)) (fun k => by rw [vinculumlaw18_LexerJoined.j0]; exact if_neg Bool.false_ne_true) ?_
    rcases Tokens_total a0 (by omega) with ⟨ts, h1, h2, h3⟩ | ⟨a, e, h1, h2, h3⟩
    · refine Ev.bind h3 ?_
      exact joined_loop ts h2 (fun t ht => by obtain ⟨x1, x2, x3⟩ := h1.ok t ht; exact ⟨x1, x2, by rw [L_len] at x3; omega⟩) ts.length 1 (by omega) (by omega)
    · refine Ev.bind h3 ?_
      refine ⟨2, fun k hk => ?_⟩
      obtain ⟨k, rfl⟩ : ∃ j, k = j + 2 := ⟨k - 2, by omega⟩
      show vinculumlaw18_LexerJoined.l0 (k + 2) [] e 1 = some true
      rw [vinculumlaw18_LexerJoined.l0, if_neg (by decide), vinculumlaw18_LexerJoined.j2, if_neg Bool.false_ne_true]
  · rw [decide_eq_true (by omega)]
    refine Ev.step (f := fun k => (vinculumlaw18_awake.f k).bind fun t231 => (some t231)) (fun k => by rw [vinculumlaw18_LexerJoined.j0]; exact if_pos rfl) ?_
    exact Ev.bind awake_ev (Ev.now _)
end Go.Proofs.Ytjihcncajpmgiaa.M
