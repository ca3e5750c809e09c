/- The reference's comparison of tokens, and the conversion of tokens. -/
import Derived.Test.YtjihcncajpmgiaaM6
import Derived.Test.YtjihcncajpmgiaaAx6
namespace Go.Proofs.Ytjihcncajpmgiaa.M
open Go.RowKit Go.Proofs.YtjihcncajpmgiaaW.PrintWords Go.Proofs.YtjihcncajpmgiaaW.PrintLast Go.Proofs.YtjihcncajpmgiaaW.PrintMore Go.Proofs.Ytjihcncajpmgiaa.R Go.Proofs.Ytjihcncajpmgiaa.A
set_option linter.unusedVariables false
set_option linter.unusedSimpArgs false

def conv (t : S28) : S31 := ⟨t.f0, t.f1, t.f2, t.f3⟩
def kt (t : S28) : Int × Bs := (t.f0, L t.f1)
theorem from_loop (l : List S28) (hl : l.length ≤ 10000) : ∀ k j, j ≤ l.length → l.length - j < k → vinculumlaw18_from.l0 k ((l.take j).map conv) l (l.length : Int) (j : Int) = some (l.map conv) := by
  intro k
  induction k with
  | zero => intro j _ h; omega
  | succ k ih =>
    intro j hj hk
    simp only [vinculumlaw18_from.l0]
    by_cases h : j < l.length
    · have hd := List.drop_eq_getElem_cons h
      obtain ⟨g1, g2, g3⟩ := rd_drop hd
      rw [if_pos (by omega), if_pos (by omega), if_pos (by omega), g1, if_pos (by rw [List.length_map, List.length_take]; omega), w64_1 (by omega)]
      have e : (l.take j).map conv ++ [(⟨l[j].f0, l[j].f1, l[j].f2, l[j].f3⟩ : S31)] = (l.take (j + 1)).map conv := by
        rw [List.take_succ_eq_append_getElem h, List.map_append]
        rfl
      rw [e]
      exact ih (j + 1) h (by omega)
    · rw [if_neg (by omega), List.take_of_length_le (by omega)]
theorem from_ev (l : List S28) (hl : l.length ≤ 10000) : Ev (fun k => vinculumlaw18_from.f k l) (l.map conv) :=
  ⟨l.length + 1, fun k hk => from_loop l hl k 0 (by omega) (by omega)⟩
theorem rd31 (l : List S28) (j : Nat) (h : j < l.length) : rd_T31 (l.map conv) (j : Int) = conv l[j] := by
  unfold rd_T31
  rw [Int.toNat_natCast, List.getD_eq_getElem?_getD, List.getElem?_map, List.getElem?_eq_getElem h]
  rfl
theorem same_loop (a b : List S28) (hab : a.length = b.length) (hl : a.length ≤ 10000) : ∀ k j, j ≤ a.length → a.length - j < k →
    vinculumref18_Same.l0 k (a.map conv) (b.map conv) false (j : Int) = some (decide ((a.drop j).map kt = (b.drop j).map kt)) := by
  intro k
  induction k with
  | zero => intro j _ h; omega
  | succ k ih =>
    intro j hj hk
    simp only [vinculumref18_Same.l0]
    rw [List.length_map, List.length_map]
    by_cases h : j < a.length
    · have h' : j < b.length := by omega
      rw [if_pos (by omega), if_pos (by omega), if_pos (by omega), rd31 a j h, rd31 b j h', List.drop_eq_getElem_cons h, List.drop_eq_getElem_cons h', List.map_cons, List.map_cons, w64_1 (by omega), ih (j + 1) h (by omega)]
      show (if a[j].f0 = b[j].f0 then (if a[j].f1.toList = b[j].f1.toList then (if false = true then _ else _) else _) else _) = _
      rw [L_toList, L_toList]
      by_cases c1 : a[j].f0 = b[j].f0
      · rw [if_pos c1]
        by_cases c2 : L a[j].f1 = L b[j].f1
        · rw [if_pos c2, if_neg Bool.false_ne_true]
          congr 1
          refine decide_eq_decide.2 ?_
          rw [List.cons.injEq]
          have : kt a[j] = kt b[j] := by unfold kt; rw [c1, c2]
          exact ⟨fun h => ⟨this, h⟩, fun h => h.2⟩
        · rw [if_neg c2]
          congr 1
          refine (decide_eq_false ?_).symm
          rw [List.cons.injEq]
          rintro ⟨e, _⟩
          exact c2 (congrArg Prod.snd e)
      · rw [if_neg c1]
        congr 1
        refine (decide_eq_false ?_).symm
        rw [List.cons.injEq]
        rintro ⟨e, _⟩
        exact c1 (congrArg Prod.fst e)
    · rw [if_neg (by omega), List.drop_of_length_le (by omega), List.drop_of_length_le (by omega)]
      rfl
theorem same_ev (a b : List S28) (ha : a.length ≤ 10000) : Ev (fun k => vinculumref18_Same.f k (a.map conv) (b.map conv) false) (decide (a.map kt = b.map kt)) := by
  by_cases h : a.length = b.length
  · refine ⟨a.length + 1, fun k hk => ?_⟩
    show vinculumref18_Same.f k _ _ _ = _
    unfold vinculumref18_Same.f
    rw [List.length_map, List.length_map, if_pos (by omega)]
    exact same_loop a b h ha k 0 (by omega) (by omega)
  · refine ⟨0, fun k hk => ?_⟩
    show vinculumref18_Same.f k _ _ _ = _
    unfold vinculumref18_Same.f
    rw [List.length_map, List.length_map, if_neg (by omega)]
    congr 1
    refine (decide_eq_false ?_).symm
    intro e
    have := congrArg List.length e
    rw [List.length_map, List.length_map] at this
    exact h this
theorem joins_eval (k1 k2 : Int) (t1 t2 : Bs) (x1 y1 x2 y2 : Int) : lexer_Joins.f k1 (mk t1) x1 y1 k2 (mk t2) x2 y2 = some (joinM k1 k2 t2) := by
  unfold lexer_Joins.f joinM
  by_cases h1 : k1 = 4
  · rw [if_pos h1, if_pos h1]
    by_cases h2 : k2 = 1
    · rw [if_pos h2, h2, L_toList, L_mk]
      cases t2 with
      | nil => rfl
      | cons c r =>
        have hb := (bt_drop (s := mk (c :: r)) (n := 0) rfl).1
        rw [if_neg (by simp), if_pos (by rw [mk_size, List.length_cons]; omega), show bt (mk (c :: r)) 0 = (c.toNat : Int) from hb, let_eval]
        simp
    · rw [if_neg h2, beq_eq_false_iff_ne.2 h2, Bool.false_and]
  · rw [if_neg h1, if_neg h1]
    by_cases h2 : k1 = 2
    · rw [if_pos h2, h2]
      rfl
    · rw [if_neg h2, beq_eq_false_iff_ne.2 h2, Bool.false_and]
/-- What is known of each token of a text. -/
theorem TokP.ok {n : Nat} {l : Bs} {ts : List S28} (h : TokP n l ts) : ∀ t ∈ ts, TokOK t.f0 (L t.f1) ∧ longM t.f0 (L t.f1) = false ∧ (spM t.f0 (L t.f1)).length ≤ l.length := by
  induction h with
  | nil n l hb => intro t ht; cases ht
  | cons n b c r kd t m ts h1 h2 h3 h4 h5 ih =>
    intro x hx
    rcases List.mem_cons.1 hx with rfl | hx
    · obtain ⟨a1, a2, a3⟩ := tok_of h3
      refine ⟨a1, h4, ?_⟩
      show (spM kd t).length ≤ _
      have := next_tok h3
      simp only [List.length_append, List.length_cons] at this ⊢
      omega
    · obtain ⟨a1, a2, a3⟩ := ih x hx
      refine ⟨a1, a2, ?_⟩
      rw [List.length_drop] at a3
      simp only [List.length_append, List.length_cons] at a3 ⊢
      omega
theorem text_le {kd : Int} {t : Bs} (h : TokOK kd t) : t.length ≤ (spM kd t).length := by
  have := esc_len t
  cases h with
  | num t _ => rw [sp2]; omega
  | mark c _ => rw [sp7]; omega
  | text u _ => rw [sp3]; simp only [List.length_cons, List.length_append, List.length_nil]; omega
  | brk => rw [sp8]; omega
  | name t _ _ _ => rw [sp4, List.length_cons]; omega
  | fence a b _ _ => rw [sp5]; simp only [List.length_cons, List.length_append]; omega
  | param a _ => rw [sp6]; simp only [List.length_cons]; omega
  | sym c _ => rw [sp1]; omega
/-- A token ahead of what does not join. -/
theorem TokP.push {kd : Int} {t : Bs} (h : TokOK kd t) (hl : longM kd t = false) {r : Bs} (hr : okb kd r) (b : Bs) (hb : b.all isBl = true) (n : Nat) {ts : List S28} (hts : TokP (n + b.length + (spM kd t).length) r ts) :
    TokP n (b ++ (spM kd t ++ r)) (⟨kd, mk t, ((n + b.length : Nat) : Int), ((n + b.length + (spM kd t).length : Nat) : Int)⟩ :: ts) := by
  obtain ⟨c, r', e, h1, h2⟩ := tok_back h r hr
  rw [e]
  refine .cons n b c r' kd t _ ts hb h2 h1 hl ?_
  rw [← e, drop_len_app]
  exact hts
end Go.Proofs.Ytjihcncajpmgiaa.M
