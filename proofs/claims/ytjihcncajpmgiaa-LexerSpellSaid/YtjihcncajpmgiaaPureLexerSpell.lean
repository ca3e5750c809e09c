/- LexerSpell, over bytes alone. -/
import Derived.Test.YtjihcncajpmgiaaM6
import Derived.Test.YtjihcncajpmgiaaM8
import Derived.Test.YtjihcncajpmgiaaAo
import Derived.Test.YtjihcncajpmgiaaAx3
namespace Go.Proofs.Ytjihcncajpmgiaa.A
def vinculumlaw18_LexerSpell.Pure : Prop := ∀ (x0 : S31) (x1 : S31) (_ : Wf31 x0) (_ : Wf31 x1), ∃ k, vinculumlaw18_LexerSpell.f k x0.f0 x0.f1 x0.f2 x0.f3 x1.f0 x1.f1 x1.f2 x1.f3 = some true
end Go.Proofs.Ytjihcncajpmgiaa.A
namespace Go.Proofs.Ytjihcncajpmgiaa.M
open Go.RowKit Go.Proofs.YtjihcncajpmgiaaW.PrintWords Go.Proofs.YtjihcncajpmgiaaW.PrintLast Go.Proofs.YtjihcncajpmgiaaW.PrintMore Go.Proofs.Ytjihcncajpmgiaa.R Go.Proofs.Ytjihcncajpmgiaa.A
set_option linter.unusedVariables false
set_option linter.unusedSimpArgs false

def nums (l : Bs) : List Int := l.map fun c => (c.toNat : Int)
theorem nums_len (l : Bs) : (nums l).length = l.length := List.length_map _
theorem nums_snoc (l : Bs) (c : UInt8) : nums l ++ [(c.toNat : Int)] = nums (l ++ [c]) := by simp [nums]
theorem of_nums (l : Bs) : strOfNums (nums l) = mk l := by
  apply ba_ext
  unfold strOfNums nums
  have e : ((fun n : Int => UInt8.ofNat n.toNat) ∘ fun c : UInt8 => (c.toNat : Int)) = id := funext fun c => by
    show UInt8.ofNat ((c.toNat : Int).toNat) = c
    rw [Int.toNat_natCast]
    exact UInt8.ofNat_toNat
  simp only [L, mk, List.map_map, e, List.map_id]
theorem quotedR_loop (s : ByteArray) (hs : s.size ≤ 1000) : ∀ k j, j ≤ s.size → s.size - j < k → vinculumref09_Quoted.l0 k s (nums (34 :: esc ((L s).take j))) (j : Int) = some (mk (34 :: (esc (L s) ++ [34]))) := by
  intro k
  induction k with
  | zero => intro j _ h; omega
  | succ k ih =>
    intro j hj hk
    have hel := esc_take_len (L s) j
    have hel2 := esc_len (L s)
    have c1 := List.count_le_length (a := (34 : UInt8)) (l := L s)
    have c2 := List.count_le_length (a := (92 : UInt8)) (l := L s)
    rw [L_len] at hel2 c1 c2
    have hacc : (nums (34 :: esc ((L s).take j))).length ≤ 4000 := by rw [nums_len, List.length_cons]; omega
    simp only [vinculumref09_Quoted.l0]
    rcases drop_cases s j with ⟨h1, h2⟩ | ⟨c, r, h⟩
    · rw [if_neg (by omega), if_pos (by omega), List.take_of_length_le (by rw [L_len]; omega)]
      congr 1
      rw [← of_nums]
      congr 1
      simp [nums]
    · obtain ⟨h1, h2, h3⟩ := bt_drop h
      have e34 : c = 34 ↔ (c.toNat : Int) = 34 := u8_eq c 34 (by omega)
      have e92 : c = 92 ↔ (c.toNat : Int) = 92 := u8_eq c 92 (by omega)
      have hjl : j < (L s).length := by rw [L_len]; exact h2
      have hg : (L s)[j] = c := by
        have := List.drop_eq_getElem_cons hjl
        rw [h] at this
        injection this with this _
        exact this.symm
      have ht : esc ((L s).take (j + 1)) = esc ((L s).take j) ++ escB c := by
        rw [List.take_succ_eq_append_getElem hjl, hg, esc_snoc]
      have hn := ih (j + 1) h2 (by omega)
      rw [ht] at hn
      rw [if_pos (by omega), if_pos (by omega), h1, w64_1 (by omega)]
      by_cases d1 : (c.toNat : Int) = 34
      · have hc := e34.2 d1
        rw [if_pos d1, if_pos (by omega), Option.bind_some, if_pos (by rw [List.length_append]; simp only [List.length_cons, List.length_nil]; omega)]
        have : nums (34 :: esc ((L s).take j)) ++ [92] ++ [(c.toNat : Int)] = nums (34 :: (esc ((L s).take j) ++ escB c)) := by
          rw [hc]
          simp [nums, escB]
        rw [this]
        exact hn
      rw [if_neg d1]
      by_cases d2 : (c.toNat : Int) = 92
      · have hc := e92.2 d2
        rw [if_pos d2, if_pos (by omega), Option.bind_some, if_pos (by rw [List.length_append]; simp only [List.length_cons, List.length_nil]; omega)]
        have : nums (34 :: esc ((L s).take j)) ++ [92] ++ [(c.toNat : Int)] = nums (34 :: (esc ((L s).take j) ++ escB c)) := by
          rw [hc]
          simp [nums, escB]
        rw [this]
        exact hn
      rw [if_neg d2, if_pos (by omega)]
      have : nums (34 :: esc ((L s).take j)) ++ [(c.toNat : Int)] = nums (34 :: (esc ((L s).take j) ++ escB c)) := by
        have hb : escB c = [c] := by unfold escB; rw [if_neg (fun h => d2 (e92.1 h)), if_neg (fun h => d1 (e34.1 h))]
        rw [hb, nums_snoc]
        rfl
      rw [this]
      exact hn
theorem spellR_ev (kd : Int) (s : ByteArray) (x y : Int) (hs : s.size ≤ 1000) : Ev (fun k => vinculumref18_Spell.f k kd s x y) (mk (spM kd (L s))) := by
  have e : ∀ a b : ByteArray, L a = L b → some a = some b := fun a b h => by rw [ba_ext h]
  refine ⟨s.size + 1, fun k hk => ?_⟩
  show vinculumref18_Spell.f k kd s x y = _
  unfold vinculumref18_Spell.f spM
  by_cases h1 : kd = 3
  · rw [if_pos h1, if_pos h1]
    have : vinculumref09_Quoted.f k s = some (mk (34 :: (esc (L s) ++ [34]))) := quotedR_loop s hs k 0 (by omega) (by omega)
    rw [this, Option.bind_some]
  rw [if_neg h1, if_neg h1]
  by_cases h2 : kd = 4
  · rw [if_pos h2, if_pos h2, if_pos (by omega)]
    refine e _ _ ?_
    rw [L_append, L_mk]
    rfl
  rw [if_neg h2, if_neg h2]
  by_cases h3 : kd = 5
  · rw [if_pos h3, if_pos h3, if_pos (by omega)]
    refine e _ _ ?_
    rw [L_append, L_mk]
    rfl
  rw [if_neg h3, if_neg h3]
  by_cases h4 : kd = 6
  · rw [if_pos h4, if_pos h4, if_pos (by omega)]
    refine e _ _ ?_
    rw [L_append, L_mk]
    rfl
  rw [if_neg h4, if_neg h4]
  rfl
theorem letterR (c : UInt8) : vinculumref09_Letter.f (c.toNat : Int) = some (isLet c) := let_eval c
theorem joinsR (k1 k2 : Int) (s1 s2 : ByteArray) (x1 y1 x2 y2 : Int) : vinculumref18_Joins.f k1 s1 x1 y1 k2 s2 x2 y2 = some (joinM k1 k2 (L s2)) := by
  unfold vinculumref18_Joins.f joinM
  have f1 : k1 = 4 → ∀ z : Option Bool, (if k1 = 2 then z else some false) = some false := fun h z => if_neg (by omega)
  by_cases h1 : k1 = 4
  · rw [if_pos h1, if_pos h1]
    by_cases h2 : k2 = 1
    · rw [if_pos h2, h2]
      rcases drop_cases s2 0 with ⟨g1, g2⟩ | ⟨c, r, g⟩
      · rw [if_neg (by omega), f1 h1]
        rw [List.drop_zero] at g2
        rw [g2]
        rfl
      · obtain ⟨g1, g3, g4⟩ := bt_drop g
        rw [List.drop_zero] at g
        rw [if_pos (by omega), if_pos (by omega), show bt s2 0 = (c.toNat : Int) from g1, letterR, Option.bind_some, g]
        simp
    · rw [if_neg h2, f1 h1, beq_eq_false_iff_ne.2 h2, Bool.false_and]
  · rw [if_neg h1, if_neg h1]
    by_cases h2 : k1 = 2
    · rw [if_pos h2, h2]
      rfl
    · rw [if_neg h2, beq_eq_false_iff_ne.2 h2, Bool.false_and]
theorem spell_pure (x0 x1 : S31) : ∃ k, vinculumlaw18_LexerSpell.f k x0.f0 x0.f1 x0.f2 x0.f3 x1.f0 x1.f1 x1.f2 x1.f3 = some true := by
  refine Ev.rounds ?_
  have big : Ev (fun k => vinculumlaw18_LexerSpell.j0 k true x0.f0 x0.f1 x0.f2 x0.f3 x1.f0 x1.f1 x1.f2 x1.f3) true := by
    refine Ev.step (f := fun k => (vinculumlaw18_awake.f k).bind fun t161 => (some t161)) (fun k => by rw [vinculumlaw18_LexerSpell.j0]; exact if_pos rfl) ?_
    exact Ev.bind awake_ev (Ev.now _)
  show Ev (fun k => (vinculumlaw18_awake.f k).bind fun t160 => (if t160 = true then (if (x0.f1.size : Int) > 300 then (vinculumlaw18_LexerSpell.j0 k true x0.f0 x0.f1 x0.f2 x0.f3 x1.f0 x1.f1 x1.f2 x1.f3) else (vinculumlaw18_LexerSpell.j0 k (decide ((x1.f1.size : Int) > 300)) x0.f0 x0.f1 x0.f2 x0.f3 x1.f0 x1.f1 x1.f2 x1.f3)) else (vinculumlaw18_LexerSpell.j0 k true x0.f0 x0.f1 x0.f2 x0.f3 x1.f0 x1.f1 x1.f2 x1.f3))) true
  refine Ev.bind awake_ev ?_
  by_cases hs : x0.f1.size ≤ 300
  case neg => exact Ev.congr (fun k => by rw [if_pos rfl, if_pos (by omega)]) big
  refine Ev.congr (f := fun k => vinculumlaw18_LexerSpell.j0 k (decide ((x1.f1.size : Int) > 300)) x0.f0 x0.f1 x0.f2 x0.f3 x1.f0 x1.f1 x1.f2 x1.f3) (fun k => by rw [if_pos rfl, if_neg (by omega)]) ?_
  by_cases hl : x1.f1.size ≤ 300
  case neg => rw [decide_eq_true (by omega)]; exact big
  rw [decide_eq_false (by omega)]
  obtain ⟨K, hK⟩ := spellR_ev x0.f0 x0.f1 x0.f2 x0.f3 (by omega)
  have hS := spell_eval x0.f0 (L x0.f1) x0.f2 x0.f3 (by rw [L_len]; omega)
  have hJ := joins_eval x0.f0 x1.f0 (L x0.f1) (L x1.f1) x0.f2 x0.f3 x1.f2 x1.f3
  rw [mk_L] at hS
  rw [mk_L, mk_L] at hJ
  refine ⟨K + 1, fun k hk => ?_⟩
  obtain ⟨k, rfl⟩ : ∃ j, k = j + 1 := ⟨k - 1, by omega⟩
  have hR : vinculumref18_Spell.f k x0.f0 x0.f1 x0.f2 x0.f3 = some (mk (spM x0.f0 (L x0.f1))) := hK k (by omega)
  show vinculumlaw18_LexerSpell.j0 (k + 1) false _ _ _ _ _ _ _ _ = _
  rw [vinculumlaw18_LexerSpell.j0, if_neg Bool.false_ne_true, hS, Option.bind_some, hR, Option.bind_some, if_pos rfl, hJ, Option.bind_some, joinsR, Option.bind_some]
  simp
end Go.Proofs.Ytjihcncajpmgiaa.M
namespace Go.Proofs.Ytjihcncajpmgiaa.Pure
open Go.Proofs.Ytjihcncajpmgiaa.A
theorem LexerSpell : vinculumlaw18_LexerSpell.Pure := fun x0 x1 _ _ => M.spell_pure x0 x1
end Go.Proofs.Ytjihcncajpmgiaa.Pure
