/- Plain laws: the shapes of nodes, as the program and as the reference tell them. -/
import Derived.Test.YtihchehmkhnhaaaDoorCDiffMetric4
import Derived.Test.YtihchehmkhnhaaaDoorCDiffMetric5
import Derived.Test.YtihchehmkhnhaaaDoorCDiffMetric6
namespace Go.Proofs.YtihchehmkhnhaaaDoor.A
open Go.RowKit Go.Proofs.YtihchehmkhnhaaaDoorW.PrintWords Go.Proofs.YtihchehmkhnhaaaDoorW.PrintLast Go.Proofs.YtihchehmkhnhaaaDoorW.PrintMore
set_option linter.unusedVariables false

def pch (c : UInt8) : Bool := decide (32 ≤ c.toNat) && decide (c.toNat ≤ 126)
theorem nPrn_ev (s : ByteArray) (hs : s.size ≤ 9223372036854775807) : Ev (fun k => node_printable.f k s) ((bs s).all pch && decide (s.size ≤ 200)) := by
  have hl := bs_len s
  have loop : ∀ (d j : Nat), (bs s).length - j = d → j ≤ (bs s).length → Ev (fun k => node_printable.l0 k s (s.size : Int) (j : Int)) (((bs s).drop j).all pch && decide (s.size ≤ 200)) := by
    intro d
    induction d with
    | zero =>
      intro j hd hj
      obtain rfl : j = (bs s).length := by omega
      apply Ev.step
      · intro k; rw [node_printable.l0, if_neg (by omega)]
      rw [List.drop_length, List.all_nil, Bool.true_and, show decide (s.size ≤ 200) = decide ((s.size : Int) ≤ 200) by congr 1; rw [eq_iff_iff]; omega]
      exact Ev.now _
    | succ d ihd =>
      intro j hd hj
      have hlt : j < (bs s).length := by omega
      rw [drop_at hlt, List.all_cons]
      apply Ev.step
      · intro k; rw [node_printable.l0, if_pos (by omega), if_pos (by omega), if_pos (by omega), bt_bs hlt, wrap64_id (by omega) (by omega)]
      by_cases h1 : 32 ≤ (bs s)[j].toNat
      · by_cases h2 : (bs s)[j].toNat ≤ 126
        · apply Ev.congr
          · intro k; rw [if_neg (by omega), if_neg (by omega)]
          rw [show pch (bs s)[j] = true by unfold pch; rw [decide_eq_true h1, decide_eq_true h2]; rfl, Bool.true_and]
          exact ihd (j + 1) (by omega) (by omega)
        · apply Ev.congr
          · intro k; rw [if_neg (by omega), if_pos (by omega)]
          rw [show pch (bs s)[j] = false by unfold pch; rw [decide_eq_false h2, Bool.and_false], Bool.false_and, Bool.false_and]
          exact Ev.now _
      · apply Ev.congr
        · intro k; rw [if_pos (by omega)]
        rw [show pch (bs s)[j] = false by unfold pch; rw [decide_eq_false h1, Bool.false_and], Bool.false_and, Bool.false_and]
        exact Ev.now _
  simpa [node_printable.f] using loop _ 0 rfl (by omega)
theorem rPrn_ev (s : ByteArray) (hs : s.size ≤ 9223372036854775807) : Ev (fun k => vinculumref09_Printable.f k s) ((bs s).all pch) := by
  have hl := bs_len s
  have loop : ∀ (d j : Nat), (bs s).length - j = d → j ≤ (bs s).length → Ev (fun k => vinculumref09_Printable.l0 k s (j : Int)) (((bs s).drop j).all pch) := by
    intro d
    induction d with
    | zero =>
      intro j hd hj
      obtain rfl : j = (bs s).length := by omega
      apply Ev.step
      · intro k; rw [vinculumref09_Printable.l0, if_neg (by omega)]
      rw [List.drop_length, List.all_nil]
      exact Ev.now _
    | succ d ihd =>
      intro j hd hj
      have hlt : j < (bs s).length := by omega
      rw [drop_at hlt, List.all_cons]
      apply Ev.step
      · intro k; rw [vinculumref09_Printable.l0, if_pos (by omega), if_pos (by omega), bt_bs hlt, wrap64_id (by omega) (by omega)]
      by_cases h1 : 32 ≤ (bs s)[j].toNat
      · by_cases h2 : (bs s)[j].toNat ≤ 126
        · apply Ev.congr
          · intro k; rw [if_neg (by omega), if_neg (by omega)]
          rw [show pch (bs s)[j] = true by unfold pch; rw [decide_eq_true h1, decide_eq_true h2]; rfl, Bool.true_and]
          exact ihd (j + 1) (by omega) (by omega)
        · apply Ev.congr
          · intro k; rw [if_neg (by omega), if_pos (by omega)]
          rw [show pch (bs s)[j] = false by unfold pch; rw [decide_eq_false h2, Bool.and_false], Bool.false_and]
          exact Ev.now _
      · apply Ev.congr
        · intro k; rw [if_pos (by omega)]
        rw [show pch (bs s)[j] = false by unfold pch; rw [decide_eq_false h1, Bool.false_and], Bool.false_and]
        exact Ev.now _
  simpa [vinculumref09_Printable.f] using loop _ 0 rfl (by omega)

def DL : ByteArray := ⟨#[40, 41, 91, 93, 123, 125, 124, 60, 62, 47, 46]⟩
def DM : ByteArray := ⟨#[40, 41, 91, 93, 123, 125, 60, 62, 47, 124, 46]⟩
set_option maxRecDepth 100000 in
theorem dl_dm (c : UInt8) : (bs DM).contains c = (bs DL).contains c := by
  have h : ∀ n, n < 256 → ([40, 41, 91, 93, 123, 125, 60, 62, 47, 124, 46] : List UInt8).contains (UInt8.ofNat n) = ([40, 41, 91, 93, 123, 125, 124, 60, 62, 47, 46] : List UInt8).contains (UInt8.ofNat n) := by decide
  have := h c.toNat c.toNat_lt
  rw [UInt8.ofNat_toNat] at this
  exact this
def fenT (s : ByteArray) : Bool := decide (s.size = 2) && (bs DL).contains ((bs s).headD 0) && (bs DL).contains (((bs s).drop 1).headD 0)
theorem nFen_ev (s : ByteArray) : node_fence.f s = some (fenT s) := by
  have hl := bs_len s
  unfold node_fence.f fenT
  by_cases h2 : s.size = 2
  · have z1 : (s.extract 0 1).size = 1 := by rw [ByteArray.size_extract]; omega
    have z2 : (s.extract 1 s.size).size = 1 := by rw [ByteArray.size_extract]; omega
    have e1 : (bs (s.extract 0 1)).headD 0 = (bs s).headD 0 := by
      rw [bs_extract]
      show (((bs s).drop 0).take (1 - 0)).headD 0 = _
      cases hb : bs s with
      | nil => rfl
      | cons x r => rfl
    have e2 : (bs (s.extract 1 s.size)).headD 0 = ((bs s).drop 1).headD 0 := by
      rw [bs_extract, ← hl]
      show (((bs s).drop 1).take ((bs s).length - 1)).headD 0 = _
      rw [List.take_of_length_le (by rw [List.length_drop]; omega)]
    rw [if_pos (by omega), if_pos (by omega), if_pos (by omega), decide_eq_true h2]
    rw [contains_one_ev _ _ z1, Option.bind_some, contains_one_ev _ _ z2, Option.bind_some, e1, e2]
    show (if (bs DM).contains ((bs s).headD 0) = true then some ((bs DM).contains (((bs s).drop 1).headD 0)) else some false) = _
    rw [dl_dm, dl_dm]
    generalize (bs DL).contains ((bs s).headD 0) = b1
    generalize (bs DL).contains (((bs s).drop 1).headD 0) = b2
    cases b1 <;> cases b2 <;> rfl
  · rw [if_neg (by omega), decide_eq_false h2]
    rfl
/-- The text that a kind asks for. -/
def txT (kind : Int) (s : ByteArray) : Bool :=
  if kind = 2 then symT s else if kind = 3 then numT (bs s) else if kind = 4 then (bs s).all pch && decide (s.size ≤ 200) else if kind = 10 then inB AC s else if kind = 11 then fenT s else (s.toList == ([] : List UInt8))
theorem nTx_ev (kind : Int) (s : ByteArray) (hs : s.size ≤ 9223372036854775807) : Ev (fun k => node_textok.f k kind s) (txT kind s) := by
  unfold node_textok.f txT
  by_cases h2 : kind = 2
  · rw [if_pos h2]
    exact Ev.congr (fun k => if_pos h2) (nSym_ev s hs)
  · rw [if_neg h2]
    by_cases h3 : kind = 3
    · rw [if_pos h3]
      refine Ev.congr (f := fun _ => some (numT (bs s))) (fun k => ?_) (Ev.now _)
      rw [if_neg h2, if_pos h3, nNum_ev]
    · rw [if_neg h3]
      by_cases h4 : kind = 4
      · rw [if_pos h4]
        exact Ev.congr (fun k => by rw [if_neg h2, if_neg h3, if_pos h4]) (nPrn_ev s hs)
      · rw [if_neg h4]
        by_cases h10 : kind = 10
        · rw [if_pos h10]
          refine Ev.congr (f := fun k => node_accent.f k s) (fun k => by rw [if_neg h2, if_neg h3, if_neg h4, if_pos h10]) ?_
          unfold node_accent.f
          exact Ev.bind (scontains_ev AC s (by decide)) (Ev.now _)
        · rw [if_neg h10]
          by_cases h11 : kind = 11
          · rw [if_pos h11, if_pos h11]
            refine Ev.congr (f := fun _ => some (fenT s)) (fun k => ?_) (Ev.now _)
            rw [if_neg h2, if_neg h3, if_neg h4, if_neg h10, nFen_ev]
          · rw [if_neg h11, if_neg h11]
            refine Ev.congr (f := fun _ => some (s.toList == ([] : List UInt8))) (fun k => ?_) (Ev.now _)
            rw [if_neg h2, if_neg h3, if_neg h4, if_neg h10, node_empty.f]
theorem bt1 {s : ByteArray} (h : s.size = 2) : bt s 1 = (((((bs s).drop 1).headD 0).toNat : Nat) : Int) := by
  have hl := bs_len s
  have := bt_bs (s := s) (j := 1) (by omega)
  rw [show ((1 : Nat) : Int) = 1 from rfl] at this
  rw [this, drop_at (show 1 < (bs s).length by omega)]
  rfl
theorem rTx_ev (kind : Int) (s : ByteArray) (cols : Int) (l : List S24) (hs : s.size ≤ 9223372036854775807) : Ev (fun k => vinculumref09_text.f k kind s cols l) (txT kind s) := by
  unfold vinculumref09_text.f txT
  by_cases h2 : kind = 2
  · rw [if_pos h2]
    exact Ev.congr (fun k => if_pos h2) (Ev.bind (rSym_ev s hs) (Ev.now _))
  · rw [if_neg h2]
    by_cases h3 : kind = 3
    · rw [if_pos h3]
      exact Ev.congr (fun k => by rw [if_neg h2, if_pos h3]) (Ev.bind (rNum_ev s hs) (Ev.now _))
    · rw [if_neg h3]
      by_cases h4 : kind = 4
      · rw [if_pos h4]
        by_cases hz : s.size ≤ 200
        · refine Ev.congr (fun k => by rw [if_neg h2, if_neg h3, if_pos h4, if_pos (by omega)]) (Ev.bind (rPrn_ev s hs) ?_)
          rw [decide_eq_true hz, Bool.and_true]
          exact Ev.now _
        · refine Ev.congr (f := fun _ => some false) (fun k => by rw [if_neg h2, if_neg h3, if_pos h4, if_neg (by omega)]) ?_
          rw [decide_eq_false hz, Bool.and_false]
          exact Ev.now _
      · rw [if_neg h4]
        by_cases h10 : kind = 10
        · rw [if_pos h10]
          refine Ev.congr (f := fun k => (vinculumref09_In.f k AC s).bind fun t => some t) (fun k => by rw [if_neg h2, if_neg h3, if_neg h4, if_pos h10, vinculumref09_Accents.f, Option.bind_some]; rfl) ?_
          exact Ev.bind (in_ev AC s (by decide)) (Ev.now _)
        · rw [if_neg h10]
          by_cases h11 : kind = 11
          · rw [if_pos h11]
            unfold fenT
            by_cases hz : s.size = 2
            · refine Ev.congr (f := fun k => (vinculumref09_has.f k DL (bt s 0)).bind fun t => if t = true then (if 1 < (s.size : Int) then ((vinculumref09_has.f k DL (bt s 1)).bind fun t => some t) else none) else some false) (fun k => by rw [if_neg h2, if_neg h3, if_neg h4, if_neg h10, if_pos h11, if_pos (by omega), if_pos (by omega)]; rfl) ?_
              rw [bt0 (by omega), bt1 hz, decide_eq_true hz, Bool.true_and]
              refine Ev.bind (has_ev DL _ (by decide)) ?_
              cases (bs DL).contains ((bs s).headD 0) with
              | true =>
                refine Ev.congr (fun k => by rw [if_pos rfl, if_pos (by omega)]) (Ev.bind (has_ev DL _ (by decide)) ?_)
                rw [Bool.true_and]
                exact Ev.now _
              | false => exact Ev.now false
            · refine Ev.congr (f := fun _ => some false) (fun k => by rw [if_neg h2, if_neg h3, if_neg h4, if_neg h10, if_pos h11, if_neg (by omega)]) ?_
              rw [decide_eq_false hz]
              exact Ev.now _
          · rw [if_neg h11]
            refine Ev.congr (f := fun _ => some (s.toList == ([] : List UInt8))) (fun k => ?_) (Ev.now _)
            rw [if_neg h2, if_neg h3, if_neg h4, if_neg h10, if_neg h11]
/-- The number of kids and the columns that a kind asks for. -/
def kdT (kind cols : Int) (n : Nat) : Bool :=
  if kind = 12 then decide (1 ≤ cols) && (decide (cols ≤ 16) && (decide (1 ≤ (n : Int)) && (decide ((n : Int) ≤ 256) && ((n : Int) % cols == 0))))
  else (cols == 0) && (if kind = 1 then decide ((n : Int) ≤ 200) else if kind = 2 ∨ kind = 3 ∨ kind = 4 then ((n : Int) == 0) else if kind = 5 ∨ kind = 6 ∨ kind = 7 ∨ kind = 8 then ((n : Int) == 2) else if kind = 9 then ((n : Int) == 3) else if kind = 10 ∨ kind = 11 then ((n : Int) == 1) else false)
theorem rKd_ev (kind : Int) (s : ByteArray) (cols : Int) (l : List S24) : Ev (fun k => vinculumref09_kids.f k kind s cols l) (kdT kind cols l.length) := by
  refine ⟨2, fun k hk => ?_⟩
  obtain ⟨m, rfl⟩ : ∃ m, k = m + 2 := ⟨k - 2, by omega⟩
  show vinculumref09_kids.f (m + 2) kind s cols l = _
  unfold vinculumref09_kids.f kdT
  by_cases h12 : kind = 12
  · rw [if_pos h12, if_pos h12]
    by_cases c1 : cols ≥ 1
    · rw [if_pos c1, decide_eq_true (show 1 ≤ cols by omega)]
      by_cases c2 : cols ≤ 16
      · rw [if_pos c2, decide_eq_true c2]
        by_cases c3 : (l.length : Int) ≥ 1
        · rw [if_pos c3, decide_eq_true (show 1 ≤ (l.length : Int) by omega)]
          by_cases c4 : (l.length : Int) ≤ 256
          · rw [if_pos c4, decide_eq_true c4, if_neg (by omega)]
            rfl
          · rw [if_neg c4, decide_eq_false c4]; rfl
        · rw [if_neg c3, decide_eq_false (show ¬ 1 ≤ (l.length : Int) by omega)]; rfl
      · rw [if_neg c2, decide_eq_false c2]; rfl
    · rw [if_neg c1, decide_eq_false (show ¬ 1 ≤ cols by omega)]; rfl
  · rw [if_neg h12, if_neg h12]
    by_cases hc : cols = 0
    · rw [if_pos hc, hc, beq_self_eq_true, Bool.true_and]
      have hk : kind = 1 ∨ kind = 2 ∨ kind = 3 ∨ kind = 4 ∨ kind = 5 ∨ kind = 6 ∨ kind = 7 ∨ kind = 8 ∨ kind = 9 ∨ kind = 10 ∨ kind = 11 ∨ (kind < 1 ∨ 11 < kind) := by omega
      rcases hk with rfl | rfl | rfl | rfl | rfl | rfl | rfl | rfl | rfl | rfl | rfl | hk
      · rfl
      · rfl
      · rfl
      · rfl
      · rfl
      · rfl
      · rfl
      · rfl
      · rfl
      · rfl
      · rfl
      · have e : ∀ n : Int, 1 ≤ n → n ≤ 11 → (kind == n) = false := fun n h1 h2 => beq_eq_false_iff_ne.2 (by omega)
        rw [if_neg (by omega), if_neg (by omega), if_neg (by omega), if_neg (by omega), if_neg (by omega), if_neg (by omega), if_neg (by omega), if_neg (by omega), e 4 (by omega) (by omega), vinculumref09_kids.j0, if_neg Bool.false_ne_true, if_neg (by omega), if_neg (by omega), if_neg (by omega), e 8 (by omega) (by omega), vinculumref09_kids.j1, if_neg Bool.false_ne_true, if_neg (by omega), if_neg (by omega), if_neg (by omega)]
    · rw [if_neg hc, beq_eq_false_iff_ne.2 hc]; rfl
def shT (kind : Int) (s : ByteArray) (cols : Int) (n : Nat) : Bool := txT kind s && kdT kind cols n
theorem shape_ev (kind : Int) (s : ByteArray) (cols : Int) (n : Nat) (hs : s.size ≤ 9223372036854775807) : Ev (fun k => node_shape.f k kind s cols n) (shT kind s cols n) := by
  unfold node_shape.f shT
  by_cases h1 : kind < 1
  · refine Ev.congr (f := fun _ => some false) (fun k => if_pos h1) ?_
    have : kdT kind cols n = false := by
      unfold kdT
      rw [if_neg (by omega), if_neg (by omega), if_neg (by omega), if_neg (by omega), if_neg (by omega), if_neg (by omega), Bool.and_false]
    rw [this, Bool.and_false]
    exact Ev.now _
  · by_cases h2 : 12 < kind
    · refine Ev.congr (f := fun _ => some false) (fun k => by rw [if_neg h1, if_pos h2]) ?_
      have : kdT kind cols n = false := by
        unfold kdT
        rw [if_neg (by omega), if_neg (by omega), if_neg (by omega), if_neg (by omega), if_neg (by omega), if_neg (by omega), Bool.and_false]
      rw [this, Bool.and_false]
      exact Ev.now _
    · by_cases h3 : kind = 1
      · refine Ev.congr (f := fun _ => some (s.toList == ([] : List UInt8) && ((cols == 0) && decide ((n : Int) ≤ 200)))) (fun k => by rw [if_neg h1, if_neg h2, if_pos h3]) ?_
        subst h3
        exact Ev.now _
      · by_cases h4 : kind = 12
        · refine Ev.congr (f := fun _ => some (s.toList == ([] : List UInt8) && (decide (1 ≤ cols) && (decide (cols ≤ 16) && (decide (1 ≤ (n : Int)) && (decide ((n : Int) ≤ 256) && ((n : Int) % cols == 0))))))) (fun k => by rw [if_neg h1, if_neg h2, if_neg h3, if_pos h4]) ?_
          subst h4
          exact Ev.now _
        · refine Ev.congr (f := fun k => (node_textok.f k kind s).bind fun t => some (t && (cols == 0) && ((n : Int) == node_slots kind))) (fun k => by rw [if_neg h1, if_neg h2, if_neg h3, if_neg h4]) ?_
          refine Ev.bind (nTx_ev kind s hs) ?_
          have hk : kind = 2 ∨ kind = 3 ∨ kind = 4 ∨ kind = 5 ∨ kind = 6 ∨ kind = 7 ∨ kind = 8 ∨ kind = 9 ∨ kind = 10 ∨ kind = 11 := by omega
          have : kdT kind cols n = ((cols == 0) && ((n : Int) == node_slots kind)) := by
            rcases hk with rfl | rfl | rfl | rfl | rfl | rfl | rfl | rfl | rfl | rfl <;> rfl
          rw [this, ← Bool.and_assoc]
          exact Ev.now _
end Go.Proofs.YtihchehmkhnhaaaDoor.A
/- Plain laws: valid trees, as the program and as the reference tell them. -/
namespace Go.Proofs.YtihchehmkhnhaaaDoor.A
open Go.RowKit Go.Proofs.YtihchehmkhnhaaaDoorW.PrintWords Go.Proofs.YtihchehmkhnhaaaDoorW.PrintLast Go.Proofs.YtihchehmkhnhaaaDoorW.PrintMore
set_option linter.unusedVariables false

mutual
def depT (x : S24) : Nat := 1 + depL x.f3
termination_by 2 * cnt x
decreasing_by (have := cnt_eq x; omega)
def depL : List S24 → Nat
  | [] => 0
  | x :: r => max (depT x) (depL r)
termination_by l => 2 * cntL l + 1
decreasing_by all_goals (simp only [cntL]; have := cnt_eq x; omega)
end
theorem depT_eq (x : S24) : depT x = 1 + depL x.f3 := by rw [depT]
mutual
/-- All nodes of a tree have the form of their kind. -/
def formT : S24 → Bool
  | ⟨k, s, c, l⟩ => shT k s c l.length && formL k l
def formL (k : Int) : List S24 → Bool
  | [] => true
  | x :: r => (!((x.f0 == 1) == (k == 1))) && formT x && formL k r
end
theorem formT_eq (x : S24) : formT x = (shT x.f0 x.f1 x.f2 x.f3.length && formL x.f0 x.f3) := by
  obtain ⟨f0, f1, f2, f3⟩ := x
  simp [formT]
theorem depT_le_cnt : ∀ x : S24, depT x ≤ cnt x := by
  refine tree_ind (fun x ih => ?_)
  rw [depT_eq, cnt_eq]
  have : ∀ l : List S24, (∀ y, y ∈ l → depT y ≤ cnt y) → depL l ≤ cntL l := by
    intro l
    induction l with
    | nil => intro _; simp [depL]
    | cons y r ih =>
      intro h
      have h1 := h y (List.mem_cons_self ..)
      have h2 := ih (fun z hz => h z (List.mem_cons_of_mem _ hz))
      simp only [depL, cntL]
      omega
  have := this x.f3 ih
  omega
theorem wf_size {x : S24} (h : Wf24 x) : x.f1.size ≤ 9223372036854775807 := by
  have := h.w1
  unfold maxLen at this
  omega

theorem mx_split {A B d : Nat} (hd : 1 ≤ d) : max A B + 1 ≤ d ↔ A ≤ d - 1 ∧ B + 1 ≤ d := by omega
theorem le_join {a b n : Nat} (h : a ≤ n) (g : b ≤ n - a) : a + b ≤ n := by omega
theorem le_part {a b n : Nat} (h : a ≤ n) (g : a + b ≤ n) : b ≤ n - a := by omega
theorem sub_join {a b n : Nat} (h : a ≤ n) : ((n - a : Nat) : Int) - (b : Int) = (n : Int) - ((a + b : Nat) : Int) := by omega
/-- The program's checker. -/
theorem check_ev : ∀ x : S24, Wf24 x → cnt x ≤ 1000000 → ∀ left d : Nat, left ≤ 1000000 → d ≤ 1000 →
    ∃ (b : Bool) (L : Int), Ev (fun k => node_check.f k (left : Int) x.f0 x.f1 x.f2 x.f3 (d : Int)) (b, L) ∧ (b = true ↔ (formT x = true ∧ cnt x ≤ left ∧ depT x ≤ d)) ∧ (b = true → L = (left : Int) - cnt x) := by
  refine tree_ind (fun x ih hw hb left d hleft hd => ?_)
  have hce := cnt_eq x
  obtain ⟨D, hDx, hDl⟩ : ∃ D, depT x = 1 + D ∧ Aside0 (D = depL x.f3) := ⟨_, depT_eq x, ⟨rfl⟩⟩
  rw [hDx]
  clear hDx
  have hfe := formT_eq x
  have hlen := length_le_cntL x.f3
  have hcl : cntL x.f3 ≤ 1000000 := by omega
  obtain ⟨_, hwk⟩ := hw.w3
  by_cases h0 : left = 0
  · refine ⟨false, wrap64 ((left : Int) - 1), ?_, ⟨fun h => by simp at h, fun h => by omega⟩, fun h => by simp at h⟩
    apply Ev.step
    · intro k; rw [node_check.f, if_pos (by rw [wrap64_id (by omega) (by omega)]; omega)]
    exact Ev.now _
  have wl : wrap64 ((left : Int) - 1) = ((left - 1 : Nat) : Int) := by rw [wrap64_id (by omega) (by omega)]; omega
  by_cases h1 : d = 0
  · refine ⟨false, ((left - 1 : Nat) : Int), ?_, ⟨fun h => by simp at h, fun h => by omega⟩, fun h => by simp at h⟩
    apply Ev.step
    · intro k; rw [node_check.f, wl, if_neg (by omega), if_pos (by omega)]
    exact Ev.now _
  have wd : wrap64 ((d : Int) - 1) = ((d - 1 : Nat) : Int) := by rw [wrap64_id (by omega) (by omega)]; omega
  have loop : ∀ (e j lf : Nat), x.f3.length - j = e → j ≤ x.f3.length → lf ≤ 1000000 →
      ∃ (b : Bool) (L : Int), Ev (fun k => node_check.l0 k (lf : Int) x.f0 x.f3 (d : Int) (j : Int)) (b, L) ∧ (b = true ↔ (formL x.f0 (x.f3.drop j) = true ∧ cntL (x.f3.drop j) ≤ lf ∧ depL (x.f3.drop j) + 1 ≤ d)) ∧ (b = true → L = (lf : Int) - cntL (x.f3.drop j)) := by
    have wdA := Aside0.mk wd
    clear wl wd hfe
    intro e
    induction e with
    | zero =>
      intro j lf he hj hlf
      obtain rfl : j = x.f3.length := by omega
      rw [List.drop_length]
      refine ⟨true, (lf : Int), ?_, ⟨fun _ => ⟨rfl, by simp [cntL], by simp only [depL]; omega⟩, fun _ => rfl⟩, fun _ => by simp [cntL]⟩
      apply Ev.step
      · intro k; rw [node_check.l0, if_neg (by omega)]
      exact Ev.now _
    | succ e ihe =>
      intro j lf he hj hlf
      have hlt : j < x.f3.length := by omega
      have c1 : (j : Int) < (x.f3.length : Int) := by omega
      have c0 : (0 : Int) ≤ (j : Int) := by omega
      have wj : wrap64 ((j : Int) + 1) = ((j + 1 : Nat) : Int) := by rw [wrap64_id (by omega) (by omega)]; omega
      have hd1 : d - 1 ≤ 1000 := Nat.le_trans (Nat.sub_le _ _) hd
      have n1 : x.f3.length - (j + 1) = e := by rw [Nat.sub_succ, he]; rfl
      have hd0 : 1 ≤ d := Nat.pos_of_ne_zero h1
      have hm := List.getElem_mem hlt
      have hcm := cnt_mem hm
      have hcx : cnt x.f3[j] ≤ 1000000 := Nat.le_trans hcm hcl
      rw [drop_at hlt, formL, cntL, depL]
      clear hce hleft hb
      by_cases hk : (x.f3[j].f0 == 1) = (x.f0 == 1)
      · refine ⟨false, (lf : Int), ?_, ⟨fun h => by simp at h, fun h => ?_⟩, fun h => by simp at h⟩
        · apply Ev.step
          · intro k; rw [node_check.l0, if_pos c1, if_pos c0, rd_at hlt, if_pos hk]
          exact Ev.now _
        · rw [hk] at h
          simp at h
      · have hk' : (!((x.f3[j].f0 == 1) == (x.f0 == 1))) = true := by simpa using hk
        rw [hk', Bool.true_and]
        obtain ⟨b1, L1, e1, p1, q1⟩ := ih _ hm (hwk _ hm) hcx lf (d - 1) hlf hd1
        cases hb1 : b1 with
        | false =>
          rw [hb1] at e1 p1
          refine ⟨false, L1, ?_, ⟨fun h => by simp at h, fun h => ?_⟩, fun h => by simp at h⟩
          · apply Ev.step
            · intro k; rw [node_check.l0, if_pos c1, if_pos c0, rd_at hlt, if_neg hk, wdA.out]
            refine Ev.bind e1 ?_
            exact Ev.now _
          · obtain ⟨h2, h3, h4⟩ := h
            rw [Bool.and_eq_true] at h2
            exact p1.2 ⟨h2.1, Nat.le_trans (Nat.le_add_right _ _) h3, (mx_split hd0).1 h4 |>.1⟩
        | true =>
          rw [hb1] at e1 p1 q1
          obtain ⟨f1, f2, f3⟩ := p1.1 rfl
          have hL := q1 rfl
          obtain ⟨b2, L2, e2, p2, q2⟩ := ihe (j + 1) (lf - cnt x.f3[j]) n1 hlt (Nat.le_trans (Nat.sub_le _ _) hlf)
          have hL' : L1 = ((lf - cnt x.f3[j] : Nat) : Int) := by rw [hL]; exact (Int.ofNat_sub f2).symm
          refine ⟨b2, L2, ?_, ?_, fun h => ?_⟩
          · apply Ev.step
            · intro k; rw [node_check.l0, if_pos c1, if_pos c0, rd_at hlt, if_neg hk, wdA.out, wj]
            refine Ev.bind e1 ?_
            rw [hL']
            refine Ev.congr (f := fun k => node_check.l0 k ((lf - cnt x.f3[j] : Nat) : Int) x.f0 x.f3 (d : Int) ((j + 1 : Nat) : Int)) (fun k => if_pos rfl) ?_
            exact e2
          · rw [p2, f1, Bool.true_and]
            constructor
            · rintro ⟨g1, g2, g3⟩; exact ⟨g1, le_join f2 g2, (mx_split hd0).2 ⟨f3, g3⟩⟩
            · rintro ⟨g1, g2, g3⟩; exact ⟨g1, le_part f2 g2, ((mx_split hd0).1 g3).2⟩
          · have h5 := q2 h
            rw [h5]
            exact sub_join f2
  cases hs : shT x.f0 x.f1 x.f2 x.f3.length with
  | false =>
    refine ⟨false, ((left - 1 : Nat) : Int), ?_, ⟨fun h => by simp at h, fun h => by rw [hfe, hs] at h; simp at h⟩, fun h => by simp at h⟩
    apply Ev.step
    · intro k; rw [node_check.f, wl, if_neg (by omega), if_neg (by omega)]
    refine Ev.bind (shape_ev x.f0 x.f1 x.f2 x.f3.length (wf_size hw)) ?_
    rw [hs]
    exact Ev.now _
  | true =>
    obtain ⟨b, L, e, p, q⟩ := loop _ 0 (left - 1) rfl (by omega) (by omega)
    rw [List.drop_zero] at p q
    rw [← hDl.out] at p
    refine ⟨b, L, ?_, ?_, fun h => ?_⟩
    · apply Ev.step
      · intro k; rw [node_check.f, wl, if_neg (by omega), if_neg (by omega)]
      refine Ev.bind (shape_ev x.f0 x.f1 x.f2 x.f3.length (wf_size hw)) ?_
      rw [hs]
      refine Ev.congr (f := fun k => node_check.l0 k ((left - 1 : Nat) : Int) x.f0 x.f3 (d : Int) 0) (fun k => if_pos rfl) ?_
      exact e
    · rw [p, hfe, hs, Bool.true_and]
      constructor
      · rintro ⟨g1, g2, g3⟩; exact ⟨g1, by omega, by omega⟩
      · rintro ⟨g1, g2, g3⟩; exact ⟨g1, by omega, by omega⟩
    · have := q h
      rw [this]
      omega
/-- The trees that are valid. -/
def validT (x : S24) : Bool := decide (x.f0 = 1) && formT x && decide (cnt x ≤ 1000) && decide (depT x ≤ 24)
theorem nValid_ev (x : S24) (hw : Wf24 x) (hb : cnt x ≤ 1000000) : Ev (fun k => node_Valid.f k x.f0 x.f1 x.f2 x.f3) (validT x) := by
  unfold node_Valid.f validT
  by_cases h1 : x.f0 = 1
  · rw [decide_eq_true h1, Bool.true_and]
    apply Ev.congr
    · intro k; rw [if_pos h1]
    obtain ⟨b, L, e, p, q⟩ := check_ev x hw hb 1000 24 (by omega) (by omega)
    refine Ev.bind e ?_
    have : b = (formT x && decide (cnt x ≤ 1000) && decide (depT x ≤ 24)) := by
      rw [Bool.eq_iff_iff, p]
      simp [and_assoc]
    rw [← this]
    exact Ev.now _
  · rw [decide_eq_false h1]
    exact Ev.congr (f := fun _ => some false) (fun k => if_neg h1) (Ev.now _)
theorem rForm_ev : ∀ x : S24, Wf24 x → cnt x ≤ 1000000 → Ev (fun k => vinculumref09_form.f k x.f0 x.f1 x.f2 x.f3) (formT x) := by
  refine tree_ind (fun x ih hw hb => ?_)
  have hce := cnt_eq x
  have hfe := formT_eq x
  have hlen := length_le_cntL x.f3
  obtain ⟨_, hwk⟩ := hw.w3
  have loop : ∀ (e j : Nat), x.f3.length - j = e → j ≤ x.f3.length → Ev (fun k => vinculumref09_form.l0 k (j : Int) x.f0 x.f1 x.f2 x.f3) (formL x.f0 (x.f3.drop j)) := by
    intro e
    induction e with
    | zero =>
      intro j he hj
      obtain rfl : j = x.f3.length := by omega
      rw [List.drop_length]
      apply Ev.step
      · intro k; rw [vinculumref09_form.l0, if_neg (by omega)]
      exact Ev.now _
    | succ e ihe =>
      intro j he hj
      have hlt : j < x.f3.length := by omega
      rw [drop_at hlt]
      simp only [formL]
      have wj : wrap64 ((j : Int) + 1) = ((j + 1 : Nat) : Int) := by rw [wrap64_id (by omega) (by omega)]; omega
      have hm := List.getElem_mem hlt
      have hcm := cnt_mem hm
      cases hk : ((x.f3[j].f0 == 1) == (x.f0 == 1)) with
      | true =>
        apply Ev.step
        · intro k; rw [vinculumref09_form.l0, if_pos (by omega), if_pos (by omega), rd_at hlt, if_pos hk]
        exact Ev.now _
      | false =>
        apply Ev.step
        · intro k; rw [vinculumref09_form.l0, if_pos (by omega), if_pos (by omega), rd_at hlt, if_neg (by rw [hk]; exact Bool.false_ne_true), wj]
        refine Ev.bind (ih _ hm (hwk _ hm) (by omega)) ?_
        rw [Bool.not_false, Bool.true_and]
        cases formT x.f3[j] with
        | true =>
          rw [Bool.true_and]
          exact Ev.congr (fun k => if_pos rfl) (ihe (j + 1) (by omega) (by omega))
        | false => exact Ev.now false
  have j0 : ∀ b : Bool, Ev (fun k => vinculumref09_form.j0 k b x.f0 x.f1 x.f2 x.f3) (!b && formL x.f0 x.f3) := by
    intro b
    cases b with
    | true =>
      apply Ev.step
      · intro k; rw [vinculumref09_form.j0, if_pos rfl]
      exact Ev.now _
    | false =>
      apply Ev.step
      · intro k; rw [vinculumref09_form.j0, if_neg Bool.false_ne_true]
      simpa using loop _ 0 rfl (by omega)
  apply Ev.step
  · intro k; rw [vinculumref09_form.f]
  refine Ev.bind (rTx_ev x.f0 x.f1 x.f2 x.f3 (wf_size hw)) ?_
  rw [hfe]
  unfold shT
  cases txT x.f0 x.f1 with
  | true =>
    rw [Bool.true_and]
    refine Ev.congr (fun k => if_pos rfl) (Ev.bind (rKd_ev x.f0 x.f1 x.f2 x.f3) ?_)
    simpa using j0 (!kdT x.f0 x.f2 x.f3.length)
  | false =>
    exact Ev.congr (fun k => if_neg Bool.false_ne_true) (j0 true)
theorem mx_nat (a b : Nat) : mx (a : Int) (b : Int) = ((max a b : Nat) : Int) := by
  unfold mx
  split <;> omega
theorem rDepth_ev : ∀ x : S24, cnt x ≤ 1000000 → Ev (fun k => vinculumref09_Depth.f k x.f0 x.f1 x.f2 x.f3) (depT x : Int) := by
  refine tree_ind (fun x ih hb => ?_)
  have hce := cnt_eq x
  have hdc := depT_le_cnt x
  obtain ⟨D, hDx, hDl⟩ : ∃ D, depT x = 1 + D ∧ Aside0 (D = depL x.f3) := ⟨_, depT_eq x, ⟨rfl⟩⟩
  rw [hDx] at hdc ⊢
  clear hDx
  have hlen := length_le_cntL x.f3
  have hcl : cntL x.f3 ≤ 1000000 := by omega
  have loop : ∀ (e j m : Nat), x.f3.length - j = e → j ≤ x.f3.length → m ≤ D → max m (depL (x.f3.drop j)) = D → Ev (fun k => vinculumref09_Depth.l0 k (m : Int) (j : Int) x.f0 x.f1 x.f2 x.f3) ((1 + D : Nat) : Int) := by
    intro e
    induction e with
    | zero =>
      intro j m he hj hm1
      obtain rfl : j = x.f3.length := by omega
      rw [List.drop_length]
      intro hm
      simp only [depL] at hm
      apply Ev.step
      · intro k; rw [vinculumref09_Depth.l0, if_neg (by omega), wrap64_id (by omega) (by omega)]
      rw [show ((1 + D : Nat) : Int) = (m : Int) + 1 by omega]
      exact Ev.now _
    | succ e ihe =>
      intro j m he hj hm1
      have hlt : j < x.f3.length := by omega
      have c1 : (j : Int) < (x.f3.length : Int) := by omega
      have c0 : (0 : Int) ≤ (j : Int) := by omega
      have wj : wrap64 ((j : Int) + 1) = ((j + 1 : Nat) : Int) := by rw [wrap64_id (by omega) (by omega)]; omega
      have n1 : x.f3.length - (j + 1) = e := by omega
      intro hm
      have hmem := List.getElem_mem hlt
      have hcm := cnt_mem hmem
      have hcx : cnt x.f3[j] ≤ 1000000 := Nat.le_trans hcm hcl
      rw [drop_at hlt, depL, ← Nat.max_assoc] at hm
      have n2 : max m (depT x.f3[j]) ≤ D := by rw [← hm]; exact Nat.le_max_left _ _
      apply Ev.step
      · intro k; rw [vinculumref09_Depth.l0, if_pos c1, if_pos c0, rd_at hlt, wj]
      refine Ev.bind (ih _ hmem hcx) ?_
      rw [mx_nat]
      exact ihe (j + 1) _ n1 hlt n2 hm
  apply Ev.step
  · intro k; rw [vinculumref09_Depth.f]
  exact loop _ 0 0 rfl (Nat.zero_le _) (Nat.zero_le _) (by rw [List.drop_zero, ← hDl.out]; exact Nat.max_eq_right (Nat.zero_le _))
theorem rValid_ev (x : S24) (hw : Wf24 x) (hb : cnt x ≤ 1000000) : Ev (fun k => vinculumref09_Valid.f k x.f0 x.f1 x.f2 x.f3) (validT x) := by
  unfold vinculumref09_Valid.f validT
  by_cases h1 : x.f0 = 1
  · rw [decide_eq_true h1, Bool.true_and]
    refine Ev.congr (fun k => if_pos h1) (Ev.bind (rForm_ev x hw hb) ?_)
    cases formT x with
    | false => exact Ev.now false
    | true =>
      rw [Bool.true_and]
      refine Ev.congr (fun k => if_pos rfl) (Ev.bind (vinculumref09_Count_ev x (by omega)) ?_)
      by_cases h2 : cnt x ≤ 1000
      · rw [decide_eq_true h2, Bool.true_and]
        refine Ev.congr (fun k => if_pos (by omega)) (Ev.bind (rDepth_ev x hb) ?_)
        rw [show decide (depT x ≤ 24) = decide ((depT x : Int) ≤ 24) by congr 1; rw [eq_iff_iff]; omega]
        exact Ev.now _
      · rw [decide_eq_false h2, Bool.false_and]
        exact Ev.congr (f := fun _ => some false) (fun k => if_neg (by omega)) (Ev.now _)
  · rw [decide_eq_false h1]
    exact Ev.congr (f := fun _ => some false) (fun k => if_neg h1) (Ev.now _)
end Go.Proofs.YtihchehmkhnhaaaDoor.A
/- Plain laws: the distance of two rows of trees, and the program's table of it. -/
namespace Go.Proofs.YtihchehmkhnhaaaDoor.A
open Go.RowKit Go.Proofs.YtihchehmkhnhaaaDoorW.PrintWords Go.Proofs.YtihchehmkhnhaaaDoorW.PrintLast Go.Proofs.YtihchehmkhnhaaaDoorW.PrintMore
set_option linter.unusedVariables false

/-- Two items are alike. -/
def alk (x y : S24) : Bool := decide (x.f0 = y.f0) && decide (x.f3.length = y.f3.length) && decide (x.f2 = y.f2)
def chg (x y : S24) : Nat := if x.f1.toList = y.f1.toList then 0 else 1
mutual
/-- The distance of two rows. -/
def dist : List S24 → List S24 → Nat
  | [], [] => 0
  | [], y :: b => cnt y + dist [] b
  | x :: a, [] => cnt x + dist a []
  | x :: a, y :: b =>
    if alk x y = true then min (min (cnt x + dist a (y :: b)) (cnt y + dist (x :: a) b)) (chg x y + kdist x.f3 y.f3 + dist a b)
    else min (cnt x + dist a (y :: b)) (cnt y + dist (x :: a) b)
termination_by a b => cntL a + cntL b
decreasing_by all_goals (simp only [cntL]; first | (have := cnt_eq x; have := cnt_eq y; omega) | (have := cnt_eq x; omega) | (have := cnt_eq y; omega))
def kdist : List S24 → List S24 → Nat
  | x :: a, y :: b => dist x.f3 y.f3 + kdist a b
  | [], _ => 0
  | _ :: _, [] => 0
termination_by a b => cntL a + cntL b
decreasing_by all_goals (simp only [cntL]; have := cnt_eq x; have := cnt_eq y; omega)
end
def pr (x y : S24) : Nat := chg x y + kdist x.f3 y.f3
def pb : List S24 → List S24 → Bool
  | x :: a, y :: b => alk x y && decide (pr x y + dist a b ≤ min (cnt x + dist a (y :: b)) (cnt y + dist (x :: a) b))
  | [], _ => false
  | _ :: _, [] => false
def cellT (a b : List S24) : S47 := ⟨(dist a b : Int), pb a b⟩
def rowT (a b : List S24) (i : Nat) : List S47 := (List.range (b.length + 1)).map fun j => cellT (a.drop i) (b.drop j)
def tabT (a b : List S24) : List (List S47) := (List.range (a.length + 1)).map fun i => rowT a b i

theorem dist_nn : dist [] [] = 0 := by rw [dist]
theorem dist_nc (y : S24) (b : List S24) : dist [] (y :: b) = cnt y + dist [] b := by rw [dist]
theorem dist_cn (x : S24) (a : List S24) : dist (x :: a) [] = cnt x + dist a [] := by rw [dist]
theorem dist_cc (x : S24) (a : List S24) (y : S24) (b : List S24) : dist (x :: a) (y :: b) = if alk x y = true then min (min (cnt x + dist a (y :: b)) (cnt y + dist (x :: a) b)) (pr x y + dist a b) else min (cnt x + dist a (y :: b)) (cnt y + dist (x :: a) b) := by rw [dist, pr]
theorem kdist_cc (x : S24) (a : List S24) (y : S24) (b : List S24) : kdist (x :: a) (y :: b) = dist x.f3 y.f3 + kdist a b := by rw [kdist]
theorem kdist_nil (b : List S24) : kdist [] b = 0 := by rw [kdist]
theorem dist_le : ∀ (n : Nat) (a b : List S24), a.length + b.length ≤ n → dist a b ≤ cntL a + cntL b
  | n, [], [], _ => by rw [dist_nn]; simp [cntL]
  | 0, [], _ :: _, h => by simp at h
  | 0, _ :: _, _, h => by simp at h
  | n + 1, [], y :: b, h => by
    have := dist_le n [] b (by simp at h ⊢; omega)
    rw [dist_nc]; simp only [cntL] at this ⊢; omega
  | n + 1, x :: a, [], h => by
    have := dist_le n a [] (by simp at h ⊢; omega)
    rw [dist_cn]; simp only [cntL] at this ⊢; omega
  | n + 1, x :: a, y :: b, h => by
    have h1 := dist_le n a (y :: b) (by simp at h ⊢; omega)
    rw [dist_cc]; simp only [cntL] at h1 ⊢
    split <;> omega
theorem dist_bound (a b : List S24) : dist a b ≤ cntL a + cntL b := dist_le _ a b (Nat.le_refl _)
theorem kdist_bound : ∀ a b : List S24, kdist a b ≤ cntL a + cntL b
  | [], b => by rw [kdist_nil]; omega
  | x :: a, [] => by rw [kdist]; omega
  | x :: a, y :: b => by
    have h1 := kdist_bound a b
    have h2 := dist_bound x.f3 y.f3
    have := cnt_eq x; have := cnt_eq y
    rw [kdist_cc]; simp only [cntL]; omega
theorem cntL_drop (l : List S24) (j : Nat) : cntL (l.drop j) ≤ cntL l := by
  have := cntL_append (l.take j) (l.drop j)
  rw [List.take_append_drop] at this
  omega
theorem pr_bound (x y : S24) : pr x y ≤ cnt x + cnt y := by
  have := kdist_bound x.f3 y.f3
  have := cnt_eq x; have := cnt_eq y
  unfold pr chg; split <;> omega
theorem rowT_len (a b : List S24) (i : Nat) : (rowT a b i).length = b.length + 1 := by simp [rowT]
theorem tabT_len (a b : List S24) : (tabT a b).length = a.length + 1 := by simp [tabT]
theorem rowT_at {a b : List S24} {i j : Nat} (h : j ≤ b.length) : (rowT a b i)[j]? = some (cellT (a.drop i) (b.drop j)) := by
  unfold rowT
  rw [List.getElem?_map, List.getElem?_range (by omega)]
  rfl
theorem tabT_at {a b : List S24} {i : Nat} (h : i ≤ a.length) : (tabT a b)[i]? = some (rowT a b i) := by
  unfold tabT
  rw [List.getElem?_map, List.getElem?_range (by omega)]
  rfl
theorem rd47_of {l : List S47} {j : Nat} {c : S47} (h : l[j]? = some c) : rd_T47 l (j : Int) = c := by
  unfold rd_T47
  rw [List.getD_eq_getElem?_getD, Int.toNat_natCast, h]
  rfl
theorem rd5_of {l : List (List S47)} {j : Nat} {c : List S47} (h : l[j]? = some c) : rd_L5 l (j : Int) = c := by
  unfold rd_L5
  rw [List.getD_eq_getElem?_getD, Int.toNat_natCast, h]
  rfl
theorem alike_ev (x y : S24) : diff_alike.f x.f0 x.f1 x.f2 x.f3 y.f0 y.f1 y.f2 y.f3 = some (alk x y) := by
  unfold diff_alike.f alk
  by_cases h1 : x.f0 = y.f0
  · rw [if_pos h1, decide_eq_true h1]
    by_cases h2 : x.f3.length = y.f3.length
    · rw [if_pos (by omega), decide_eq_true h2]
      by_cases h3 : x.f2 = y.f2
      · simp [h3]
      · simp [h3]
    · rw [if_neg (by omega), decide_eq_false h2]; simp
  · rw [if_neg h1, decide_eq_false h1]; simp

/-- pair, where the tables of the kids are right. -/
theorem pair_ev (x y : S24) (hb : cnt x + cnt y ≤ 1000000) (hl : x.f3.length = y.f3.length)
    (ih : ∀ u, u ∈ x.f3 → ∀ v, v ∈ y.f3 → Ev (fun k => diff_table.f k u.f3 v.f3) (tabT u.f3 v.f3)) :
    Ev (fun k => diff_pair.f k x.f0 x.f1 x.f2 x.f3 y.f0 y.f1 y.f2 y.f3) (pr x y : Int) := by
  have hx := cnt_eq x
  have hy := cnt_eq y
  have hlx := length_le_cntL x.f3
  have loop : ∀ (d j : Nat) (acc : Nat), x.f3.length - j = d → j ≤ x.f3.length → acc + kdist (x.f3.drop j) (y.f3.drop j) ≤ 4000000 →
      Ev (fun k => diff_pair.l0 k (acc : Int) (x.f3.length : Int) (j : Int) x.f0 x.f1 x.f2 x.f3 y.f0 y.f1 y.f2 y.f3) ((acc + kdist (x.f3.drop j) (y.f3.drop j) : Nat) : Int) := by
    intro d
    induction d with
    | zero =>
      intro j acc hd hj hacc
      obtain rfl : j = x.f3.length := by omega
      refine Ev.step (f := fun _ => some (acc : Int)) (fun k => by simp only [diff_pair.l0]; rw [if_neg (by omega)]) ?_
      rw [List.drop_length, kdist_nil]
      exact Ev.now _
    | succ d ihd =>
      intro j acc hd hj hacc
      have hlt : j < x.f3.length := by omega
      have hlt' : j < y.f3.length := by omega
      rw [drop_at hlt, drop_at hlt', kdist_cc] at hacc ⊢
      refine Ev.step (f := fun k => (diff_table.f k (rd_T24 x.f3 j).f3 (rd_T24 y.f3 j).f3).bind fun t => if 0 < (t.length : Int) then (if 0 < ((rd_L5 t 0).length : Int) then (diff_pair.l0 k (wrap64 ((acc : Int) + (rd_T47 (rd_L5 t 0) 0).f0)) (x.f3.length : Int) (wrap64 ((j : Int) + 1)) x.f0 x.f1 x.f2 x.f3 y.f0 y.f1 y.f2 y.f3) else none) else none) (fun k => by simp only [diff_pair.l0]; rw [if_pos (by omega), if_pos (by omega), if_pos (by omega), if_pos (by omega)]) ?_
      rw [rd_at hlt, rd_at hlt']
      refine Ev.bind (ih _ (List.getElem_mem hlt) _ (List.getElem_mem hlt')) ?_
      have e1 : rd_L5 (tabT x.f3[j].f3 y.f3[j].f3) 0 = rowT x.f3[j].f3 y.f3[j].f3 0 := rd5_of (j := 0) (tabT_at (by omega))
      have e2 : rd_T47 (rowT x.f3[j].f3 y.f3[j].f3 0) 0 = cellT x.f3[j].f3 y.f3[j].f3 := rd47_of (j := 0) (rowT_at (by omega))
      rw [e1, e2, tabT_len, rowT_len]
      refine Ev.congr (f := fun k => diff_pair.l0 k (((acc + dist x.f3[j].f3 y.f3[j].f3 : Nat)) : Int) (x.f3.length : Int) ((j + 1 : Nat) : Int) x.f0 x.f1 x.f2 x.f3 y.f0 y.f1 y.f2 y.f3) (fun k => ?_) ?_
      · rw [if_pos (by omega), if_pos (by omega), wrap64_id (by simp only [cellT]; omega) (by simp only [cellT]; omega), wrap64_id (by omega) (by omega)]
        simp only [cellT]
        norm_cast
      · have := ihd (j + 1) (acc + dist x.f3[j].f3 y.f3[j].f3) (by omega) (by omega) (by omega)
        rw [Nat.add_assoc] at this
        exact this
  have hk := kdist_bound x.f3 y.f3
  have j0 : ∀ s : Nat, s ≤ 1 → Ev (fun k => diff_pair.j0 k (s : Int) x.f0 x.f1 x.f2 x.f3 y.f0 y.f1 y.f2 y.f3) ((s + kdist x.f3 y.f3 : Nat) : Int) := by
    intro s hs
    refine Ev.step (f := fun k => diff_pair.l0 k (s : Int) (x.f3.length : Int) 0 x.f0 x.f1 x.f2 x.f3 y.f0 y.f1 y.f2 y.f3) (fun k => by simp only [diff_pair.j0]) ?_
    have := loop _ 0 s rfl (by omega) (by simp only [List.drop_zero]; omega)
    simpa using this
  by_cases ht : x.f1.toList = y.f1.toList
  · refine Ev.step (f := fun k => diff_pair.j0 k 0 x.f0 x.f1 x.f2 x.f3 y.f0 y.f1 y.f2 y.f3) (fun k => by simp only [diff_pair.f]; rw [if_pos ht]) ?_
    have := j0 0 (by omega)
    simpa [pr, chg, ht] using this
  · refine Ev.step (f := fun k => diff_pair.j0 k 1 x.f0 x.f1 x.f2 x.f3 y.f0 y.f1 y.f2 y.f3) (fun k => by simp only [diff_pair.f]; rw [if_neg ht]) ?_
    have := j0 1 (by omega)
    simpa [pr, chg, ht] using this
end Go.Proofs.YtihchehmkhnhaaaDoor.A
/- Plain laws: the distance of two rows is the same in both directions, and not greater over a third one. -/
namespace Go.Proofs.YtihchehmkhnhaaaDoor.A
open Go.RowKit Go.Proofs.YtihchehmkhnhaaaDoorW.PrintWords Go.Proofs.YtihchehmkhnhaaaDoorW.PrintLast Go.Proofs.YtihchehmkhnhaaaDoorW.PrintMore
set_option linter.unusedVariables false

theorem alk_symm (x y : S24) : alk x y = alk y x := by
  unfold alk
  rw [Bool.eq_iff_iff]
  simp only [Bool.and_eq_true, decide_eq_true_eq]
  constructor
  · rintro ⟨⟨a, b⟩, c⟩; exact ⟨⟨a.symm, b.symm⟩, c.symm⟩
  · rintro ⟨⟨a, b⟩, c⟩; exact ⟨⟨a.symm, b.symm⟩, c.symm⟩
theorem alk_iff {x y : S24} : alk x y = true ↔ x.f0 = y.f0 ∧ x.f3.length = y.f3.length ∧ x.f2 = y.f2 := by
  unfold alk
  simp only [Bool.and_eq_true, decide_eq_true_eq, and_assoc]
theorem alk_refl (x : S24) : alk x x = true := alk_iff.2 ⟨rfl, rfl, rfl⟩
theorem alk_trans {x y z : S24} (h : alk x y = true) (g : alk y z = true) : alk x z = true := by
  obtain ⟨a, b, c⟩ := alk_iff.1 h
  obtain ⟨d, e, f⟩ := alk_iff.1 g
  exact alk_iff.2 ⟨a.trans d, b.trans e, c.trans f⟩
theorem chg_symm (x y : S24) : chg x y = chg y x := by
  unfold chg
  by_cases h : x.f1.toList = y.f1.toList
  · rw [if_pos h, if_pos h.symm]
  · rw [if_neg h, if_neg (fun e => h e.symm)]
theorem chg_tri (x y z : S24) : chg x z ≤ chg x y + chg y z := by
  unfold chg
  by_cases h : x.f1.toList = y.f1.toList
  · by_cases g : y.f1.toList = z.f1.toList
    · rw [if_pos h, if_pos g, if_pos (h.trans g)]; omega
    · rw [if_neg g]; split <;> omega
  · rw [if_neg h]; split <;> omega
theorem kdist_ln (x : S24) (a : List S24) : kdist (x :: a) [] = 0 := by rw [kdist]
theorem dist_del (x : S24) (a c : List S24) : dist (x :: a) c ≤ cnt x + dist a c := by
  cases c with
  | nil => rw [dist_cn]; omega
  | cons z c => rw [dist_cc]; split <;> omega
theorem dist_ins (a : List S24) (y : S24) (b : List S24) : dist a (y :: b) ≤ cnt y + dist a b := by
  cases a with
  | nil => rw [dist_nc]; omega
  | cons x a => rw [dist_cc]; split <;> omega
theorem dist_pair {x y : S24} (a b : List S24) (h : alk x y = true) : dist (x :: a) (y :: b) ≤ pr x y + dist a b := by
  rw [dist_cc, if_pos h]; omega
/-- How a distance comes about. -/
inductive Way : List S24 → List S24 → Prop
  | nil : Way [] []
  | del (x a b) : dist (x :: a) b = cnt x + dist a b → Way (x :: a) b
  | ins (a y b) : dist a (y :: b) = cnt y + dist a b → Way a (y :: b)
  | pair (x a y b) : alk x y = true → dist (x :: a) (y :: b) = pr x y + dist a b → Way (x :: a) (y :: b)
theorem way : ∀ a b, Way a b
  | [], [] => .nil
  | [], y :: b => .ins [] y b (dist_nc y b)
  | x :: a, [] => .del x a [] (dist_cn x a)
  | x :: a, y :: b => by
    have h := dist_cc x a y b
    by_cases k : alk x y = true
    · rw [if_pos k] at h
      by_cases h1 : pr x y + dist a b ≤ min (cnt x + dist a (y :: b)) (cnt y + dist (x :: a) b)
      · exact .pair x a y b k (by omega)
      · by_cases h2 : cnt x + dist a (y :: b) ≤ cnt y + dist (x :: a) b
        · exact .del x a _ (by omega)
        · exact .ins _ y b (by omega)
    · rw [if_neg k] at h
      by_cases h2 : cnt x + dist a (y :: b) ≤ cnt y + dist (x :: a) b
      · exact .del x a _ (by omega)
      · exact .ins _ y b (by omega)
/-- Both directions. -/
theorem dist_symm_le : ∀ (n : Nat) (a b : List S24), cntL a + cntL b ≤ n → dist b a ≤ dist a b ∧ kdist b a ≤ kdist a b := by
  intro n
  induction n using Nat.strongRecOn with
  | _ n ih =>
    intro a b hn
    have one : ∀ x : S24, 1 ≤ cnt x := fun x => by have := cnt_eq x; omega
    constructor
    · cases way a b with
      | nil => exact Nat.le_refl _
      | del x a _ h =>
        have := one x
        simp only [cntL] at hn
        have i := (ih (cntL a + cntL b) (by omega) a b (Nat.le_refl _)).1
        have := dist_ins b x a
        omega
      | ins _ y b h =>
        have := one y
        simp only [cntL] at hn
        have i := (ih (cntL a + cntL b) (by omega) a b (Nat.le_refl _)).1
        have := dist_del y b a
        omega
      | pair x a y b k h =>
        have hx := cnt_eq x
        have hy := cnt_eq y
        simp only [cntL] at hn
        have i := (ih (cntL a + cntL b) (by omega) a b (Nat.le_refl _)).1
        have j := (ih (cntL x.f3 + cntL y.f3) (by omega) x.f3 y.f3 (Nat.le_refl _)).2
        have := dist_pair b a (x := y) (y := x) (by rw [alk_symm]; exact k)
        have := chg_symm x y
        unfold pr at *
        omega
    · match a, b, hn with
      | [], [], _ => exact Nat.le_refl _
      | [], y :: b, _ => rw [kdist_ln]; omega
      | x :: a, [], _ => rw [kdist_nil]; omega
      | x :: a, y :: b, hn =>
        have hx := cnt_eq x
        have hy := cnt_eq y
        simp only [cntL] at hn
        rw [kdist_cc, kdist_cc]
        have i := (ih (cntL a + cntL b) (by omega) a b (Nat.le_refl _)).2
        have j := (ih (cntL x.f3 + cntL y.f3) (by omega) x.f3 y.f3 (Nat.le_refl _)).1
        omega
theorem dist_symm (a b : List S24) : dist a b = dist b a :=
  Nat.le_antisymm (dist_symm_le _ b a (Nat.le_refl _)).1 (dist_symm_le _ a b (Nat.le_refl _)).1
theorem pr_symm (x y : S24) : pr x y = pr y x := by
  unfold pr
  rw [chg_symm x y, Nat.le_antisymm (dist_symm_le _ x.f3 y.f3 (Nat.le_refl _)).2 (dist_symm_le _ y.f3 x.f3 (Nat.le_refl _)).2]
/-- The sizes of two rows differ by at most their distance. -/
theorem dist_size : ∀ (n : Nat) (a b : List S24), cntL a + cntL b ≤ n → cntL a ≤ dist a b + cntL b ∧ (a.length = b.length → cntL a ≤ kdist a b + cntL b) := by
  intro n
  induction n using Nat.strongRecOn with
  | _ n ih =>
    intro a b hn
    have one : ∀ x : S24, 1 ≤ cnt x := fun x => by have := cnt_eq x; omega
    constructor
    · cases way a b with
      | nil => simp [cntL]
      | del x a _ h =>
        have := one x
        simp only [cntL] at hn ⊢
        have i := (ih (cntL a + cntL b) (by omega) a b (Nat.le_refl _)).1
        omega
      | ins _ y b h =>
        have := one y
        simp only [cntL] at hn ⊢
        have i := (ih (cntL a + cntL b) (by omega) a b (Nat.le_refl _)).1
        omega
      | pair x a y b k h =>
        have hx := cnt_eq x
        have hy := cnt_eq y
        simp only [cntL] at hn ⊢
        have i := (ih (cntL a + cntL b) (by omega) a b (Nat.le_refl _)).1
        have j := (ih (cntL x.f3 + cntL y.f3) (by omega) x.f3 y.f3 (Nat.le_refl _)).2 (alk_iff.1 k).2.1
        unfold pr at h
        omega
    · match a, b, hn with
      | [], [], _ => intro _; simp [cntL]
      | [], y :: b, _ => intro h; simp at h
      | x :: a, [], _ => intro h; simp at h
      | x :: a, y :: b, hn =>
        intro hl
        have hx := cnt_eq x
        have hy := cnt_eq y
        simp only [cntL] at hn ⊢
        rw [kdist_cc]
        have i := (ih (cntL a + cntL b) (by omega) a b (Nat.le_refl _)).2 (by simpa using hl)
        have j := (ih (cntL x.f3 + cntL y.f3) (by omega) x.f3 y.f3 (Nat.le_refl _)).1
        omega
theorem pr_size {x y : S24} (h : alk x y = true) : cnt x ≤ pr x y + cnt y := by
  have := (dist_size _ x.f3 y.f3 (Nat.le_refl _)).2 (alk_iff.1 h).2.1
  have hx := cnt_eq x
  have hy := cnt_eq y
  unfold pr
  omega
theorem dist_tri_n : ∀ (n : Nat) (a b c : List S24), cntL a + cntL b + cntL c ≤ n → dist a c ≤ dist a b + dist b c ∧ (a.length = b.length → b.length = c.length → kdist a c ≤ kdist a b + kdist b c) := by
  intro n
  induction n using Nat.strongRecOn with
  | _ n ih =>
    intro a b c hn
    have one : ∀ x : S24, 1 ≤ cnt x := fun x => by have := cnt_eq x; omega
    have I : ∀ a' b' c' : List S24, cntL a' + cntL b' + cntL c' < n → dist a' c' ≤ dist a' b' + dist b' c' := fun a' b' c' h => (ih _ h a' b' c' (Nat.le_refl _)).1
    constructor
    · cases way a b with
      | nil => omega
      | del x a _ h =>
        have := one x
        simp only [cntL] at hn
        have := I a b c (by omega)
        have := dist_del x a c
        omega
      | ins _ y b h =>
        have := one y
        generalize hB : y :: b = B at *
        cases way B c with
        | nil => cases hB
        | del y' b' _ g =>
          obtain ⟨rfl, rfl⟩ := List.cons.inj hB
          simp only [cntL] at hn
          have := I a b c (by omega)
          omega
        | ins _ z c g =>
          have := one z
          have e : cntL (z :: c) = cnt z + cntL c := rfl
          have := I a B c (by omega)
          have := dist_ins a z c
          omega
        | pair y' b' z c k g =>
          obtain ⟨rfl, rfl⟩ := List.cons.inj hB
          simp only [cntL] at hn
          have := one z
          have := I a b c (by omega)
          have := dist_ins a z c
          have := pr_size (x := z) (y := y) (by rw [alk_symm]; exact k)
          have := pr_symm y z
          omega
      | pair x a y b k h =>
        have := one x
        have := one y
        generalize hB : y :: b = B at *
        cases way B c with
        | nil => cases hB
        | del y' b' _ g =>
          obtain ⟨rfl, rfl⟩ := List.cons.inj hB
          simp only [cntL] at hn
          have := I a b c (by omega)
          have := dist_del x a c
          have := pr_size k
          omega
        | ins _ z c g =>
          have := one z
          have e : cntL (z :: c) = cnt z + cntL c := rfl
          have := I (x :: a) B c (by omega)
          have := dist_ins (x :: a) z c
          omega
        | pair y' b' z c k' g =>
          obtain ⟨rfl, rfl⟩ := List.cons.inj hB
          simp only [cntL] at hn
          have hx := cnt_eq x
          have hy := cnt_eq y
          have hz := cnt_eq z
          have := I a b c (by omega)
          have := dist_pair a c (alk_trans k k')
          have j := (ih (cntL x.f3 + cntL y.f3 + cntL z.f3) (by omega) x.f3 y.f3 z.f3 (Nat.le_refl _)).2 (alk_iff.1 k).2.1 (alk_iff.1 k').2.1
          have := chg_tri x y z
          unfold pr at *
          omega
    · match a, b, c, hn with
      | [], _, c, _ => intro _ _; rw [kdist_nil]; omega
      | x :: a, [], _, _ => intro h; simp at h
      | x :: a, y :: b, [], _ => intro _ h; simp at h
      | x :: a, y :: b, z :: c, hn =>
        intro h g
        have hx := cnt_eq x
        have hy := cnt_eq y
        have hz := cnt_eq z
        simp only [cntL] at hn
        rw [kdist_cc, kdist_cc, kdist_cc]
        have i := (ih (cntL a + cntL b + cntL c) (by omega) a b c (Nat.le_refl _)).2 (by simpa using h) (by simpa using g)
        have j := I x.f3 y.f3 z.f3 (by omega)
        omega
theorem dist_tri (a b c : List S24) : dist a c ≤ dist a b + dist b c := (dist_tri_n _ a b c (Nat.le_refl _)).1
/-- A row is at the distance 0 from itself. -/
theorem dist_self_n : ∀ (n : Nat) (a : List S24), cntL a ≤ n → dist a a = 0 ∧ kdist a a = 0 := by
  intro n
  induction n using Nat.strongRecOn with
  | _ n ih =>
    intro a hn
    cases a with
    | nil => exact ⟨dist_nn, kdist_nil _⟩
    | cons x a =>
      have hx := cnt_eq x
      simp only [cntL] at hn
      have i := ih (cntL a) (by omega) a (Nat.le_refl _)
      have j := ih (cntL x.f3) (by omega) x.f3 (Nat.le_refl _)
      constructor
      · have h := dist_pair a a (alk_refl x)
        have : pr x x = 0 := by unfold pr chg; rw [if_pos rfl, j.2]
        omega
      · rw [kdist_cc]; omega
theorem dist_self (a : List S24) : dist a a = 0 := (dist_self_n _ a (Nat.le_refl _)).1
end Go.Proofs.YtihchehmkhnhaaaDoor.A
/- Plain laws: valid rows at the distance 0 are equal. -/
namespace Go.Proofs.YtihchehmkhnhaaaDoor.A
open Go.RowKit Go.Proofs.YtihchehmkhnhaaaDoorW.PrintWords Go.Proofs.YtihchehmkhnhaaaDoorW.PrintLast Go.Proofs.YtihchehmkhnhaaaDoorW.PrintMore
set_option linter.unusedVariables false

theorem bytes_ext {s t : ByteArray} (h : s.toList = t.toList) : s = t := by
  rw [toList_bs, toList_bs] at h
  obtain ⟨⟨l⟩⟩ := s
  obtain ⟨⟨m⟩⟩ := t
  have : l = m := h
  rw [this]
theorem s24_ext {x y : S24} (e0 : x.f0 = y.f0) (e1 : x.f1 = y.f1) (e2 : x.f2 = y.f2) (e3 : x.f3 = y.f3) : x = y := by
  obtain ⟨a0, a1, a2, a3⟩ := x
  obtain ⟨b0, b1, b2, b3⟩ := y
  simp only at e0 e1 e2 e3
  subst e0 e1 e2 e3
  rfl
theorem formL_cons {k : Int} {x : S24} {r : List S24} : formL k (x :: r) = true ↔ (x.f0 = 1 ↔ k ≠ 1) ∧ formT x = true ∧ formL k r = true := by
  rw [formL]
  simp only [Bool.and_eq_true, and_assoc]
  refine and_congr_left fun _ => ?_
  by_cases h1 : x.f0 = 1
  · by_cases h2 : k = 1
    · simp [h1, h2]
    · simp [h1, h2]
  · by_cases h2 : k = 1
    · simp [h1, h2]
    · rw [beq_eq_false_iff_ne.2 h1, beq_eq_false_iff_ne.2 h2]; simp [h1, h2]
theorem slot_form {u : S24} (h1 : u.f0 = 1) (h : formT u = true) : u.f1.toList = [] ∧ u.f2 = 0 ∧ formL 1 u.f3 = true := by
  rw [formT_eq, h1] at h
  simp only [Bool.and_eq_true, shT] at h
  obtain ⟨⟨h2, h3⟩, h4⟩ := h
  refine ⟨?_, ?_, h4⟩
  · unfold txT at h2
    rw [if_neg (by omega), if_neg (by omega), if_neg (by omega), if_neg (by omega), if_neg (by omega)] at h2
    exact eq_of_beq h2
  · unfold kdT at h3
    rw [if_neg (by omega)] at h3
    simp only [Bool.and_eq_true] at h3
    exact eq_of_beq h3.1
theorem dist_zero_n : ∀ (n : Nat) (a b : List S24), cntL a + cntL b ≤ n →
    (formL 1 a = true → formL 1 b = true → dist a b = 0 → a = b) ∧ (∀ k : Int, k ≠ 1 → formL k a = true → formL k b = true → a.length = b.length → kdist a b = 0 → a = b) := by
  intro n
  induction n using Nat.strongRecOn with
  | _ n ih =>
    intro a b hn
    have one : ∀ x : S24, 1 ≤ cnt x := fun x => by have := cnt_eq x; omega
    constructor
    · intro fa fb hz
      cases way a b with
      | nil => rfl
      | del x a _ h => have := one x; omega
      | ins _ y b h => have := one y; omega
      | pair x a y b k h =>
        have hx := cnt_eq x
        have hy := cnt_eq y
        simp only [cntL] at hn
        obtain ⟨x1, x2, x3⟩ := formL_cons.1 fa
        obtain ⟨y1, y2, y3⟩ := formL_cons.1 fb
        obtain rfl := (ih (cntL a + cntL b) (by omega) a b (Nat.le_refl _)).1 x3 y3 (by omega)
        obtain ⟨e0, el, e2⟩ := alk_iff.1 k
        have hp : pr x y = 0 := by omega
        unfold pr at hp
        have e1 : x.f1 = y.f1 := by
          refine bytes_ext ?_
          by_cases h : x.f1.toList = y.f1.toList
          · exact h
          · unfold chg at hp; rw [if_neg h] at hp; omega
        rw [formT_eq, Bool.and_eq_true] at x2 y2
        have e3 := (ih (cntL x.f3 + cntL y.f3) (by omega) x.f3 y.f3 (Nat.le_refl _)).2 x.f0 (fun h => absurd h (fun h => (x1.1 h) rfl)) x2.2 (by rw [e0]; exact y2.2) el (by omega)
        rw [s24_ext e0 e1 e2 e3]
    · intro k hk fa fb hl hz
      match a, b, hn, fa, fb, hl, hz with
      | [], [], _, _, _, _, _ => rfl
      | [], y :: b, _, _, _, h, _ => simp at h
      | x :: a, [], _, _, _, h, _ => simp at h
      | x :: a, y :: b, hn, fa, fb, hl, hz =>
        have hx := cnt_eq x
        have hy := cnt_eq y
        simp only [cntL] at hn
        rw [kdist_cc] at hz
        obtain ⟨x1, x2, x3⟩ := formL_cons.1 fa
        obtain ⟨y1, y2, y3⟩ := formL_cons.1 fb
        obtain rfl := (ih (cntL a + cntL b) (by omega) a b (Nat.le_refl _)).2 k hk x3 y3 (by simpa using hl) (by omega)
        have x1 := x1.2 hk
        have y1 := y1.2 hk
        obtain ⟨p1, p2, p3⟩ := slot_form x1 x2
        obtain ⟨q1, q2, q3⟩ := slot_form y1 y2
        have e3 := (ih (cntL x.f3 + cntL y.f3) (by omega) x.f3 y.f3 (Nat.le_refl _)).1 p3 q3 (by omega)
        have e1 : x.f1 = y.f1 := bytes_ext (p1.trans q1.symm)
        have e0 : x.f0 = y.f0 := x1.trans y1.symm
        have e2 : x.f2 = y.f2 := p2.trans q2.symm
        rw [s24_ext e0 e1 e2 e3]
theorem dist_zero {a b : List S24} (fa : formL 1 a = true) (fb : formL 1 b = true) : dist a b = 0 ↔ a = b :=
  ⟨(dist_zero_n _ a b (Nat.le_refl _)).1 fa fb, fun h => by subst h; exact dist_self a⟩
theorem validT_iff {x : S24} : validT x = true ↔ x.f0 = 1 ∧ formT x = true ∧ cnt x ≤ 1000 ∧ depT x ≤ 24 := by
  unfold validT
  simp only [Bool.and_eq_true, decide_eq_true_eq, and_assoc]
theorem valid_zero {x y : S24} (hx : validT x = true) (hy : validT y = true) : dist x.f3 y.f3 = 0 ↔ x = y := by
  obtain ⟨a1, a2, _⟩ := validT_iff.1 hx
  obtain ⟨b1, b2, _⟩ := validT_iff.1 hy
  obtain ⟨p1, p2, p3⟩ := slot_form a1 a2
  obtain ⟨q1, q2, q3⟩ := slot_form b1 b2
  rw [dist_zero p3 q3]
  constructor
  · intro h
    have e1 : x.f1 = y.f1 := bytes_ext (p1.trans q1.symm)
    have e0 : x.f0 = y.f0 := a1.trans b1.symm
    have e2 : x.f2 = y.f2 := p2.trans q2.symm
    exact s24_ext e0 e1 e2 h
  · intro h; rw [h]
end Go.Proofs.YtihchehmkhnhaaaDoor.A
/- Plain laws: the reference's Equal tells whether two trees are equal. -/
namespace Go.Proofs.YtihchehmkhnhaaaDoor.A
open Go.RowKit Go.Proofs.YtihchehmkhnhaaaDoorW.PrintWords Go.Proofs.YtihchehmkhnhaaaDoorW.PrintLast Go.Proofs.YtihchehmkhnhaaaDoorW.PrintMore
set_option linter.unusedVariables false

noncomputable def eqT (x y : S24) : Bool := @decide (x = y) (Classical.propDecidable _)
noncomputable def eqL (a b : List S24) : Bool := @decide (a = b) (Classical.propDecidable _)
theorem eqT_iff {x y : S24} : eqT x y = true ↔ x = y := by
  unfold eqT; exact @decide_eq_true_iff _ (Classical.propDecidable _)
theorem eqL_iff {x y : List S24} : eqL x y = true ↔ x = y := by
  unfold eqL; exact @decide_eq_true_iff _ (Classical.propDecidable _)
theorem eqL_nil : eqL [] [] = true := eqL_iff.2 rfl
theorem eqL_cons (x y : S24) (a b : List S24) : eqL (x :: a) (y :: b) = (eqT x y && eqL a b) := by
  rw [Bool.eq_iff_iff, Bool.and_eq_true, eqL_iff, eqT_iff, eqL_iff, List.cons.injEq]
theorem eqT_mk (x y : S24) : eqT x y = (decide (x.f0 = y.f0) && (decide (x.f1.toList = y.f1.toList) && (decide (x.f2 = y.f2) && eqL x.f3 y.f3))) := by
  rw [Bool.eq_iff_iff, eqT_iff]
  simp only [Bool.and_eq_true, decide_eq_true_eq, eqL_iff]
  constructor
  · rintro rfl; exact ⟨rfl, rfl, rfl, rfl⟩
  · rintro ⟨e0, e1, e2, e3⟩
    exact s24_ext e0 (bytes_ext e1) e2 e3
theorem eqL_len {a b : List S24} (h : a.length ≠ b.length) : eqL a b = false := by
  rw [Bool.eq_false_iff]
  intro g
  rw [eqL_iff] at g
  exact h (by rw [g])
theorem same_loop (a b : List S24) (hl : a.length = b.length) (hb : a.length ≤ 1000000)
    (ih : ∀ x, x ∈ a → ∀ y, Ev (fun k => vinculumref09_Equal.f k x.f0 x.f1 x.f2 x.f3 y.f0 y.f1 y.f2 y.f3) (eqT x y)) :
    ∀ (d j : Nat), a.length - j = d → j ≤ a.length → Ev (fun k => vinculumref09_SameItems.l0 k a b (j : Int)) (eqL (a.drop j) (b.drop j)) := by
  intro d
  induction d with
  | zero =>
    intro j hd hj
    obtain rfl : j = a.length := by omega
    refine Ev.step (f := fun _ => some true) (fun k => by rw [vinculumref09_SameItems.l0, if_neg (by omega)]) ?_
    rw [List.drop_length, hl, List.drop_length, eqL_nil]
    exact Ev.now _
  | succ d ihd =>
    intro j hd hj
    have h1 : j < a.length := by omega
    have h2 : j < b.length := by omega
    rw [drop_at h1, drop_at h2, eqL_cons]
    apply Ev.step
    · intro k; rw [vinculumref09_SameItems.l0, if_pos (by omega), if_pos (by omega), if_pos (by omega), rd_at h1, rd_at h2]
    refine Ev.bind (ih _ (List.getElem_mem h1) _) ?_
    cases eqT a[j] b[j] with
    | false => exact Ev.congr (fun k => if_neg Bool.false_ne_true) (Ev.now _)
    | true =>
      refine Ev.congr (fun k => if_pos rfl) ?_
      rw [wrap64_id (by omega) (by omega)]
      have := ihd (j + 1) (by omega) (by omega)
      simpa using this
theorem same_ev (a b : List S24) (hb : a.length ≤ 1000000)
    (ih : ∀ x, x ∈ a → ∀ y, Ev (fun k => vinculumref09_Equal.f k x.f0 x.f1 x.f2 x.f3 y.f0 y.f1 y.f2 y.f3) (eqT x y)) :
    Ev (fun k => vinculumref09_SameItems.f k a b) (eqL a b) := by
  by_cases hl : a.length = b.length
  · apply Ev.step
    · intro k; rw [vinculumref09_SameItems.f, if_pos (by omega)]
    have := same_loop a b hl hb ih _ 0 rfl (by omega)
    simpa using this
  · rw [eqL_len hl]
    refine Ev.step (f := fun _ => some false) (fun k => by rw [vinculumref09_SameItems.f, if_neg (by omega)]) (Ev.now _)
theorem rEqual_ev : ∀ x : S24, cnt x ≤ 1000000 → ∀ y : S24, Ev (fun k => vinculumref09_Equal.f k x.f0 x.f1 x.f2 x.f3 y.f0 y.f1 y.f2 y.f3) (eqT x y) := by
  refine tree_ind (fun x ih hb y => ?_)
  have hce := cnt_eq x
  have hl := length_le_cntL x.f3
  rw [eqT_mk]
  by_cases h0 : x.f0 = y.f0
  · by_cases h1 : x.f1.toList = y.f1.toList
    · by_cases h2 : x.f2 = y.f2
      · apply Ev.step
        · intro k; rw [vinculumref09_Equal.f, if_pos h0, if_pos h1, if_pos h2]
        rw [decide_eq_true h0, decide_eq_true h1, decide_eq_true h2, Bool.true_and, Bool.true_and, Bool.true_and]
        refine Ev.bind (same_ev _ _ (by omega) (fun z hz w => ih z hz (by have := cnt_mem hz; omega) w)) (Ev.now _)
      · rw [decide_eq_false h2, Bool.false_and, Bool.and_false, Bool.and_false]
        exact Ev.step (f := fun _ => some false) (fun k => by rw [vinculumref09_Equal.f, if_pos h0, if_pos h1, if_neg h2]) (Ev.now _)
    · rw [decide_eq_false h1, Bool.false_and, Bool.and_false]
      exact Ev.step (f := fun _ => some false) (fun k => by rw [vinculumref09_Equal.f, if_pos h0, if_neg h1]) (Ev.now _)
  · rw [decide_eq_false h0, Bool.false_and]
    exact Ev.step (f := fun _ => some false) (fun k => by rw [vinculumref09_Equal.f, if_neg h0]) (Ev.now _)
end Go.Proofs.YtihchehmkhnhaaaDoor.A
/- Plain laws: the program's table is the table of distances. -/
namespace Go.Proofs.YtihchehmkhnhaaaDoor.A
open Go.RowKit Go.Proofs.YtihchehmkhnhaaaDoorW.PrintWords Go.Proofs.YtihchehmkhnhaaaDoorW.PrintLast Go.Proofs.YtihchehmkhnhaaaDoorW.PrintMore
set_option linter.unusedVariables false

theorem mn_nat (a b : Nat) : mn (a : Int) (b : Int) = ((min a b : Nat) : Int) := by
  unfold mn
  split <;> omega
theorem best_ev (a b : List S24) (T : List (List S47)) (R : List S47) (i j : Nat) (hb : cntL a + cntL b ≤ 1000000) (hi : i ≤ a.length) (hj : j ≤ b.length) (hT : T.length = a.length + 1)
    (hN : i < a.length → T[i + 1]? = some (rowT a b (i + 1))) (hC : T[i]? = some R) (hR : R.length = b.length + 1) (hD : j < b.length → R[j + 1]? = some (cellT (a.drop i) (b.drop (j + 1))))
    (ih : ∀ x, x ∈ a → ∀ y, y ∈ b → alk x y = true → Ev (fun k => diff_pair.f k x.f0 x.f1 x.f2 x.f3 y.f0 y.f1 y.f2 y.f3) (pr x y : Int)) :
    Ev (fun k => diff_best.f k a b T (i : Int) (j : Int)) ((dist (a.drop i) (b.drop j) : Int), pb (a.drop i) (b.drop j)) := by
  have hla := length_le_cntL a
  have hlb := length_le_cntL b
  have hrd := rd5_of hC
  have wi : wrap64 ((i : Int) + 1) = ((i + 1 : Nat) : Int) := by rw [wrap64_id (by omega) (by omega)]; omega
  have wj : wrap64 ((j : Int) + 1) = ((j + 1 : Nat) : Int) := by rw [wrap64_id (by omega) (by omega)]; omega
  have bd : ∀ p q, dist (a.drop p) (b.drop q) ≤ 1000000 := fun p q => by
    have := dist_bound (a.drop p) (b.drop q); have := cntL_drop a p; have := cntL_drop b q; omega
  have cnt64 : ∀ (m n : Nat), m ≤ 1000000 → n ≤ 1000000 → wrap64 ((m : Int) + (n : Int)) = ((m + n : Nat) : Int) := fun m n hm hn => by
    rw [wrap64_id (by omega) (by omega)]; omega
  by_cases ea : i = a.length
  · subst ea
    rw [List.drop_length]
    by_cases eb : j = b.length
    · subst eb
      rw [List.drop_length, dist_nn]
      refine Ev.step (f := fun k => diff_best.j0 k a b T (a.length : Int) (b.length : Int) true) (fun k => by rw [diff_best.f, if_pos rfl]; simp) ?_
      refine Ev.step (f := fun _ => some (0, false)) (fun k => by rw [diff_best.j0, if_pos rfl]) ?_
      exact Ev.now _
    · have hlt : j < b.length := by omega
      rw [drop_at hlt]
      refine Ev.step (f := fun k => diff_best.j0 k a b T (a.length : Int) (j : Int) false) (fun k => by rw [diff_best.f, if_pos rfl, show ((j : Int) == (b.length : Int)) = false from beq_eq_false_iff_ne.2 (by omega)]) ?_
      apply Ev.step
      · intro k; rw [diff_best.j0, if_neg (by simp), if_pos rfl, if_pos (by omega), if_pos (by omega)]
      rw [rd_at hlt]
      have hc := cnt_mem (List.getElem_mem hlt)
      refine Ev.bind (node_Count_ev _ (by omega)) ?_
      rw [hrd, wj, rd47_of (hD hlt), List.drop_length]
      refine Ev.congr (f := fun _ => some (wrap64 ((cnt b[j] : Int) + (cellT [] (b.drop (j + 1))).f0), false)) (fun k => by rw [if_pos (by omega), if_pos (by omega), if_pos (by omega), if_pos (by omega)]) ?_
      have h1 := bd a.length (j + 1)
      rw [List.drop_length] at h1
      simp only [cellT]
      rw [cnt64 _ _ (by omega) h1, dist_nc]
      exact Ev.now _
  · have hla' : i < a.length := by omega
    have hx := cnt_mem (List.getElem_mem hla')
    rw [drop_at hla']
    refine Ev.step (f := fun k => diff_best.j0 k a b T (i : Int) (j : Int) false) (fun k => by rw [diff_best.f, if_neg (by omega)]) ?_
    by_cases eb : j = b.length
    · subst eb
      rw [List.drop_length]
      apply Ev.step
      · intro k; rw [diff_best.j0, if_neg (by simp), if_neg (by omega), if_pos rfl, if_pos (by omega), if_pos (by omega)]
      rw [rd_at hla']
      refine Ev.bind (node_Count_ev _ (by omega)) ?_
      rw [wi, rd5_of (hN hla'), rd47_of (rowT_at (Nat.le_refl _)), rowT_len, List.drop_length]
      refine Ev.congr (f := fun _ => some (wrap64 ((cnt a[i] : Int) + (cellT (a.drop (i + 1)) []).f0), false)) (fun k => by rw [if_pos (by omega), if_pos (by omega), if_pos (by omega), if_pos (by omega)]) ?_
      have h1 := bd (i + 1) b.length
      rw [List.drop_length] at h1
      simp only [cellT]
      rw [cnt64 _ _ (by omega) h1, dist_cn]
      exact Ev.now _
    · have hlt : j < b.length := by omega
      have hy := cnt_mem (List.getElem_mem hlt)
      rw [drop_at hlt]
      apply Ev.step
      · intro k; rw [diff_best.j0, if_neg (by simp), if_neg (by omega), if_neg (by omega), if_pos (by omega), if_pos (by omega)]
      rw [rd_at hla']
      refine Ev.bind (node_Count_ev _ (by omega)) ?_
      rw [rd_at hlt, wi, wj, hrd, rd5_of (hN hla'), rd47_of (rowT_at hj), rd47_of (rowT_at (show j + 1 ≤ b.length by omega)), rd47_of (hD hlt), rowT_len, alike_ev]
      apply Ev.congr
      · intro k; rw [if_pos (by omega), if_pos (by omega), if_pos (by omega), if_pos (by omega), if_pos (by omega)]
      refine Ev.bind (node_Count_ev _ (by omega)) ?_
      have h1 := bd (i + 1) j
      have h2 := bd i (j + 1)
      have h3 := bd (i + 1) (j + 1)
      have e1 : a.drop i = a[i] :: a.drop (i + 1) := drop_at hla'
      have e2 : b.drop j = b[j] :: b.drop (j + 1) := drop_at hlt
      rw [e2] at h1
      rw [e1] at h2
      simp only [cellT, e1, e2]
      rw [cnt64 _ _ (by omega) h1, cnt64 _ _ (by omega) h2, mn_nat]
      apply Ev.congr
      · intro k; rw [if_pos (by omega), if_pos (by omega), if_pos (by omega), Option.bind_some]
      have hp := pr_bound a[i] b[j]
      by_cases hal : alk a[i] b[j] = true
      · apply Ev.congr
        · intro k; rw [if_pos hal]
        refine Ev.bind (ih _ (List.getElem_mem hla') _ (List.getElem_mem hlt) hal) ?_
        rw [cnt64 _ _ (by omega) h3, dist_cc, if_pos hal]
        by_cases hc : pr a[i] b[j] + dist (a.drop (i + 1)) (b.drop (j + 1)) ≤ min (cnt a[i] + dist (a.drop (i + 1)) (b[j] :: b.drop (j + 1))) (cnt b[j] + dist (a[i] :: a.drop (i + 1)) (b.drop (j + 1)))
        · refine Ev.congr (f := fun _ => some (((pr a[i] b[j] + dist (a.drop (i + 1)) (b.drop (j + 1)) : Nat) : Int), true)) (fun k => by rw [if_pos (by omega), if_pos (by exact_mod_cast hc)]) ?_
          rw [Nat.min_eq_right hc]
          simp only [pb, hal, decide_eq_true hc, Bool.and_self]
          exact Ev.now _
        · refine Ev.congr (f := fun _ => some (((min (cnt a[i] + dist (a.drop (i + 1)) (b[j] :: b.drop (j + 1))) (cnt b[j] + dist (a[i] :: a.drop (i + 1)) (b.drop (j + 1))) : Nat) : Int), false)) (fun k => by rw [if_pos (by omega), if_neg (by exact_mod_cast hc)]) ?_
          rw [Nat.min_eq_left (Nat.le_of_lt (Nat.lt_of_not_le hc))]
          simp only [pb, hal, decide_eq_false hc, Bool.and_false]
          exact Ev.now _
      · refine Ev.congr (f := fun _ => some (((min (cnt a[i] + dist (a.drop (i + 1)) (b[j] :: b.drop (j + 1))) (cnt b[j] + dist (a[i] :: a.drop (i + 1)) (b.drop (j + 1))) : Nat) : Int), false)) (fun k => by rw [if_neg hal]) ?_
        rw [dist_cc, if_neg hal]
        have hal' : alk a[i] b[j] = false := by simpa using hal
        simp only [pb, hal', Bool.false_and]
        exact Ev.now _
end Go.Proofs.YtihchehmkhnhaaaDoor.A
/- Plain laws: the program's table, all rows. -/
namespace Go.Proofs.YtihchehmkhnhaaaDoor.A
open Go.RowKit Go.Proofs.YtihchehmkhnhaaaDoorW.PrintWords Go.Proofs.YtihchehmkhnhaaaDoorW.PrintLast Go.Proofs.YtihchehmkhnhaaaDoorW.PrintMore
set_option linter.unusedVariables false

theorem set_same {α : Type} {l : List α} {i : Nat} {x : α} (h : i < l.length) : (l.set i x)[i]? = some x := by
  rw [List.getElem?_set_self h]
theorem set_other {α : Type} {l : List α} {i j : Nat} {x : α} (h : i ≠ j) : (l.set i x)[j]? = l[j]? := List.getElem?_set_ne h
theorem row_done {a b : List S24} {i : Nat} {R : List S47} (hl : R.length = b.length + 1) (h : ∀ j, j ≤ b.length → R[j]? = some (cellT (a.drop i) (b.drop j))) : R = rowT a b i := by
  apply List.ext_getElem?
  intro j
  by_cases hj : j ≤ b.length
  · rw [h j hj, rowT_at hj]
  · rw [List.getElem?_eq_none (by omega), List.getElem?_eq_none (by rw [rowT_len]; omega)]
theorem tab_done {a b : List S24} {T : List (List S47)} (hl : T.length = a.length + 1) (h : ∀ i, i ≤ a.length → T[i]? = some (rowT a b i)) : T = tabT a b := by
  apply List.ext_getElem?
  intro i
  by_cases hi : i ≤ a.length
  · rw [h i hi, tabT_at hi]
  · rw [List.getElem?_eq_none (by omega), List.getElem?_eq_none (by rw [tabT_len]; omega)]

theorem table_inner (a b : List S24) (hb : cntL a + cntL b ≤ 1000000) (i : Nat) (hi : i ≤ a.length)
    (ih : ∀ x, x ∈ a → ∀ y, y ∈ b → alk x y = true → Ev (fun k => diff_pair.f k x.f0 x.f1 x.f2 x.f3 y.f0 y.f1 y.f2 y.f3) (pr x y : Int))
    (next : ∀ T : List (List S47), T.length = a.length + 1 → (∀ i', i ≤ i' → i' ≤ a.length → T[i']? = some (rowT a b i')) → Ev (fun k => diff_table.l0 k a b T ((i : Int) - 1)) (tabT a b)) :
    ∀ (j : Nat) (T : List (List S47)) (R : List S47), j ≤ b.length + 1 → T.length = a.length + 1 → (∀ i', i < i' → i' ≤ a.length → T[i']? = some (rowT a b i')) → T[i]? = some R → R.length = b.length + 1 →
      (∀ j', j ≤ j' → j' ≤ b.length → R[j']? = some (cellT (a.drop i) (b.drop j'))) → ∀ x7 : Int, x7 = (j : Int) - 1 → Ev (fun k => diff_table.l1 k a b T (i : Int) x7) (tabT a b) := by
  have hla := length_le_cntL a
  have hlb := length_le_cntL b
  intro j
  induction j with
  | zero =>
    intro T R hj hT hN hC hR hD x7 hx
    subst hx
    apply Ev.step
    · intro k; rw [diff_table.l1, if_neg (by omega), wrap64_id (by omega) (by omega)]
    refine next T hT (fun i' h1 h2 => ?_)
    by_cases he : i = i'
    · subst he
      rw [hC, row_done hR (fun j hj => hD j (by omega) hj)]
    · exact hN i' (by omega) h2
  | succ j ihj =>
    intro T R hj hT hN hC hR hD x7 hx
    obtain rfl : x7 = (j : Int) := by omega
    apply Ev.step
    · intro k; rw [diff_table.l1, if_pos (by omega), if_pos (by omega), if_pos (by omega)]
    refine Ev.bind (best_ev a b T R i j hb hi (by omega) hT (fun h => hN _ (by omega) (by omega)) hC hR (fun h => hD _ (by omega) (by omega)) ih) ?_
    rw [rd5_of hC, Int.toNat_natCast, Int.toNat_natCast]
    apply Ev.congr
    · intro k; rw [if_pos (by omega), if_pos (by omega), wrap64_id (by omega) (by omega)]
    refine ihj _ (R.set j (cellT (a.drop i) (b.drop j))) (by omega) (by rw [List.length_set]; exact hT) (fun i' h1 h2 => ?_) ?_ (by rw [List.length_set]; exact hR) (fun j' h1 h2 => ?_) _ rfl
    · rw [set_other (by omega)]; exact hN i' h1 h2
    · exact set_same (by omega)
    · by_cases he : j = j'
      · subst he; exact set_same (by omega)
      · rw [set_other he]; exact hD j' (by omega) h2
theorem table_outer (a b : List S24) (hb : cntL a + cntL b ≤ 1000000)
    (ih : ∀ x, x ∈ a → ∀ y, y ∈ b → alk x y = true → Ev (fun k => diff_pair.f k x.f0 x.f1 x.f2 x.f3 y.f0 y.f1 y.f2 y.f3) (pr x y : Int)) :
    ∀ (i : Nat) (T : List (List S47)), i ≤ a.length + 1 → T.length = a.length + 1 → (∀ i', i ≤ i' → i' ≤ a.length → T[i']? = some (rowT a b i')) → Ev (fun k => diff_table.l0 k a b T ((i : Int) - 1)) (tabT a b) := by
  have hla := length_le_cntL a
  have hlb := length_le_cntL b
  intro i
  induction i with
  | zero =>
    intro T hi hT hN
    apply Ev.step
    · intro k; rw [diff_table.l0, if_neg (by omega)]
    rw [tab_done hT (fun i hi => hN i (by omega) hi)]
    exact Ev.now _
  | succ i ihi =>
    intro T hi hT hN
    have e : ((i + 1 : Nat) : Int) - 1 = (i : Int) := by omega
    have wl : wrap64 ((b.length : Int) + 1) = ((b.length + 1 : Nat) : Int) := by rw [wrap64_id (by omega) (by omega)]; omega
    rw [e]
    apply Ev.step
    · intro k; rw [diff_table.l0, wl, Int.toNat_natCast, Int.toNat_natCast, if_pos (by omega), if_pos (by omega), if_pos (by omega), if_pos (by omega), if_pos (by omega)]
    refine table_inner a b hb i (by omega) ih (fun T hT hN => ihi T (by omega) hT hN) (b.length + 1) _ (List.replicate (b.length + 1) z47) (by omega) (by rw [List.length_set]; exact hT) (fun i' h1 h2 => ?_) (set_same (by omega)) (by simp) (fun j' h1 h2 => by omega) _ (by omega)
    rw [set_other (by omega)]; exact hN i' h1 h2
theorem table_ev : ∀ (n : Nat) (a b : List S24), cntL a + cntL b ≤ n → n ≤ 1000000 → Ev (fun k => diff_table.f k a b) (tabT a b) := by
  intro n
  induction n using Nat.strongRecOn with
  | _ n IH =>
    intro a b hn hb
    have hla := length_le_cntL a
    have wl : wrap64 ((a.length : Int) + 1) = ((a.length + 1 : Nat) : Int) := by rw [wrap64_id (by omega) (by omega)]; omega
    apply Ev.step
    · intro k; rw [diff_table.f, wl, Int.toNat_natCast, if_pos (by omega), if_pos (by omega)]
    have := table_outer a b (by omega) (fun x hx y hy hal => ?_) (a.length + 1) (List.replicate (a.length + 1) []) (by omega) (by simp) (fun i' h1 h2 => by omega)
    · have e : ((a.length + 1 : Nat) : Int) - 1 = (a.length : Int) := by omega
      rw [e] at this
      exact this
    have h1 := cnt_mem hx
    have h2 := cnt_mem hy
    have h3 := cnt_eq x
    have h4 := cnt_eq y
    have hl : x.f3.length = y.f3.length := by
      simp only [alk, Bool.and_eq_true, decide_eq_true_eq] at hal
      exact hal.1.2
    refine pair_ev x y (by omega) hl (fun u hu v hv => ?_)
    have h5 := cnt_mem hu
    have h6 := cnt_mem hv
    have h7 := cnt_eq u
    have h8 := cnt_eq v
    exact IH (cntL u.f3 + cntL v.f3) (by omega) _ _ (Nat.le_refl _) (by omega)
end Go.Proofs.YtihchehmkhnhaaaDoor.A
/- Plain laws: the example, the bound, and the value of Cost. -/
namespace Go.Proofs.YtihchehmkhnhaaaDoor.Pure
open Go.RowKit Go.Proofs.YtihchehmkhnhaaaDoorW.PrintWords Go.Proofs.YtihchehmkhnhaaaDoorW.PrintLast Go.Proofs.YtihchehmkhnhaaaDoorW.PrintMore
open Go.Proofs.YtihchehmkhnhaaaDoor.A
set_option linter.unusedVariables false

theorem awake_evC : Ev (fun k => vinculumlaw16_awake.f k) true := Ev.of (fun k => vinculumlaw16_awake.mono k) (k := 40) (by kernel_rfl)
theorem few_ev (x y : S24) (hx : Wf24 x) (hy : Wf24 y) : Ev (fun k => vinculumlaw16_few.f k x.f0 x.f1 x.f2 x.f3 y.f0 y.f1 y.f2 y.f3) (decide ((cnt x : Int) ≤ 120) && decide ((cnt y : Int) ≤ 120)) := by
  unfold vinculumlaw16_few.f
  refine Ev.bind (vinculumref09_Few_ev x hx 120 (by omega) (by omega)) ?_
  cases decide ((cnt x : Int) ≤ 120) with
  | true => exact Ev.congr (fun k => if_pos rfl) (Ev.bind (vinculumref09_Few_ev y hy 120 (by omega) (by omega)) (Ev.now _))
  | false => exact Ev.now false
/-- The value of Cost. -/
theorem cost_ev (x y : S24) (hx : Wf24 x) (hy : Wf24 y) (cx : cnt x ≤ 120) (cy : cnt y ≤ 120) : Ev (fun k => diff_Cost.f k x.f0 x.f1 x.f2 x.f3 y.f0 y.f1 y.f2 y.f3) (if (validT x && validT y) = true then ((dist x.f3 y.f3 : Int), 0) else (0, 1)) := by
  have hxe := cnt_eq x
  have hye := cnt_eq y
  unfold diff_Cost.f diff_valid.f
  refine Ev.bind (a := validT x && validT y) ?_ ?_
  · refine Ev.bind (nValid_ev x hx (by omega)) ?_
    cases validT x with
    | true => exact Ev.congr (fun k => if_pos rfl) (Ev.bind (nValid_ev y hy (by omega)) (Ev.now _))
    | false => exact Ev.now false
  · cases validT x && validT y with
    | false => exact Ev.now _
    | true =>
      refine Ev.congr (fun k => if_pos rfl) (Ev.bind (table_ev (cntL x.f3 + cntL y.f3) x.f3 y.f3 (Nat.le_refl _) (by omega)) ?_)
      have e1 : rd_L5 (tabT x.f3 y.f3) 0 = rowT x.f3 y.f3 0 := rd5_of (j := 0) (tabT_at (by omega))
      have e2 : rd_T47 (rowT x.f3 y.f3 0) 0 = cellT x.f3 y.f3 := rd47_of (j := 0) (rowT_at (by omega))
      rw [e1, e2, tabT_len, rowT_len]
      exact Ev.congr (f := fun _ => some ((dist x.f3 y.f3 : Int), 0)) (fun k => by rw [if_pos (by omega), if_pos (by omega)]; rfl) (Ev.now _)
end Go.Proofs.YtihchehmkhnhaaaDoor.Pure
/- The plain law: the cost is 0 exactly for equal trees, the same in both directions, and not greater over a third tree. -/
namespace Go.Proofs.YtihchehmkhnhaaaDoor.Pure
open Go.RowKit Go.Proofs.YtihchehmkhnhaaaDoorW.PrintWords Go.Proofs.YtihchehmkhnhaaaDoorW.PrintLast Go.Proofs.YtihchehmkhnhaaaDoorW.PrintMore
open Go.Proofs.YtihchehmkhnhaaaDoor.A
set_option linter.unusedVariables false

theorem metric_j0 (x y z : S24) (hx : Wf24 x) (hy : Wf24 y) (hz : Wf24 z) (cx : cnt x ≤ 120) (cy : cnt y ≤ 120) (cz : cnt z ≤ 120) (vx : validT x = true) (vy : validT y = true) (vz : validT z = true) :
    Ev (fun k => vinculumlaw16_DiffMetric.j0 k false x.f0 x.f1 x.f2 x.f3 y.f0 y.f1 y.f2 y.f3 z.f0 z.f1 z.f2 z.f3) true := by
  have hxe := cnt_eq x
  have hye := cnt_eq y
  have hze := cnt_eq z
  have c : ∀ u v : S24, Wf24 u → Wf24 v → cnt u ≤ 120 → cnt v ≤ 120 → validT u = true → validT v = true → Ev (fun k => diff_Cost.f k u.f0 u.f1 u.f2 u.f3 v.f0 v.f1 v.f2 v.f3) ((dist u.f3 v.f3 : Int), 0) := by
    intro u v hu hv cu cv vu vv
    have := cost_ev u v hu hv cu cv
    rw [vu, vv, Bool.and_self, if_pos rfl] at this
    exact this
  apply Ev.step
  · intro k; rw [vinculumlaw16_DiffMetric.j0, if_neg Bool.false_ne_true]
  refine Ev.bind (c x y hx hy cx cy vx vy) (Ev.bind (c y x hy hx cy cx vy vx) (Ev.bind (c y z hy hz cy cz vy vz) (Ev.bind (c x z hx hz cx cz vx vz) ?_)))
  apply Ev.congr
  · intro k; rw [if_pos rfl, if_pos rfl, if_pos rfl, if_pos rfl]
  refine Ev.bind (rEqual_ev x (by omega) y) ?_
  have h1 := valid_zero vx vy
  have h2 := dist_symm x.f3 y.f3
  have h3 := dist_tri x.f3 y.f3 z.f3
  have b1 := dist_bound x.f3 y.f3
  have b2 := dist_bound y.f3 z.f3
  have e1 : ((((dist x.f3 y.f3 : Nat) : Int) == 0) == eqT x y) = true := by
    by_cases e : x = y
    · rw [eqT_iff.2 e, h1.2 e]; rfl
    · have n1 : eqT x y = false := by rw [Bool.eq_false_iff]; exact fun g => e (eqT_iff.1 g)
      have n2 : (((dist x.f3 y.f3 : Nat) : Int) == 0) = false := beq_eq_false_iff_ne.2 (fun g => e (h1.1 (by omega)))
      rw [n1, n2]; rfl
  apply Ev.congr
  · intro k; rw [if_pos e1, if_pos (by rw [h2]), wrap64_id (by omega) (by omega), decide_eq_true (by omega)]
  exact Ev.now true
theorem DiffMetric : vinculumlaw16_DiffMetric.Pure := by
  intro x y z hx hy hz
  refine Ev.rounds (g := fun k => vinculumlaw16_DiffMetric.f k x.f0 x.f1 x.f2 x.f3 y.f0 y.f1 y.f2 y.f3 z.f0 z.f1 z.f2 z.f3) ?_
  have skip : Ev (fun k => vinculumlaw16_DiffMetric.j0 k true x.f0 x.f1 x.f2 x.f3 y.f0 y.f1 y.f2 y.f3 z.f0 z.f1 z.f2 z.f3) true :=
    Ev.step (f := fun _ => some true) (fun k => by rw [vinculumlaw16_DiffMetric.j0, if_pos rfl]) (Ev.now true)
  unfold vinculumlaw16_DiffMetric.f
  refine Ev.bind awake_evC (Ev.congr (fun k => if_pos rfl) (Ev.bind (few_ev x y hx hy) ?_))
  by_cases cx : cnt x ≤ 120
  · by_cases cy : cnt y ≤ 120
    · have hxe := cnt_eq x
      have hye := cnt_eq y
      have hze := cnt_eq z
      rw [decide_eq_true (show (cnt x : Int) ≤ 120 by omega), decide_eq_true (show (cnt y : Int) ≤ 120 by omega)]
      refine Ev.congr (fun k => if_pos rfl) (Ev.bind (vinculumref09_Few_ev z hz 120 (by omega) (by omega)) ?_)
      by_cases cz : cnt z ≤ 120
      · rw [decide_eq_true (show (cnt z : Int) ≤ 120 by omega)]
        refine Ev.congr (fun k => if_pos rfl) (Ev.bind (rValid_ev x hx (by omega)) ?_)
        cases h1 : validT x with
        | false => exact Ev.congr (fun k => if_neg Bool.false_ne_true) skip
        | true =>
          refine Ev.congr (fun k => if_pos rfl) (Ev.bind (rValid_ev y hy (by omega)) ?_)
          cases h2 : validT y with
          | false => exact Ev.congr (fun k => if_neg Bool.false_ne_true) skip
          | true =>
            refine Ev.congr (fun k => if_pos rfl) (Ev.bind (rValid_ev z hz (by omega)) ?_)
            cases h3 : validT z with
            | false => exact skip
            | true => exact metric_j0 x y z hx hy hz cx cy cz h1 h2 h3
      · rw [decide_eq_false (show ¬ (cnt z : Int) ≤ 120 by omega)]
        exact Ev.congr (fun k => if_neg Bool.false_ne_true) skip
    · rw [decide_eq_false (show ¬ (cnt y : Int) ≤ 120 by omega), Bool.and_false]
      exact Ev.congr (fun k => if_neg Bool.false_ne_true) skip
  · rw [decide_eq_false (show ¬ (cnt x : Int) ≤ 120 by omega), Bool.false_and]
    exact Ev.congr (fun k => if_neg Bool.false_ne_true) skip
end Go.Proofs.YtihchehmkhnhaaaDoor.Pure
