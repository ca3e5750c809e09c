/- Plain laws: the shapes of nodes, as the program and as the reference tell them. -/
import Derived.Test.YtnimhdhnjfoalaaGreatDoorPl8
import Derived.Test.YtnimhdhnjfoalaaGreatDoorAx5
namespace Go.Proofs.YtnimhdhnjfoalaaGreatDoor.A
open Go.RowKit Go.Proofs.YtnimhdhnjfoalaaGreatDoorW.PrintWords Go.Proofs.YtnimhdhnjfoalaaGreatDoorW.PrintLast Go.Proofs.YtnimhdhnjfoalaaGreatDoorW.PrintMore
set_option linter.unusedVariables false

def pch (c : UInt8) : Bool := decide (32 ≤ c.toNat) && decide (c.toNat ≤ 126)
theorem nPrn_ev (s : ByteArray) (hs : s.size ≤ 9223372036854775807) : Ev (fun k => node_printable.f k s) ((bs s).all pch && decide (s.size ≤ 200)) := by
  have hl := bs_len s
  have loop : ∀ (d j : Nat), (bs s).length - j = d → j ≤ (bs s).length → Ev (fun k => node_printable.l0 k s (s.size : Int) (j : Int)) (((bs s).drop j).all pch && decide (s.size ≤ 200)) := by
    intro d
    induction d with
    | zero =>
      intro j hd hj
      obtain rfl : j = (bs s).length := by omega
      apply Ev.step
      · intro k; rw [node_printable.l0, if_neg (by omega)]
      rw [List.drop_length, List.all_nil, Bool.true_and, show decide (s.size ≤ 200) = decide ((s.size : Int) ≤ 200) by congr 1; rw [eq_iff_iff]; omega]
      exact Ev.now _
    | succ d ihd =>
      intro j hd hj
      have hlt : j < (bs s).length := by omega
      rw [drop_at hlt, List.all_cons]
      apply Ev.step
      · intro k; rw [node_printable.l0, if_pos (by omega), if_pos (by omega), if_pos (by omega), bt_bs hlt, wrap64_id (by omega) (by omega)]
      by_cases h1 : 32 ≤ (bs s)[j].toNat
      · by_cases h2 : (bs s)[j].toNat ≤ 126
        · apply Ev.congr
          · intro k; rw [if_neg (by omega), if_neg (by omega)]
          rw [show pch (bs s)[j] = true by unfold pch; rw [decide_eq_true h1, decide_eq_true h2]; rfl, Bool.true_and]
          exact ihd (j + 1) (by omega) (by omega)
        · apply Ev.congr
          · intro k; rw [if_neg (by omega), if_pos (by omega)]
          rw [show pch (bs s)[j] = false by unfold pch; rw [decide_eq_false h2, Bool.and_false], Bool.false_and, Bool.false_and]
          exact Ev.now _
      · apply Ev.congr
        · intro k; rw [if_pos (by omega)]
        rw [show pch (bs s)[j] = false by unfold pch; rw [decide_eq_false h1, Bool.false_and], Bool.false_and, Bool.false_and]
        exact Ev.now _
  simpa [node_printable.f] using loop _ 0 rfl (by omega)
theorem rPrn_ev (s : ByteArray) (hs : s.size ≤ 9223372036854775807) : Ev (fun k => vinculumref09_Printable.f k s) ((bs s).all pch) := by
  have hl := bs_len s
  have loop : ∀ (d j : Nat), (bs s).length - j = d → j ≤ (bs s).length → Ev (fun k => vinculumref09_Printable.l0 k s (j : Int)) (((bs s).drop j).all pch) := by
    intro d
    induction d with
    | zero =>
      intro j hd hj
      obtain rfl : j = (bs s).length := by omega
      apply Ev.step
      · intro k; rw [vinculumref09_Printable.l0, if_neg (by omega)]
      rw [List.drop_length, List.all_nil]
      exact Ev.now _
    | succ d ihd =>
      intro j hd hj
      have hlt : j < (bs s).length := by omega
      rw [drop_at hlt, List.all_cons]
      apply Ev.step
      · intro k; rw [vinculumref09_Printable.l0, if_pos (by omega), if_pos (by omega), bt_bs hlt, wrap64_id (by omega) (by omega)]
      by_cases h1 : 32 ≤ (bs s)[j].toNat
      · by_cases h2 : (bs s)[j].toNat ≤ 126
        · apply Ev.congr
          · intro k; rw [if_neg (by omega), if_neg (by omega)]
          rw [show pch (bs s)[j] = true by unfold pch; rw [decide_eq_true h1, decide_eq_true h2]; rfl, Bool.true_and]
          exact ihd (j + 1) (by omega) (by omega)
        · apply Ev.congr
          · intro k; rw [if_neg (by omega), if_pos (by omega)]
          rw [show pch (bs s)[j] = false by unfold pch; rw [decide_eq_false h2, Bool.and_false], Bool.false_and]
          exact Ev.now _
      · apply Ev.congr
        · intro k; rw [if_pos (by omega)]
        rw [show pch (bs s)[j] = false by unfold pch; rw [decide_eq_false h1, Bool.false_and], Bool.false_and]
        exact Ev.now _
  simpa [vinculumref09_Printable.f] using loop _ 0 rfl (by omega)

def DL : ByteArray := ⟨#[40, 41, 91, 93, 123, 125, 124, 60, 62, 47, 46]⟩
def DM : ByteArray := ⟨#[40, 41, 91, 93, 123, 125, 60, 62, 47, 124, 46]⟩
set_option maxRecDepth 100000 in
theorem dl_dm (c : UInt8) : (bs DM).contains c = (bs DL).contains c := by
  have h : ∀ n, n < 256 → ([40, 41, 91, 93, 123, 125, 60, 62, 47, 124, 46] : List UInt8).contains (UInt8.ofNat n) = ([40, 41, 91, 93, 123, 125, 124, 60, 62, 47, 46] : List UInt8).contains (UInt8.ofNat n) := by decide
  have := h c.toNat c.toNat_lt
  rw [UInt8.ofNat_toNat] at this
  exact this
def fenT (s : ByteArray) : Bool := decide (s.size = 2) && (bs DL).contains ((bs s).headD 0) && (bs DL).contains (((bs s).drop 1).headD 0)
theorem nFen_ev (s : ByteArray) : node_fence.f s = some (fenT s) := by
  have hl := bs_len s
  unfold node_fence.f fenT
  by_cases h2 : s.size = 2
  · have z1 : (s.extract 0 1).size = 1 := by rw [ByteArray.size_extract]; omega
    have z2 : (s.extract 1 s.size).size = 1 := by rw [ByteArray.size_extract]; omega
    have e1 : (bs (s.extract 0 1)).headD 0 = (bs s).headD 0 := by
      rw [bs_extract]
      show (((bs s).drop 0).take (1 - 0)).headD 0 = _
      cases hb : bs s with
      | nil => rfl
      | cons x r => rfl
    have e2 : (bs (s.extract 1 s.size)).headD 0 = ((bs s).drop 1).headD 0 := by
      rw [bs_extract, ← hl]
      show (((bs s).drop 1).take ((bs s).length - 1)).headD 0 = _
      rw [List.take_of_length_le (by rw [List.length_drop]; omega)]
    rw [if_pos (by omega), if_pos (by omega), if_pos (by omega), decide_eq_true h2]
    rw [contains_one_ev _ _ z1, Option.bind_some, contains_one_ev _ _ z2, Option.bind_some, e1, e2]
    show (if (bs DM).contains ((bs s).headD 0) = true then some ((bs DM).contains (((bs s).drop 1).headD 0)) else some false) = _
    rw [dl_dm, dl_dm]
    generalize (bs DL).contains ((bs s).headD 0) = b1
    generalize (bs DL).contains (((bs s).drop 1).headD 0) = b2
    cases b1 <;> cases b2 <;> rfl
  · rw [if_neg (by omega), decide_eq_false h2]
    rfl
/-- The text that a kind asks for. -/
def txT (kind : Int) (s : ByteArray) : Bool :=
  if kind = 2 then symT s else if kind = 3 then numT (bs s) else if kind = 4 then (bs s).all pch && decide (s.size ≤ 200) else if kind = 10 then inB AC s else if kind = 11 then fenT s else (s.toList == ([] : List UInt8))
theorem nTx_ev (kind : Int) (s : ByteArray) (hs : s.size ≤ 9223372036854775807) : Ev (fun k => node_textok.f k kind s) (txT kind s) := by
  unfold node_textok.f txT
  by_cases h2 : kind = 2
  · rw [if_pos h2]
    exact Ev.congr (fun k => if_pos h2) (nSym_ev s hs)
  · rw [if_neg h2]
    by_cases h3 : kind = 3
    · rw [if_pos h3]
      refine Ev.congr (f := fun _ => some (numT (bs s))) (fun k => ?_) (Ev.now _)
      rw [if_neg h2, if_pos h3, nNum_ev]
    · rw [if_neg h3]
      by_cases h4 : kind = 4
      · rw [if_pos h4]
        exact Ev.congr (fun k => by rw [if_neg h2, if_neg h3, if_pos h4]) (nPrn_ev s hs)
      · rw [if_neg h4]
        by_cases h10 : kind = 10
        · rw [if_pos h10]
          refine Ev.congr (f := fun k => node_accent.f k s) (fun k => by rw [if_neg h2, if_neg h3, if_neg h4, if_pos h10]) ?_
          unfold node_accent.f
          exact Ev.bind (scontains_ev AC s (by decide)) (Ev.now _)
        · rw [if_neg h10]
          by_cases h11 : kind = 11
          · rw [if_pos h11, if_pos h11]
            refine Ev.congr (f := fun _ => some (fenT s)) (fun k => ?_) (Ev.now _)
            rw [if_neg h2, if_neg h3, if_neg h4, if_neg h10, nFen_ev]
          · rw [if_neg h11, if_neg h11]
            refine Ev.congr (f := fun _ => some (s.toList == ([] : List UInt8))) (fun k => ?_) (Ev.now _)
            rw [if_neg h2, if_neg h3, if_neg h4, if_neg h10, node_empty.f]
theorem bt1 {s : ByteArray} (h : s.size = 2) : bt s 1 = (((((bs s).drop 1).headD 0).toNat : Nat) : Int) := by
  have hl := bs_len s
  have := bt_bs (s := s) (j := 1) (by omega)
  rw [show ((1 : Nat) : Int) = 1 from rfl] at this
  rw [this, drop_at (show 1 < (bs s).length by omega)]
  rfl
theorem rTx_ev (kind : Int) (s : ByteArray) (cols : Int) (l : List S26) (hs : s.size ≤ 9223372036854775807) : Ev (fun k => vinculumref09_text.f k kind s cols l) (txT kind s) := by
  unfold vinculumref09_text.f txT
  by_cases h2 : kind = 2
  · rw [if_pos h2]
    exact Ev.congr (fun k => if_pos h2) (Ev.bind (rSym_ev s hs) (Ev.now _))
  · rw [if_neg h2]
    by_cases h3 : kind = 3
    · rw [if_pos h3]
      exact Ev.congr (fun k => by rw [if_neg h2, if_pos h3]) (Ev.bind (rNum_ev s hs) (Ev.now _))
    · rw [if_neg h3]
      by_cases h4 : kind = 4
      · rw [if_pos h4]
        by_cases hz : s.size ≤ 200
        · refine Ev.congr (fun k => by rw [if_neg h2, if_neg h3, if_pos h4, if_pos (by omega)]) (Ev.bind (rPrn_ev s hs) ?_)
          rw [decide_eq_true hz, Bool.and_true]
          exact Ev.now _
        · refine Ev.congr (f := fun _ => some false) (fun k => by rw [if_neg h2, if_neg h3, if_pos h4, if_neg (by omega)]) ?_
          rw [decide_eq_false hz, Bool.and_false]
          exact Ev.now _
      · rw [if_neg h4]
        by_cases h10 : kind = 10
        · rw [if_pos h10]
          refine Ev.congr (f := fun k => (vinculumref09_In.f k AC s).bind fun t => some t) (fun k => by rw [if_neg h2, if_neg h3, if_neg h4, if_pos h10, vinculumref09_Accents.f, Option.bind_some]; rfl) ?_
          exact Ev.bind (in_ev AC s (by decide)) (Ev.now _)
        · rw [if_neg h10]
          by_cases h11 : kind = 11
          · rw [if_pos h11]
            unfold fenT
            by_cases hz : s.size = 2
            · refine Ev.congr (f := fun k => (vinculumref09_has.f k DL (bt s 0)).bind fun t => if t = true then (if 1 < (s.size : Int) then ((vinculumref09_has.f k DL (bt s 1)).bind fun t => some t) else none) else some false) (fun k => by rw [if_neg h2, if_neg h3, if_neg h4, if_neg h10, if_pos h11, if_pos (by omega), if_pos (by omega)]; rfl) ?_
              rw [bt0 (by omega), bt1 hz, decide_eq_true hz, Bool.true_and]
              refine Ev.bind (has_ev DL _ (by decide)) ?_
              cases (bs DL).contains ((bs s).headD 0) with
              | true =>
                refine Ev.congr (fun k => by rw [if_pos rfl, if_pos (by omega)]) (Ev.bind (has_ev DL _ (by decide)) ?_)
                rw [Bool.true_and]
                exact Ev.now _
              | false => exact Ev.now false
            · refine Ev.congr (f := fun _ => some false) (fun k => by rw [if_neg h2, if_neg h3, if_neg h4, if_neg h10, if_pos h11, if_neg (by omega)]) ?_
              rw [decide_eq_false hz]
              exact Ev.now _
          · rw [if_neg h11]
            refine Ev.congr (f := fun _ => some (s.toList == ([] : List UInt8))) (fun k => ?_) (Ev.now _)
            rw [if_neg h2, if_neg h3, if_neg h4, if_neg h10, if_neg h11]
/-- The number of kids and the columns that a kind asks for. -/
def kdT (kind cols : Int) (n : Nat) : Bool :=
  if kind = 12 then decide (1 ≤ cols) && (decide (cols ≤ 16) && (decide (1 ≤ (n : Int)) && (decide ((n : Int) ≤ 256) && ((n : Int) % cols == 0))))
  else (cols == 0) && (if kind = 1 then decide ((n : Int) ≤ 200) else if kind = 2 ∨ kind = 3 ∨ kind = 4 then ((n : Int) == 0) else if kind = 5 ∨ kind = 6 ∨ kind = 7 ∨ kind = 8 then ((n : Int) == 2) else if kind = 9 then ((n : Int) == 3) else if kind = 10 ∨ kind = 11 then ((n : Int) == 1) else false)
theorem rKd_ev (kind : Int) (s : ByteArray) (cols : Int) (l : List S26) : Ev (fun k => vinculumref09_kids.f k kind s cols l) (kdT kind cols l.length) := by
  refine ⟨2, fun k hk => ?_⟩
  obtain ⟨m, rfl⟩ : ∃ m, k = m + 2 := ⟨k - 2, by omega⟩
  show vinculumref09_kids.f (m + 2) kind s cols l = _
  unfold vinculumref09_kids.f kdT
  by_cases h12 : kind = 12
  · rw [if_pos h12, if_pos h12]
    by_cases c1 : cols ≥ 1
    · rw [if_pos c1, decide_eq_true (show 1 ≤ cols by omega)]
      by_cases c2 : cols ≤ 16
      · rw [if_pos c2, decide_eq_true c2]
        by_cases c3 : (l.length : Int) ≥ 1
        · rw [if_pos c3, decide_eq_true (show 1 ≤ (l.length : Int) by omega)]
          by_cases c4 : (l.length : Int) ≤ 256
          · rw [if_pos c4, decide_eq_true c4, if_neg (by omega)]
            rfl
          · rw [if_neg c4, decide_eq_false c4]; rfl
        · rw [if_neg c3, decide_eq_false (show ¬ 1 ≤ (l.length : Int) by omega)]; rfl
      · rw [if_neg c2, decide_eq_false c2]; rfl
    · rw [if_neg c1, decide_eq_false (show ¬ 1 ≤ cols by omega)]; rfl
  · rw [if_neg h12, if_neg h12]
    by_cases hc : cols = 0
    · rw [if_pos hc, hc, beq_self_eq_true, Bool.true_and]
      have hk : kind = 1 ∨ kind = 2 ∨ kind = 3 ∨ kind = 4 ∨ kind = 5 ∨ kind = 6 ∨ kind = 7 ∨ kind = 8 ∨ kind = 9 ∨ kind = 10 ∨ kind = 11 ∨ (kind < 1 ∨ 11 < kind) := by omega
      rcases hk with rfl | rfl | rfl | rfl | rfl | rfl | rfl | rfl | rfl | rfl | rfl | hk
      · rfl
      · rfl
      · rfl
      · rfl
      · rfl
      · rfl
      · rfl
      · rfl
      · rfl
      · rfl
      · rfl
      · have e : ∀ n : Int, 1 ≤ n → n ≤ 11 → (kind == n) = false := fun n h1 h2 => beq_eq_false_iff_ne.2 (by omega)
        rw [if_neg (by omega), if_neg (by omega), if_neg (by omega), if_neg (by omega), if_neg (by omega), if_neg (by omega), if_neg (by omega), if_neg (by omega), e 4 (by omega) (by omega), vinculumref09_kids.j0, if_neg Bool.false_ne_true, if_neg (by omega), if_neg (by omega), if_neg (by omega), e 8 (by omega) (by omega), vinculumref09_kids.j1, if_neg Bool.false_ne_true, if_neg (by omega), if_neg (by omega), if_neg (by omega)]
    · rw [if_neg hc, beq_eq_false_iff_ne.2 hc]; rfl
def shT (kind : Int) (s : ByteArray) (cols : Int) (n : Nat) : Bool := txT kind s && kdT kind cols n
theorem shape_ev (kind : Int) (s : ByteArray) (cols : Int) (n : Nat) (hs : s.size ≤ 9223372036854775807) : Ev (fun k => node_shape.f k kind s cols n) (shT kind s cols n) := by
  unfold node_shape.f shT
  by_cases h1 : kind < 1
  · refine Ev.congr (f := fun _ => some false) (fun k => if_pos h1) ?_
    have : kdT kind cols n = false := by
      unfold kdT
      rw [if_neg (by omega), if_neg (by omega), if_neg (by omega), if_neg (by omega), if_neg (by omega), if_neg (by omega), Bool.and_false]
    rw [this, Bool.and_false]
    exact Ev.now _
  · by_cases h2 : 12 < kind
    · refine Ev.congr (f := fun _ => some false) (fun k => by rw [if_neg h1, if_pos h2]) ?_
      have : kdT kind cols n = false := by
        unfold kdT
        rw [if_neg (by omega), if_neg (by omega), if_neg (by omega), if_neg (by omega), if_neg (by omega), if_neg (by omega), Bool.and_false]
      rw [this, Bool.and_false]
      exact Ev.now _
    · by_cases h3 : kind = 1
      · refine Ev.congr (f := fun _ => some (s.toList == ([] : List UInt8) && ((cols == 0) && decide ((n : Int) ≤ 200)))) (fun k => by rw [if_neg h1, if_neg h2, if_pos h3]) ?_
        subst h3
        exact Ev.now _
      · by_cases h4 : kind = 12
        · refine Ev.congr (f := fun _ => some (s.toList == ([] : List UInt8) && (decide (1 ≤ cols) && (decide (cols ≤ 16) && (decide (1 ≤ (n : Int)) && (decide ((n : Int) ≤ 256) && ((n : Int) % cols == 0))))))) (fun k => by rw [if_neg h1, if_neg h2, if_neg h3, if_pos h4]) ?_
          subst h4
          exact Ev.now _
        · refine Ev.congr (f := fun k => (node_textok.f k kind s).bind fun t => some (t && (cols == 0) && ((n : Int) == node_slots kind))) (fun k => by rw [if_neg h1, if_neg h2, if_neg h3, if_neg h4]) ?_
          refine Ev.bind (nTx_ev kind s hs) ?_
          have hk : kind = 2 ∨ kind = 3 ∨ kind = 4 ∨ kind = 5 ∨ kind = 6 ∨ kind = 7 ∨ kind = 8 ∨ kind = 9 ∨ kind = 10 ∨ kind = 11 := by omega
          have : kdT kind cols n = ((cols == 0) && ((n : Int) == node_slots kind)) := by
            rcases hk with rfl | rfl | rfl | rfl | rfl | rfl | rfl | rfl | rfl | rfl <;> rfl
          rw [this, ← Bool.and_assoc]
          exact Ev.now _
end Go.Proofs.YtnimhdhnjfoalaaGreatDoor.A
