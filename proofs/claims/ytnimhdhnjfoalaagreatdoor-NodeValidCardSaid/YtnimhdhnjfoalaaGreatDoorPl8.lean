/- Plain laws: the texts of numbers, as the program and as the reference tell them. -/
import Derived.Test.YtnimhdhnjfoalaaGreatDoorPl7
namespace Go.Proofs.YtnimhdhnjfoalaaGreatDoor.A
open Go.RowKit Go.Proofs.YtnimhdhnjfoalaaGreatDoorW.PrintWords Go.Proofs.YtnimhdhnjfoalaaGreatDoorW.PrintLast Go.Proofs.YtnimhdhnjfoalaaGreatDoorW.PrintMore
set_option linter.unusedVariables false

def dig (c : UInt8) : Bool := decide (48 ≤ c.toNat ∧ c.toNat ≤ 57)
def digs (l : List UInt8) : Bool := !l.isEmpty && l.all dig
set_option maxRecDepth 100000 in
theorem dig_set (c : UInt8) : ([48, 49, 50, 51, 52, 53, 54, 55, 56, 57] : List UInt8).contains c = dig c := by
  have h : ∀ n, n < 256 → ([48, 49, 50, 51, 52, 53, 54, 55, 56, 57] : List UInt8).contains (UInt8.ofNat n) = dig (UInt8.ofNat n) := by decide
  have := h c.toNat c.toNat_lt
  rwa [UInt8.ofNat_toNat] at this
theorem dropWhile_nil {p : UInt8 → Bool} : ∀ {l : List UInt8}, l.dropWhile p = [] ↔ l.all p = true
  | [] => by simp
  | x :: r => by
    rw [List.dropWhile_cons, List.all_cons]
    cases h : p x with
    | true => simpa using dropWhile_nil (l := r)
    | false => simp
theorem dropWhile_all {p : UInt8 → Bool} : ∀ {l : List UInt8}, (l.dropWhile p).all p = true → l.dropWhile p = []
  | [], _ => rfl
  | x :: r, h => by
    rw [List.dropWhile_cons] at h ⊢
    cases hx : p x with
    | true =>
      rw [hx, if_pos rfl] at h
      rw [if_pos rfl]
      exact dropWhile_all h
    | false =>
      rw [hx, if_neg Bool.false_ne_true, List.all_cons, hx] at h
      simp at h
theorem trimS_nil (l cs : List UInt8) : Lib.trimS l cs = [] ↔ l.all (cs.contains ·) = true := by
  unfold Lib.trimS Lib.trimLeftS Lib.trimRightS
  rw [dropWhile_nil, List.all_reverse]
  constructor
  · intro h
    have h1 := dropWhile_nil.1 (dropWhile_all h)
    rwa [List.all_reverse] at h1
  · intro h
    rw [dropWhile_nil.2 (by rw [List.all_reverse]; exact h)]
    rfl
theorem toList_bs (s : ByteArray) : s.toList = bs s := Lib.toList_data s
theorem digits_ev (s : ByteArray) (hs : s.size ≤ 9223372036854775807) : node_digits.f s = some (digs (bs s)) := by
  unfold node_digits.f digs
  rw [toList_bs]
  by_cases h : bs s = []
  · rw [if_pos h, h]; rfl
  · rw [if_neg h]
    unfold strings_Trim.f
    rw [if_pos hs, if_pos (by decide), if_pos (by decide), Option.bind_some, toList_bs]
    have e : (bs s).all dig = (bs s).all (([48, 49, 50, 51, 52, 53, 54, 55, 56, 57] : List UInt8).contains ·) := by
      congr 1; funext c; exact (dig_set c).symm
    have he : (bs s).isEmpty = false := by cases hb : bs s with
      | nil => exact absurd hb h
      | cons x r => rfl
    rw [he, Bool.not_false, Bool.true_and, e]
    congr 1
    rw [Bool.eq_iff_iff, beq_iff_eq]
    exact trimS_nil (bs s) [48, 49, 50, 51, 52, 53, 54, 55, 56, 57]
/-- A text, cut at its first point. -/
def cutd : List UInt8 → Option (List UInt8 × List UInt8)
  | [] => none
  | c :: r => if c = 46 then some ([], r) else (cutd r).map fun p => (c :: p.1, p.2)
theorem cutd_none : ∀ {l : List UInt8}, Lib.indexByte l 46 = -1 → cutd l = none
  | [], _ => rfl
  | c :: r, h => by
    unfold Lib.indexByte at h
    unfold cutd
    by_cases hc : c = 46
    · simp [hc] at h
    · rw [if_neg hc]
      rw [if_neg (by simpa using hc)] at h
      by_cases h2 : Lib.indexByte r 46 = -1
      · rw [cutd_none h2]; rfl
      · have := Lib.indexByte_ge r 46
        rw [if_neg (by simpa using h2)] at h
        omega
theorem cutd_some : ∀ {l : List UInt8} {i : Nat}, Lib.indexByte l 46 = i → i < l.length ∧ cutd l = some (l.take i, l.drop (i + 1))
  | [], i, h => by simp [Lib.indexByte] at h
  | c :: r, i, h => by
    unfold Lib.indexByte at h
    unfold cutd
    by_cases hc : c = 46
    · rw [if_pos (by simpa using hc)] at h
      obtain rfl : i = 0 := by omega
      rw [if_pos hc]
      exact ⟨by simp, rfl⟩
    · rw [if_neg hc]
      rw [if_neg (by simpa using hc)] at h
      by_cases h2 : Lib.indexByte r 46 = -1
      · rw [if_pos (by simpa using h2)] at h; omega
      · have := Lib.indexByte_ge r 46
        rw [if_neg (by simpa using h2)] at h
        obtain ⟨i, rfl⟩ : ∃ m, i = m + 1 := ⟨i - 1, by omega⟩
        obtain ⟨h3, h4⟩ := cutd_some (l := r) (i := i) (by omega)
        rw [h4]
        exact ⟨by simpa using h3, rfl⟩
/-- The texts of numbers. -/
def numT (l : List UInt8) : Bool := decide (l.length ≤ 20) && match cutd l with
  | none => digs l
  | some p => digs p.1 && digs p.2
theorem bs_extract (s : ByteArray) (i j : Nat) : bs (s.extract i j) = (bs s).extract i j := by
  unfold bs
  rw [ByteArray.data_extract, Array.toList_extract]
theorem nNum_ev (s : ByteArray) : node_Number.f s = some (numT (bs s)) := by
  have hl := bs_len s
  unfold node_Number.f numT
  by_cases h1 : s.size > 20
  · rw [if_pos (by omega), decide_eq_false (by omega)]; rfl
  · rw [if_neg (by omega), decide_eq_true (by omega), Bool.true_and]
    unfold strings_Cut.f stringslite_Cut.f stringslite_Index.f
    rw [if_pos (by rfl), Option.bind_some]
    have hge := Lib.indexByte_ge (bs s) 46
    by_cases h2 : Lib.indexByte (bs s) 46 = -1
    · rw [cutd_none h2]
      rw [if_neg (by show ¬ Lib.indexByte (bs s) 46 ≥ 0; omega), Option.bind_some, Option.bind_some, digits_ev s (by omega), Option.bind_some]
      cases digs (bs s) <;> rfl
    · obtain ⟨i, hi⟩ : ∃ i : Nat, Lib.indexByte (bs s) 46 = i := ⟨(Lib.indexByte (bs s) 46).toNat, by omega⟩
      obtain ⟨h3, h4⟩ := cutd_some hi
      rw [h4]
      have e : Lib.indexByte s.data.toList (((⟨#[46]⟩ : ByteArray).data.toList).headD 0) = (i : Int) := hi
      have w : wrap64 ((i : Int) + (((⟨#[46]⟩ : ByteArray).size : Nat) : Int)) = ((i + 1 : Nat) : Int) := by
        rw [show (((⟨#[46]⟩ : ByteArray).size : Nat) : Int) = 1 from rfl, wrap64_id (by omega) (by omega)]; omega
      rw [e, w, if_pos (by omega), if_pos (by omega), if_pos (by omega), if_pos (by omega), if_pos (by omega), Option.bind_some, Option.bind_some, Int.toNat_natCast, Int.toNat_natCast]
      have z1 : (s.extract 0 i).size ≤ 9223372036854775807 := by rw [ByteArray.size_extract]; omega
      have z2 : (s.extract (i + 1) s.size).size ≤ 9223372036854775807 := by rw [ByteArray.size_extract]; omega
      have e1 : bs (s.extract 0 i) = (bs s).take i := by rw [bs_extract]; simp [List.extract]
      have e2 : bs (s.extract (i + 1) s.size) = (bs s).drop (i + 1) := by
        rw [bs_extract, ← hl]
        show ((bs s).drop (i + 1)).take ((bs s).length - (i + 1)) = _
        exact List.take_of_length_le (by rw [List.length_drop]; omega)
      rw [digits_ev _ z1, Option.bind_some, digits_ev _ z2, e1, e2]
      show _ = some (digs ((bs s).take i) && digs ((bs s).drop (i + 1)))
      generalize digs ((bs s).take i) = b1
      generalize digs ((bs s).drop (i + 1)) = b2
      cases b1 <;> cases b2 <;> rfl
/-- The reference's loop over a text, of n bytes, from the byte j on, after p points. -/
def rN (n : Nat) : Nat → Nat → List UInt8 → Bool
  | _, p, [] => decide (0 < n) && decide (n ≤ 20) && decide (p ≤ 1)
  | j, p, c :: r => if c = 46 ∧ 0 < j ∧ r ≠ [] then rN n (j + 1) (p + 1) r else if dig c = true then rN n (j + 1) p r else false
theorem dig46 : dig 46 = false := by decide
theorem rN_late (n : Nat) : ∀ (l : List UInt8) (j p : Nat), 1 ≤ p → rN n j p l = (decide (p ≤ 1) && l.all dig && decide (0 < n) && decide (n ≤ 20))
  | [], j, p, hp => by
    unfold rN
    simp only [List.all_nil, Bool.and_true]
    cases decide (0 < n) <;> cases decide (n ≤ 20) <;> cases decide (p ≤ 1) <;> rfl
  | c :: r, j, p, hp => by
    unfold rN
    rw [List.all_cons]
    by_cases h : c = 46 ∧ 0 < j ∧ r ≠ []
    · rw [if_pos h, rN_late n r (j + 1) (p + 1) (by omega), h.1, dig46, decide_eq_false (show ¬ p + 1 ≤ 1 by omega)]
      simp
    · rw [if_neg h]
      cases hd : dig c with
      | true => rw [if_pos rfl, rN_late n r (j + 1) p hp, Bool.true_and]
      | false => simp
theorem rN_first (n : Nat) : ∀ (l : List UInt8) (j : Nat), rN n j 0 l = (decide (n ≤ 20) && decide (0 < n) && match cutd l with
    | none => l.all dig
    | some p => p.1.all dig && decide (0 < j + p.1.length) && digs p.2)
  | [], j => by
    unfold rN cutd
    simp only [List.all_nil, Bool.and_true]
    cases decide (0 < n) <;> cases decide (n ≤ 20) <;> rfl
  | c :: r, j => by
    unfold rN cutd
    by_cases hc : c = 46
    · rw [if_pos hc]
      by_cases h : 0 < j ∧ r ≠ []
      · rw [if_pos ⟨hc, h⟩, rN_late n r (j + 1) (0 + 1) (by omega)]
        have hr : r.isEmpty = false := by cases r with
          | nil => exact absurd rfl h.2
          | cons x r => rfl
        simp only [List.all_nil, List.length_nil, Nat.add_zero, decide_eq_true h.1, digs, hr]
        cases r.all dig <;> cases decide (0 < n) <;> cases decide (n ≤ 20) <;> rfl
      · rw [if_neg (fun h' => h h'.2), hc, dig46, if_neg Bool.false_ne_true]
        by_cases hj : 0 < j
        · have hr : r = [] := Classical.byContradiction fun h' => h ⟨hj, h'⟩
          subst hr
          simp [digs]
        · simp only [List.all_nil, List.length_nil, Nat.add_zero, decide_eq_false hj]
          simp
    · rw [if_neg (fun h => hc h.1), if_neg hc]
      cases hd : dig c with
      | true =>
        rw [if_pos rfl, rN_first n r (j + 1)]
        cases cutd r with
        | none => simp [hd]
        | some p => simp [hd, show 0 < j + 1 + p.1.length by omega, show 0 < j + (p.1.length + 1) by omega]
      | false =>
        cases cutd r with
        | none => simp [hd]
        | some p => simp [hd]
theorem rN_num (l : List UInt8) : rN l.length 0 0 l = numT l := by
  rw [rN_first]
  unfold numT
  cases h : cutd l with
  | none =>
    cases l with
    | nil => simp [digs]
    | cons x r => simp [digs]
  | some p =>
    have hl : 0 < l.length := by
      cases l with
      | nil => simp [cutd] at h
      | cons x r => simp
    rw [decide_eq_true hl]
    simp only [digs, Nat.zero_add, Bool.and_true]
    cases p.1 with
    | nil => simp
    | cons x r => simp
theorem rdigit_ev (c : UInt8) : vinculumref09_Digit.f (c.toNat : Int) = some (dig c) := by
  unfold vinculumref09_Digit.f dig
  by_cases h1 : (c.toNat : Int) ≥ 48
  · rw [if_pos h1]
    by_cases h2 : (c.toNat : Int) ≤ 57
    · rw [decide_eq_true h2, decide_eq_true (by omega)]
    · rw [decide_eq_false h2, decide_eq_false (by omega)]
  · rw [if_neg h1, decide_eq_false (by omega)]
theorem rNum_ev (s : ByteArray) (hs : s.size ≤ 9223372036854775807) : Ev (fun k => vinculumref09_Number.f k s) (numT (bs s)) := by
  have hl := bs_len s
  have loop : ∀ (d j p : Nat), (bs s).length - j = d → j ≤ (bs s).length → p ≤ j → Ev (fun k => vinculumref09_Number.l0 k s (p : Int) (j : Int)) (rN (bs s).length j p ((bs s).drop j)) := by
    intro d
    induction d with
    | zero =>
      intro j p hd hj hp
      obtain rfl : j = (bs s).length := by omega
      rw [List.drop_length]
      unfold rN
      by_cases h0 : 0 < s.size
      · by_cases h1 : s.size ≤ 20
        · apply Ev.step
          · intro k; rw [vinculumref09_Number.l0, if_neg (by omega), if_pos (by omega), if_pos (by omega)]
          rw [hl, decide_eq_true h0, decide_eq_true h1, show decide (p ≤ 1) = decide ((p : Int) ≤ 1) by congr 1; rw [eq_iff_iff]; omega]
          exact Ev.now _
        · apply Ev.step
          · intro k; rw [vinculumref09_Number.l0, if_neg (by omega), if_pos (by omega), if_neg (by omega)]
          rw [hl, decide_eq_false h1, Bool.and_false, Bool.false_and]
          exact Ev.now _
      · apply Ev.step
        · intro k; rw [vinculumref09_Number.l0, if_neg (by omega), if_neg (by omega)]
        rw [hl, decide_eq_false h0, Bool.false_and, Bool.false_and]
        exact Ev.now _
    | succ d ihd =>
      intro j p hd hj hp
      have hlt : j < (bs s).length := by omega
      rw [drop_at hlt]
      unfold rN
      have hr : (bs s).drop (j + 1) ≠ [] ↔ j + 1 < (bs s).length := by
        rw [ne_eq, List.drop_eq_nil_iff]; omega
      have w1 : wrap64 ((j : Int) + 1) = ((j + 1 : Nat) : Int) := by rw [wrap64_id (by omega) (by omega)]; omega
      have w2 : wrap64 ((p : Int) + 1) = ((p + 1 : Nat) : Int) := by rw [wrap64_id (by omega) (by omega)]; omega
      have w3 : wrap64 ((s.size : Int) - 1) = (s.size : Int) - 1 := wrap64_id (by omega) (by omega)
      have no : (¬((bs s)[j] = 46 ∧ 0 < j ∧ (bs s).drop (j + 1) ≠ [])) → Ev (fun k => vinculumref09_Number.j1 k s (p : Int) (j : Int) false) (if (bs s)[j] = 46 ∧ 0 < j ∧ (bs s).drop (j + 1) ≠ [] then rN (bs s).length (j + 1) (p + 1) ((bs s).drop (j + 1)) else if dig (bs s)[j] = true then rN (bs s).length (j + 1) p ((bs s).drop (j + 1)) else false) := by
        intro h
        rw [if_neg h]
        apply Ev.step
        · intro k; rw [vinculumref09_Number.j1, if_neg Bool.false_ne_true, if_pos (by omega), if_pos (by omega), bt_bs hlt, rdigit_ev, Option.bind_some, w1]
        cases hd : dig (bs s)[j] with
        | true => exact ihd (j + 1) p (by omega) (by omega) (by omega)
        | false => exact Ev.now false
      by_cases hc : (bs s)[j] = 46
      · have hb : bt s (j : Int) = 46 := by rw [bt_bs hlt, hc]; rfl
        by_cases h0 : 0 < j
        · apply Ev.step
          · intro k; rw [vinculumref09_Number.l0, if_pos (by omega), if_pos (by omega), if_pos hb, if_pos (by omega), w3]
          by_cases h1 : j + 1 < (bs s).length
          · rw [decide_eq_true (by omega), if_pos ⟨hc, h0, hr.2 h1⟩]
            apply Ev.step
            · intro k; rw [vinculumref09_Number.j1, if_pos rfl, w1, w2]
            exact ihd (j + 1) (p + 1) (by omega) (by omega) (by omega)
          · rw [decide_eq_false (by omega)]
            exact no (fun h => h1 (hr.1 h.2.2))
        · apply Ev.step
          · intro k; rw [vinculumref09_Number.l0, if_pos (by omega), if_pos (by omega), if_pos hb, if_neg (by omega)]
          exact no (fun h => h0 h.2.1)
      · have hb : ¬ bt s (j : Int) = 46 := by
          rw [bt_bs hlt]
          intro h
          exact hc (UInt8.toNat.inj (by have : (46 : UInt8).toNat = 46 := rfl; omega))
        apply Ev.step
        · intro k; rw [vinculumref09_Number.l0, if_pos (by omega), if_pos (by omega), if_neg hb]
        exact no (fun h => hc h.1)
  have := loop _ 0 0 rfl (by omega) (by omega)
  rw [List.drop_zero, rN_num] at this
  exact this
end Go.Proofs.YtnimhdhnjfoalaaGreatDoor.A
