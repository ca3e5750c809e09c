/- Plain laws: the texts of nodes, as the program and as the reference tell them. -/
import Derived.Test.YtnimhdhnjfoalaaGreatDoorAx3
import Derived.Test.YtnimhdhnjfoalaaGreatDoorPl1
import Derived.Lib.IndexLaws
import Derived.Lib.IndexAny
import Derived.Lib.SlTrimSet
namespace Go.Proofs.YtnimhdhnjfoalaaGreatDoor.A
open Go.RowKit Go.Proofs.YtnimhdhnjfoalaaGreatDoorW.PrintWords Go.Proofs.YtnimhdhnjfoalaaGreatDoorW.PrintLast Go.Proofs.YtnimhdhnjfoalaaGreatDoorW.PrintMore
set_option linter.unusedVariables false

abbrev bs (s : ByteArray) : List UInt8 := s.data.toList
theorem bs_len (s : ByteArray) : (bs s).length = s.size := data_length s
theorem bt_bs {s : ByteArray} {j : Nat} (h : j < (bs s).length) : bt s (j : Int) = (((bs s)[j].toNat : Nat) : Int) := by
  have hs := bs_len s
  unfold bt
  rw [dif_pos (by rw [Int.toNat_natCast]; omega)]
  rfl
def ltr (c : UInt8) : Bool := decide (97 ≤ c.toNat ∧ c.toNat ≤ 122) || decide (65 ≤ c.toNat ∧ c.toNat ≤ 90)
theorem letter_ev (c : UInt8) : node_letter.f (c.toNat : Int) = some (ltr c) := by
  unfold node_letter.f ltr
  by_cases h1 : (c.toNat : Int) ≥ 97
  · rw [if_pos h1]
    by_cases h2 : (c.toNat : Int) ≤ 122
    · rw [if_pos h2, decide_eq_true (p := 97 ≤ c.toNat ∧ c.toNat ≤ 122) (by omega)]; rfl
    · rw [if_neg h2, if_pos (by omega), decide_eq_false (p := 97 ≤ c.toNat ∧ c.toNat ≤ 122) (by omega), decide_eq_false (p := 65 ≤ c.toNat ∧ c.toNat ≤ 90) (by omega), decide_eq_false (by omega)]; rfl
  · rw [if_neg h1, decide_eq_false (p := 97 ≤ c.toNat ∧ c.toNat ≤ 122) (by omega)]
    by_cases h3 : (c.toNat : Int) ≥ 65
    · rw [if_pos h3]
      by_cases h4 : (c.toNat : Int) ≤ 90
      · rw [decide_eq_true h4, decide_eq_true (p := 65 ≤ c.toNat ∧ c.toNat ≤ 90) (by omega)]; rfl
      · rw [decide_eq_false h4, decide_eq_false (p := 65 ≤ c.toNat ∧ c.toNat ≤ 90) (by omega)]; rfl
    · rw [if_neg h3, decide_eq_false (p := 65 ≤ c.toNat ∧ c.toNat ≤ 90) (by omega)]; rfl
theorem rletter_ev (c : UInt8) : vinculumref09_Letter.f (c.toNat : Int) = some (ltr c) := letter_ev c
def inB (L : List ByteArray) (s : ByteArray) : Bool := L.any fun t => decide (t.toList = s.toList)
theorem inB_hit {x s : ByteArray} (r : List ByteArray) (h : x.toList = s.toList) : inB (x :: r) s = true := by
  unfold inB
  rw [List.any_cons, decide_eq_true h, Bool.true_or]
theorem inB_miss {x s : ByteArray} (r : List ByteArray) (h : ¬x.toList = s.toList) : inB (x :: r) s = inB r s := by
  unfold inB
  rw [List.any_cons, decide_eq_false h, Bool.false_or]
theorem has_hit {x c : UInt8} (r : List UInt8) (h : x = c) : (x :: r).contains c = true := by
  rw [List.contains_cons, h, beq_self_eq_true, Bool.true_or]
theorem has_miss {x c : UInt8} (r : List UInt8) (h : ¬x = c) : (x :: r).contains c = r.contains c := by
  rw [List.contains_cons, beq_eq_false_iff_ne.2 (Ne.symm h), Bool.false_or]
theorem headD_get {l : List UInt8} (h : 0 < l.length) : l[0] = l.headD 0 := by
  cases l with
  | nil => simp at h
  | cons x r => rfl
theorem rdb_at {l : List ByteArray} {j : Nat} (h : j < l.length) : rdOf ByteArray.empty l (j : Int) = l[j] := by
  unfold rdOf
  rw [List.getD_eq_getElem?_getD, Int.toNat_natCast, List.getElem?_eq_getElem h]
  rfl
theorem in_ev (L : List ByteArray) (s : ByteArray) (hL : L.length ≤ 1000) : Ev (fun k => vinculumref09_In.f k L s) (inB L s) := by
  have loop : ∀ (d j : Nat), L.length - j = d → j ≤ L.length → Ev (fun k => vinculumref09_In.l0 k L s (j : Int)) (inB (L.drop j) s) := by
    intro d
    induction d with
    | zero =>
      intro j hd hj
      obtain rfl : j = L.length := by omega
      apply Ev.step
      · intro k; rw [vinculumref09_In.l0, if_neg (by omega)]
      rw [List.drop_length]
      exact Ev.now _
    | succ d ihd =>
      intro j hd hj
      have hlt : j < L.length := by omega
      rw [drop_at hlt]
      by_cases he : L[j].toList = s.toList
      · apply Ev.step
        · intro k; rw [vinculumref09_In.l0, if_pos (by omega), if_pos (by omega), rdb_at hlt, if_pos he]
        rw [inB_hit _ he]
        exact Ev.now _
      · apply Ev.step
        · intro k; rw [vinculumref09_In.l0, if_pos (by omega), if_pos (by omega), rdb_at hlt, if_neg he, wrap64_id (by omega) (by omega)]
        rw [inB_miss _ he]
        exact ihd (j + 1) (by omega) (by omega)
  have := loop _ 0 rfl (by omega)
  simpa [vinculumref09_In.f] using this
theorem scontains_ev (L : List ByteArray) (s : ByteArray) (hL : L.length ≤ 1000) : Ev (fun k => slices_Contains_string_string.f k L s) (inB L s) := by
  have loop : ∀ (d j : Nat), L.length - j = d → j ≤ L.length → ∃ r : Int, Ev (fun k => slices_Index_string_string.l0 k L s (L.length : Int) (j : Int)) r ∧ decide (r ≥ 0) = inB (L.drop j) s := by
    intro d
    induction d with
    | zero =>
      intro j hd hj
      obtain rfl : j = L.length := by omega
      refine ⟨-1, ?_, ?_⟩
      · apply Ev.step
        · intro k; rw [slices_Index_string_string.l0, if_neg (by omega)]
        exact Ev.now _
      · rw [List.drop_length]; rfl
    | succ d ihd =>
      intro j hd hj
      have hlt : j < L.length := by omega
      rw [drop_at hlt]
      by_cases he : L[j].toList = s.toList
      · refine ⟨(j : Int), ?_, ?_⟩
        · apply Ev.step
          · intro k; rw [slices_Index_string_string.l0, if_pos (by omega), if_pos (by omega), if_pos (by omega), rdb_at hlt, if_pos he.symm]
          exact Ev.now _
        · rw [inB_hit _ he]
          exact decide_eq_true (by omega)
      · obtain ⟨r, h1, h2⟩ := ihd (j + 1) (by omega) (by omega)
        refine ⟨r, ?_, ?_⟩
        · apply Ev.step
          · intro k; rw [slices_Index_string_string.l0, if_pos (by omega), if_pos (by omega), if_pos (by omega), rdb_at hlt, if_neg (fun h => he h.symm), wrap64_id (by omega) (by omega)]
          exact h1
        · rw [h2, inB_miss _ he]
  obtain ⟨r, h1, h2⟩ := loop _ 0 rfl (by omega)
  rw [List.drop_zero] at h2
  unfold slices_Contains_string_string.f
  refine Ev.bind (a := r) (by simpa [slices_Index_string_string.f] using h1) ?_
  rw [h2]
  exact Ev.now _
/-- A set of bytes that contains a byte: strings.Contains at one byte, and the reference's loop. -/
theorem contains_one_ev (S s : ByteArray) (h : s.size = 1) : strings_Contains.f S s = some ((bs S).contains ((bs s).headD 0)) := by
  unfold strings_Contains.f strings_Index.f stringslite_Index.f
  rw [if_pos h, Option.bind_some, Option.bind_some, Lib.contains_iff_indexByte]
theorem has_ev (S : ByteArray) (c : UInt8) (hS : S.size ≤ 1000) : Ev (fun k => vinculumref09_has.f k S (c.toNat : Int)) ((bs S).contains c) := by
  have hl := bs_len S
  have loop : ∀ (d j : Nat), (bs S).length - j = d → j ≤ (bs S).length → Ev (fun k => vinculumref09_has.l0 k S (c.toNat : Int) (j : Int)) (((bs S).drop j).contains c) := by
    intro d
    induction d with
    | zero =>
      intro j hd hj
      obtain rfl : j = (bs S).length := by omega
      apply Ev.step
      · intro k; rw [vinculumref09_has.l0, if_neg (by omega)]
      rw [List.drop_length]
      exact Ev.now _
    | succ d ihd =>
      intro j hd hj
      have hlt : j < (bs S).length := by omega
      rw [drop_at hlt]
      by_cases he : (bs S)[j] = c
      · apply Ev.step
        · intro k; rw [vinculumref09_has.l0, if_pos (by omega), if_pos (by omega), bt_bs hlt, if_pos (by rw [he])]
        rw [has_hit _ he]
        exact Ev.now _
      · apply Ev.step
        · intro k; rw [vinculumref09_has.l0, if_pos (by omega), if_pos (by omega), bt_bs hlt, if_neg (fun h => he (UInt8.toNat.inj (by omega))), wrap64_id (by omega) (by omega)]
        rw [has_miss _ he]
        exact ihd (j + 1) (by omega) (by omega)
  have := loop _ 0 rfl (by omega)
  simpa [vinculumref09_has.f] using this

def KW : List ByteArray := [(⟨#[102, 114, 97, 99]⟩ : ByteArray), (⟨#[114, 111, 111, 116]⟩ : ByteArray), (⟨#[109, 97, 116, 114, 105, 120]⟩ : ByteArray), (⟨#[102, 101, 110, 99, 101]⟩ : ByteArray)]
def AC : List ByteArray := [(⟨#[104, 97, 116]⟩ : ByteArray), (⟨#[98, 97, 114]⟩ : ByteArray), (⟨#[118, 101, 99]⟩ : ByteArray), (⟨#[100, 111, 116]⟩ : ByteArray), (⟨#[116, 105, 108, 100, 101]⟩ : ByteArray), (⟨#[99, 104, 101, 99, 107]⟩ : ByteArray)]
def SY : ByteArray := ⟨#[43, 45, 42, 47, 61, 60, 62, 44, 59, 58, 33, 124, 39, 63, 126, 64]⟩
/-- The texts of symbols. -/
def symT (s : ByteArray) : Bool := if s.size = 1 then ltr ((bs s).headD 0) || (bs SY).contains ((bs s).headD 0) else decide (2 ≤ s.size) && decide (s.size ≤ 16) && !inB AC s && !inB KW s && (bs s).all ltr
theorem bt0 {s : ByteArray} (h : 0 < s.size) : bt s 0 = ((((bs s).headD 0).toNat : Nat) : Int) := by
  have hl := bs_len s
  have := bt_bs (s := s) (j := 0) (by omega)
  rw [show ((0 : Nat) : Int) = 0 from rfl] at this
  rw [this, headD_get]
theorem nSym_ev (s : ByteArray) (hs : s.size ≤ 9223372036854775807) : Ev (fun k => node_Symbol.f k s) (symT s) := by
  have hl := bs_len s
  have loop : ∀ (d j : Nat), (bs s).length - j = d → j ≤ (bs s).length → Ev (fun k => node_Symbol.l0 k s (s.size : Int) (j : Int)) (((bs s).drop j).all ltr) := by
    intro d
    induction d with
    | zero =>
      intro j hd hj
      obtain rfl : j = (bs s).length := by omega
      apply Ev.step
      · intro k; rw [node_Symbol.l0, if_neg (by omega)]
      rw [List.drop_length]
      exact Ev.now _
    | succ d ihd =>
      intro j hd hj
      have hlt : j < (bs s).length := by omega
      rw [drop_at hlt, List.all_cons]
      apply Ev.step
      · intro k; rw [node_Symbol.l0, if_pos (by omega), if_pos (by omega), if_pos (by omega), bt_bs hlt, letter_ev, Option.bind_some, wrap64_id (by omega) (by omega)]
      cases hc : ltr (bs s)[j] with
      | true => simpa using ihd (j + 1) (by omega) (by omega)
      | false => simpa using Ev.now false
  have j0 : ∀ b : Bool, Ev (fun k => node_Symbol.j0 k s b) (!b && (bs s).all ltr) := by
    intro b
    cases b with
    | true =>
      apply Ev.step
      · intro k; rw [node_Symbol.j0, if_pos rfl]
      exact Ev.now _
    | false =>
      apply Ev.step
      · intro k; rw [node_Symbol.j0, if_neg Bool.false_ne_true]
      simpa using loop _ 0 rfl (by omega)
  unfold node_Symbol.f symT
  by_cases h1 : s.size = 1
  · rw [if_pos h1]
    apply Ev.congr
    · intro k; rw [if_pos (by omega), if_pos (by omega), bt0 (by omega), letter_ev, Option.bind_some, contains_one_ev _ s h1, Option.bind_some]
    cases hc : ltr ((bs s).headD 0) with
    | true => exact Ev.now true
    | false => exact Ev.now ((bs SY).contains ((bs s).headD 0))
  · rw [if_neg h1]
    by_cases h2 : s.size < 2
    · apply Ev.congr
      · intro k; rw [if_neg (by omega), if_pos (by omega)]
      rw [decide_eq_false (by omega)]
      simpa using j0 true
    · by_cases h3 : s.size > 16
      · apply Ev.congr
        · intro k; rw [if_neg (by omega), if_neg (by omega), if_pos (by omega)]
        rw [decide_eq_true (show 2 ≤ s.size by omega), decide_eq_false (show ¬ s.size ≤ 16 by omega)]
        simpa using j0 true
      · apply Ev.congr
        · intro k; rw [if_neg (by omega), if_neg (by omega), if_neg (by omega)]
        rw [decide_eq_true (show 2 ≤ s.size by omega), decide_eq_true (show s.size ≤ 16 by omega)]
        unfold node_accent.f
        refine Ev.bind (a := inB AC s) (Ev.bind (scontains_ev AC s (by decide)) (Ev.now _)) ?_
        cases hA : inB AC s with
        | true => simpa using j0 true
        | false =>
          refine Ev.congr (f := fun k => (slices_Contains_string_string.f k KW s).bind fun t => node_Symbol.j0 k s t) (fun k => rfl) ?_
          refine Ev.bind (scontains_ev KW s (by decide)) ?_
          simpa using j0 (inB KW s)
theorem rSym_ev (s : ByteArray) (hs : s.size ≤ 9223372036854775807) : Ev (fun k => vinculumref09_Symbol.f k s) (symT s) := by
  have hl := bs_len s
  have tail : 2 ≤ s.size ∨ s.size = 0 → Ev (fun k => if (s.size : Int) ≥ 2 then (if (s.size : Int) ≤ 16 then ((vinculumref09_Keywords.f).bind fun t261 => ((vinculumref09_In.f k t261 s).bind fun t264 => (if t264 = true then (some false) else ((vinculumref09_Accents.f).bind fun t265 => ((vinculumref09_In.f k t265 s).bind fun t268 => (some (!t268))))))) else (some false)) else (some false)) (decide (2 ≤ s.size) && decide (s.size ≤ 16) && !inB AC s && !inB KW s) := by
    intro _
    by_cases h2 : 2 ≤ s.size
    · by_cases h3 : s.size ≤ 16
      · apply Ev.congr
        · intro k; rw [if_pos (by omega), if_pos (by omega), vinculumref09_Keywords.f, Option.bind_some, vinculumref09_Accents.f, Option.bind_some]
        refine Ev.bind (in_ev KW s (by decide)) ?_
        rw [decide_eq_true h2, decide_eq_true h3]
        cases hK : inB KW s with
        | true => simpa using Ev.now false
        | false =>
          refine Ev.congr (f := fun k => (vinculumref09_In.f k AC s).bind fun t => some (!t)) (fun k => rfl) ?_
          refine Ev.bind (in_ev AC s (by decide)) ?_
          simpa using Ev.now _
      · apply Ev.congr
        · intro k; rw [if_pos (by omega), if_neg (by omega)]
        rw [decide_eq_false h3]
        simpa using Ev.now false
    · apply Ev.congr
      · intro k; rw [if_neg (by omega)]
      rw [decide_eq_false h2]
      simpa using Ev.now false
  unfold vinculumref09_Symbol.f symT
  by_cases h1 : s.size = 1
  · rw [if_pos h1]
    apply Ev.congr
    · intro k; rw [if_pos (by omega), if_pos (by omega), bt0 (by omega), vinculumref09_Character.f, rletter_ev, Option.bind_some]
    cases hc : ltr ((bs s).headD 0) with
    | true => simpa using Ev.now true
    | false =>
      refine Ev.bind (a := (bs SY).contains ((bs s).headD 0)) ?_ (Ev.now _)
      refine Ev.congr (f := fun k => (vinculumref09_has.f k SY (((bs s).headD 0).toNat : Int)).bind fun t => some t) (fun k => rfl) ?_
      exact Ev.bind (has_ev SY _ (by decide)) (Ev.now _)
  · rw [if_neg h1]
    have loop : ∀ (d j : Nat), (bs s).length - j = d → j ≤ (bs s).length → Ev (fun k => vinculumref09_Symbol.l0 k s (j : Int)) (decide (2 ≤ s.size) && decide (s.size ≤ 16) && !inB AC s && !inB KW s && ((bs s).drop j).all ltr) := by
      intro d
      induction d with
      | zero =>
        intro j hd hj
        obtain rfl : j = (bs s).length := by omega
        apply Ev.step
        · intro k; rw [vinculumref09_Symbol.l0, if_neg (by omega)]
        rw [List.drop_length]
        simpa using tail (by omega)
      | succ d ihd =>
        intro j hd hj
        have hlt : j < (bs s).length := by omega
        rw [drop_at hlt, List.all_cons]
        apply Ev.step
        · intro k; rw [vinculumref09_Symbol.l0, if_pos (by omega), if_pos (by omega), bt_bs hlt, rletter_ev, Option.bind_some, wrap64_id (by omega) (by omega)]
        cases hc : ltr (bs s)[j] with
        | true => simpa using ihd (j + 1) (by omega) (by omega)
        | false => simpa using Ev.now false
    apply Ev.congr
    · intro k; rw [if_neg (by omega)]
    simpa using loop _ 0 rfl (by omega)
end Go.Proofs.YtnimhdhnjfoalaaGreatDoor.A
