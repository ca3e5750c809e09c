/- How what came in reads as trees and lists: each kind laid open once. -/
import Derived.Test.YtnimhdhnjfoalaaGreatDoorAx0
import Derived.ChangeArms
import Derived.ChangeShapes
import Derived.WideShapes
import Derived.DataReads
namespace Go.Proofs.YtnimhdhnjfoalaaGreatDoor.A
open Go.RowKit Go.Proofs.YtnimhdhnjfoalaaGreatDoorW.PrintWords Go.Proofs.YtnimhdhnjfoalaaGreatDoorW.PrintLast Go.Proofs.YtnimhdhnjfoalaaGreatDoorW.PrintMore
open Go.ChangeShapes Go.WideShapes
set_option linter.unusedVariables false
set_option linter.unusedSimpArgs false
theorem addr_add_add (a : Addr) (x y : Nat) : (a.add x).add y = a.add (x + y) := by
  obtain ⟨b, o, f⟩ := a
  unfold Addr.add
  by_cases h1 : x = 0 <;> by_cases h2 : y = 0 <;> simp [h1, h2, Nat.add_assoc]

theorem list_of {α : Type} {R : Nat → α → Prop} : ∀ (n : Nat), (∀ i, i < n → ∃ a, R i a) → ∃ l : List α, l.length = n ∧ ∀ i a, l[i]? = some a → R i a
  | 0, _ => ⟨[], rfl, fun i a h => by simp at h⟩
  | n + 1, h => by
    obtain ⟨l, hl, hr⟩ := list_of n (fun i hi => h i (by omega))
    obtain ⟨a, ha⟩ := h n (by omega)
    refine ⟨l ++ [a], by simp [hl], fun i b hb => ?_⟩
    by_cases hi : i < n
    · exact hr i b (by rwa [List.getElem?_append_left (by omega)] at hb)
    · rw [List.getElem?_append_right (by omega)] at hb
      have : i = n := by
        by_cases e : i = n
        · exact e
        · rw [List.getElem?_eq_none (by simp; omega)] at hb; cases hb
      subst this
      rw [hl, Nat.sub_self] at hb
      obtain rfl := Option.some.inj hb
      exact ha

theorem opn_slice {α : Type} {H : Type} {enc : TypeId × Value → H} {P : Program} {w : World} {spare : Nat → Bool} {held : Bool} {d : Kd α} {Q : α → Prop} {e t fuel : Nat} (ht : P.underlying t = some (.slice e)) (hsz : d.sz = P.cellsOf e)
    (ih : ∀ n, n < fuel → ∀ cs x, DataW.trod enc P w 0 spare held n e cs = some x → ∃ a, d.K w a cs ∧ Q a) {cs : List Value} {x : DataW H × List MemPlace} (h : DataW.trod enc P w 0 spare held fuel t cs = some x) :
    ∃ (A : Option Addr) (c : Nat) (xs : List α), cs = [.slice A xs.length c] ∧ xs.length ≤ c ∧ c ≤ maxLen ∧ d.C w A xs.length xs ∧ ∀ a, a ∈ xs → Q a := by
  rcases DataW.trod_slice ht h with ⟨rfl, rfl⟩ | ⟨a, len, cap, elems, rest, n, rfl, rfl, rfl, hb, hl, hc, hel, hall, _, _⟩
  · exact ⟨none, 0, [], rfl, Nat.le_refl _, Nat.zero_le _, Kd.C_nil d w, fun a h => by simp at h⟩
  · have hget : ∀ i, i < len → ∃ y, (∃ c, c.length = d.sz ∧ d.K w y c ∧ (∀ j u, c[j]? = some u → w.cell? (a.add (i * d.sz + j)) = some u)) ∧ Q y := by
      intro i hi
      have hq := hall i hi
      rw [List.getElem?_eq_getElem (by omega)] at hq
      obtain ⟨c, hcells, ht⟩ := Option.bind_eq_some_iff.mp hq
      obtain ⟨y, hK, hQ⟩ := ih n (by omega) c _ ht
      refine ⟨y, ⟨c, d.K_len hK, hK, fun j u hj => ?_⟩, hQ⟩
      unfold World.cells? at hcells
      rw [if_pos (Nat.zero_le _)] at hcells
      have hlen := mapM_some_length hcells
      have hjl : j < P.cellsOf e := by
        have := List.getElem?_eq_some_iff.mp hj
        obtain ⟨h1, _⟩ := this
        rw [hlen, List.length_range] at h1
        exact h1
      have hz := mapM_some_get hcells j j (by simp [hjl])
      rw [hj] at hz
      rw [hsz]
      rwa [addr_add_add] at hz
    obtain ⟨xs, hxl, hxr⟩ := list_of len hget
    subst hxl
    refine ⟨some a, cap, xs, rfl, hl, hc, ⟨rfl, ?_, fun _ => ⟨a, rfl, fun j p hp => (hxr j p hp).1⟩⟩, fun y hy => ?_⟩
    · have : maxLen = 9223372036854775807 := rfl
      omega
    · obtain ⟨j, hj⟩ := List.getElem?_of_mem hy
      exact (hxr j y hj).2
theorem opn_int {H : Type} {enc : TypeId × Value → H} {P : Program} {w : World} {base : Nat} {spare : Nat → Bool} {held : Bool} {k : IntKind} {t fuel : Nat} (ht : P.underlying t = some (.int k)) {cs : List Value} {x : DataW H × List MemPlace} (h : DataW.trod enc P w base spare held fuel t cs = some x) : ∃ a, (Kd.int k).K w a cs ∧ (Lit.int k a).wf = true := by
  obtain ⟨n, e, _, hw⟩ := DataW.trod_int ht h
  exact ⟨n, e, hw⟩
theorem opn_bool {H : Type} {enc : TypeId × Value → H} {P : Program} {w : World} {base : Nat} {spare : Nat → Bool} {held : Bool} {t fuel : Nat} (ht : P.underlying t = some .bool) {cs : List Value} {x : DataW H × List MemPlace} (h : DataW.trod enc P w base spare held fuel t cs = some x) : ∃ a, Kd.bool.K w a cs ∧ True := by
  obtain ⟨n, e, _⟩ := DataW.trod_bool ht h
  exact ⟨n, e, trivial⟩
theorem opn_str {H : Type} {enc : TypeId × Value → H} {P : Program} {w : World} {base : Nat} {spare : Nat → Bool} {held : Bool} {t fuel : Nat} (ht : P.underlying t = some .string) {cs : List Value} {x : DataW H × List MemPlace} (h : DataW.trod enc P w base spare held fuel t cs = some x) : ∃ a, Kd.string.K w a cs ∧ a.size ≤ maxLen := by
  obtain ⟨n, e, _, hw⟩ := DataW.trod_string ht h
  exact ⟨n, e, hw⟩
theorem opn_row {α : Type} {w : World} {d : Kd α} {Q : α → Prop} {e : Nat} {cs : List Value} (h : ∃ (A : Option Addr) (c : Nat) (xs : List α), cs = [.slice A xs.length c] ∧ xs.length ≤ c ∧ c ≤ maxLen ∧ d.C w A xs.length xs ∧ ∀ a, a ∈ xs → Q a) : ∃ xs, (Kd.slice e d).K w xs cs ∧ (xs.length ≤ maxLen ∧ ∀ a, a ∈ xs → Q a) := by
  obtain ⟨A, c, xs, rfl, l, m, g, q⟩ := h
  exact ⟨xs, ⟨A, c, rfl, l, g⟩, Nat.le_trans l m, q⟩

theorem cells3 : Tryz.prog.cellsOf 3 = 1 := by kernel_rfl
theorem cells9 : Tryz.prog.cellsOf 9 = 1 := by kernel_rfl
theorem cells24 : Tryz.prog.cellsOf 24 = 1 := by kernel_rfl
theorem cells26 : Tryz.prog.cellsOf 26 = 4 := by kernel_rfl
inductive Wf26 : S26 → Prop
  | mk {f0 : Int} {f1 : ByteArray} {f2 : Int} {f3 : List (S26)} (h0 : (Lit.int .i64 f0).wf = true) (h1 : f1.size ≤ maxLen) (h2 : (Lit.int .i64 f2).wf = true) (h3 : f3.length ≤ maxLen) (u3 : ∀ a, a ∈ f3 → Wf26 a) : Wf26 ⟨f0, f1, f2, f3⟩
theorem Wf26.w0 {x : S26} (h : Wf26 x) : (Lit.int .i64 x.f0).wf = true := by
  cases h with
  | mk h0 h1 h2 h3 u3 => exact h0
theorem Wf26.w1 {x : S26} (h : Wf26 x) : x.f1.size ≤ maxLen := by
  cases h with
  | mk h0 h1 h2 h3 u3 => exact h1
theorem Wf26.w2 {x : S26} (h : Wf26 x) : (Lit.int .i64 x.f2).wf = true := by
  cases h with
  | mk h0 h1 h2 h3 u3 => exact h2
theorem Wf26.w3 {x : S26} (h : Wf26 x) : x.f3.length ≤ maxLen ∧ ∀ a, a ∈ x.f3 → Wf26 a := by
  cases h with
  | mk h0 h1 h2 h3 u3 => exact ⟨h3, u3⟩
set_option maxRecDepth 100000 in
theorem opn_26 {H : Type} {enc : TypeId × Value → H} {w : World} {spare : Nat → Bool} {held : Bool} (fuel : Nat) : ∀ (cs : List Value) (x : DataW H × List MemPlace), DataW.trod enc Tryz.prog w 0 spare held fuel 26 cs = some x → ∃ s : S26, k26.K w s cs ∧ Wf26 s := by
  induction fuel using Nat.strongRecOn with
  | _ fuel ih =>
  intro cs x h
  obtain ⟨xs, n, rfl, rfl, hl, hxl, hf⟩ := DataW.trod_struct Tryz.underlying26 h
  rw [cells26] at hl
  match cs, hl with
  | [c0, c1, c2, c3], _ =>
  match xs, hxl with
  | [y0, y1, y2, y3], _ =>
  have q0 : DataW.trod enc Tryz.prog w 0 spare held n 3 [c0] = some y0 := by
    have z : DataW.trod enc Tryz.prog w 0 spare held n 3 (([c0, c1, c2, c3].drop 0).take (Tryz.prog.cellsOf 3)) = [y0, y1, y2, y3][0]? := hf 0 _ rfl
    rw [cells3] at z
    exact z
  have q1 : DataW.trod enc Tryz.prog w 0 spare held n 9 [c1] = some y1 := by
    have z : DataW.trod enc Tryz.prog w 0 spare held n 9 (([c0, c1, c2, c3].drop 1).take (Tryz.prog.cellsOf 9)) = [y0, y1, y2, y3][1]? := hf 1 _ rfl
    rw [cells9] at z
    exact z
  have q2 : DataW.trod enc Tryz.prog w 0 spare held n 3 [c2] = some y2 := by
    have z : DataW.trod enc Tryz.prog w 0 spare held n 3 (([c0, c1, c2, c3].drop 2).take (Tryz.prog.cellsOf 3)) = [y0, y1, y2, y3][2]? := hf 2 _ rfl
    rw [cells3] at z
    exact z
  have q3 : DataW.trod enc Tryz.prog w 0 spare held n 24 [c3] = some y3 := by
    have z : DataW.trod enc Tryz.prog w 0 spare held n 24 (([c0, c1, c2, c3].drop 3).take (Tryz.prog.cellsOf 24)) = [y0, y1, y2, y3][3]? := hf 3 _ rfl
    rw [cells24] at z
    exact z
  obtain ⟨x0, e0, _, w0⟩ := DataW.trod_int Tryz.underlying3 q0
  obtain ⟨x1, e1, _, w1⟩ := DataW.trod_string Tryz.underlying9 q1
  obtain ⟨x2, e2, _, w2⟩ := DataW.trod_int Tryz.underlying3 q2
  obtain ⟨A3, cap3, x3, e3, l3, m3, g3, w3⟩ := opn_slice (d := k26) (Q := Wf26) Tryz.underlying24 (by rw [cells26]; rfl) (fun n_ hn_ => ih n_ (by omega)) q3
  simp only [List.cons.injEq, and_true] at e0 e1 e2 e3
  subst e0 e1 e2 e3
  exact ⟨⟨x0, x1, x2, x3⟩, k26_mk w ⟨x0, x1, x2, x3⟩ l3 g3, .mk w0 w1 w2 (Nat.le_trans l3 m3) w3⟩
end Go.Proofs.YtnimhdhnjfoalaaGreatDoor.A
