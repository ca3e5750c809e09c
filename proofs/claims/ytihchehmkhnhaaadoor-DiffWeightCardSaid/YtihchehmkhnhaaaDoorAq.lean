/- Short words for steps that recur in this claim's walks. -/
import Derived.Test.YtihchehmkhnhaaaDoorAx0
namespace Go.Proofs.YtihchehmkhnhaaaDoor.A
open Go.RowKit Go.Proofs.YtihchehmkhnhaaaDoorW.PrintWords Go.Proofs.YtihchehmkhnhaaaDoorW.PrintLast Go.Proofs.YtihchehmkhnhaaaDoorW.PrintMore
theorem cl_ {w W : World} {p : Addr} {v : Value} (hb : Below w.heap.size w W) (h : w.cell? p = some v) : W.cell? p = w.cell? p := hb.cell (World.block_lt_of_cell? w _ h)
theorem ck_ {w W : World} {p : Addr} {v : Value} (hb : Below w.heap.size w W) (h : w.cell? p = some v) : W.cell? p = some v := (cl_ hb h).trans h
theorem cf_ {w W : World} {g j : Nat} {a b : Addr} {v : Value} (gw : w.heap.size ≤ g) (h : w.cell? b = some v) (u : Value) (e : a.block = b.block := by rfl) : (W.setCell ⟨g, j, none⟩ u).cell? a = W.cell? a :=
  cell_far (p := ⟨g, j, none⟩) (by rw [e]; exact Nat.ne_of_lt (Nat.lt_of_lt_of_le (World.block_lt_of_cell? w _ h) gw)) u
theorem bk_ {w W : World} {g : Nat} {o : Obj} (h : w.heap[g]? = some o) (e : w.heap[g]? = some o → W.heap[g]? = some o := by intro h; (with_reducible repeat (first | refine blk_drewN ?_ _ | refine blk_drew ?_ | refine blk_alloc ?_ _)); exact h) : W.heap[g]? = some o := e h
theorem bs0_ {w w1 W : World} {n : Nat} (h : Below n w w1) (e : Below n w w1 → Below n w W := by intro h; repeat (first | (with_reducible first | exact h | apply below_alloc | apply pw_below_drewN | apply below_drew1) | exact h)) : Below n w W := e h
theorem bs1_ {w w1 W : World} {n g : Nat} (h : Below n w w1) (g1 : n ≤ g) (e : Below n w w1 → n ≤ g → Below n w W := by intro h g1; repeat (first | (with_reducible first | exact h | apply below_alloc | apply pw_below_drewN | apply below_drew1 | refine below_set ?_ g1) | exact h)) : Below n w W := e h g1
theorem bs2_ {w w1 W : World} {n g f : Nat} (h : Below n w w1) (g1 : n ≤ g) (g2 : n ≤ f) (e : Below n w w1 → n ≤ g → n ≤ f → Below n w W := by intro h g1 g2; repeat (first | (with_reducible first | exact h | apply below_alloc | apply pw_below_drewN | apply below_drew1 | refine below_set ?_ g1 | refine below_set ?_ g2) | exact h)) : Below n w W := e h g1 g2
theorem kc_ {α : Type} {k : Kd α} {w w1 W : World} {A : Option Addr} {n : Nat} {l : List α} (h : Kd.C k w A n l) (hb : Below w.heap.size w w1) (e : Kd.C k w1 A n l → Kd.C k W A n l := by intro h; repeat (first | exact h | (with_reducible refine Kd.C_alloc ?_ _) | (with_reducible refine Kd.C_drewN ?_ _) | (with_reducible refine Kd.C_drew ?_))) : Kd.C k W A n l := e (Kd.C_below h hb)
def mk_ (n b : Nat) : Array Bool := ((List.range n).map fun i => b.testBit i).toArray
theorem an_ {md : Region.Mode} {ops : Array Oper} {T : Bool × List (List Nat × List Nat)} {l l' : Array Bool} {i : Nat} (hT : rtab md ops = T) (h : anyT T l.toList l'.toList i = true := by kernel_rfl) : anyB md ops l l' i = true := any_of hT h
theorem sp1_ {α : Type} : (∀ (xs : List α) (i : Nat) (a : α), xs.toArray.setIfInBounds i a = (xs.set i a).toArray) ∧ (∀ (x a : α) (xs : List α), (x :: xs).set 0 a = a :: xs) ∧ ∀ (x a : α) (xs : List α) (i : Nat), (x :: xs).set (i + 1) a = x :: xs.set i a := ⟨fun _ _ _ => by simp, fun _ _ _ => rfl, fun _ _ _ _ => rfl⟩
theorem sp2_ : (∀ n, IntKind.i64.wrap n = wrap64 n) ∧ ∀ n, IntKind.i32.wrap n = wrap32 n := ⟨i64_w, i32_w⟩
end Go.Proofs.YtihchehmkhnhaaaDoor.A
