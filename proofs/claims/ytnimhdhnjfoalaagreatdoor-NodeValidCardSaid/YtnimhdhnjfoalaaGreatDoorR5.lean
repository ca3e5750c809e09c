/- strings.Replacer of the pairs for a quoted text: sync.Once's slow road and Do. -/
import Derived.Test.YtnimhdhnjfoalaaGreatDoorR4
namespace Go.Proofs.YtnimhdhnjfoalaaGreatDoor.R
open Go.RowKit Go.Proofs.YtnimhdhnjfoalaaGreatDoorW.PrintWords Go.Proofs.YtnimhdhnjfoalaaGreatDoorW.PrintLast Go.Proofs.YtnimhdhnjfoalaaGreatDoorW.PrintMore
set_option linter.unusedVariables false
set_option linter.unusedSimpArgs false

theorem below_setB {w : World} {b : Nat} {o : Obj} (h : w.heap[b]? = some o) (j : Nat) (v : Value) : Below b w (w.setCell ⟨b, j, none⟩ v) := (Below.refl b w).setCell (p := ⟨b, j, none⟩) (Nat.le_refl _) v
theorem below_join {B : Nat} {w w1 w2 : World} (h : Below B w w1) (k : Below B w1 w2) : Below B w w2 := h.trans k
set_option maxRecDepth 100000 in
set_option maxHeartbeats 1600000 in
theorem slow_any (b g c : Nat) (w : World) (h : Raw b g c 0 w) (hgb : g ≠ b) :
    Calls Tryz.prog 109 #[.pointer (some ⟨b, 0, none⟩), .func (.func 96) #[.pointer (some ⟨b, 0, none⟩)] #[]] w (Once b 1 0 w) := by
  have hu1 := Tryz.underlying112
  have hu2 := Tryz.underlying108
  have hB1 := blk_put h.hb 1 (.int .i32 1) (cs' := #[.int .u32 0, .int .i32 1, .int .u32 0, .nilIface, .slice (some ⟨g, 0, none⟩) 4 c]) rfl
  have far : ∀ j : Nat, (w.setCell ⟨b, 1, none⟩ (.int .i32 1)).cell? ⟨g, j, none⟩ = w.cell? ⟨g, j, none⟩ := fun j => World.cell?_setCell_other _ _ _ _ (fun e => hgb (congrArg Addr.block e).symm)
  have hR1 : Raw b g c 1 (w.setCell ⟨b, 1, none⟩ (.int .i32 1)) := ⟨by simpa using h.gl, hB1, (far 0).trans h.s0, (far 1).trans h.s1, (far 2).trans h.s2, (far 3).trans h.s3⟩
  have hl := run_call_load (P := Tryz.prog) Tryz.func120 (by kernel_rfl) (by kernel_rfl) (by kernel_rfl) .u32 (by kernel_rfl) (w := w.setCell ⟨b, 1, none⟩ (.int .i32 1)) (a := ⟨b, 0, none⟩) (x := 0) ((blk_cell hB1 0).trans rfl)
  have hnot : ∀ (x : Bool) (w : World), (Op.unary .not (.bool x)).run Tryz.prog w = .ok (.bool (!x)) w := fun _ _ => rfl
  have e1 : w.cell? ⟨b, 1, none⟩ = some (.int .i32 0) := (blk_cell h.hb 1).trans rfl
  have f1 : w.frozen? ⟨b, 1, none⟩ = false := blk_frozen h.hb 1
  have HB := Lib.hid (below_setB h.hb 1 (.int .i32 1))
  have HR := Lib.hid hR1
  clear far hB1 hR1 h hgb
  go_enter_defers Tryz.func109, Tryz.ntmps109
  go_wp2_with (go_at_call 121; refine (lock_free ⟨b, 1, none⟩ _ e1 f1).mono ?_; rintro e w' ⟨rfl, rfl⟩)
  go_wp2_with (first | (go_at_call 96; refine (once_any b g c 1 _ HR.out).mono ?_; rintro e w1 ⟨rfl, m, n, r, c1, r', c2, hb1, hrep, hbel⟩; have K := Lib.hid (And.intro hb1 (And.intro hrep (below_join HB.out hbel))); clear hb1 hrep hbel) | (go_at_call 108; go_in))
  obtain ⟨hb1, hrep, hbel⟩ := K.out
  have hb2 := blk_put (blk_drew hb1) 0 (.int .u32 1) (cs' := #[.int .u32 1, .int .i32 1, .int .u32 0, .iface 148 (.pointer (some ⟨m, 0, none⟩)), .slice none 0 0]) rfl
  refine leaves_cons (f := 123) (args := #[.pointer (some ⟨b, 0, none⟩), .bool true]) (by simp) (by simp [go_sem]) ?_
  refine (store_deferred ⟨b, 0, none⟩ (.int .u32 0) .returning _ ((blk_cell hb1 0).trans rfl) (blk_frozen hb1 0)).mono ?_
  rintro e u' w'' ⟨rfl, rfl, rfl⟩
  refine leaves_cons (f := 122) (args := #[.pointer (some ⟨b, 1, none⟩)]) (by simp [settle]) (by simp [go_sem]) ?_
  refine (unlock_deferred ⟨b, 1, none⟩ _ _ ((blk_cell hb2 1).trans rfl) (blk_frozen hb2 1)).mono ?_
  rintro e u' w'' ⟨rfl, rfl, rfl⟩
  have fin : Once b 1 0 w (.returned (.tuple #[])) (((w1.drew).setCell ⟨b, 0, none⟩ (.int .u32 1)).setCell ⟨b, 1, none⟩ (.int .i32 0)) :=
    ⟨rfl, m, n, r, c1, r', c2, blk_put hb2 1 _ rfl, (hrep.drew.set 0 _).set 1 _, (hbel.drew.setCell (p := ⟨b, 0, none⟩) (Nat.le_refl _) _).setCell (p := ⟨b, 1, none⟩) (Nat.le_refl _) _⟩
  have FIN := Lib.hid fin
  clear fin
  simp [Leaves, settle, results, Tryz.results109]
  exact FIN.out
set_option maxRecDepth 100000 in
set_option maxHeartbeats 1600000 in
theorem do_first (b g c : Nat) (w : World) (h : Raw b g c 0 w) (hgb : g ≠ b) :
    Calls Tryz.prog 95 #[.pointer (some ⟨b, 0, none⟩), .func (.func 96) #[.pointer (some ⟨b, 0, none⟩)] #[]] w (Once b 1 0 w) := by
  have hu1 := Tryz.underlying112
  have hu2 := Tryz.underlying108
  have hl := run_call_load (P := Tryz.prog) Tryz.func120 (by kernel_rfl) (by kernel_rfl) (by kernel_rfl) .u32 (by kernel_rfl) (w := w) (a := ⟨b, 0, none⟩) (x := 0) ((blk_cell h.hb 0).trans rfl)
  have hnot : ∀ (x : Bool) (w : World), (Op.unary .not (.bool x)).run Tryz.prog w = .ok (.bool (!x)) w := fun _ _ => rfl
  have HC := Lib.hid (slow_any b g c w h hgb)
  clear h hgb
  go_enter Tryz.func95, Tryz.ntmps95
  go_wp2_with (first | (go_at_call 109; refine HC.out.mono ?_; rintro e w1 ⟨rfl, h1⟩; have K := Lib.hid h1; clear h1) | (go_at_call 108; go_in))
  go_end0
  exact ⟨rfl, K.out⟩
end Go.Proofs.YtnimhdhnjfoalaaGreatDoor.R
