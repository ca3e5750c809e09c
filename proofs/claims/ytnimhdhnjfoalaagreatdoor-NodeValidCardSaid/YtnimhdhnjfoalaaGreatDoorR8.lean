/- strings.NewReplacer of the pairs for a quoted text, and Replace. -/
import Derived.Test.YtnimhdhnjfoalaaGreatDoorR5
import Derived.Test.YtnimhdhnjfoalaaGreatDoorR7
namespace Go.Proofs.YtnimhdhnjfoalaaGreatDoor.R
open Go.RowKit Go.Proofs.YtnimhdhnjfoalaaGreatDoorW.PrintWords Go.Proofs.YtnimhdhnjfoalaaGreatDoorW.PrintLast Go.Proofs.YtnimhdhnjfoalaaGreatDoorW.PrintMore
set_option linter.unusedVariables false
set_option linter.unusedSimpArgs false

theorem repl_all (m n r c r' c' : Nat) (s : ByteArray) (w : World) (hT : Tab m n r c r' c' w) (hs : s.size ≤ 70368744177664) :
    Calls Tryz.prog 187 #[.pointer (some ⟨m, 0, none⟩), .string s] w fun e w' => e = .returned (.string ⟨(esc s.data.toList).toArray⟩) ∧ Below w.heap.size w w' :=
  repl_xy m n r c r' c' _ _ s w rfl rfl hT hs
set_option maxRecDepth 100000 in
set_option maxHeartbeats 1600000 in
theorem replace_any (b g c : Nat) (s : ByteArray) (w : World) (h : Raw b g c 0 w) (hgb : g ≠ b) (hs : s.size ≤ 70368744177664) :
    Calls Tryz.prog 75 #[.pointer (some ⟨b, 0, none⟩), .string s] w fun e w' => e = .returned (.string ⟨(esc s.data.toList).toArray⟩) ∧ Below b w w' := by
  have hu1 := Tryz.underlying112
  have hmf : ∀ (fn : Fn) (first cap : Array Value) (w : World), (Instr.makeFunc fn first cap).run Tryz.prog w = .ok (.func fn first cap) w := fun _ _ _ _ => rfl
  have hme : ∀ (n : Nat) (p : Option Addr) (W : World), (method (n + 1) 148 (.pointer p) "Replace").run Tryz.prog W = .ok (187, .pointer p) W := fun _ _ _ => by kernel_rfl
  have HC := Lib.hid (do_first b g c w h hgb)
  clear h hgb
  go_enter Tryz.func75, Tryz.ntmps75
  go_wp2_with (first | (go_at_call 95; refine HC.out.mono ?_; rintro e w1 ⟨rfl, m, n, r, c1, r', c2, hb1, hrep, hbel⟩; have e3 : w1.cell? ⟨b, 3, none⟩ = some (.iface 148 (.pointer (some ⟨m, 0, none⟩))) := (blk_cell hb1 3).trans rfl; have bl := blk_lt hb1; have K := Lib.hid (And.intro hrep hbel); clear hb1 hrep hbel))
  obtain ⟨hrep, hbel⟩ := K.out
  have hT : Tab m n r c1 r' c2 w1 := ⟨hrep.hm, hrep.hn, hrep.hr, hrep.hr'⟩
  go_wp2_with (first | (go_at_call 187; refine (repl_all m n r c1 r' c2 s _ hT hs).mono ?_; rintro e w2 ⟨rfl, hb2⟩))
  go_ret
  exact ⟨rfl, hbel.trans (hb2.mono (Nat.le_of_lt bl))⟩
end Go.Proofs.YtnimhdhnjfoalaaGreatDoor.R
