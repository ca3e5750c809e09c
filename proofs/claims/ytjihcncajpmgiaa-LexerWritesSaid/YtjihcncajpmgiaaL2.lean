/- lexer.Spell: how a token is written. -/
import Derived.Test.YtjihcncajpmgiaaAx1
import Derived.Test.YtjihcncajpmgiaaR9
import Derived.RegionCalls
import Derived.Deep.DeepCutAuto
namespace Go.Proofs.Ytjihcncajpmgiaa.A
open Go.RowKit Go.Proofs.YtjihcncajpmgiaaW.PrintWords Go.Proofs.YtjihcncajpmgiaaW.PrintLast Go.Proofs.YtjihcncajpmgiaaW.PrintMore Go.Proofs.Ytjihcncajpmgiaa.R
set_option linter.unusedVariables false
set_option linter.unusedSimpArgs false

def escS (s : ByteArray) : ByteArray := ⟨(esc s.data.toList).toArray⟩
theorem escS_size (s : ByteArray) : (escS s).size ≤ 3 * s.size := by
  have h := esc_len s.data.toList
  have h1 := List.count_le_length (a := (34 : UInt8)) (l := s.data.toList)
  have h2 := List.count_le_length (a := (92 : UInt8)) (l := s.data.toList)
  have e : (escS s).size = (esc s.data.toList).length := by simp [escS]; rfl
  have e2 : s.data.toList.length = s.size := rfl
  omega
def lexer_Spell.f (a0_0 : Int) (a0_1 : ByteArray) (a0_2 : Int) (a0_3 : Int) : Option ByteArray :=
  if a0_1.size ≤ 70368744177664 then (if a0_0 = 3 then some (⟨#[34]⟩ ++ escS a0_1 ++ ⟨#[34]⟩) else (if a0_0 = 4 then some (⟨#[92]⟩ ++ a0_1) else (if a0_0 = 5 then some (⟨#[92, 102, 101, 110, 99, 101]⟩ ++ a0_1) else (if a0_0 = 6 then some (⟨#[35]⟩ ++ a0_1) else some a0_1)))) else none
theorem pairs_cells (W : World) : ∀ j u, PAIRS[j]? = some u → (W.alloc (.cells #[.string ⟨#[92]⟩, .string ⟨#[92, 92]⟩, .string ⟨#[34]⟩, .string ⟨#[92, 34]⟩] 9)).cell? ((⟨W.heap.size, 0, none⟩ : Addr).add j) = some u := by
  intro j u hu
  have hadd : (⟨W.heap.size, 0, none⟩ : Addr).add j = ⟨W.heap.size, j, none⟩ := by unfold Addr.add; split <;> simp_all
  rw [hadd, blk_cell (blk_new W _) j, ← hu]
  simp [PAIRS]
/-- The frame of one call: the call's own boxed argument, and what others hold. -/
structure Bx (w : World) (gb : Nat) (T : Nat) (box : Array Value) (wc : World) : Prop where
  hb : Below w.heap.size w wc
  bx : wc.heap[gb]? = some (.cells box T (0, 0))
theorem Bx.step {w : World} {gb T : Nat} {box : Array Value} {wc w1 : World} (h : Bx w gb T box wc) (k : Below wc.heap.size wc w1) : Bx w gb T box w1 := ⟨below_step h.hb k, blk_below h.bx k⟩
theorem Bx.alloc {w : World} {gb T : Nat} {box : Array Value} {wc : World} (h : Bx w gb T box wc) (o : Obj) : Bx w gb T box (wc.alloc o) := h.step (below_alloc (Below.refl _ _) o)
theorem Bx.drew {w : World} {gb T : Nat} {box : Array Value} {wc : World} (h : Bx w gb T box wc) : Bx w gb T box wc.drew := h.step (below_drew1 (Below.refl _ _))
theorem new_bx {w : World} {gb T : Nat} {box : Array Value} {W : World} (h : Bx w gb T box W) (ad : Addr) (c0 : Nat) (hc : ∀ j u, PAIRS[j]? = some u → W.cell? (ad.add j) = some u) :
    Calls Try.prog 20 #[.slice (some ad) 4 c0] W fun e w' => ∃ b' g cg, e = .returned (.pointer (some ⟨b', 0, none⟩)) ∧ Raw b' g cg 0 w' ∧ g ≠ b' ∧ Bx w gb T box w' ∧ ∀ w2, Below b' w' w2 → Bx w gb T box w2 := by
  refine (new_any ad c0 W hc).mono ?_
  rintro e w1 ⟨b', g, cg, rfl, h1, h2, h3, h4⟩
  exact ⟨b', g, cg, rfl, h1, h2, h.step h4, fun w2 k => h.step (h4.trans (k.mono h3))⟩
theorem replace_s (b g c : Nat) (s : ByteArray) (w : World) (h : Raw b g c 0 w) (hgb : g ≠ b) (hs : s.size ≤ 70368744177664) :
    Calls Try.prog 21 #[.pointer (some ⟨b, 0, none⟩), .string s] w fun e w' => e = .returned (.string (escS s)) ∧ Below b w w' := replace_any b g c s w h hgb hs
set_option maxHeartbeats 2000000 in
set_option maxRecDepth 100000 in
theorem lexer_Spell.calls (a0_0 : Int) (a0_1 : ByteArray) (a0_2 : Int) (a0_3 : Int) (r : ByteArray) (w : World) (h : lexer_Spell.f a0_0 a0_1 a0_2 a0_3 = some r) :
    Calls Try.prog 10 #[.agg #[.int .i64 a0_0, .string a0_1, .int .i64 a0_2, .int .i64 a0_3]] w fun e w' => e = .returned (.string r) ∧ Below w.heap.size w w' := by
  have hu28 := Try.underlying28
  unfold lexer_Spell.f at h
  by_cases hs : a0_1.size ≤ 70368744177664
  case neg => rw [if_neg hs] at h; cases h
  rw [if_pos hs] at h
  have HS := Aside0.mk hs
  by_cases c1 : a0_0 = 3
  · rw [if_pos c1] at h
    subst c1
    obtain rfl := Option.some.inj h
    have z0 := escS_size a0_1
    have z1 : ((9223372036854775807 : Nat) < 1 + (escS a0_1).size) = False := eq_false (by omega)
    have z2 : ((9223372036854775807 : Nat) < 1 + (escS a0_1).size + 1) = False := eq_false (by omega)
    have z3 : 1 + (escS a0_1).size ≤ 9223372036854775807 := by omega
    have z4 : 1 + (escS a0_1).size + 1 ≤ 9223372036854775807 := by omega
    clear z0 hs h
    go_enter Try.func10, Try.ntmps10
    go_wp2_with (first | ((with_reducible refine gate_dst (N := 1) rfl ?_); refine box_event ?hg (N := 1) ?hd (cs := #[.int .i64 3, .string a0_1, .int .i64 a0_2, .int .i64 a0_3]) (t := 28) ?hr ?_; (case hd => rfl); (case hg => rfl); (case hr => first | (go_simp; done) | (go_simp; rfl)); intro gb hgb w3 hbox hb3; have B1 := Aside0.mk (Bx.mk hb3 hbox); have lgb : gb < w3.heap.size := blk_lt hbox; have b0 : w3.cell? ⟨gb, 0, none⟩ = some (.int .i64 3) := (blk_cell hbox 0).trans rfl; have b1 : w3.cell? ⟨gb, 1, none⟩ = some (.string a0_1) := (blk_cell hbox 1).trans rfl; clear hgb hbox hb3))
    go_region_with (first | (go_at_call 20; refine (new_bx (by first | exact B1.out.drew.alloc _ | exact (B1.out.alloc _).drew | exact B1.out.alloc _) _ _ (by first | exact pairs_cells _ | exact fun j u h => pairs_cells _ j u h)).mono ?_; rintro e w4 ⟨b', g, cg, rfl, hraw, hne, h4, hnx⟩; have t4 : w4.cell? ⟨gb, 1, none⟩ = some (.string a0_1) := (blk_cell h4.bx 1).trans rfl; have K4 := Aside0.mk (And.intro hraw (And.intro hne hnx)); clear hraw hne h4 hnx) | (go_at_call 21; refine (replace_s b' g cg a0_1 _ K4.out.1 K4.out.2.1 HS.out).mono ?_; rintro e w5 ⟨rfl, hb5⟩; have FR5 := Aside0.mk (K4.out.2.2 _ hb5); clear hb5 K4))
    all_goals (go_wp2_with fail; go_ret; exact ⟨by first | rfl | (simp; done), FR5.out.hb⟩)
  · rw [if_neg c1] at h
    have d1 : (a0_0 == 3) = false := beq_eq_false_iff_ne.2 c1
    have z1 : ((9223372036854775807 : Nat) < 1 + a0_1.size) = False := eq_false (by omega)
    have z3 : 1 + a0_1.size ≤ 9223372036854775807 := by omega
    have z2 : ((9223372036854775807 : Nat) < 6 + a0_1.size) = False := eq_false (by omega)
    have z4 : 6 + a0_1.size ≤ 9223372036854775807 := by omega
    clear hs c1
    have HF : ∃ q2 q3 q4 : Bool, (a0_0 == 4) = q2 ∧ (a0_0 == 5) = q3 ∧ (a0_0 == 6) = q4 ∧ (q2 = true ∧ r = ⟨#[92]⟩ ++ a0_1 ∨ q2 = false ∧ q3 = true ∧ r = ⟨#[92, 102, 101, 110, 99, 101]⟩ ++ a0_1 ∨ q2 = false ∧ q3 = false ∧ q4 = true ∧ r = ⟨#[35]⟩ ++ a0_1 ∨ q2 = false ∧ q3 = false ∧ q4 = false ∧ r = a0_1) := by
      by_cases c2 : a0_0 = 4
      · rw [if_pos c2] at h
        exact ⟨true, false, false, by simp [c2], by simp [c2], by simp [c2], .inl ⟨rfl, (Option.some.inj h).symm⟩⟩
      · rw [if_neg c2] at h
        by_cases c3 : a0_0 = 5
        · rw [if_pos c3] at h
          exact ⟨false, true, false, by simp [c3], by simp [c3], by simp [c3], .inr (.inl ⟨rfl, rfl, (Option.some.inj h).symm⟩)⟩
        · rw [if_neg c3] at h
          by_cases c4 : a0_0 = 6
          · rw [if_pos c4] at h
            exact ⟨false, false, true, by simp [c4], by simp [c4], by simp [c4], .inr (.inr (.inl ⟨rfl, rfl, rfl, (Option.some.inj h).symm⟩))⟩
          · rw [if_neg c4] at h
            exact ⟨false, false, false, by simp [c2], by simp [c3], by simp [c4], .inr (.inr (.inr ⟨rfl, rfl, rfl, (Option.some.inj h).symm⟩))⟩
    clear h
    obtain ⟨q2, q3, q4, d2, d3, d4, HF⟩ := HF
    rcases HF with ⟨rfl, rfl⟩ | ⟨rfl, rfl, rfl⟩ | ⟨rfl, rfl, rfl, rfl⟩ | ⟨rfl, rfl, rfl, hr⟩
    all_goals
      go_enter Try.func10, Try.ntmps10
      go_wp2_with (first | ((with_reducible refine gate_dst (N := 1) rfl ?_); refine box_event ?hg (N := 1) ?hd (cs := #[.int .i64 a0_0, .string a0_1, .int .i64 a0_2, .int .i64 a0_3]) (t := 28) ?hr ?_; (case hd => rfl); (case hg => rfl); (case hr => first | (go_simp; done) | (go_simp; rfl)); intro gb hgb w3 hbox hb3; have B1 := Aside0.mk (Bx.mk hb3 hbox); have lgb : gb < w3.heap.size := blk_lt hbox; have b0 : w3.cell? ⟨gb, 0, none⟩ = some (.int .i64 a0_0) := (blk_cell hbox 0).trans rfl; have b1 : w3.cell? ⟨gb, 1, none⟩ = some (.string a0_1) := (blk_cell hbox 1).trans rfl; clear hgb hbox hb3))
      all_goals (first | (go_wp2_with fail) | skip)
      all_goals go_ret

      all_goals exact ⟨by first | rfl | (rw [hr]; rfl) | (simp; done), by first | exact B1.out.hb | exact B1.out.drew.hb⟩
end Go.Proofs.Ytjihcncajpmgiaa.A
