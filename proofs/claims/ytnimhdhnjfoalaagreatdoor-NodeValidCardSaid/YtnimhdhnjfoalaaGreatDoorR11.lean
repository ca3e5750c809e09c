/- node.dump: what it writes. -/
import Derived.Test.YtnimhdhnjfoalaaGreatDoorAx0
import Derived.Test.YtnimhdhnjfoalaaGreatDoorR9
import Derived.Test.YtnimhdhnjfoalaaGreatDoorR10
import Derived.RegionCalls
import Derived.Lib.ItoaNum
import Derived.Deep.DeepCutAuto
namespace Go.Proofs.YtnimhdhnjfoalaaGreatDoor.A
open Go.RowKit Go.Proofs.YtnimhdhnjfoalaaGreatDoorW.PrintWords Go.Proofs.YtnimhdhnjfoalaaGreatDoorW.PrintLast Go.Proofs.YtnimhdhnjfoalaaGreatDoorW.PrintMore Go.Proofs.YtnimhdhnjfoalaaGreatDoor.R
set_option linter.unusedVariables false
attribute [local go_sem] max2_int min2_int max_two min_two
set_option linter.unusedSimpArgs false

def RFORMS : Array Value := #[.string ⟨#[]⟩, .nilFunc, .int .i64 0, .string ⟨#[114, 111, 119]⟩, .func (.func 77) #[] #[], .int .i64 (-1), .string ⟨#[115, 121, 109]⟩, .func (.func 12) #[] #[], .int .i64 0, .string ⟨#[110, 117, 109]⟩, .func (.func 14) #[] #[], .int .i64 0, .string ⟨#[116, 101, 120, 116]⟩, .func (.func 78) #[] #[], .int .i64 0, .string ⟨#[102, 114, 97, 99]⟩, .func (.func 77) #[] #[], .int .i64 2, .string ⟨#[114, 111, 111, 116]⟩, .func (.func 77) #[] #[], .int .i64 2, .string ⟨#[115, 117, 98]⟩, .func (.func 77) #[] #[], .int .i64 2, .string ⟨#[115, 117, 112]⟩, .func (.func 77) #[] #[], .int .i64 2, .string ⟨#[98, 111, 116, 104]⟩, .func (.func 77) #[] #[], .int .i64 3, .string ⟨#[97, 99, 99, 101, 110, 116]⟩, .func (.func 41) #[] #[], .int .i64 1, .string ⟨#[102, 101, 110, 99, 101]⟩, .func (.func 79) #[] #[], .int .i64 1, .string ⟨#[109, 97, 116, 114, 105, 120]⟩, .func (.func 77) #[] #[], .int .i64 (-1)]
set_option maxHeartbeats 1000000 in
set_option maxRecDepth 100000 in
theorem rforms_calls (w : World) :
    Calls Tryz.prog 57 #[] w fun e w' => e = .returned (.slice (some ⟨w.heap.size, 0, none⟩) 13 13) ∧ w' = w.alloc (.cells RFORMS 81) := by
  have hu81 := Tryz.underlying81
  go_enter Tryz.func57, Tryz.ntmps57
  go_wp2
  go_ret
  exact ⟨rfl, rfl⟩
def app (acc p : List UInt8) : Option (List UInt8) := if acc.length + p.length ≤ 140737488355328 then some (acc ++ p) else none
def NAMES : List (List UInt8) := [[], [114, 111, 119], [115, 121, 109], [110, 117, 109], [116, 101, 120, 116], [102, 114, 97, 99], [114, 111, 111, 116], [115, 117, 98], [115, 117, 112], [98, 111, 116, 104], [97, 99, 99, 101, 110, 116], [102, 101, 110, 99, 101], [109, 97, 116, 114, 105, 120]]
def nameOf (kind : Int) : List UInt8 := NAMES.getD kind.toNat []
def txtOf (s : ByteArray) : List UInt8 := if s.toList = [] then [] else [58, 34] ++ esc s.data.toList ++ [34]
def colOf (cols : Int) : List UInt8 := if cols = 0 then [] else 42 :: Lib.decDigits cols.toNat
mutual
def node_dump.l0 : Nat → List UInt8 → List S26 → Int → Option (List UInt8)
  | 0, _, _, _ => none
  | k + 1, acc, l, i => if i < (l.length : Int) then (if 0 ≤ i then ((app acc [if i < 1 then 40 else 32]).bind fun a1 => (node_dump.f k a1 (rd_T26 l i).f0 (rd_T26 l i).f1 (rd_T26 l i).f2 (rd_T26 l i).f3).bind fun a2 => node_dump.l0 k a2 l (wrap64 (i + 1))) else none) else some acc
def node_dump.f : Nat → List UInt8 → Int → ByteArray → Int → List S26 → Option (List UInt8)
  | 0, _, _, _, _, _ => none
  | k + 1, acc, kind, s, cols, l => if 1 ≤ kind then (if kind ≤ 12 then (if 0 ≤ cols then (if cols < 100 then (if s.size ≤ 70368744177664 then
      ((app acc (nameOf kind)).bind fun a1 => (app a1 (txtOf s)).bind fun a2 => (app a2 (colOf cols)).bind fun a3 => (node_dump.l0 k a3 l 0).bind fun a4 => if (l.length : Int) > 0 then app a4 [41] else some a4)
    else none) else none) else none) else none) else none
end
/-- What a builder's world holds: what has been written. -/
structure Dm (w0 : World) (b : Nat) (acc : List UInt8) (w : World) : Prop where
  hI : Lib.IsBuilder 54 5 w0.heap.size b (Lib.byteCells acc) w
  hb : Below w0.heap.size w0 w
theorem bd_kept {w w1 : World} {B b : Nat} {p : Value} {bs : List Value} (h : Lib.BuilderAt 54 5 B b p bs w) (k : Below w.heap.size w w1) : Lib.BuilderAt 54 5 B b p bs w1 := by
  obtain ⟨hB, v, hb, hown, hne⟩ := h
  exact ⟨hB, v, blk_below hb k, hown.kept (row := none) (grown_of_below k none) (by rcases hown.2 with ⟨rfl, _⟩ | ⟨g, cap, cur, rfl, _⟩; exact Or.inl rfl; exact Or.inr (by simp [Value.ownBlock])), hne⟩
theorem Dm.step {w0 : World} {b : Nat} {acc : List UInt8} {w w1 : World} (h : Dm w0 b acc w) (k : Below w.heap.size w w1) : Dm w0 b acc w1 :=
  ⟨h.hI.imp (fun h => bd_kept h k) (fun h => bd_kept h k), below_step h.hb k⟩
theorem Dm.alloc {w0 : World} {b : Nat} {acc : List UInt8} {w : World} (h : Dm w0 b acc w) (o : Obj) : Dm w0 b acc (w.alloc o) := h.step (below_alloc (Below.refl _ _) o)
theorem Dm.drew {w0 : World} {b : Nat} {acc : List UInt8} {w : World} (h : Dm w0 b acc w) : Dm w0 b acc w.drew := h.step (below_drew1 (Below.refl _ _))
theorem app_some {acc p r : List UInt8} (h : app acc p = some r) : acc.length + p.length ≤ 140737488355328 ∧ r = acc ++ p := by
  unfold app at h
  split at h
  · exact ⟨‹_›, (Option.some.inj h).symm⟩
  · cases h
theorem dm_string (w0 : World) (b : Nat) (acc p r : List UInt8) (s : ByteArray) (w : World) (h : Dm w0 b acc w) (hs : s.data.toList = p) (hr : app acc p = some r) :
    Calls Tryz.prog 72 #[.pointer (some ⟨b, 0, none⟩), .string s] w fun e w' => e = .returned (.tuple #[.int .i64 s.size, .nilIface]) ∧ Dm w0 b r w' ∧ Lib.OthersKept 5 (some b) w w' := by
  obtain ⟨hl, rfl⟩ := app_some hr
  have hsz : s.size = p.length := by rw [← hs]; rfl
  refine (write_string w0.heap.size b (Lib.byteCells acc) s w h.hI (by rw [show (Lib.byteCells acc).length = acc.length by simp [Lib.byteCells], hsz]; exact hl) h.hb.size).mono ?_
  rintro e w1 ⟨rfl, h1, h2, h3⟩
  refine ⟨rfl, ⟨.inr ?_, h.hb.trans h2⟩, h3⟩
  have : Lib.byteCells (acc ++ p) = Lib.byteCells acc ++ Lib.strCells s := by rw [Lib.strCells_eq, hs]; simp [Lib.byteCells]
  rw [this]
  exact h1
theorem dm_byte (w0 : World) (b : Nat) (acc r : List UInt8) (c : UInt8) (n : Int) (hn : n = (c.toNat : Int)) (w : World) (h : Dm w0 b acc w) (hr : app acc [c] = some r) :
    Calls Tryz.prog 76 #[.pointer (some ⟨b, 0, none⟩), .int .u8 n] w fun e w' => e = .returned .nilIface ∧ Dm w0 b r w' ∧ Lib.OthersKept 5 (some b) w w' := by
  subst hn
  obtain ⟨hl, rfl⟩ := app_some hr
  refine (write_byte w0.heap.size b (Lib.byteCells acc) c.toNat w h.hI (by rw [show (Lib.byteCells acc).length = acc.length by simp [Lib.byteCells]]; exact hl) h.hb.size).mono ?_
  rintro e w1 ⟨rfl, h1, h2, h3⟩
  refine ⟨rfl, ⟨.inr ?_, h.hb.trans h2⟩, h3⟩
  have : Lib.byteCells (acc ++ [c]) = Lib.byteCells acc ++ [.int .u8 (c.toNat : Int)] := by simp [Lib.byteCells]
  rw [this]
  exact h1
theorem byte_40 (w0 : World) (b : Nat) (acc r : List UInt8) (w : World) (h : Dm w0 b acc w) (hr : app acc [40] = some r) : Calls Tryz.prog 76 #[.pointer (some ⟨b, 0, none⟩), .int .u8 40] w fun e w' => e = .returned .nilIface ∧ Dm w0 b r w' ∧ Lib.OthersKept 5 (some b) w w' := dm_byte w0 b acc r 40 40 (by decide) w h hr
theorem byte_32 (w0 : World) (b : Nat) (acc r : List UInt8) (w : World) (h : Dm w0 b acc w) (hr : app acc [32] = some r) : Calls Tryz.prog 76 #[.pointer (some ⟨b, 0, none⟩), .int .u8 32] w fun e w' => e = .returned .nilIface ∧ Dm w0 b r w' ∧ Lib.OthersKept 5 (some b) w w' := dm_byte w0 b acc r 32 32 (by decide) w h hr
theorem byte_41 (w0 : World) (b : Nat) (acc r : List UInt8) (w : World) (h : Dm w0 b acc w) (hr : app acc [41] = some r) : Calls Tryz.prog 76 #[.pointer (some ⟨b, 0, none⟩), .int .u8 41] w fun e w' => e = .returned .nilIface ∧ Dm w0 b r w' ∧ Lib.OthersKept 5 (some b) w w' := dm_byte w0 b acc r 41 41 (by decide) w h hr
/-- The frame of one call: the builder, the call's own boxed argument, what others hold. -/
structure Fr (w0 w : World) (b gb : Nat) (box : Array Value) (acc : List UInt8) (wc : World) : Prop where
  dm : Dm w0 b acc wc
  bx : wc.heap[gb]? = some (.cells box 26 (0, 0))
  ne : gb ≠ b
  ok : Lib.OthersKept 5 (some b) w wc
theorem keep_of_below {w w1 : World} {b : Nat} (k : Below w.heap.size w w1) : Lib.OthersKept 5 (some b) w w1 := fun i o h _ _ => blk_below h k
theorem Fr.step {w0 w : World} {b gb : Nat} {box : Array Value} {acc : List UInt8} {wc w1 : World} (h : Fr w0 w b gb box acc wc) (k : Below wc.heap.size wc w1) : Fr w0 w b gb box acc w1 :=
  ⟨h.dm.step k, blk_below h.bx k, h.ne, h.ok.trans (keep_of_below k)⟩
theorem Fr.alloc {w0 w : World} {b gb : Nat} {box : Array Value} {acc : List UInt8} {wc : World} (h : Fr w0 w b gb box acc wc) (o : Obj) : Fr w0 w b gb box acc (wc.alloc o) := h.step (below_alloc (Below.refl _ _) o)
theorem Fr.drew {w0 w : World} {b gb : Nat} {box : Array Value} {acc : List UInt8} {wc : World} (h : Fr w0 w b gb box acc wc) : Fr w0 w b gb box acc wc.drew := h.step (below_drew1 (Below.refl _ _))
theorem Fr.wrote {w0 w : World} {b gb : Nat} {box : Array Value} {acc r : List UInt8} {wc w1 : World} (h : Fr w0 w b gb box acc wc) (d : Dm w0 b r w1) (k : Lib.OthersKept 5 (some b) wc w1) : Fr w0 w b gb box r w1 :=
  ⟨d, k gb _ h.bx (fun e => h.ne (Option.some.inj e)) (fun c fz e => by injection e with _ e _; cases e), h.ne, h.ok.trans k⟩
theorem forms_any (w : World) : Calls Tryz.prog 57 #[] w fun e w' => ∃ gf, e = .returned (.slice (some ⟨gf, 0, none⟩) 13 13) ∧ w'.heap[gf]? = some (.cells RFORMS 81 (0, 0)) ∧ Below w.heap.size w w' :=
  (rforms_calls w).mono fun e w' ⟨h1, h2⟩ => ⟨w.heap.size, h1, by rw [h2]; exact blk_new _ _, by rw [h2]; exact below_alloc (Below.refl _ _) _⟩
theorem forms_name (kind : Int) (h1 : 1 ≤ kind) (h2 : kind ≤ 12) : RFORMS[kind.toNat * 3]? = some (.string ⟨(nameOf kind).toArray⟩) := by
  have : kind = 1 ∨ kind = 2 ∨ kind = 3 ∨ kind = 4 ∨ kind = 5 ∨ kind = 6 ∨ kind = 7 ∨ kind = 8 ∨ kind = 9 ∨ kind = 10 ∨ kind = 11 ∨ kind = 12 := by omega
  rcases this with rfl | rfl | rfl | rfl | rfl | rfl | rfl | rfl | rfl | rfl | rfl | rfl <;> rfl
def colS (cols : Int) : ByteArray := ⟨(Lib.decDigits cols.toNat).toArray⟩
theorem colS_size (cols : Int) (h0 : 0 ≤ cols) (h1 : cols < 100) : (colS cols).size ≤ 100 := by
  obtain ⟨n, rfl⟩ := Int.eq_ofNat_of_zero_le h0
  have h : ∀ n : Fin 100, (Lib.decDigits n.1).length ≤ 100 := by decide +kernel
  have h2 : (Lib.decDigits n).length ≤ 100 := h ⟨n, by omega⟩
  have e : (colS (n : Int)).size = (Lib.decDigits n).length := by simp [colS]; rfl
  omega
theorem col_some {cols : Int} (h : ¬ cols = 0) : ((⟨#[42]⟩ : ByteArray) ++ colS cols).data.toList = colOf cols := by
  unfold colOf
  rw [if_neg h]
  simp [ByteArray.data_append, colS]
theorem itoa_any (cols : Int) (h0 : 0 ≤ cols) (h1 : cols < 100) (W : World) : Calls Tryz.prog 73 #[.int .i64 cols] W fun e w' => e = .returned (.string (colS cols)) ∧ w' = W := by
  obtain ⟨n, rfl⟩ := Int.eq_ofNat_of_zero_le h0
  exact Tryz.strconv_Itoa_small n (by omega) W
theorem pairs_cells (W : World) : ∀ j u, PAIRS[j]? = some u → (W.alloc (.cells #[.string ⟨#[92]⟩, .string ⟨#[92, 92]⟩, .string ⟨#[34]⟩, .string ⟨#[92, 34]⟩] 9)).cell? ((⟨W.heap.size, 0, none⟩ : Addr).add j) = some u := by
  intro j u hu
  have hadd : (⟨W.heap.size, 0, none⟩ : Addr).add j = ⟨W.heap.size, j, none⟩ := by unfold Addr.add; split <;> simp_all
  rw [hadd, blk_cell (blk_new W _) j, ← hu]
  simp [PAIRS]
theorem new_fr {w0 w : World} {b gb : Nat} {box : Array Value} {acc : List UInt8} {W : World} (h : Fr w0 w b gb box acc W) (ad : Addr) (c0 : Nat) (hc : ∀ j u, PAIRS[j]? = some u → W.cell? (ad.add j) = some u) :
    Calls Tryz.prog 74 #[.slice (some ad) 4 c0] W fun e w' => ∃ b' g cg, e = .returned (.pointer (some ⟨b', 0, none⟩)) ∧ Raw b' g cg 0 w' ∧ g ≠ b' ∧ Fr w0 w b gb box acc w' ∧ ∀ w2, Below b' w' w2 → Fr w0 w b gb box acc w2 := by
  refine (new_any ad c0 W hc).mono ?_
  rintro e w1 ⟨b', g, cg, rfl, h1, h2, h3, h4⟩
  exact ⟨b', g, cg, rfl, h1, h2, h.step h4, fun w2 k => h.step (h4.trans (k.mono h3))⟩
def escS (s : ByteArray) : ByteArray := ⟨(esc s.data.toList).toArray⟩
theorem escS_size (s : ByteArray) : (escS s).size ≤ 3 * s.size := by
  have h := esc_len s.data.toList
  have h1 := List.count_le_length (a := (34 : UInt8)) (l := s.data.toList)
  have h2 := List.count_le_length (a := (92 : UInt8)) (l := s.data.toList)
  have e : (escS s).size = (esc s.data.toList).length := by simp [escS]; rfl
  have e2 : s.data.toList.length = s.size := rfl
  omega
theorem replace_s (b g c : Nat) (s : ByteArray) (w : World) (h : Raw b g c 0 w) (hgb : g ≠ b) (hs : s.size ≤ 70368744177664) :
    Calls Tryz.prog 75 #[.pointer (some ⟨b, 0, none⟩), .string s] w fun e w' => e = .returned (.string (escS s)) ∧ Below b w w' := replace_any b g c s w h hgb hs
theorem txt_nil {s : ByteArray} (h : s.toList.isEmpty = true) : txtOf s = [] := by
  unfold txtOf
  rw [if_pos (by simpa using h)]
theorem txt_some {s : ByteArray} (h : s.toList.isEmpty = false) : ((⟨#[58, 34]⟩ : ByteArray) ++ escS s ++ ⟨#[34]⟩).data.toList = txtOf s := by
  unfold txtOf
  rw [if_neg (by intro e; rw [e] at h; cases h)]
  simp [ByteArray.data_append, escS]
set_option maxHeartbeats 4000000 in
set_option maxRecDepth 100000 in
theorem node_dump.calls (k : Nat) : ∀ (b c : Nat) (acc : List UInt8) (kind : Int) (s : ByteArray) (cols : Int) (A3 : Option Addr) (l : List S26) (r : List UInt8) (w0 w : World) (hr : Kd.C k26 w0 A3 l.length l) (hc : l.length ≤ c)
    (hI : Dm w0 b acc w) (h : node_dump.f k acc kind s cols l = some r),
    Calls Tryz.prog 51 #[.pointer (some ⟨b, 0, none⟩), .agg #[.int .i64 kind, .string s, .int .i64 cols, .slice A3 l.length c]] w fun e w' => e = .returned (.tuple #[]) ∧ Dm w0 b r w' ∧ Lib.OthersKept 5 (some b) w w' := by
  induction k using Nat.strongRecOn with
  | _ k ih =>
  intro b c acc kind s cols A3 l r w0 w hr hc hI h
  cases k with
  | zero => exact absurd h (by simp [node_dump.f])
  | succ k =>
  simp only [node_dump.f] at h
  by_cases h1 : 1 ≤ kind
  case neg => rw [if_neg h1] at h; cases h
  rw [if_pos h1] at h
  by_cases h2 : kind ≤ 12
  case neg => rw [if_neg h2] at h; cases h
  rw [if_pos h2] at h
  by_cases h3 : 0 ≤ cols
  case neg => rw [if_neg h3] at h; cases h
  rw [if_pos h3] at h
  by_cases h4 : cols < 100
  case neg => rw [if_neg h4] at h; cases h
  rw [if_pos h4] at h
  by_cases h5 : s.size ≤ 70368744177664
  case neg => rw [if_neg h5] at h; cases h
  rw [if_pos h5] at h
  obtain ⟨a1, q1, h⟩ := Option.bind_eq_some_iff.mp h
  obtain ⟨a2, q2, h⟩ := Option.bind_eq_some_iff.mp h
  obtain ⟨a3, q3, h⟩ := Option.bind_eq_some_iff.mp h
  obtain ⟨a4, q4, h⟩ := Option.bind_eq_some_iff.mp h
  have hu26 := Tryz.underlying26
  have hu81 := Tryz.underlying81
  have hu54 := Tryz.underlying54
  have HR := Aside0.mk hr
  have HC := Aside0.mk hc
  have HI := Aside0.mk hI
  have F0 := Aside0.mk (forms_name kind h1 h2)
  have Q := Aside0.mk (And.intro q1 (And.intro q2 (And.intro q3 (And.intro q4 h))))
  have k1 : decide (1 ≤ kind) = true := decide_eq_true (by omega)
  have k2 : decide (kind ≤ 12) = true := decide_eq_true (by omega)
  have k5 : decide (0 ≤ kind) = true := decide_eq_true (by omega)
  have k6 : decide (kind < 13) = true := decide_eq_true (by omega)
  have k7 : (0 ≤ kind) = True := eq_true (by omega)
  have k8 : (kind < 13) = True := eq_true (by omega)
  have HS := Aside0.mk h5
  have HCo := Aside0.mk (And.intro h3 h4)
  clear hr hc hI h1 h2 h3 h4 h5 q1 q2 q3 q4 h
  go_enter Tryz.func51, Tryz.ntmps51
  go_upto_if 13 with (first | ((with_reducible refine gate_dst (N := 3) rfl ?_); refine box_event ?hg (N := 3) ?hd (cs := #[.int .i64 kind, .string s, .int .i64 cols, .slice A3 l.length c]) (t := 26) ?hr ?_; (case hd => rfl); (case hg => rfl); (case hr => first | (go_simp; done) | (go_simp; rfl)); intro gb hgb w3 hbox hb3; have HFR := Aside0.mk (Fr.mk (HI.out.step hb3) hbox (by rw [hgb]; exact Nat.ne_of_gt (HI.out.hI.elim (fun h => h.lt) (fun h => h.lt))) (keep_of_below hb3)); have b0 : w3.cell? ⟨gb, 0, none⟩ = some (.int .i64 kind) := (blk_cell hbox 0).trans rfl; clear hgb hbox hb3))
  have FR0 : Aside0 (Fr w0 w b gb #[.int .i64 kind, .string s, .int .i64 cols, .slice A3 l.length c] acc w3) := HFR
  go_cut [] (fun wc => Aside0 (Fr w0 w b gb #[.int .i64 kind, .string s, .int .i64 cols, .slice A3 l.length c] a1 wc))
  case first =>
    have b0 : w3.cell? ⟨gb, 0, none⟩ = some (.int .i64 kind) := (blk_cell FR0.out.bx 0).trans rfl
    go_wp2_with fail
    go_region_with (first | (go_at_call 57; refine (forms_any _).mono ?_; rintro e w4 ⟨gf, rfl, hf, hb4⟩; have d0 : w4.cell? ⟨gf, kind.toNat * 3, none⟩ = some (.string ⟨(nameOf kind).toArray⟩) := (blk_cell hf _).trans F0.out; have FR4 : Aside0 (Fr w0 w b gb #[.int .i64 kind, .string s, .int .i64 cols, .slice A3 l.length c] acc w4) := Aside0.mk (by first | exact FR0.out.step hb4 | exact FR0.out.drew.step hb4); have b4 : w4.cell? ⟨gb, 0, none⟩ = some (.int .i64 kind) := (blk_cell FR4.out.bx 0).trans rfl; clear hf hb4) | (go_at_call 72; refine (dm_string w0 b acc _ a1 _ _ FR4.out.dm rfl Q.out.1).mono ?_; rintro e w5 ⟨rfl, hd5, hk5⟩; have FR5 := Aside0.mk (FR4.out.wrote hd5 hk5); clear hd5 hk5))
    all_goals (go_wp2_with fail; go_meet; exact FR5)
  case rest =>
    have FR1 := hcut
    clear hcut FR0 b0
    have t1 : wc.cell? ⟨gb, 1, none⟩ = some (.string s) := (blk_cell FR1.out.bx 1).trans rfl
    go_upto_if 30 with (fail)
    go_cut [] (fun w2 => Aside0 (Fr w0 w b gb #[.int .i64 kind, .string s, .int .i64 cols, .slice A3 l.length c] a2 w2))
    case first =>
      rcases Bool.eq_false_or_eq_true s.toList.isEmpty with he | he
      · rw [he]
        have e2 : a2 = a1 := by
          have := (app_some Q.out.2.1).2
          rw [this, txt_nil he, List.append_nil]
        go_wp2_with fail
        go_meet
        rw [e2]
        exact FR1
      · rw [he]
        have HE := Aside0.mk he
        clear he
        have z0 := escS_size s
        have z1 : ((9223372036854775807 : Nat) < 2 + (escS s).size) = False := eq_false (by have := HS.out; omega)
        have z2 : ((9223372036854775807 : Nat) < 2 + (escS s).size + 1) = False := eq_false (by have := HS.out; omega)
        have z3 : 2 + (escS s).size ≤ 9223372036854775807 := by have := HS.out; omega
        have z4 : 2 + (escS s).size + 1 ≤ 9223372036854775807 := by have := HS.out; omega
        clear z0
        have lgb : gb < wc.heap.size := blk_lt FR1.out.bx
        go_wp2_with fail
        go_region_with (first | (go_at_call 74; refine (new_fr (by first | exact FR1.out.drew.alloc _ | exact (FR1.out.alloc _).drew | exact FR1.out.alloc _) _ _ (by first | exact pairs_cells _ | exact fun j u h => pairs_cells _ j u h)).mono ?_; rintro e w4 ⟨b', g, cg, rfl, hraw, hne, h4, hnx⟩; have t4 : w4.cell? ⟨gb, 1, none⟩ = some (.string s) := (blk_cell h4.bx 1).trans rfl; have K4 := Aside0.mk (And.intro hraw (And.intro hne hnx)); clear hraw hne h4 hnx) | (go_at_call 75; refine (replace_s b' g cg s _ K4.out.1 K4.out.2.1 HS.out).mono ?_; rintro e w5 ⟨rfl, hb5⟩; have FR5 := Aside0.mk (K4.out.2.2 _ hb5); clear hb5 K4) | (go_at_call 72; go_loud (trace_state; refine (dm_string w0 b a1 (txtOf s) a2 _ _ FR5.out.dm (txt_some HE.out) Q.out.2.1).mono ?_; rintro e w6 ⟨rfl, hd6, hk6⟩; have FR6 := Aside0.mk (FR5.out.wrote hd6 hk6); clear hd6 hk6)))
        all_goals (go_wp2_with fail; go_meet; exact FR6)
    case rest =>
      have FR2 := hcut
      clear hcut FR1 t1
      have t2 : wc.cell? ⟨gb, 2, none⟩ = some (.int .i64 cols) := (blk_cell FR2.out.bx 2).trans rfl
      go_upto_if 42 with (fail)
      go_cut [] (fun w2 => Aside0 (Fr w0 w b gb #[.int .i64 kind, .string s, .int .i64 cols, .slice A3 l.length c] a3 w2))
      case first =>
        by_cases hc0 : cols = 0
        · have hn : (cols != 0) = false := by simp [hc0]
          rw [hn]
          have e3 : a3 = a2 := by
            have := (app_some Q.out.2.2.1).2
            rw [this, hc0, show colOf 0 = [] from rfl, List.append_nil]
          clear hn
          go_wp2_with fail
          go_meet
          rw [e3]
          exact FR2
        · have hn : (cols != 0) = true := by simp [hc0]
          rw [hn]
          clear hn
          have HN := Aside0.mk hc0
          clear hc0
          have z0 := colS_size cols HCo.out.1 HCo.out.2
          have z1 : ((9223372036854775807 : Nat) < 1 + (colS cols).size) = False := eq_false (by omega)
          have z3 : 1 + (colS cols).size ≤ 9223372036854775807 := by omega
          clear z0
          go_wp2_with (first | (go_at_call 73; refine (itoa_any cols HCo.out.1 HCo.out.2 _).mono ?_; rintro e w4 ⟨rfl, rfl⟩) | (go_at_call 72; refine (dm_string w0 b a2 (colOf cols) a3 _ _ FR2.out.dm (col_some HN.out) Q.out.2.2.1).mono ?_; rintro e w6 ⟨rfl, hd6, hk6⟩; have FR6 := Aside0.mk (FR2.out.wrote hd6 hk6); clear hd6 hk6))
          go_meet
          exact FR6
      case rest =>
        have FR3 := hcut
        clear hcut FR2 t2
        have t3 : wc.cell? ⟨gb, 3, none⟩ = some (.slice A3 l.length c) := (blk_cell FR3.out.bx 3).trans rfl
        have HQ4 := Aside0.mk Q.out.2.2.2.1
        go_wp2_with fail
        clear t3
        go_loopg [52] k (fun kq v52 w' => ∃ (i : Int) (a : List UInt8), v52 = .int .i64 i ∧ Aside0 (node_dump.l0 kq a l i = some a4) ∧ Aside0 (kq ≤ k) ∧ Aside0 (Fr w0 w b gb #[.int .i64 kind, .string s, .int .i64 cols, .slice A3 l.length c] a w'))
        case atStart => exact ⟨0, _, rfl, HQ4, ⟨Nat.le_refl _⟩, FR3⟩
        case round =>
          clear FR3 HQ4
          obtain ⟨i, a, rfl, HA, HQ, FR⟩ := hrel
          cases gk with
          | zero => exact absurd HA.out (by simp [node_dump.l0])
          | succ k1 =>
            have h := HA.out
            clear HA
            simp only [node_dump.l0] at h
            by_cases c1 : i < (l.length : Int)
            · rw [if_pos c1] at h
              by_cases c2 : 0 ≤ i
              · rw [if_pos c2] at h
                have c1b : decide (i < (l.length : Int)) = true := decide_eq_true c1
                obtain ⟨ad, A4, c4, e, hx0, hx1, hx2, hx3, hl4, hi4⟩ := at_T26 HR.out i c2 c1
                cases e
                replace hx0 := (FR.out.dm.hb.cell (World.block_lt_of_cell? w0 _ hx0)).trans hx0
                replace hx1 := (FR.out.dm.hb.cell (World.block_lt_of_cell? w0 _ hx1)).trans hx1
                replace hx2 := (FR.out.dm.hb.cell (World.block_lt_of_cell? w0 _ hx2)).trans hx2
                replace hx3 := (FR.out.dm.hb.cell (World.block_lt_of_cell? w0 _ hx3)).trans hx3
                have HI4 := Aside0.mk hi4
                have HL4 := Aside0.mk hl4
                clear hi4 hl4
                obtain ⟨b1, hq1, h⟩ := Option.bind_eq_some_iff.mp h
                obtain ⟨b2, hq2, h⟩ := Option.bind_eq_some_iff.mp h
                have HQ2 := Aside0.mk (And.intro hq2 h)
                clear hq2 h
                replace c2 := eq_true c2
                replace c1 := eq_true c1
                have hi40 : ∀ h : 0 < (⟨#[40, 32]⟩ : ByteArray).size, ((⟨#[40, 32]⟩ : ByteArray)[0]'h).toNat = 40 := fun _ => rfl
                have hi32 : ∀ h : 1 < (⟨#[40, 32]⟩ : ByteArray).size, ((⟨#[40, 32]⟩ : ByteArray)[1]'h).toNat = 32 := fun _ => rfl
                by_cases hi0 : i < 1
                · rw [if_pos hi0] at hq1
                  have HB1 := Aside0.mk hq1
                  have hi40' : ∀ h : i.toNat < (⟨#[40, 32]⟩ : ByteArray).size, ((⟨#[40, 32]⟩ : ByteArray)[i.toNat]'h).toNat = 40 := by
                    have hz : i.toNat = 0 := by omega
                    rw [hz]
                    exact fun _ => rfl
                  have hlt1 : ((1 : Int) < i) = False := eq_false (by omega)
                  have hi3 : (i < 2) = True := eq_true (by omega)
                  clear hq1 hi0
                  have hcall := byte_40 w0 b a b1 (wr.alloc (.cells #[.int .i64 (rd_T26 l i).f0, .string (rd_T26 l i).f1, .int .i64 (rd_T26 l i).f2, .slice A4 (rd_T26 l i).f3.length c4] 26)) (FR.out.alloc _).dm HB1.out
                  have HCALL := Aside0.mk hcall
                  clear hcall
                  go_wp2_with fail
                  with_reducible refine HCALL.out.mono ?_
                  rintro e w5 ⟨rfl, hd5, hk5⟩
                  have hne : some wr.heap.size ≠ some b := fun e => Nat.lt_irrefl _ (Option.some.inj e ▸ (FR.out.dm.hI.elim (fun h => h.lt) (fun h => h.lt) : b < wr.heap.size))
                  have hx5 := hk5 _ _ (blk_new wr (.cells #[.int .i64 (rd_T26 l i).f0, .string (rd_T26 l i).f1, .int .i64 (rd_T26 l i).f2, .slice A4 (rd_T26 l i).f3.length c4] 26)) hne (fun c fz e => by injection e with _ e _; cases e)
                  have FR5 := Aside0.mk ((FR.out.alloc (.cells #[.int .i64 (rd_T26 l i).f0, .string (rd_T26 l i).f1, .int .i64 (rd_T26 l i).f2, .slice A4 (rd_T26 l i).f3.length c4] 26)).wrote hd5 hk5)
                  clear hd5 hk5 hne FR hx0 hx1 hx2 hx3
                  generalize wr.heap.size = ge at hx5 ⊢
                  have y0 : w5.cell? ⟨ge, 0, none⟩ = some (.int .i64 (rd_T26 l i).f0) := (blk_cell hx5 0).trans rfl
                  have y1 : w5.cell? ⟨ge, 1, none⟩ = some (.string (rd_T26 l i).f1) := (blk_cell hx5 1).trans rfl
                  have y2 : w5.cell? ⟨ge, 2, none⟩ = some (.int .i64 (rd_T26 l i).f2) := (blk_cell hx5 2).trans rfl
                  have y3 : w5.cell? ⟨ge, 3, none⟩ = some (.slice A4 (rd_T26 l i).f3.length c4) := (blk_cell hx5 3).trans rfl
                  clear hx5
                  go_wp2_with fail
                  with_reducible refine (ih k1 (by have := HQ.out; omega) b c4 b1 _ _ _ A4 (rd_T26 l i).f3 b2 w0 _ HI4.out HL4.out FR5.out.dm HQ2.out.1).mono ?_
                  rintro e w6 ⟨rfl, hd6, hk6⟩
                  have FR6 := Aside0.mk (FR5.out.wrote hd6 hk6)
                  have HQ3 := Aside0.mk HQ2.out.2
                  clear hd6 hk6 FR5 y0 y1 y2 y3 HQ2 HI4 HL4
                  go_wp2_with fail
                  go_roundg k1
                  case measure => have := HQ.out; omega
                  case rel => exact ⟨_, b2, rfl, HQ3, ⟨by have := HQ.out; omega⟩, FR6⟩
                · rw [if_neg hi0] at hq1
                  have HB1 := Aside0.mk hq1
                  clear hq1
                  by_cases hi1 : 1 < i
                  · have hlt1 : ((1 : Int) < i) = True := eq_true hi1
                    clear hi0 hi1
                    have hcall := byte_32 w0 b a b1 (wr.alloc (.cells #[.int .i64 (rd_T26 l i).f0, .string (rd_T26 l i).f1, .int .i64 (rd_T26 l i).f2, .slice A4 (rd_T26 l i).f3.length c4] 26)) (FR.out.alloc _).dm HB1.out
                    have HCALL := Aside0.mk hcall
                    clear hcall
                    go_wp2_with fail
                    with_reducible refine HCALL.out.mono ?_
                    rintro e w5 ⟨rfl, hd5, hk5⟩
                    have hne : some wr.heap.size ≠ some b := fun e => Nat.lt_irrefl _ (Option.some.inj e ▸ (FR.out.dm.hI.elim (fun h => h.lt) (fun h => h.lt) : b < wr.heap.size))
                    have hx5 := hk5 _ _ (blk_new wr (.cells #[.int .i64 (rd_T26 l i).f0, .string (rd_T26 l i).f1, .int .i64 (rd_T26 l i).f2, .slice A4 (rd_T26 l i).f3.length c4] 26)) hne (fun c fz e => by injection e with _ e _; cases e)
                    have FR5 := Aside0.mk ((FR.out.alloc (.cells #[.int .i64 (rd_T26 l i).f0, .string (rd_T26 l i).f1, .int .i64 (rd_T26 l i).f2, .slice A4 (rd_T26 l i).f3.length c4] 26)).wrote hd5 hk5)
                    clear hd5 hk5 hne FR hx0 hx1 hx2 hx3
                    generalize wr.heap.size = ge at hx5 ⊢
                    have y0 : w5.cell? ⟨ge, 0, none⟩ = some (.int .i64 (rd_T26 l i).f0) := (blk_cell hx5 0).trans rfl
                    have y1 : w5.cell? ⟨ge, 1, none⟩ = some (.string (rd_T26 l i).f1) := (blk_cell hx5 1).trans rfl
                    have y2 : w5.cell? ⟨ge, 2, none⟩ = some (.int .i64 (rd_T26 l i).f2) := (blk_cell hx5 2).trans rfl
                    have y3 : w5.cell? ⟨ge, 3, none⟩ = some (.slice A4 (rd_T26 l i).f3.length c4) := (blk_cell hx5 3).trans rfl
                    clear hx5
                    go_wp2_with fail
                    with_reducible refine (ih k1 (by have := HQ.out; omega) b c4 b1 _ _ _ A4 (rd_T26 l i).f3 b2 w0 _ HI4.out HL4.out FR5.out.dm HQ2.out.1).mono ?_
                    rintro e w6 ⟨rfl, hd6, hk6⟩
                    have FR6 := Aside0.mk (FR5.out.wrote hd6 hk6)
                    have HQ3 := Aside0.mk HQ2.out.2
                    clear hd6 hk6 FR5 y0 y1 y2 y3 HQ2 HI4 HL4
                    go_wp2_with fail
                    go_roundg k1
                    case measure => have := HQ.out; omega
                    case rel => exact ⟨_, b2, rfl, HQ3, ⟨by have := HQ.out; omega⟩, FR6⟩
                  · have hlt1 : ((1 : Int) < i) = False := eq_false hi1
                    have hi32' : ∀ h : i.toNat < (⟨#[40, 32]⟩ : ByteArray).size, ((⟨#[40, 32]⟩ : ByteArray)[i.toNat]'h).toNat = 32 := by
                      have hz : i.toNat = 1 := by omega
                      rw [hz]
                      exact fun _ => rfl
                    have hi3 : (i < 2) = True := eq_true (by omega)
                    clear hi0 hi1
                    have hcall := byte_32 w0 b a b1 (wr.alloc (.cells #[.int .i64 (rd_T26 l i).f0, .string (rd_T26 l i).f1, .int .i64 (rd_T26 l i).f2, .slice A4 (rd_T26 l i).f3.length c4] 26)) (FR.out.alloc _).dm HB1.out
                    have HCALL := Aside0.mk hcall
                    clear hcall
                    go_wp2_with fail
                    with_reducible refine HCALL.out.mono ?_
                    rintro e w5 ⟨rfl, hd5, hk5⟩
                    have hne : some wr.heap.size ≠ some b := fun e => Nat.lt_irrefl _ (Option.some.inj e ▸ (FR.out.dm.hI.elim (fun h => h.lt) (fun h => h.lt) : b < wr.heap.size))
                    have hx5 := hk5 _ _ (blk_new wr (.cells #[.int .i64 (rd_T26 l i).f0, .string (rd_T26 l i).f1, .int .i64 (rd_T26 l i).f2, .slice A4 (rd_T26 l i).f3.length c4] 26)) hne (fun c fz e => by injection e with _ e _; cases e)
                    have FR5 := Aside0.mk ((FR.out.alloc (.cells #[.int .i64 (rd_T26 l i).f0, .string (rd_T26 l i).f1, .int .i64 (rd_T26 l i).f2, .slice A4 (rd_T26 l i).f3.length c4] 26)).wrote hd5 hk5)
                    clear hd5 hk5 hne FR hx0 hx1 hx2 hx3
                    generalize wr.heap.size = ge at hx5 ⊢
                    have y0 : w5.cell? ⟨ge, 0, none⟩ = some (.int .i64 (rd_T26 l i).f0) := (blk_cell hx5 0).trans rfl
                    have y1 : w5.cell? ⟨ge, 1, none⟩ = some (.string (rd_T26 l i).f1) := (blk_cell hx5 1).trans rfl
                    have y2 : w5.cell? ⟨ge, 2, none⟩ = some (.int .i64 (rd_T26 l i).f2) := (blk_cell hx5 2).trans rfl
                    have y3 : w5.cell? ⟨ge, 3, none⟩ = some (.slice A4 (rd_T26 l i).f3.length c4) := (blk_cell hx5 3).trans rfl
                    clear hx5
                    go_wp2_with fail
                    with_reducible refine (ih k1 (by have := HQ.out; omega) b c4 b1 _ _ _ A4 (rd_T26 l i).f3 b2 w0 _ HI4.out HL4.out FR5.out.dm HQ2.out.1).mono ?_
                    rintro e w6 ⟨rfl, hd6, hk6⟩
                    have FR6 := Aside0.mk (FR5.out.wrote hd6 hk6)
                    have HQ3 := Aside0.mk HQ2.out.2
                    clear hd6 hk6 FR5 y0 y1 y2 y3 HQ2 HI4 HL4
                    go_wp2_with fail
                    go_roundg k1
                    case measure => have := HQ.out; omega
                    case rel => exact ⟨_, b2, rfl, HQ3, ⟨by have := HQ.out; omega⟩, FR6⟩
              · rw [if_neg c2] at h
                exact absurd h (by simp)
            · rw [if_neg c1] at h
              have c1b : decide (i < (l.length : Int)) = false := decide_eq_false c1
              clear c1
              simp only [Option.some.injEq] at h
              subst h
              have t3 : wr.cell? ⟨gb, 3, none⟩ = some (.slice A3 l.length c) := (blk_cell FR.out.bx 3).trans rfl
              have hfin := Q.out.2.2.2.2
              by_cases hl0 : (l.length : Int) > 0
              · rw [if_pos hl0] at hfin
                have HF := Aside0.mk hfin
                have hl1 : decide (0 < (l.length : Int)) = true := decide_eq_true hl0
                have hl2 : decide (0 < l.length) = true := decide_eq_true (by omega)
                clear hfin
                go_wp2_with (first | (go_at_call 76; refine (byte_41 w0 b a r _ FR.out.dm HF.out).mono ?_; rintro e w6 ⟨rfl, hd6, hk6⟩; have FR6 := Aside0.mk (FR.out.wrote hd6 hk6); clear hd6 hk6))
                go_end0
                exact ⟨rfl, FR6.out.dm, FR6.out.ok⟩
              · rw [if_neg hl0] at hfin
                obtain rfl := Option.some.inj hfin
                have hl1 : decide (0 < (l.length : Int)) = false := decide_eq_false hl0
                have hl2 : decide (0 < l.length) = false := decide_eq_false (by omega)
                go_wp2_with fail
                go_end0
                exact ⟨rfl, FR.out.dm, FR.out.ok⟩

end Go.Proofs.YtnimhdhnjfoalaaGreatDoor.A
