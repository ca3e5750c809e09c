/- Made for this claim by a program of the session: the Go functions' plain twins and their contracts. Lean checks it. -/
import Derived.Test.YtihchehmkhnhaaaDoorCDiffCost2
import Derived.Test.YtihchehmkhnhaaaDoorCDiffCost4
import Derived.Test.YtihchehmkhnhaaaDoorCDiffCost5
namespace Go.Proofs.YtihchehmkhnhaaaDoor.A
open Go.RowKit Go.Proofs.YtihchehmkhnhaaaDoorW.PrintWords Go.Proofs.YtihchehmkhnhaaaDoorW.PrintLast Go.Proofs.YtihchehmkhnhaaaDoorW.PrintMore
attribute [local go_sem] max2_int min2_int max_two min_two max_three min_three max_four min_four   -- for this text's walks alone
set_option linter.unusedVariables false
set_option linter.unusedSimpArgs false

set_option maxHeartbeats 8000000 in
set_option maxRecDepth 100000 in
theorem vinculumref16_table.step (k : Nat) (ih_35 : ∀ m_, m_ < k → ∀ (a0_0 : Int) (a0_1 : ByteArray) (a0_2 : Int) (A0_3 : Option Addr) (c0_3 : Nat) (l0_3 : List (S24)) (a1_0 : Int) (a1_1 : ByteArray) (a1_2 : Int) (A1_3 : Option Addr) (c1_3 : Nat) (l1_3 : List (S24)) (r : Int) (w : World) (hr0_3 : Kd.C k24 w A0_3 l0_3.length l0_3) (hc0_3 : l0_3.length ≤ c0_3) (hr1_3 : Kd.C k24 w A1_3 l1_3.length l1_3) (hc1_3 : l1_3.length ≤ c1_3) (h : vinculumref16_pair.f m_ a0_0 a0_1 a0_2 l0_3 a1_0 a1_1 a1_2 l1_3 = some r),
  Calls Tryd.prog 35 #[.agg #[.int .i64 a0_0, .string a0_1, .int .i64 a0_2, .slice A0_3 l0_3.length c0_3], .agg #[.int .i64 a1_0, .string a1_1, .int .i64 a1_2, .slice A1_3 l1_3.length c1_3]] w fun e w' => e = .returned (.int .i64 r) ∧ Below w.heap.size w w') (ih_25 : ∀ m_, m_ < k → ∀ (A0 : Option Addr) (c0 : Nat) (l0 : List (S24)) (A1 : Option Addr) (c1 : Nat) (l1 : List (S24)) (r : List (List Int)) (w : World) (hr0 : Kd.C k24 w A0 l0.length l0) (hc0 : l0.length ≤ c0) (hr1 : Kd.C k24 w A1 l1.length l1) (hc1 : l1.length ≤ c1) (h : vinculumref16_table.f m_ l0 l1 = some r),
  Calls Tryd.prog 25 #[.slice A0 l0.length c0, .slice A1 l1.length c1] w fun e w' => ∃ v0_ : Value, e = .returned (v0_) ∧ Kd.S (Kd.slice 3 (Kd.int .i64)) 35 w' w.heap.size (fun _ => True) v0_ r ∧ Below w.heap.size w w') : ∀ (A0 : Option Addr) (c0 : Nat) (l0 : List (S24)) (A1 : Option Addr) (c1 : Nat) (l1 : List (S24)) (r : List (List Int)) (w : World) (hr0 : Kd.C k24 w A0 l0.length l0) (hc0 : l0.length ≤ c0) (hr1 : Kd.C k24 w A1 l1.length l1) (hc1 : l1.length ≤ c1) (h : vinculumref16_table.f k l0 l1 = some r),
  Calls Tryd.prog 25 #[.slice A0 l0.length c0, .slice A1 l1.length c1] w fun e w' => ∃ v0_ : Value, e = .returned (v0_) ∧ Kd.S (Kd.slice 3 (Kd.int .i64)) 35 w' w.heap.size (fun _ => True) v0_ r ∧ Below w.heap.size w w' := by
 intro A0 c0 l0 A1 c1 l1 r w hr0 hc0 hr1 hc1 h
 cases k with
 | zero => exact absurd h (by simp [vinculumref16_table.f])
 | succ k =>
 simp only [vinculumref16_table.f] at h
 have hu24 := Tryd.underlying24
 have HR0 := Aside0.mk hr0
 have HC0 := Aside0.mk hc0
 clear hr0 hc0
 have HR1 := Aside0.mk hr1
 have HC1 := Aside0.mk hc1
 clear hr1 hc1
 have HB := Aside0.mk (Below.refl w.heap.size w)
 have H : (if 0 ≤ (wrap64 ((l0.length : Int) + 1)) then (if (wrap64 ((l0.length : Int) + 1) : Int).toNat ≤ 11728124029610 then ((some (List.replicate (wrap64 ((l0.length : Int) + 1) : Int).toNat [] : List (List Int))).bind fun y305 => (vinculumref16_table.l0 k l0 l1 y305 (y305.length : Int) 0)) else (none)) else (none)) = some r := h
 clear h
 obtain ⟨ji3, hji3⟩ : ∃ j_ : Int, (wrap64 ((l0.length : Int) + 1)) = j_ := ⟨_, rfl⟩
 replace H : (if 0 ≤ (ji3) then (if (ji3 : Int).toNat ≤ 11728124029610 then ((some (List.replicate (ji3 : Int).toNat [] : List (List Int))).bind fun y305 => (vinculumref16_table.l0 k l0 l1 y305 (y305.length : Int) 0)) else (none)) else (none)) = some r := by first | (rw [hji3] at H; exact H) | (simp only [hji3] at H ⊢; exact H)
 have hji3w : (IntKind.i64.wrap ((l0.length : Int) + 1)) = ji3 := (i64_w _).trans hji3
 by_cases c4 : 0 ≤ (ji3)
 case neg =>
  rw [if_neg c4] at H
  exact absurd H (by simp)


 rw [if_pos c4] at H
 have c4b0 := eq_true c4
 have c4b1 : decide (0 ≤ (ji3)) = true := decide_eq_true c4
 clear c4
 by_cases c5 : (ji3 : Int).toNat ≤ 11728124029610
 case neg =>
  rw [if_neg c5] at H
  exact absurd H (by simp)
 rw [if_pos c5] at H
 have c5b0 := eq_true c5
 have c5b1 : decide ((ji3 : Int).toNat ≤ 11728124029610) = true := decide_eq_true c5
 clear c5
 obtain ⟨y305, hy305⟩ : ∃ y_ : List (List Int), y_ = (List.replicate (ji3 : Int).toNat []) := ⟨_, rfl⟩
 replace H : (vinculumref16_table.l0 k l0 l1 y305 (y305.length : Int) 0) = some r := by first | (rw [hy305]; with_reducible exact H) | (have H2_ := (Option.bind_some _ _).symm.trans H; rw [hy305]; with_reducible exact H2_) | (have H2_ := (Option.bind_some _ _).symm.trans H; with_reducible exact H2_) | with_reducible exact H | (rw [hy305]; exact H) | exact H
 have Ny305 := Aside0.mk hy305
 clear hy305
 have H' := Aside0.mk H
 clear H
 go_enter Tryd.func25, Tryd.ntmps25
 go_wp2_with (first | ((with_reducible refine gate_dst (N := 14) rfl ?_); (try (refine gate_guard (by rfl) ?_; dsimp only)); refine Kd.S_make (Kd.slice 3 (Kd.int .i64)) _ 35 rfl (N := 14) rfl 52 _ _ rfl ji3 rfl rfl Tryd.underlying52 (.slice none 0 0) 24 info35 rfl (by decide) (by omega) [] (ok := fun _ => True) (okp := fun _ => True) ⟨_, rfl, Kd.R_nil _ _ _ _ _⟩ (fun _ hk => hk) trivial (of_decide_eq_true (by first | (with_reducible assumption) | assumption)) (Nat.le_trans (Nat.mul_le_mul_right _ (of_decide_eq_true (by first | (with_reducible assumption) | assumption) : ji3.toNat ≤ 11728124029610)) (by omega)) (Below.refl _ _) (Nat.le_refl _) ?_; intro v306 w6 ho7 hb hg_ hnew_; clear hg_ hnew_; (first | rw [← Ny305.out] at ho7 | (simp only [Int.reduceToNat] at ho7; rw [← Ny305.out] at ho7)); have n0_ := Aside0.mk (Kd.S_lower ho7 (below_size (bs0_ HB.out))); have n1_ := Aside0.mk (below_step (bs0_ HB.out) hb); clear HB; have HO307 := n0_; have HB := n1_; clear n0_ n1_; clear hb ho7; obtain ⟨Ao8, co8, eo8⟩ := Kd.S_slice HO307.out; subst eo8))
 go_loopg [17] k (fun kq v17 w' => ∃ (x5_1 : List (List Int)) (x17_1 : Int), v17 = .int .i64 x17_1 ∧ Aside0 (vinculumref16_table.l0 kq l0 l1 x5_1 (y305.length : Int) x17_1 = some r) ∧ Aside0 (kq ≤ k) ∧ Aside0 (Kd.S (Kd.slice 3 (Kd.int .i64)) 35 w' w.heap.size (fun _ => True) (.slice Ao8 y305.length co8) x5_1) ∧ Aside0 (Below w.heap.size w w'))
 case atStart => exact ⟨(y305), (0), (by first | rfl | (simp; done) | (simp [*]; done)), H', ⟨Nat.le_refl _⟩, ⟨by (with_reducible repeat (first | apply Kd.S_alloc | apply Kd.S_drewN | apply Kd.S_drew)); exact HO307.out⟩, ⟨bs0_ HB.out⟩⟩
 case round =>
  clear H'; (try clear c1); (try clear c2); (try clear p2); (try clear c4); (try clear c4b0); (try clear c4b1); (try clear c5); (try clear c5b0); (try clear c5b1); (try clear p6)
  obtain ⟨x5_1, x17_1, rfl, HA, HK1, HO_5, HB⟩ := hrel
  have hl5_1 := (Kd.S_reads' HO_5.out).1
  rw [hl5_1] at HO_5
  (try simp only [hl5_1])
  cases gk with
  | zero => exact absurd HA.out (by simp [vinculumref16_table.l0])
  | succ k1 =>
   have H := HA.out
   clear HA
   simp only [vinculumref16_table.l0] at H
   by_cases c9 : x17_1 < (y305.length : Int)
   ·rw [if_pos c9] at H
    have c9b0 : decide (x17_1 < (y305.length : Int)) = true := decide_eq_true c9
    (try simp only [hl5_1] at c9b0)
    clear c9
    obtain ⟨ji10, hji10⟩ : ∃ j_ : Int, (wrap64 ((l1.length : Int) + 1)) = j_ := ⟨_, rfl⟩
    replace H : (if 0 ≤ (ji10) then (if (ji10 : Int).toNat ≤ 35184372088832 then (if 0 ≤ x17_1 then (if x17_1 < (x5_1.length : Int) then (vinculumref16_table.l0 k1 l0 l1 (x5_1.set (x17_1 : Int).toNat (List.replicate (ji10 : Int).toNat 0)) (y305.length : Int) (wrap64 (x17_1 + 1))) else (none)) else (none)) else (none)) else (none)) = some r := by first | (rw [hji10] at H; exact H) | (simp only [hji10] at H ⊢; exact H)
    have hji10w : (IntKind.i64.wrap ((l1.length : Int) + 1)) = ji10 := (i64_w _).trans hji10
    by_cases c11 : 0 ≤ (ji10)
    case neg =>
     rw [if_neg c11] at H
     exact absurd H (by simp)
    rw [if_pos c11] at H
    have c11b0 := eq_true c11
    have c11b1 : decide (0 ≤ (ji10)) = true := decide_eq_true c11
    clear c11
    by_cases c12 : (ji10 : Int).toNat ≤ 35184372088832
    case neg =>
     rw [if_neg c12] at H
     exact absurd H (by simp)
    rw [if_pos c12] at H
    have c12b0 := eq_true c12
    have c12b1 : decide ((ji10 : Int).toNat ≤ 35184372088832) = true := decide_eq_true c12
    clear c12
    obtain ⟨y308, hy308⟩ : ∃ y_ : List Int, y_ = (List.replicate (ji10 : Int).toNat 0) := ⟨_, rfl⟩
    replace H : (if 0 ≤ x17_1 then (if x17_1 < (x5_1.length : Int) then (vinculumref16_table.l0 k1 l0 l1 (x5_1.set (x17_1 : Int).toNat y308) (y305.length : Int) (wrap64 (x17_1 + 1))) else (none)) else (none)) = some r := by first | (rw [hy308]; with_reducible exact H) | (have H2_ := (Option.bind_some _ _).symm.trans H; rw [hy308]; with_reducible exact H2_) | (have H2_ := (Option.bind_some _ _).symm.trans H; with_reducible exact H2_) | with_reducible exact H | (rw [hy308]; exact H) | exact H
    have Ny308 := Aside0.mk hy308
    clear hy308
    by_cases c13 : 0 ≤ x17_1
    case neg =>
     rw [if_neg c13] at H
     exact absurd H (by simp)
    rw [if_pos c13] at H
    have c13b0 : decide (0 ≤ x17_1) = true := decide_eq_true c13
    (try simp only [hl5_1] at c13b0)
    clear c13
    by_cases c14 : x17_1 < (x5_1.length : Int)
    case neg =>
     rw [if_neg c14] at H
     exact absurd H (by simp)
    rw [if_pos c14] at H
    have c14b0 : decide (x17_1 < (x5_1.length : Int)) = true := decide_eq_true c14
    (try simp only [hl5_1] at c14b0)
    clear c14
    obtain ⟨y311, hy311⟩ : ∃ y_ : List (List Int), y_ = (x5_1.set (x17_1 : Int).toNat y308) := ⟨_, rfl⟩
    replace H : (vinculumref16_table.l0 k1 l0 l1 y311 (y305.length : Int) (wrap64 (x17_1 + 1))) = some r := by first | (rw [hy311]; with_reducible exact H) | (have H2_ := (Option.bind_some _ _).symm.trans H; rw [hy311]; with_reducible exact H2_) | (have H2_ := (Option.bind_some _ _).symm.trans H; with_reducible exact H2_) | with_reducible exact H | (rw [hy311]; exact H) | exact H
    have Ny311 := Aside0.mk hy311
    clear hy311
    have H' := Aside0.mk H
    clear H
    go_wp2_with (first | ((with_reducible refine gate_dst (N := 25) rfl ?_); (try (refine gate_guard (by rfl) ?_; dsimp only)); refine Kd.R_make (Kd.int .i64) _ 3 rfl (N := 25) rfl 35 _ _ rfl ji10 rfl rfl Tryd.underlying35 (.int .i64 0) 8 info3 rfl (by decide) (by omega) 0 (ok := fun _ => True) (okp := fun _ => True) rfl (fun _ hk => hk) trivial (of_decide_eq_true (by first | (with_reducible assumption) | assumption)) (Nat.le_trans (Nat.mul_le_mul_right _ (of_decide_eq_true (by first | (with_reducible assumption) | assumption) : ji10.toNat ≤ 35184372088832)) (by omega)) (Below.refl _ _) (Nat.le_refl _) ?_; intro v309 w16 ho17 hb hg_ hnew_; clear hg_ hnew_; (first | rw [← Ny308.out] at ho17 | (simp only [Int.reduceToNat] at ho17; rw [← Ny308.out] at ho17)); have n0_ := Aside0.mk (Kd.S_elder' (by (with_reducible repeat (first | apply Kd.S_alloc | apply Kd.S_drewN | apply Kd.S_drew)); exact HO_5.out) (Kd.R_base ho17) hb); have n1_ := Aside0.mk (Kd.R_lower ho17 (below_size (bs0_ HB.out))); have n2_ := Aside0.mk (below_step (bs0_ HB.out) hb); clear HO_5; clear HB; have HO_5 := n0_; have HO310 := n1_; have HB := n2_; clear n0_ n1_ n2_; clear hb ho17; have p15 : 0 ≤ (x17_1 : Int) := of_decide_eq_true (by first | (with_reducible assumption) | assumption); have q15 : (x17_1 : Int) < ((x5_1.length : Int) : Int) := of_decide_eq_true (by first | (with_reducible assumption) | assumption); obtain ⟨go15, co15, eo15, gb15, gl15, cl15, HG15⟩ := Kd.S_form HO_5.out (by omega); (first | cases eo15 | (injection eo15 with ea_ en_ ec_; (first | subst ea_ | (injection ea_ with ea_; subst ea_)); subst ec_; clear en_)); have GB15 := Aside0.mk gb15; have GG15 := Aside0.mk HG15; clear gb15 gl15 HG15; obtain ⟨_, ce15, hcl15, hM15, hcc15, hfr15, _, _⟩ := Kd.S_elem HO_5.out [] (x17_1 : Int) p15 q15; obtain ⟨ve15_0, rfl, ge15_0⟩ := hM15; have hx15_0 := hcc15 0 _ rfl; have hf15_0 := hfr15 0; (try simp only [show ((Kd.slice 3 (Kd.int .i64))).sz = 1 from rfl, Nat.mul_one, Nat.add_zero] at hx15_0); (try simp only [show ((Kd.slice 3 (Kd.int .i64))).sz = 1 from rfl, Nat.mul_one, Nat.add_zero] at hf15_0); (try clear hM15); clear hcl15 hcc15 hfr15; replace p15 := eq_true p15; replace q15 := eq_true q15; have n_ := Aside0.mk (Kd.S_mono (ok' := (fun k_ => some k_ ≠ (v309 : Value).ownBlock)) HO_5.out (fun k_ hk => hk.2)); clear HO_5; have HO_5 := n_; clear n_; have HX18 := Aside0.mk (show Kd.S (Kd.slice 3 (Kd.int .i64)) 35 w16 w.heap.size (fun k_ => ((fun _ => True)) k_ ∧ ¬ ((fun k_ => some k_ = (v309 : Value).ownBlock)) k_) (.slice (some ⟨go15, 0, none⟩) x5_1.length co8) x5_1 from (by (with_reducible repeat (first | apply Kd.S_alloc | apply Kd.S_drewN | apply Kd.S_drew)); exact Kd.S_mono HO_5.out (fun k_ hk => ⟨trivial, fun e_ => hk e_⟩))); obtain ⟨oki18, ce18, hcl18, hM18, hcc18, hfr18, hoki18, hH18⟩ := Kd.S_elem HX18.out [] (x17_1 : Int) (of_decide_eq_true (by first | (with_reducible assumption) | assumption)) (by have h_ : (x17_1 : Int) < ((x5_1.length : Int) : Int) := of_decide_eq_true (by first | (with_reducible assumption) | assumption); first | exact h_ | (have e_ := (Kd.S_reads' HO_5.out).1; omega) | simpa using h_); obtain ⟨ve18_0, rfl, ge18_0⟩ := hM18; have HP18 := Kd.S_seg hH18 (of_decide_eq_true (by first | (with_reducible assumption) | assumption)) (by have h_ : (x17_1 : Int) < ((x5_1.length : Int) : Int) := of_decide_eq_true (by first | (with_reducible assumption) | assumption); first | exact h_ | (have e_ := (Kd.S_reads' HO_5.out).1; omega) | simpa using h_) (seg := [v309]) (j := 0) (show 1 ≤ 1 from by decide) (x' := y308) (Kd.M_row (Kd.R_mono (Kd.R_tight rfl (Kd.R_mono (ok' := fun k_ => ((fun _ => True)) k_ ∧ k_ ≠ go15) (Kd.R_apart' (HO310.out) (Kd.S_typed HO_5.out) (by decide)) (fun k_ hk => ⟨trivial, fun e_ => (hk.2) (by rw [e_]; rfl)⟩))) (fun _ h_ => Or.inr (h_)))) (fun _ hk => hk) (fun k_ hk_ => ((Kd.R_mono (ok' := fun k_ => ((fun _ => True)) k_ ∧ k_ ≠ go15) (Kd.R_apart' (HO310.out) (Kd.S_typed HO_5.out) (by decide)) (fun k_ hk => ⟨trivial, fun e_ => (hk.2) (by rw [e_]; rfl)⟩))).1 k_ hk_.symm); have hx18_0 := hcc18 0 _ rfl; (try simp only [show ((Kd.slice 3 (Kd.int .i64))).sz = 1 from rfl, Nat.mul_one, Nat.add_zero] at hx18_0); have hf18_0 := hfr18 0; (try simp only [show ((Kd.slice 3 (Kd.int .i64))).sz = 1 from rfl, Nat.mul_one, Nat.add_zero] at hf18_0); (try clear hM18); clear hcl18 hcc18 hfr18 hoki18 hH18; (try simp only [show ((Kd.slice 3 (Kd.int .i64))).sz = 1 from rfl, Nat.mul_one, Nat.add_zero] at HP18)) | ((with_reducible refine gate_store (t := 35) (p := 26) rfl ?_); refine store_event (t := 35) (p := 26) (v := ?vo_w19) (w1 := (w16.setCell ⟨go15, (x17_1 : Int).toNat, none⟩ (v309))) ?hg ?ho ?hn ?hr ?_; (case ho => rfl); (case hg => rfl); (case hn => rfl); (case hr => first | (go_simp; done) | (go_simp; rfl) | (obtain ⟨A_, c_, e_⟩ := Kd.R_slice HO310.out; simp only [e_]; first | (go_simp; done) | (go_simp; rfl))); intro w19 hw; have hg : w16.grownBy w19 (some go15) := (by rw [hw]; exact HP18.2); have hp_ : Kd.S (Kd.slice 3 (Kd.int .i64)) 35 w19 w.heap.size (fun _ => True) (.slice (some ⟨go15, 0, none⟩) x5_1.length co8) y311 := (by rw [hw, Ny311.out]; exact HP18.1); clear HP18; have n0_ := Aside0.mk (hp_); have n1_ := Aside0.mk ((by rw [hw]; exact below_set (HB.out) GB15.out : Below w.heap.size w w19)); clear HO_5; clear HB; clear HO310; have HO_5 := n0_; have HB := n1_; clear n0_ n1_; clear hg hw hp_))
    (try simp only [← hl5_1])
    go_roundg k1
    case measure => have := HK1.out; omega
    case rel => exact ⟨(y311), (wrap64 (x17_1 + 1)), (by first | rfl | (simp; done) | (simp [*]; done)), H', ⟨by have := HK1.out; omega⟩, ⟨by (try simp only [hl5_1]); (with_reducible repeat (first | apply Kd.S_alloc | apply Kd.S_drewN | apply Kd.S_drew)); exact HO_5.out⟩, ⟨bs0_ HB.out⟩⟩
   ·rw [if_neg c9] at H
    have c9b0 : decide (x17_1 < (y305.length : Int)) = false := decide_eq_false c9
    (try simp only [hl5_1] at c9b0)
    clear c9
    have H' := Aside0.mk H
    clear H
    go_wp2
    go_loopg [7] k1 (fun kq v7 w' => ∃ (x5_2 : List (List Int)) (x7_2 : Int), v7 = .int .i64 x7_2 ∧ Aside0 (vinculumref16_table.l1 kq l0 l1 x5_2 x7_2 = some r) ∧ Aside0 (kq ≤ k1) ∧ Aside0 (Kd.S (Kd.slice 3 (Kd.int .i64)) 35 w' w.heap.size (fun _ => True) (.slice Ao8 x5_1.length co8) x5_2) ∧ Aside0 (Below w.heap.size w w'))
    case atStart => exact ⟨(x5_1), ((l0.length : Int)), (by first | rfl | (simp; done) | (simp [*]; done)), H', ⟨Nat.le_refl _⟩, ⟨by (try simp only [hl5_1]); (with_reducible repeat (first | apply Kd.S_alloc | apply Kd.S_drewN | apply Kd.S_drew)); exact HO_5.out⟩, ⟨bs0_ HB.out⟩⟩
    case round =>
     clear H'; (try clear c1); (try clear p1); (try clear q1); (try clear hx1); (try clear c2); (try clear p2); (try clear c4); (try clear c4b0); (try clear c4b1); (try clear c5); (try clear c5b0); (try clear c5b1); (try clear p6); (try clear c9); (try clear c9b0); (try clear c11); (try clear c11b0); (try clear c11b1); (try clear c12); (try clear c12b0); (try clear c12b1); (try clear c13); (try clear c13b0); (try clear c14); (try clear c14b0); (try clear c15); (try clear p15); (try clear q15); (try clear hx15); (try clear hf15); (try clear c18); (try clear hx18); (try clear hf18); (try clear hx15_0); (try clear hx18_0); (try clear p15); (try clear p2); (try clear p6); (try clear q15)
     obtain ⟨x5_2, x7_2, rfl, HA, HK2, HO_5, HB⟩ := hrel
     have hl5_2 := (Kd.S_reads' HO_5.out).1
     rw [hl5_2] at HO_5
     (try simp only [hl5_2])
     cases gk with
     | zero => exact absurd HA.out (by simp [vinculumref16_table.l1])
     | succ k2 =>
      have H := HA.out
      clear HA
      simp only [vinculumref16_table.l1] at H
      by_cases c20 : x7_2 ≥ 0
      ·rw [if_pos c20] at H
       have c20b0 : decide (0 ≤ x7_2) = true := decide_eq_true c20
       (try simp only [hl5_1, hl5_2] at c20b0)
       clear c20
       have H' := Aside0.mk H
       clear H
       go_wp2
       go_loopg [8] k2 (fun kq v8 w' => ∃ (x5_3 : List (List Int)) (x8_3 : Int), v8 = .int .i64 x8_3 ∧ Aside0 (vinculumref16_table.l2 kq l0 l1 x5_3 x7_2 x8_3 = some r) ∧ Aside0 (kq ≤ k2) ∧ Aside0 (Kd.S (Kd.slice 3 (Kd.int .i64)) 35 w' w.heap.size (fun _ => True) (.slice Ao8 x5_2.length co8) x5_3) ∧ Aside0 (Below w.heap.size w w'))
       case atStart => exact ⟨(x5_2), ((l1.length : Int)), (by first | rfl | (simp; done) | (simp [*]; done)), H', ⟨Nat.le_refl _⟩, ⟨by (try simp only [hl5_1]); (try simp only [hl5_2]); (with_reducible repeat (first | apply Kd.S_alloc | apply Kd.S_drewN | apply Kd.S_drew)); exact HO_5.out⟩, ⟨bs0_ HB.out⟩⟩
       case round =>
        clear H'; (try clear c1); (try clear p1); (try clear q1); (try clear hx1); (try clear c2); (try clear p2); (try clear c4); (try clear c4b0); (try clear c4b1); (try clear c5); (try clear c5b0); (try clear c5b1); (try clear p6); (try clear c9); (try clear c9b0); (try clear c11); (try clear c11b0); (try clear c11b1); (try clear c12); (try clear c12b0); (try clear c12b1); (try clear c13); (try clear c13b0); (try clear c14); (try clear c14b0); (try clear c15); (try clear p15); (try clear q15); (try clear hx15); (try clear hf15); (try clear c18); (try clear hx18); (try clear hf18); (try clear c20); (try clear c20b0); (try clear hx15_0); (try clear hx18_0); (try clear p1); (try clear p15); (try clear p2); (try clear p6); (try clear q1); (try clear q15)
        obtain ⟨x5_3, x8_3, rfl, HA, HK3, HO_5, HB⟩ := hrel
        have hl5_3 := (Kd.S_reads' HO_5.out).1
        rw [hl5_3] at HO_5
        (try simp only [hl5_3])
        cases gk with
        | zero => exact absurd HA.out (by simp [vinculumref16_table.l2])
        | succ k3 =>
         have H := HA.out
         clear HA
         simp only [vinculumref16_table.l2] at H
         by_cases c21 : x8_3 ≥ 0
         ·rw [if_pos c21] at H
          have c21b0 : decide (0 ≤ x8_3) = true := decide_eq_true c21
          (try simp only [hl5_1, hl5_2, hl5_3] at c21b0)
          clear c21
          have HC22 := Aside0.mk H
          clear H
          go_upto_region 13 with (fail)
          go_cut [49] (fun v49 wc => ∃ (kq : Nat) (x49_21 : Bool), v49 = .bool x49_21 ∧ Aside0 (vinculumref16_table.j3 kq l0 l1 x5_3 x7_2 x8_3 x49_21 = some r) ∧ Aside0 (kq ≤ k3) ∧ Aside0 (Kd.S (Kd.slice 3 (Kd.int .i64)) 35 wc w.heap.size (fun _ => True) (.slice Ao8 x5_3.length co8) x5_3) ∧ Aside0 (Below w.heap.size w wc))
          case first =>
           have H := HC22.out
           clear HC22
           by_cases c23 : x7_2 = (l0.length : Int)
           ·rw [if_pos c23] at H
            have c23b0 : (x7_2 == (l0.length : Int)) = true := beq_iff_eq.mpr c23
            have c23b1 : (x7_2 != (l0.length : Int)) = false := bne_eq_false_iff_eq.mpr c23
            (try simp only [hl5_1, hl5_2, hl5_3] at c23b0)
            (try simp only [hl5_1, hl5_2, hl5_3] at c23b1)
            clear c23
            (first | rw [c23b0] | (simp only [i64_w, i32_w]; rw [c23b0]) | skip)
            have H' := Aside0.mk H
            clear H
            go_wp2
            go_meet
            case rel => exact ⟨_, ((x8_3 == (l1.length : Int))), (by first | rfl | (simp; done) | (simp [*]; done)), H', ⟨by have := HK1.out; have := HK2.out; have := HK3.out; first | omega | exact Nat.le_refl _⟩, ⟨by (try simp only [hl5_1]); (try simp only [hl5_2]); (try simp only [hl5_3]); (with_reducible repeat (first | apply Kd.S_alloc | apply Kd.S_drewN | apply Kd.S_drew)); exact HO_5.out⟩, ⟨bs0_ HB.out⟩⟩
           ·rw [if_neg c23] at H
            have c23b0 : (x7_2 == (l0.length : Int)) = false := beq_eq_false_iff_ne.mpr c23
            have c23b1 : (x7_2 != (l0.length : Int)) = true := bne_iff_ne.mpr c23
            (try simp only [hl5_1, hl5_2, hl5_3] at c23b0)
            (try simp only [hl5_1, hl5_2, hl5_3] at c23b1)
            (first | rw [c23b0] | (simp only [i64_w, i32_w]; rw [c23b0]) | skip)
            have H' := Aside0.mk H
            clear H
            go_wp2
            go_meet
            case rel => exact ⟨_, (false), (by first | rfl | (simp; done) | (simp [*]; done)), H', ⟨by have := HK1.out; have := HK2.out; have := HK3.out; first | omega | exact Nat.le_refl _⟩, ⟨by (try simp only [hl5_1]); (try simp only [hl5_2]); (try simp only [hl5_3]); (with_reducible repeat (first | apply Kd.S_alloc | apply Kd.S_drewN | apply Kd.S_drew)); exact HO_5.out⟩, ⟨bs0_ HB.out⟩⟩
          case rest =>
           clear HC22; (try clear c1); (try clear p1); (try clear q1); (try clear hx1); (try clear c2); (try clear p2); (try clear c4); (try clear c4b0); (try clear c4b1); (try clear c5); (try clear c5b0); (try clear c5b1); (try clear p6); (try clear c9); (try clear c9b0); (try clear c11); (try clear c11b0); (try clear c11b1); (try clear c12); (try clear c12b0); (try clear c12b1); (try clear c13); (try clear c13b0); (try clear c14); (try clear c14b0); (try clear c15); (try clear p15); (try clear q15); (try clear hx15); (try clear hf15); (try clear c18); (try clear hx18); (try clear hf18); (try clear c20); (try clear c20b0); (try clear c21); (try clear c21b0); (try clear c23); (try clear c23b0); (try clear c23b1); (try clear hx15_0); (try clear hx18_0); (try clear p1); (try clear p15); (try clear p2); (try clear p6); (try clear q1); (try clear q15)
           obtain ⟨kq, x49_21, rfl, HA, HJ21, HO_5, HB⟩ := hcut
           cases kq with
           | zero => exact absurd HA.out (by simp [vinculumref16_table.j3])
           | succ kj21 =>
            have H := HA.out
            clear HA
            simp only [vinculumref16_table.j3] at H
            by_cases c24 : x49_21 = true
            ·subst c24
             have H1 : (vinculumref16_table.l2 kj21 l0 l1 x5_3 x7_2 (wrap64 (x8_3 - 1))) = some r := by rw [if_pos rfl] at H; exact H
             clear H
             have H := H1
             clear H1
             have H' := Aside0.mk H
             clear H
             go_wp2
             (try simp only [← hl5_3])
             go_roundg kj21
             case measure => have := HK1.out; have := HK2.out; have := HK3.out; have := HJ21.out; omega
             case rel => exact ⟨(x5_3), (wrap64 (x8_3 - 1)), (by first | rfl | (simp; done) | (simp [*]; done)), H', ⟨by have := HK1.out; have := HK2.out; have := HK3.out; have := HJ21.out; omega⟩, ⟨by (try simp only [hl5_1]); (try simp only [hl5_2]); (try simp only [hl5_3]); (with_reducible repeat (first | apply Kd.S_alloc | apply Kd.S_drewN | apply Kd.S_drew)); exact HO_5.out⟩, ⟨bs0_ HB.out⟩⟩
            ·replace c24 := Bool.eq_false_iff.mpr c24
             subst c24
             have H1 : (if x7_2 < (l0.length : Int) then (if 0 ≤ x7_2 then ((vinculumref09_Count.f kj21 ((rd_T24 l0 x7_2).f0) ((rd_T24 l0 x7_2).f1) ((rd_T24 l0 x7_2).f2) ((rd_T24 l0 x7_2).f3)).bind fun t313 => (if 0 ≤ (wrap64 (x7_2 + 1)) then (if (wrap64 (x7_2 + 1)) < (x5_3.length : Int) then (if 0 ≤ x8_3 then (if x8_3 < ((rd_L6 x5_3 (wrap64 (x7_2 + 1))).length : Int) then (vinculumref16_table.j4 kj21 l0 l1 x5_3 x7_2 x8_3 (wrap64 (t313 + (rd (rd_L6 x5_3 (wrap64 (x7_2 + 1))) x8_3)))) else (none)) else (none)) else (none)) else (none))) else (none)) else (vinculumref16_table.j4 kj21 l0 l1 x5_3 x7_2 x8_3 (-1))) = some r := by rw [if_neg (show ¬ (false = true) by decide)] at H; exact H
             clear H
             have H := H1
             clear H1
             have HC25 := Aside0.mk H
             clear H
             go_upto_if 53 with (fail)
             go_cut [9] (fun v9 wc => ∃ (kq : Nat) (x9_24 : Int), v9 = .int .i64 x9_24 ∧ Aside0 (vinculumref16_table.j4 kq l0 l1 x5_3 x7_2 x8_3 x9_24 = some r) ∧ Aside0 (kq ≤ kj21) ∧ Aside0 (Kd.S (Kd.slice 3 (Kd.int .i64)) 35 wc w.heap.size (fun _ => True) (.slice Ao8 x5_3.length co8) x5_3) ∧ Aside0 (Below w.heap.size w wc))
             case first =>
              have H := HC25.out
              clear HC25
              by_cases c26 : x7_2 < (l0.length : Int)
              ·rw [if_pos c26] at H
               have c26b0 : decide (x7_2 < (l0.length : Int)) = true := decide_eq_true c26
               (try simp only [hl5_1, hl5_2, hl5_3] at c26b0)
               clear c26
               (first | rw [c26b0] | (simp only [i64_w, i32_w]; rw [c26b0]) | skip)
               by_cases c27 : 0 ≤ x7_2
               case neg =>
                rw [if_neg c27] at H
                exact absurd H (by simp)
               rw [if_pos c27] at H
               have c27b0 : decide (0 ≤ x7_2) = true := decide_eq_true c27
               (try simp only [hl5_1, hl5_2, hl5_3] at c27b0)
               clear c27
               replace H := Option.bind_eq_some_iff.mp H
               obtain ⟨t313, A280, H⟩ := H
               replace H : (if 0 ≤ (wrap64 (x7_2 + 1)) then (if (wrap64 (x7_2 + 1)) < (x5_3.length : Int) then (if 0 ≤ x8_3 then (if x8_3 < ((rd_L6 x5_3 (wrap64 (x7_2 + 1))).length : Int) then (vinculumref16_table.j4 kj21 l0 l1 x5_3 x7_2 x8_3 (wrap64 (t313 + (rd (rd_L6 x5_3 (wrap64 (x7_2 + 1))) x8_3)))) else (none)) else (none)) else (none)) else (none)) = some r := H
               have A28 := Aside0.mk A280
               clear A280
               obtain ⟨ji29, hji29⟩ : ∃ j_ : Int, (wrap64 (x7_2 + 1)) = j_ := ⟨_, rfl⟩
               replace H : (if 0 ≤ (ji29) then (if (ji29) < (x5_3.length : Int) then (if 0 ≤ x8_3 then (if x8_3 < ((rd_L6 x5_3 (ji29)).length : Int) then (vinculumref16_table.j4 kj21 l0 l1 x5_3 x7_2 x8_3 (wrap64 (t313 + (rd (rd_L6 x5_3 (ji29)) x8_3)))) else (none)) else (none)) else (none)) else (none)) = some r := by first | (rw [hji29] at H; exact H) | (simp only [hji29] at H ⊢; exact H)
               (try rw [hji29] at A28)
               have hji29w : (IntKind.i64.wrap (x7_2 + 1)) = ji29 := (i64_w _).trans hji29
               by_cases c30 : 0 ≤ (ji29)
               case neg =>
                rw [if_neg c30] at H
                exact absurd H (by simp)
               rw [if_pos c30] at H
               have c30b0 : decide (0 ≤ (ji29)) = true := decide_eq_true c30
               (try simp only [hl5_1, hl5_2, hl5_3] at c30b0)
               clear c30
               by_cases c31 : (ji29) < (x5_3.length : Int)
               case neg =>
                rw [if_neg c31] at H
                exact absurd H (by simp)
               rw [if_pos c31] at H
               have c31b0 : decide ((ji29) < (x5_3.length : Int)) = true := decide_eq_true c31
               (try simp only [hl5_1, hl5_2, hl5_3] at c31b0)
               clear c31
               by_cases c32 : 0 ≤ x8_3
               case neg =>
                rw [if_neg c32] at H
                exact absurd H (by simp)
               rw [if_pos c32] at H
               have c32b0 : decide (0 ≤ x8_3) = true := decide_eq_true c32
               (try simp only [hl5_1, hl5_2, hl5_3] at c32b0)
               clear c32
               by_cases c33 : x8_3 < ((rd_L6 x5_3 (ji29)).length : Int)
               case neg =>
                rw [if_neg c33] at H
                exact absurd H (by simp)
               rw [if_pos c33] at H
               have c33b0 : decide (x8_3 < ((rd_L6 x5_3 (ji29)).length : Int)) = true := decide_eq_true c33
               (try simp only [hl5_1, hl5_2, hl5_3] at c33b0)
               clear c33
               have H' := Aside0.mk H
               clear H
               try go_wp2
               have n0_ := Aside0.mk (Kd.S_drew HO_5.out)
               have n1_ := Aside0.mk (below_drew1 HB.out)
               clear HO_5; clear HB
               have HO_5 := n0_
               have HB := n1_
               clear n0_ n1_
               have p312 : 0 ≤ (x7_2 : Int) := of_decide_eq_true (by first | (with_reducible assumption) | assumption)
               have q312 : x7_2 < (l0.length : Int) := of_decide_eq_true (by first | (with_reducible assumption) | assumption)
               obtain ⟨ad312, A312_3, c312_3, e312, hx312_0, hx312_1, hx312_2, hx312_3, hl312_3, hi312_3⟩ := at_T24 HR0.out x7_2 p312 q312
               have hw312_3 := hx312_3
               have hw312_2 := hx312_2
               have hw312_1 := hx312_1
               have hw312_0 := hx312_0
               cases e312
               replace hx312_0 := (cl_ HB.out hx312_0).trans hx312_0
               replace hx312_1 := (cl_ HB.out hx312_1).trans hx312_1
               replace hx312_2 := (cl_ HB.out hx312_2).trans hx312_2
               replace hx312_3 := (cl_ HB.out hx312_3).trans hx312_3
               have HR312_3 := Aside0.mk hi312_3
               have HC312_3 := Aside0.mk hl312_3
               clear hi312_3 hl312_3
               replace p312 := eq_true p312
               replace q312 := eq_true q312
               have p314 : 0 ≤ ((ji29) : Int) := of_decide_eq_true (by first | (with_reducible assumption) | assumption)
               have q314 : (ji29) < (x5_3.length : Int) := of_decide_eq_true (by first | (with_reducible assumption) | assumption)
               obtain ⟨ad314, A314_0, c314_0, e314, hx314_0, hl314_0, hi314_0⟩ := at_L6 (Kd.S_reads' HO_5.out).2.2 (ji29) p314 q314
               cases e314
               obtain ⟨ce314, hce314, hMe314, hcc314⟩ := Kd.S_get HO_5.out [] (ji29) p314 (by first | exact q314 | exact of_decide_eq_true (by first | (with_reducible assumption) | assumption) | (have e_ := (Kd.S_reads' HO_5.out).1; omega))
               obtain ⟨ve314_0, rfl, ge314_0⟩ := hMe314
               have hv314_0 := hcc314 0 _ rfl
               rw [Nat.add_zero, show ((Kd.slice 3 (Kd.int .i64))).sz = 1 from rfl, Nat.mul_one] at hv314_0
               replace hv314_0 := Option.some.inj (hv314_0.symm.trans hx314_0)
               rw [hv314_0] at ge314_0
               have HL314_0 := Aside0.mk (show Kd.R (Kd.int .i64) 3 _ _ _ _ (rd_L6 x5_3 (ji29)) from ge314_0)
               clear hv314_0 ge314_0
               have HX314_0 := Aside0.mk hx314_0
               clear hcc314 hce314
               have HR314_0 := Aside0.mk hi314_0
               have HC314_0 := Aside0.mk hl314_0
               clear hi314_0 hl314_0
               replace p314 := eq_true p314
               replace q314 := eq_true q314
               have p315 : 0 ≤ (x8_3 : Int) := of_decide_eq_true (by first | (with_reducible assumption) | assumption)
               have q315 : x8_3 < ((rd_L6 x5_3 (ji29)).length : Int) := of_decide_eq_true (by first | (with_reducible assumption) | assumption)
               obtain ⟨ad315, e315, hx315_0⟩ := Kd.at_int (by repeat (first | (with_reducible exact HR314_0.out) | (with_reducible refine Kd.C_alloc ?_ _) | (with_reducible refine Kd.C_drewN ?_ _) | (with_reducible refine Kd.C_drew ?_) | exact HR314_0.out)) x8_3 p315 q315
               cases e315
               replace p315 := eq_true p315
               replace q315 := eq_true q315
               refine start_ (n := 15) (S := fun w' => w'.cell? (ad312.add ((x7_2).toNat * 4)) = some (.int .i64 ((rd_T24 l0 x7_2).f0)) ∧ w'.cell? ⟨(ad312.add ((x7_2).toNat * 4)).block, (ad312.add ((x7_2).toNat * 4)).off + 1, none⟩ = some (.string ((rd_T24 l0 x7_2).f1)) ∧ w'.cell? ⟨(ad312.add ((x7_2).toNat * 4)).block, (ad312.add ((x7_2).toNat * 4)).off + 2, none⟩ = some (.int .i64 ((rd_T24 l0 x7_2).f2)) ∧ w'.cell? ⟨(ad312.add ((x7_2).toNat * 4)).block, (ad312.add ((x7_2).toNat * 4)).off + 3, none⟩ = some (.slice A312_3 ((rd_T24 l0 x7_2).f3).length c312_3) ∧ w'.cell? (ad314.add ((ji29)).toNat) = some (.slice (some ad315) (rd_L6 x5_3 (ji29)).length c314_0) ∧ w'.cell? (ad315.add (x8_3).toNat) = some (.int .i64 (rd (rd_L6 x5_3 (ji29)) x8_3))) (ds := []) #[false, false, false, false, false, false, false, false, false, false, false, false, false, false, false] (by kernel_rfl) rfl rfl ⟨(ck_ HB.out hw312_0), (ck_ HB.out hw312_1), (ck_ HB.out hw312_2), (ck_ HB.out hw312_3), hx314_0, hx315_0⟩ (fun hHeld => ?_); refine with_tabW vinculumref16_table.tab16 vinculumref16_table.bits16 (fun HT_ HW_ => ?_)
               generalize wc.drew = w34 at HO_5 HB HL314_0 HR312_3 HR314_0 HX314_0 hx312_0 hx312_1 hx312_2 hx312_3 hx314_0 hx315_0 hHeld ⊢
               refine pure_ (i := 0) (N := some 54) (v := ?_) (a' := ?_) (mk_ 15 1) rfl rfl (an_ HT_.out) (fun _ _ _ h => h) (Or.inl ⟨by rfl, ?_⟩) ?_ ?_
               rotate_left; (intro w'; go_simp; with_reducible rfl); rotate_left; (simp only [Act.put, sp1_, sp2_]; rfl)
               refine pure_ (i := 1) (N := some 55) (v := ?_) (a' := ?_) (mk_ 15 3) rfl rfl (an_ HT_.out) (fun _ _ _ h => h) (Or.inl ⟨by rfl, ?_⟩) ?_ ?_
               rotate_left; (intro w'; go_simp; with_reducible rfl); rotate_left; (simp only [Act.put, sp1_, sp2_]; rfl)
               refine pure_ (i := 2) (N := some 56) (v := ?_) (a' := ?_) (mk_ 15 7) rfl rfl (an_ HT_.out) (fun _ _ _ h => h) (Or.inl ⟨by rfl, ?_⟩) ?_ ?_
               rotate_left; (intro w'; go_simp; with_reducible rfl); rotate_left; (simp only [Act.put, sp1_, sp2_]; rfl)
               refine pure_ (i := 5) (N := some 59) (v := ?_) (a' := ?_) (mk_ 15 39) rfl rfl (an_ HT_.out) (fun _ _ _ h => h) (Or.inl ⟨by rfl, ?_⟩) ?_ ?_
               rotate_left; (intro w'; go_simp; with_reducible rfl); rotate_left; (simp only [Act.put, sp1_, sp2_]; rfl)
               refine pure_ (i := 6) (N := some 60) (v := ?_) (a' := ?_) (mk_ 15 103) rfl rfl (an_ HT_.out) (fun _ _ _ h => h) (Or.inl ⟨by rfl, ?_⟩) ?_ ?_
               rotate_left; (intro w'; go_simp; with_reducible rfl); rotate_left; (simp only [Act.put, sp1_, sp2_]; rfl)
               refine pure_ (i := 7) (N := some 61) (v := ?_) (a' := ?_) (mk_ 15 231) rfl rfl (an_ HT_.out) (fun _ _ _ h => h) (Or.inl ⟨by rfl, ?_⟩) ?_ ?_
               rotate_left; (intro w'; go_simp; with_reducible rfl); rotate_left; (simp only [Act.put, sp1_, sp2_]; rfl)
               refine pure_ (i := 8) (N := some 62) (v := ?_) (a' := ?_) (mk_ 15 487) rfl rfl (an_ HT_.out) (fun _ _ _ h => h) (Or.inl ⟨by rfl, ?_⟩) ?_ ?_
               rotate_left; (intro w'; go_simp; with_reducible rfl); rotate_left; (simp only [Act.put, sp1_, sp2_]; rfl)
               refine pure_ (i := 10) (N := some 64) (v := ?_) (a' := ?_) (mk_ 15 1511) rfl rfl (an_ HT_.out) (fun _ _ _ h => h) (Or.inl ⟨by rfl, ?_⟩) ?_ ?_
               rotate_left; (intro w'; go_simp; with_reducible rfl); rotate_left; (simp only [Act.put, sp1_, sp2_]; rfl)
               refine take_ (i := 3) (N := some 57) (v := ?_) (a' := ?_) (mk_ 15 1519) rfl rfl (take_ofW HT_.out HW_.out (by kernel_rfl)) (fun _ _ _ h => h) (Or.inl ⟨by rfl, ?_⟩) hHeld ?_ ?_
               rotate_left
               ·rintro w' ⟨s0, s1, s2, s3, s4, s5⟩
                go_simp
                with_reducible rfl
               rotate_left; (simp only [Act.put, sp1_, sp2_]; rfl)
               refine take_ (i := 9) (N := some 63) (v := ?_) (a' := ?_) (mk_ 15 2031) rfl rfl (take_ofW HT_.out HW_.out (by kernel_rfl)) (fun _ _ _ h => h) (Or.inl ⟨by rfl, ?_⟩) hHeld ?_ ?_
               rotate_left
               ·rintro w' ⟨s0, s1, s2, s3, s4, s5⟩
                go_simp
                with_reducible rfl
               rotate_left; (simp only [Act.put, sp1_, sp2_]; rfl)
               refine pure_ (i := 11) (N := some 65) (v := ?_) (a' := ?_) (mk_ 15 4079) rfl rfl (an_ HT_.out) (fun _ _ _ h => h) (Or.inl ⟨by rfl, ?_⟩) ?_ ?_
               rotate_left; (intro w'; go_simp; with_reducible rfl); rotate_left; (simp only [Act.put, sp1_, sp2_]; rfl)
               refine take_ (i := 12) (N := some 66) (v := ?_) (a' := ?_) (mk_ 15 8175) rfl rfl (take_ofW HT_.out HW_.out (by kernel_rfl)) (fun _ _ _ h => h) (Or.inl ⟨by rfl, ?_⟩) hHeld ?_ ?_
               rotate_left
               ·rintro w' ⟨s0, s1, s2, s3, s4, s5⟩
                go_simp
                with_reducible rfl
               rotate_left; (simp only [Act.put, sp1_, sp2_]; rfl)
               refine one_ (i := 4) (N := some 58) (mk_ 15 8191) rfl rfl (one_of HT_.out (by kernel_rfl)) (by decide) (fun K hK => ?_)
               refine goes_ Tryd.func23 (by kernel_rfl) rfl #[.agg #[.int .i64 ((rd_T24 l0 x7_2).f0), .string ((rd_T24 l0 x7_2).f1), .int .i64 ((rd_T24 l0 x7_2).f2), .slice A312_3 ((rd_T24 l0 x7_2).f3).length c312_3]] (by rfl) rfl rfl (by (try simp only [List.map_toArray, List.map_cons, List.map_nil]); first | done | rfl | (simp only [List.length_drop, List.length_take]; rfl)) ?_
               with_reducible refine (vinculumref09_Count.calls kj21 ((rd_T24 l0 x7_2).f0) ((rd_T24 l0 x7_2).f1) ((rd_T24 l0 x7_2).f2) _ _ ((rd_T24 l0 x7_2).f3) t313 _ ?side1 ?side2 A28.out).mono ?_
               (case side1 => exact kc_ HR312_3.out HB.out)
               (case side2 => exact HC312_3.out)
               rintro e w35 ⟨rfl, hb⟩
               have HS4_ := (hb.cell (World.block_lt_of_cell? _ _ (hHeld.2.2.2.2.1))).trans (hHeld.2.2.2.2.1)
               have HS5_ := (hb.cell (World.block_lt_of_cell? _ _ (hHeld.2.2.2.2.2))).trans (hHeld.2.2.2.2.2)
               refine ⟨_, rfl, ?_⟩
               have n0_ := Aside0.mk (Kd.S_below (by (with_reducible repeat (first | apply Kd.S_alloc | apply Kd.S_drewN | apply Kd.S_drew)); exact HO_5.out) hb)
               have n1_ := Aside0.mk (Kd.R_below (by (with_reducible repeat (first | apply Kd.R_alloc | apply Kd.R_drewN | apply Kd.R_drew)); exact HL314_0.out) hb)
               have n2_ := Aside0.mk (Kd.C_below (by repeat (first | (with_reducible exact HR314_0.out) | (with_reducible refine Kd.C_alloc ?_ _) | (with_reducible refine Kd.C_drewN ?_ _) | (with_reducible refine Kd.C_drew ?_) | exact HR314_0.out)) hb)
               have n3_ := Aside0.mk (pw_cell_below hb HX314_0.out)
               have n4_ := Aside0.mk (below_step (bs0_ HB.out) hb)
               clear HO_5; clear HL314_0; clear HR314_0; clear HX314_0; clear HB
               have HO_5 := n0_
               have HL314_0 := n1_
               have HR314_0 := n2_
               have HX314_0 := n3_
               have HB := n4_
               clear n0_ n1_ n2_ n3_ n4_
               (try clear hb)
               (try clear hb2)
               (try clear hk)
               (try clear hi)
               refine hK.out _ _ ⟨(ck_ HB.out hw312_0), (ck_ HB.out hw312_1), (ck_ HB.out hw312_2), (ck_ HB.out hw312_3), HS4_, HS5_⟩ (fun hHeld => ?_)
               clear hK K
               refine norm_ (a' := ?_) ?_ ?_
               rotate_left
               ·show Act.put _ (some 58) _ = _
                simp only [Act.put, sp1_, sp2_]
                rfl
               refine pure_ (i := 13) (N := some 67) (v := ?_) (a' := ?_) (mk_ 15 16383) rfl rfl (an_ HT_.out) (fun _ _ _ h => h) (Or.inl ⟨by rfl, ?_⟩) ?_ ?_
               rotate_left; (intro w'; go_simp; with_reducible rfl); rotate_left; (simp only [Act.put, sp1_, sp2_]; rfl)
               refine pure_ (i := 14) (N := some 9) (v := ?_) (a' := ?_) (mk_ 15 32767) rfl rfl (an_ HT_.out) (fun _ _ _ h => h) (Or.inl ⟨by rfl, ?_⟩) ?_ ?_
               rotate_left; (intro w'; go_simp; with_reducible rfl); rotate_left; (simp only [Act.put, sp1_, sp2_]; rfl)
               refine done_ (done_of HT_.out (by kernel_rfl)) ?_
               try go_wp2
               go_meet
               case rel => exact ⟨_, (wrap64 (t313 + (rd (rd_L6 x5_3 (ji29)) x8_3))), (by first | rfl | (simp; done) | (simp only [← hji29] <;> (first | rfl | simp)) | (simp [*]; done)), H', ⟨by have := HK1.out; have := HK2.out; have := HK3.out; have := HJ21.out; first | omega | exact Nat.le_refl _⟩, ⟨by (try simp only [hl5_1]); (try simp only [hl5_2]); (try simp only [hl5_3]); (with_reducible repeat (first | apply Kd.S_alloc | apply Kd.S_drewN | apply Kd.S_drew)); exact HO_5.out⟩, ⟨bs0_ HB.out⟩⟩
              ·rw [if_neg c26] at H
               have c26b0 : decide (x7_2 < (l0.length : Int)) = false := decide_eq_false c26
               (try simp only [hl5_1, hl5_2, hl5_3] at c26b0)
               clear c26
               (first | rw [c26b0] | (simp only [i64_w, i32_w]; rw [c26b0]) | skip)
               have H' := Aside0.mk H
               clear H
               go_wp2
               go_meet
               case rel => exact ⟨_, ((-1)), (by first | rfl | (simp; done) | (simp [*]; done)), H', ⟨by have := HK1.out; have := HK2.out; have := HK3.out; have := HJ21.out; first | omega | exact Nat.le_refl _⟩, ⟨by (try simp only [hl5_1]); (try simp only [hl5_2]); (try simp only [hl5_3]); (with_reducible repeat (first | apply Kd.S_alloc | apply Kd.S_drewN | apply Kd.S_drew)); exact HO_5.out⟩, ⟨bs0_ HB.out⟩⟩
             case rest =>
              clear HC25; (try clear c1); (try clear p1); (try clear q1); (try clear hx1); (try clear c2); (try clear p2); (try clear c3); (try clear p3); (try clear q3); (try clear hx3); (try clear c4); (try clear c4b0); (try clear c4b1); (try clear c5); (try clear c5b0); (try clear c5b1); (try clear p6); (try clear c9); (try clear c9b0); (try clear c11); (try clear c11b0); (try clear c11b1); (try clear c12); (try clear c12b0); (try clear c12b1); (try clear c13); (try clear c13b0); (try clear c14); (try clear c14b0); (try clear c15); (try clear p15); (try clear q15); (try clear hx15); (try clear hf15); (try clear c18); (try clear hx18); (try clear hf18); (try clear c20); (try clear c20b0); (try clear c21); (try clear c21b0); (try clear c23); (try clear c23b0); (try clear c23b1); (try clear c24); (try clear c25); (try clear c26); (try clear c26b0); (try clear c27); (try clear c27b0); (try clear c30); (try clear c30b0); (try clear c31); (try clear c31b0); (try clear p31); (try clear q31); (try clear hx31); (try clear c32); (try clear c32b0); (try clear c33); (try clear c33b0); (try clear hx15_0); (try clear hx18_0); (try clear hx312_0); (try clear hx312_1); (try clear hx312_2); (try clear hx312_3); (try clear hx314_0); (try clear hx315_0); (try clear p1); (try clear p15); (try clear p2); (try clear p312); (try clear p314); (try clear p315); (try clear p6); (try clear q1); (try clear q15); (try clear q312); (try clear q314); (try clear q315)
              obtain ⟨kq, x9_24, rfl, HA, HJ24, HO_5, HB⟩ := hcut
              cases kq with
              | zero => exact absurd HA.out (by simp [vinculumref16_table.j4])
              | succ kj24 =>
               have H := HA.out
               clear HA
               simp only [vinculumref16_table.j4] at H
               have HC36 := Aside0.mk H
               clear H
               go_upto_if 71 with (fail)
               go_cut [9] (fun v9 wc => ∃ (kq : Nat) (x9_35 : Int), v9 = .int .i64 x9_35 ∧ Aside0 (vinculumref16_table.j5 kq l0 l1 x5_3 x7_2 x8_3 x9_35 = some r) ∧ Aside0 (kq ≤ kj24) ∧ Aside0 (Kd.S (Kd.slice 3 (Kd.int .i64)) 35 wc w.heap.size (fun _ => True) (.slice Ao8 x5_3.length co8) x5_3) ∧ Aside0 (Below w.heap.size w wc))
               case first =>
                have H := HC36.out
                clear HC36
                by_cases c37 : x8_3 < (l1.length : Int)
                ·rw [if_pos c37] at H
                 have c37b0 : decide (x8_3 < (l1.length : Int)) = true := decide_eq_true c37
                 (try simp only [hl5_1, hl5_2, hl5_3] at c37b0)
                 clear c37
                 (first | rw [c37b0] | (simp only [i64_w, i32_w]; rw [c37b0]) | skip)
                 by_cases c38 : 0 ≤ x8_3
                 case neg =>
                  rw [if_neg c38] at H
                  exact absurd H (by simp)
                 rw [if_pos c38] at H
                 have c38b0 : decide (0 ≤ x8_3) = true := decide_eq_true c38
                 (try simp only [hl5_1, hl5_2, hl5_3] at c38b0)
                 clear c38
                 replace H := Option.bind_eq_some_iff.mp H
                 obtain ⟨t317, A390, H⟩ := H
                 replace H : (if 0 ≤ x7_2 then (if x7_2 < (x5_3.length : Int) then (if 0 ≤ (wrap64 (x8_3 + 1)) then (if (wrap64 (x8_3 + 1)) < ((rd_L6 x5_3 x7_2).length : Int) then (if x9_24 < 0 then (vinculumref16_table.j5 kj24 l0 l1 x5_3 x7_2 x8_3 (wrap64 (t317 + (rd (rd_L6 x5_3 x7_2) (wrap64 (x8_3 + 1)))))) else (if (wrap64 (t317 + (rd (rd_L6 x5_3 x7_2) (wrap64 (x8_3 + 1))))) < x9_24 then (vinculumref16_table.j5 kj24 l0 l1 x5_3 x7_2 x8_3 (wrap64 (t317 + (rd (rd_L6 x5_3 x7_2) (wrap64 (x8_3 + 1)))))) else (vinculumref16_table.j5 kj24 l0 l1 x5_3 x7_2 x8_3 x9_24))) else (none)) else (none)) else (none)) else (none)) = some r := H
                 have A39 := Aside0.mk A390
                 clear A390
                 by_cases c40 : 0 ≤ x7_2
                 case neg =>
                  rw [if_neg c40] at H
                  exact absurd H (by simp)
                 rw [if_pos c40] at H
                 have c40b0 : decide (0 ≤ x7_2) = true := decide_eq_true c40
                 (try simp only [hl5_1, hl5_2, hl5_3] at c40b0)
                 clear c40
                 by_cases c41 : x7_2 < (x5_3.length : Int)
                 case neg =>
                  rw [if_neg c41] at H
                  exact absurd H (by simp)
                 rw [if_pos c41] at H
                 have c41b0 : decide (x7_2 < (x5_3.length : Int)) = true := decide_eq_true c41
                 (try simp only [hl5_1, hl5_2, hl5_3] at c41b0)
                 clear c41
                 obtain ⟨ji42, hji42⟩ : ∃ j_ : Int, (wrap64 (x8_3 + 1)) = j_ := ⟨_, rfl⟩
                 replace H : (if 0 ≤ (ji42) then (if (ji42) < ((rd_L6 x5_3 x7_2).length : Int) then (if x9_24 < 0 then (vinculumref16_table.j5 kj24 l0 l1 x5_3 x7_2 x8_3 (wrap64 (t317 + (rd (rd_L6 x5_3 x7_2) (ji42))))) else (if (wrap64 (t317 + (rd (rd_L6 x5_3 x7_2) (ji42)))) < x9_24 then (vinculumref16_table.j5 kj24 l0 l1 x5_3 x7_2 x8_3 (wrap64 (t317 + (rd (rd_L6 x5_3 x7_2) (ji42))))) else (vinculumref16_table.j5 kj24 l0 l1 x5_3 x7_2 x8_3 x9_24))) else (none)) else (none)) = some r := by first | (rw [hji42] at H; exact H) | (simp only [hji42] at H ⊢; exact H)
                 (try rw [hji42] at A39)
                 have hji42w : (IntKind.i64.wrap (x8_3 + 1)) = ji42 := (i64_w _).trans hji42
                 by_cases c43 : 0 ≤ (ji42)
                 case neg =>
                  rw [if_neg c43] at H
                  exact absurd H (by simp)
                 rw [if_pos c43] at H
                 have c43b0 : decide (0 ≤ (ji42)) = true := decide_eq_true c43
                 (try simp only [hl5_1, hl5_2, hl5_3] at c43b0)
                 clear c43
                 by_cases c44 : (ji42) < ((rd_L6 x5_3 x7_2).length : Int)
                 case neg =>
                  rw [if_neg c44] at H
                  exact absurd H (by simp)
                 rw [if_pos c44] at H
                 have c44b0 : decide ((ji42) < ((rd_L6 x5_3 x7_2).length : Int)) = true := decide_eq_true c44
                 (try simp only [hl5_1, hl5_2, hl5_3] at c44b0)
                 clear c44
                 by_cases c45 : x9_24 < 0
                 ·rw [if_pos c45] at H
                  have c45b0 : decide (x9_24 < 0) = true := decide_eq_true c45
                  (try simp only [hl5_1, hl5_2, hl5_3] at c45b0)
                  clear c45
                  have H' := Aside0.mk H
                  clear H
                  try go_wp2
                  have n0_ := Aside0.mk (Kd.S_drew HO_5.out)
                  have n1_ := Aside0.mk (below_drew1 HB.out)
                  clear HO_5; clear HB
                  have HO_5 := n0_
                  have HB := n1_
                  clear n0_ n1_
                  have p316 : 0 ≤ (x8_3 : Int) := of_decide_eq_true (by first | (with_reducible assumption) | assumption)
                  have q316 : x8_3 < (l1.length : Int) := of_decide_eq_true (by first | (with_reducible assumption) | assumption)
                  obtain ⟨ad316, A316_3, c316_3, e316, hx316_0, hx316_1, hx316_2, hx316_3, hl316_3, hi316_3⟩ := at_T24 HR1.out x8_3 p316 q316
                  have hw316_3 := hx316_3
                  have hw316_2 := hx316_2
                  have hw316_1 := hx316_1
                  have hw316_0 := hx316_0
                  cases e316
                  replace hx316_0 := (cl_ HB.out hx316_0).trans hx316_0
                  replace hx316_1 := (cl_ HB.out hx316_1).trans hx316_1
                  replace hx316_2 := (cl_ HB.out hx316_2).trans hx316_2
                  replace hx316_3 := (cl_ HB.out hx316_3).trans hx316_3
                  have HR316_3 := Aside0.mk hi316_3
                  have HC316_3 := Aside0.mk hl316_3
                  clear hi316_3 hl316_3
                  replace p316 := eq_true p316
                  replace q316 := eq_true q316
                  have p318 : 0 ≤ (x7_2 : Int) := of_decide_eq_true (by first | (with_reducible assumption) | assumption)
                  have q318 : x7_2 < (x5_3.length : Int) := of_decide_eq_true (by first | (with_reducible assumption) | assumption)
                  obtain ⟨ad318, A318_0, c318_0, e318, hx318_0, hl318_0, hi318_0⟩ := at_L6 (Kd.S_reads' HO_5.out).2.2 x7_2 p318 q318
                  cases e318
                  obtain ⟨ce318, hce318, hMe318, hcc318⟩ := Kd.S_get HO_5.out [] x7_2 p318 (by first | exact q318 | exact of_decide_eq_true (by first | (with_reducible assumption) | assumption) | (have e_ := (Kd.S_reads' HO_5.out).1; omega))
                  obtain ⟨ve318_0, rfl, ge318_0⟩ := hMe318
                  have hv318_0 := hcc318 0 _ rfl
                  rw [Nat.add_zero, show ((Kd.slice 3 (Kd.int .i64))).sz = 1 from rfl, Nat.mul_one] at hv318_0
                  replace hv318_0 := Option.some.inj (hv318_0.symm.trans hx318_0)
                  rw [hv318_0] at ge318_0
                  have HL318_0 := Aside0.mk (show Kd.R (Kd.int .i64) 3 _ _ _ _ (rd_L6 x5_3 x7_2) from ge318_0)
                  clear hv318_0 ge318_0
                  have HX318_0 := Aside0.mk hx318_0
                  clear hcc318 hce318
                  have HR318_0 := Aside0.mk hi318_0
                  have HC318_0 := Aside0.mk hl318_0
                  clear hi318_0 hl318_0
                  replace p318 := eq_true p318
                  replace q318 := eq_true q318
                  have p319 : 0 ≤ ((ji42) : Int) := of_decide_eq_true (by first | (with_reducible assumption) | assumption)
                  have q319 : (ji42) < ((rd_L6 x5_3 x7_2).length : Int) := of_decide_eq_true (by first | (with_reducible assumption) | assumption)
                  obtain ⟨ad319, e319, hx319_0⟩ := Kd.at_int (by repeat (first | (with_reducible exact HR318_0.out) | (with_reducible refine Kd.C_alloc ?_ _) | (with_reducible refine Kd.C_drewN ?_ _) | (with_reducible refine Kd.C_drew ?_) | exact HR318_0.out)) (ji42) p319 q319
                  cases e319
                  replace p319 := eq_true p319
                  replace q319 := eq_true q319
                  refine start_ (n := 15) (S := fun w' => w'.cell? (ad316.add ((x8_3).toNat * 4)) = some (.int .i64 ((rd_T24 l1 x8_3).f0)) ∧ w'.cell? ⟨(ad316.add ((x8_3).toNat * 4)).block, (ad316.add ((x8_3).toNat * 4)).off + 1, none⟩ = some (.string ((rd_T24 l1 x8_3).f1)) ∧ w'.cell? ⟨(ad316.add ((x8_3).toNat * 4)).block, (ad316.add ((x8_3).toNat * 4)).off + 2, none⟩ = some (.int .i64 ((rd_T24 l1 x8_3).f2)) ∧ w'.cell? ⟨(ad316.add ((x8_3).toNat * 4)).block, (ad316.add ((x8_3).toNat * 4)).off + 3, none⟩ = some (.slice A316_3 ((rd_T24 l1 x8_3).f3).length c316_3) ∧ w'.cell? (ad318.add (x7_2).toNat) = some (.slice (some ad319) (rd_L6 x5_3 x7_2).length c318_0) ∧ w'.cell? (ad319.add ((ji42)).toNat) = some (.int .i64 (rd (rd_L6 x5_3 x7_2) (ji42)))) (ds := []) #[false, false, false, false, false, false, false, false, false, false, false, false, false, false, false] (by kernel_rfl) rfl rfl ⟨(ck_ HB.out hw316_0), (ck_ HB.out hw316_1), (ck_ HB.out hw316_2), (ck_ HB.out hw316_3), hx318_0, hx319_0⟩ (fun hHeld => ?_); refine with_tabW vinculumref16_table.tab18 vinculumref16_table.bits18 (fun HT_ HW_ => ?_)
                  generalize wc.drew = w46 at HO_5 HB HL318_0 HR316_3 HR318_0 HX318_0 hx316_0 hx316_1 hx316_2 hx316_3 hx318_0 hx319_0 hHeld ⊢
                  refine pure_ (i := 0) (N := some 72) (v := ?_) (a' := ?_) (mk_ 15 1) rfl rfl (an_ HT_.out) (fun _ _ _ h => h) (Or.inl ⟨by rfl, ?_⟩) ?_ ?_
                  rotate_left; (intro w'; go_simp; with_reducible rfl); rotate_left; (simp only [Act.put, sp1_, sp2_]; rfl)
                  refine pure_ (i := 1) (N := some 73) (v := ?_) (a' := ?_) (mk_ 15 3) rfl rfl (an_ HT_.out) (fun _ _ _ h => h) (Or.inl ⟨by rfl, ?_⟩) ?_ ?_
                  rotate_left; (intro w'; go_simp; with_reducible rfl); rotate_left; (simp only [Act.put, sp1_, sp2_]; rfl)
                  refine pure_ (i := 2) (N := some 74) (v := ?_) (a' := ?_) (mk_ 15 7) rfl rfl (an_ HT_.out) (fun _ _ _ h => h) (Or.inl ⟨by rfl, ?_⟩) ?_ ?_
                  rotate_left; (intro w'; go_simp; with_reducible rfl); rotate_left; (simp only [Act.put, sp1_, sp2_]; rfl)
                  refine pure_ (i := 5) (N := some 77) (v := ?_) (a' := ?_) (mk_ 15 39) rfl rfl (an_ HT_.out) (fun _ _ _ h => h) (Or.inl ⟨by rfl, ?_⟩) ?_ ?_
                  rotate_left; (intro w'; go_simp; with_reducible rfl); rotate_left; (simp only [Act.put, sp1_, sp2_]; rfl)
                  refine pure_ (i := 6) (N := some 78) (v := ?_) (a' := ?_) (mk_ 15 103) rfl rfl (an_ HT_.out) (fun _ _ _ h => h) (Or.inl ⟨by rfl, ?_⟩) ?_ ?_
                  rotate_left; (intro w'; go_simp; with_reducible rfl); rotate_left; (simp only [Act.put, sp1_, sp2_]; rfl)
                  refine pure_ (i := 7) (N := some 79) (v := ?_) (a' := ?_) (mk_ 15 231) rfl rfl (an_ HT_.out) (fun _ _ _ h => h) (Or.inl ⟨by rfl, ?_⟩) ?_ ?_
                  rotate_left; (intro w'; go_simp; with_reducible rfl); rotate_left; (simp only [Act.put, sp1_, sp2_]; rfl)
                  refine pure_ (i := 9) (N := some 81) (v := ?_) (a' := ?_) (mk_ 15 743) rfl rfl (an_ HT_.out) (fun _ _ _ h => h) (Or.inl ⟨by rfl, ?_⟩) ?_ ?_
                  rotate_left; (intro w'; go_simp; with_reducible rfl); rotate_left; (simp only [Act.put, sp1_, sp2_]; rfl)
                  refine pure_ (i := 10) (N := some 82) (v := ?_) (a' := ?_) (mk_ 15 1767) rfl rfl (an_ HT_.out) (fun _ _ _ h => h) (Or.inl ⟨by rfl, ?_⟩) ?_ ?_
                  rotate_left; (intro w'; go_simp; with_reducible rfl); rotate_left; (simp only [Act.put, sp1_, sp2_]; rfl)
                  refine take_ (i := 3) (N := some 75) (v := ?_) (a' := ?_) (mk_ 15 1775) rfl rfl (take_ofW HT_.out HW_.out (by kernel_rfl)) (fun _ _ _ h => h) (Or.inl ⟨by rfl, ?_⟩) hHeld ?_ ?_
                  rotate_left
                  ·rintro w' ⟨s0, s1, s2, s3, s4, s5⟩
                   go_simp
                   with_reducible rfl
                  rotate_left; (simp only [Act.put, sp1_, sp2_]; rfl)
                  refine take_ (i := 8) (N := some 80) (v := ?_) (a' := ?_) (mk_ 15 2031) rfl rfl (take_ofW HT_.out HW_.out (by kernel_rfl)) (fun _ _ _ h => h) (Or.inl ⟨by rfl, ?_⟩) hHeld ?_ ?_
                  rotate_left
                  ·rintro w' ⟨s0, s1, s2, s3, s4, s5⟩
                   go_simp
                   with_reducible rfl
                  rotate_left; (simp only [Act.put, sp1_, sp2_]; rfl)
                  refine pure_ (i := 11) (N := some 83) (v := ?_) (a' := ?_) (mk_ 15 4079) rfl rfl (an_ HT_.out) (fun _ _ _ h => h) (Or.inl ⟨by rfl, ?_⟩) ?_ ?_
                  rotate_left; (intro w'; go_simp; with_reducible rfl); rotate_left; (simp only [Act.put, sp1_, sp2_]; rfl)
                  refine take_ (i := 12) (N := some 84) (v := ?_) (a' := ?_) (mk_ 15 8175) rfl rfl (take_ofW HT_.out HW_.out (by kernel_rfl)) (fun _ _ _ h => h) (Or.inl ⟨by rfl, ?_⟩) hHeld ?_ ?_
                  rotate_left
                  ·rintro w' ⟨s0, s1, s2, s3, s4, s5⟩
                   go_simp
                   with_reducible rfl
                  rotate_left; (simp only [Act.put, sp1_, sp2_]; rfl)
                  refine one_ (i := 4) (N := some 76) (mk_ 15 8191) rfl rfl (one_of HT_.out (by kernel_rfl)) (by decide) (fun K hK => ?_)
                  refine goes_ Tryd.func23 (by kernel_rfl) rfl #[.agg #[.int .i64 ((rd_T24 l1 x8_3).f0), .string ((rd_T24 l1 x8_3).f1), .int .i64 ((rd_T24 l1 x8_3).f2), .slice A316_3 ((rd_T24 l1 x8_3).f3).length c316_3]] (by rfl) rfl rfl (by (try simp only [List.map_toArray, List.map_cons, List.map_nil]); first | done | rfl | (simp only [List.length_drop, List.length_take]; rfl)) ?_
                  with_reducible refine (vinculumref09_Count.calls kj24 ((rd_T24 l1 x8_3).f0) ((rd_T24 l1 x8_3).f1) ((rd_T24 l1 x8_3).f2) _ _ ((rd_T24 l1 x8_3).f3) t317 _ ?side1 ?side2 A39.out).mono ?_
                  (case side1 => exact kc_ HR316_3.out HB.out)
                  (case side2 => exact HC316_3.out)
                  rintro e w47 ⟨rfl, hb⟩
                  have HS4_ := (hb.cell (World.block_lt_of_cell? _ _ (hHeld.2.2.2.2.1))).trans (hHeld.2.2.2.2.1)
                  have HS5_ := (hb.cell (World.block_lt_of_cell? _ _ (hHeld.2.2.2.2.2))).trans (hHeld.2.2.2.2.2)
                  refine ⟨_, rfl, ?_⟩
                  have n0_ := Aside0.mk (Kd.S_below (by (with_reducible repeat (first | apply Kd.S_alloc | apply Kd.S_drewN | apply Kd.S_drew)); exact HO_5.out) hb)
                  have n1_ := Aside0.mk (Kd.R_below (by (with_reducible repeat (first | apply Kd.R_alloc | apply Kd.R_drewN | apply Kd.R_drew)); exact HL318_0.out) hb)
                  have n2_ := Aside0.mk (Kd.C_below (by repeat (first | (with_reducible exact HR318_0.out) | (with_reducible refine Kd.C_alloc ?_ _) | (with_reducible refine Kd.C_drewN ?_ _) | (with_reducible refine Kd.C_drew ?_) | exact HR318_0.out)) hb)
                  have n3_ := Aside0.mk (pw_cell_below hb HX318_0.out)
                  have n4_ := Aside0.mk (below_step (bs0_ HB.out) hb)
                  clear HO_5; clear HL318_0; clear HR318_0; clear HX318_0; clear HB
                  have HO_5 := n0_
                  have HL318_0 := n1_
                  have HR318_0 := n2_
                  have HX318_0 := n3_
                  have HB := n4_
                  clear n0_ n1_ n2_ n3_ n4_
                  (try clear hb)
                  (try clear hb2)
                  (try clear hk)
                  (try clear hi)
                  refine hK.out _ _ ⟨(ck_ HB.out hw316_0), (ck_ HB.out hw316_1), (ck_ HB.out hw316_2), (ck_ HB.out hw316_3), HS4_, HS5_⟩ (fun hHeld => ?_)
                  clear hK K
                  refine norm_ (a' := ?_) ?_ ?_
                  rotate_left
                  ·show Act.put _ (some 76) _ = _
                   simp only [Act.put, sp1_, sp2_]
                   rfl
                  refine pure_ (i := 13) (N := some 85) (v := ?_) (a' := ?_) (mk_ 15 16383) rfl rfl (an_ HT_.out) (fun _ _ _ h => h) (Or.inl ⟨by rfl, ?_⟩) ?_ ?_
                  rotate_left; (intro w'; go_simp; with_reducible rfl); rotate_left; (simp only [Act.put, sp1_, sp2_]; rfl)
                  refine pure_ (i := 14) (N := some 10) (v := ?_) (a' := ?_) (mk_ 15 32767) rfl rfl (an_ HT_.out) (fun _ _ _ h => h) (Or.inl ⟨by rfl, ?_⟩) ?_ ?_
                  rotate_left; (intro w'; go_simp; with_reducible rfl); rotate_left; (simp only [Act.put, sp1_, sp2_]; rfl)
                  refine done_ (done_of HT_.out (by kernel_rfl)) ?_
                  try go_wp2
                  go_meet
                  case rel => exact ⟨_, (wrap64 (t317 + (rd (rd_L6 x5_3 x7_2) (ji42)))), (by first | rfl | (simp; done) | (simp only [← hji42] <;> (first | rfl | simp)) | (simp [*]; done)), H', ⟨by have := HK1.out; have := HK2.out; have := HK3.out; have := HJ21.out; have := HJ24.out; first | omega | exact Nat.le_refl _⟩, ⟨by (try simp only [hl5_1]); (try simp only [hl5_2]); (try simp only [hl5_3]); (with_reducible repeat (first | apply Kd.S_alloc | apply Kd.S_drewN | apply Kd.S_drew)); exact HO_5.out⟩, ⟨bs0_ HB.out⟩⟩
                 ·rw [if_neg c45] at H
                  have c45b0 : decide (x9_24 < 0) = false := decide_eq_false c45
                  (try simp only [hl5_1, hl5_2, hl5_3] at c45b0)
                  clear c45
                  by_cases c48 : (wrap64 (t317 + (rd (rd_L6 x5_3 x7_2) (ji42)))) < x9_24
                  ·rw [if_pos c48] at H
                   have c48b0 : decide ((wrap64 (t317 + (rd (rd_L6 x5_3 x7_2) (ji42)))) < x9_24) = true := decide_eq_true c48
                   (try simp only [hl5_1, hl5_2, hl5_3] at c48b0)
                   clear c48
                   have H' := Aside0.mk H
                   clear H
                   try go_wp2
                   have n0_ := Aside0.mk (Kd.S_drew HO_5.out)
                   have n1_ := Aside0.mk (below_drew1 HB.out)
                   clear HO_5; clear HB
                   have HO_5 := n0_
                   have HB := n1_
                   clear n0_ n1_
                   have p316 : 0 ≤ (x8_3 : Int) := of_decide_eq_true (by first | (with_reducible assumption) | assumption)
                   have q316 : x8_3 < (l1.length : Int) := of_decide_eq_true (by first | (with_reducible assumption) | assumption)
                   obtain ⟨ad316, A316_3, c316_3, e316, hx316_0, hx316_1, hx316_2, hx316_3, hl316_3, hi316_3⟩ := at_T24 HR1.out x8_3 p316 q316
                   have hw316_3 := hx316_3
                   have hw316_2 := hx316_2
                   have hw316_1 := hx316_1
                   have hw316_0 := hx316_0
                   cases e316
                   replace hx316_0 := (cl_ HB.out hx316_0).trans hx316_0
                   replace hx316_1 := (cl_ HB.out hx316_1).trans hx316_1
                   replace hx316_2 := (cl_ HB.out hx316_2).trans hx316_2
                   replace hx316_3 := (cl_ HB.out hx316_3).trans hx316_3
                   have HR316_3 := Aside0.mk hi316_3
                   have HC316_3 := Aside0.mk hl316_3
                   clear hi316_3 hl316_3
                   replace p316 := eq_true p316
                   replace q316 := eq_true q316
                   have p318 : 0 ≤ (x7_2 : Int) := of_decide_eq_true (by first | (with_reducible assumption) | assumption)
                   have q318 : x7_2 < (x5_3.length : Int) := of_decide_eq_true (by first | (with_reducible assumption) | assumption)
                   obtain ⟨ad318, A318_0, c318_0, e318, hx318_0, hl318_0, hi318_0⟩ := at_L6 (Kd.S_reads' HO_5.out).2.2 x7_2 p318 q318
                   cases e318
                   obtain ⟨ce318, hce318, hMe318, hcc318⟩ := Kd.S_get HO_5.out [] x7_2 p318 (by first | exact q318 | exact of_decide_eq_true (by first | (with_reducible assumption) | assumption) | (have e_ := (Kd.S_reads' HO_5.out).1; omega))
                   obtain ⟨ve318_0, rfl, ge318_0⟩ := hMe318
                   have hv318_0 := hcc318 0 _ rfl
                   rw [Nat.add_zero, show ((Kd.slice 3 (Kd.int .i64))).sz = 1 from rfl, Nat.mul_one] at hv318_0
                   replace hv318_0 := Option.some.inj (hv318_0.symm.trans hx318_0)
                   rw [hv318_0] at ge318_0
                   have HL318_0 := Aside0.mk (show Kd.R (Kd.int .i64) 3 _ _ _ _ (rd_L6 x5_3 x7_2) from ge318_0)
                   clear hv318_0 ge318_0
                   have HX318_0 := Aside0.mk hx318_0
                   clear hcc318 hce318
                   have HR318_0 := Aside0.mk hi318_0
                   have HC318_0 := Aside0.mk hl318_0
                   clear hi318_0 hl318_0
                   replace p318 := eq_true p318
                   replace q318 := eq_true q318
                   have p319 : 0 ≤ ((ji42) : Int) := of_decide_eq_true (by first | (with_reducible assumption) | assumption)
                   have q319 : (ji42) < ((rd_L6 x5_3 x7_2).length : Int) := of_decide_eq_true (by first | (with_reducible assumption) | assumption)
                   obtain ⟨ad319, e319, hx319_0⟩ := Kd.at_int (by repeat (first | (with_reducible exact HR318_0.out) | (with_reducible refine Kd.C_alloc ?_ _) | (with_reducible refine Kd.C_drewN ?_ _) | (with_reducible refine Kd.C_drew ?_) | exact HR318_0.out)) (ji42) p319 q319
                   cases e319
                   replace p319 := eq_true p319
                   replace q319 := eq_true q319
                   refine start_ (n := 15) (S := fun w' => w'.cell? (ad316.add ((x8_3).toNat * 4)) = some (.int .i64 ((rd_T24 l1 x8_3).f0)) ∧ w'.cell? ⟨(ad316.add ((x8_3).toNat * 4)).block, (ad316.add ((x8_3).toNat * 4)).off + 1, none⟩ = some (.string ((rd_T24 l1 x8_3).f1)) ∧ w'.cell? ⟨(ad316.add ((x8_3).toNat * 4)).block, (ad316.add ((x8_3).toNat * 4)).off + 2, none⟩ = some (.int .i64 ((rd_T24 l1 x8_3).f2)) ∧ w'.cell? ⟨(ad316.add ((x8_3).toNat * 4)).block, (ad316.add ((x8_3).toNat * 4)).off + 3, none⟩ = some (.slice A316_3 ((rd_T24 l1 x8_3).f3).length c316_3) ∧ w'.cell? (ad318.add (x7_2).toNat) = some (.slice (some ad319) (rd_L6 x5_3 x7_2).length c318_0) ∧ w'.cell? (ad319.add ((ji42)).toNat) = some (.int .i64 (rd (rd_L6 x5_3 x7_2) (ji42)))) (ds := []) #[false, false, false, false, false, false, false, false, false, false, false, false, false, false, false] (by kernel_rfl) rfl rfl ⟨(ck_ HB.out hw316_0), (ck_ HB.out hw316_1), (ck_ HB.out hw316_2), (ck_ HB.out hw316_3), hx318_0, hx319_0⟩ (fun hHeld => ?_); refine with_tabW vinculumref16_table.tab18 vinculumref16_table.bits18 (fun HT_ HW_ => ?_)
                   generalize wc.drew = w49 at HO_5 HB HL318_0 HR316_3 HR318_0 HX318_0 hx316_0 hx316_1 hx316_2 hx316_3 hx318_0 hx319_0 hHeld ⊢
                   refine pure_ (i := 0) (N := some 72) (v := ?_) (a' := ?_) (mk_ 15 1) rfl rfl (an_ HT_.out) (fun _ _ _ h => h) (Or.inl ⟨by rfl, ?_⟩) ?_ ?_
                   rotate_left; (intro w'; go_simp; with_reducible rfl); rotate_left; (simp only [Act.put, sp1_, sp2_]; rfl)
                   refine pure_ (i := 1) (N := some 73) (v := ?_) (a' := ?_) (mk_ 15 3) rfl rfl (an_ HT_.out) (fun _ _ _ h => h) (Or.inl ⟨by rfl, ?_⟩) ?_ ?_
                   rotate_left; (intro w'; go_simp; with_reducible rfl); rotate_left; (simp only [Act.put, sp1_, sp2_]; rfl)
                   refine pure_ (i := 2) (N := some 74) (v := ?_) (a' := ?_) (mk_ 15 7) rfl rfl (an_ HT_.out) (fun _ _ _ h => h) (Or.inl ⟨by rfl, ?_⟩) ?_ ?_
                   rotate_left; (intro w'; go_simp; with_reducible rfl); rotate_left; (simp only [Act.put, sp1_, sp2_]; rfl)
                   refine pure_ (i := 5) (N := some 77) (v := ?_) (a' := ?_) (mk_ 15 39) rfl rfl (an_ HT_.out) (fun _ _ _ h => h) (Or.inl ⟨by rfl, ?_⟩) ?_ ?_
                   rotate_left; (intro w'; go_simp; with_reducible rfl); rotate_left; (simp only [Act.put, sp1_, sp2_]; rfl)
                   refine pure_ (i := 6) (N := some 78) (v := ?_) (a' := ?_) (mk_ 15 103) rfl rfl (an_ HT_.out) (fun _ _ _ h => h) (Or.inl ⟨by rfl, ?_⟩) ?_ ?_
                   rotate_left; (intro w'; go_simp; with_reducible rfl); rotate_left; (simp only [Act.put, sp1_, sp2_]; rfl)
                   refine pure_ (i := 7) (N := some 79) (v := ?_) (a' := ?_) (mk_ 15 231) rfl rfl (an_ HT_.out) (fun _ _ _ h => h) (Or.inl ⟨by rfl, ?_⟩) ?_ ?_
                   rotate_left; (intro w'; go_simp; with_reducible rfl); rotate_left; (simp only [Act.put, sp1_, sp2_]; rfl)
                   refine pure_ (i := 9) (N := some 81) (v := ?_) (a' := ?_) (mk_ 15 743) rfl rfl (an_ HT_.out) (fun _ _ _ h => h) (Or.inl ⟨by rfl, ?_⟩) ?_ ?_
                   rotate_left; (intro w'; go_simp; with_reducible rfl); rotate_left; (simp only [Act.put, sp1_, sp2_]; rfl)
                   refine pure_ (i := 10) (N := some 82) (v := ?_) (a' := ?_) (mk_ 15 1767) rfl rfl (an_ HT_.out) (fun _ _ _ h => h) (Or.inl ⟨by rfl, ?_⟩) ?_ ?_
                   rotate_left; (intro w'; go_simp; with_reducible rfl); rotate_left; (simp only [Act.put, sp1_, sp2_]; rfl)
                   refine take_ (i := 3) (N := some 75) (v := ?_) (a' := ?_) (mk_ 15 1775) rfl rfl (take_ofW HT_.out HW_.out (by kernel_rfl)) (fun _ _ _ h => h) (Or.inl ⟨by rfl, ?_⟩) hHeld ?_ ?_
                   rotate_left
                   ·rintro w' ⟨s0, s1, s2, s3, s4, s5⟩
                    go_simp
                    with_reducible rfl
                   rotate_left; (simp only [Act.put, sp1_, sp2_]; rfl)
                   refine take_ (i := 8) (N := some 80) (v := ?_) (a' := ?_) (mk_ 15 2031) rfl rfl (take_ofW HT_.out HW_.out (by kernel_rfl)) (fun _ _ _ h => h) (Or.inl ⟨by rfl, ?_⟩) hHeld ?_ ?_
                   rotate_left
                   ·rintro w' ⟨s0, s1, s2, s3, s4, s5⟩
                    go_simp
                    with_reducible rfl
                   rotate_left; (simp only [Act.put, sp1_, sp2_]; rfl)
                   refine pure_ (i := 11) (N := some 83) (v := ?_) (a' := ?_) (mk_ 15 4079) rfl rfl (an_ HT_.out) (fun _ _ _ h => h) (Or.inl ⟨by rfl, ?_⟩) ?_ ?_
                   rotate_left; (intro w'; go_simp; with_reducible rfl); rotate_left; (simp only [Act.put, sp1_, sp2_]; rfl)
                   refine take_ (i := 12) (N := some 84) (v := ?_) (a' := ?_) (mk_ 15 8175) rfl rfl (take_ofW HT_.out HW_.out (by kernel_rfl)) (fun _ _ _ h => h) (Or.inl ⟨by rfl, ?_⟩) hHeld ?_ ?_
                   rotate_left
                   ·rintro w' ⟨s0, s1, s2, s3, s4, s5⟩
                    go_simp
                    with_reducible rfl
                   rotate_left; (simp only [Act.put, sp1_, sp2_]; rfl)
                   refine one_ (i := 4) (N := some 76) (mk_ 15 8191) rfl rfl (one_of HT_.out (by kernel_rfl)) (by decide) (fun K hK => ?_)
                   refine goes_ Tryd.func23 (by kernel_rfl) rfl #[.agg #[.int .i64 ((rd_T24 l1 x8_3).f0), .string ((rd_T24 l1 x8_3).f1), .int .i64 ((rd_T24 l1 x8_3).f2), .slice A316_3 ((rd_T24 l1 x8_3).f3).length c316_3]] (by rfl) rfl rfl (by (try simp only [List.map_toArray, List.map_cons, List.map_nil]); first | done | rfl | (simp only [List.length_drop, List.length_take]; rfl)) ?_
                   with_reducible refine (vinculumref09_Count.calls kj24 ((rd_T24 l1 x8_3).f0) ((rd_T24 l1 x8_3).f1) ((rd_T24 l1 x8_3).f2) _ _ ((rd_T24 l1 x8_3).f3) t317 _ ?side1 ?side2 A39.out).mono ?_
                   (case side1 => exact kc_ HR316_3.out HB.out)
                   (case side2 => exact HC316_3.out)
                   rintro e w50 ⟨rfl, hb⟩
                   have HS4_ := (hb.cell (World.block_lt_of_cell? _ _ (hHeld.2.2.2.2.1))).trans (hHeld.2.2.2.2.1)
                   have HS5_ := (hb.cell (World.block_lt_of_cell? _ _ (hHeld.2.2.2.2.2))).trans (hHeld.2.2.2.2.2)
                   refine ⟨_, rfl, ?_⟩
                   have n0_ := Aside0.mk (Kd.S_below (by (with_reducible repeat (first | apply Kd.S_alloc | apply Kd.S_drewN | apply Kd.S_drew)); exact HO_5.out) hb)
                   have n1_ := Aside0.mk (Kd.R_below (by (with_reducible repeat (first | apply Kd.R_alloc | apply Kd.R_drewN | apply Kd.R_drew)); exact HL318_0.out) hb)
                   have n2_ := Aside0.mk (Kd.C_below (by repeat (first | (with_reducible exact HR318_0.out) | (with_reducible refine Kd.C_alloc ?_ _) | (with_reducible refine Kd.C_drewN ?_ _) | (with_reducible refine Kd.C_drew ?_) | exact HR318_0.out)) hb)
                   have n3_ := Aside0.mk (pw_cell_below hb HX318_0.out)
                   have n4_ := Aside0.mk (below_step (bs0_ HB.out) hb)
                   clear HO_5; clear HL318_0; clear HR318_0; clear HX318_0; clear HB
                   have HO_5 := n0_
                   have HL318_0 := n1_
                   have HR318_0 := n2_
                   have HX318_0 := n3_
                   have HB := n4_
                   clear n0_ n1_ n2_ n3_ n4_
                   (try clear hb)
                   (try clear hb2)
                   (try clear hk)
                   (try clear hi)
                   refine hK.out _ _ ⟨(ck_ HB.out hw316_0), (ck_ HB.out hw316_1), (ck_ HB.out hw316_2), (ck_ HB.out hw316_3), HS4_, HS5_⟩ (fun hHeld => ?_)
                   clear hK K
                   refine norm_ (a' := ?_) ?_ ?_
                   rotate_left
                   ·show Act.put _ (some 76) _ = _
                    simp only [Act.put, sp1_, sp2_]
                    rfl
                   refine pure_ (i := 13) (N := some 85) (v := ?_) (a' := ?_) (mk_ 15 16383) rfl rfl (an_ HT_.out) (fun _ _ _ h => h) (Or.inl ⟨by rfl, ?_⟩) ?_ ?_
                   rotate_left; (intro w'; go_simp; with_reducible rfl); rotate_left; (simp only [Act.put, sp1_, sp2_]; rfl)
                   refine pure_ (i := 14) (N := some 10) (v := ?_) (a' := ?_) (mk_ 15 32767) rfl rfl (an_ HT_.out) (fun _ _ _ h => h) (Or.inl ⟨by rfl, ?_⟩) ?_ ?_
                   rotate_left; (intro w'; go_simp; with_reducible rfl); rotate_left; (simp only [Act.put, sp1_, sp2_]; rfl)
                   refine done_ (done_of HT_.out (by kernel_rfl)) ?_
                   try go_wp2
                   go_meet
                   case rel => exact ⟨_, (wrap64 (t317 + (rd (rd_L6 x5_3 x7_2) (ji42)))), (by first | rfl | (simp; done) | (simp only [← hji42] <;> (first | rfl | simp)) | (simp [*]; done)), H', ⟨by have := HK1.out; have := HK2.out; have := HK3.out; have := HJ21.out; have := HJ24.out; first | omega | exact Nat.le_refl _⟩, ⟨by (try simp only [hl5_1]); (try simp only [hl5_2]); (try simp only [hl5_3]); (with_reducible repeat (first | apply Kd.S_alloc | apply Kd.S_drewN | apply Kd.S_drew)); exact HO_5.out⟩, ⟨bs0_ HB.out⟩⟩
                  ·rw [if_neg c48] at H
                   have c48b0 : decide ((wrap64 (t317 + (rd (rd_L6 x5_3 x7_2) (ji42)))) < x9_24) = false := decide_eq_false c48
                   (try simp only [hl5_1, hl5_2, hl5_3] at c48b0)
                   clear c48
                   have H' := Aside0.mk H
                   clear H
                   try go_wp2
                   have n0_ := Aside0.mk (Kd.S_drew HO_5.out)
                   have n1_ := Aside0.mk (below_drew1 HB.out)
                   clear HO_5; clear HB
                   have HO_5 := n0_
                   have HB := n1_
                   clear n0_ n1_
                   have p316 : 0 ≤ (x8_3 : Int) := of_decide_eq_true (by first | (with_reducible assumption) | assumption)
                   have q316 : x8_3 < (l1.length : Int) := of_decide_eq_true (by first | (with_reducible assumption) | assumption)
                   obtain ⟨ad316, A316_3, c316_3, e316, hx316_0, hx316_1, hx316_2, hx316_3, hl316_3, hi316_3⟩ := at_T24 HR1.out x8_3 p316 q316
                   have hw316_3 := hx316_3
                   have hw316_2 := hx316_2
                   have hw316_1 := hx316_1
                   have hw316_0 := hx316_0
                   cases e316
                   replace hx316_0 := (cl_ HB.out hx316_0).trans hx316_0
                   replace hx316_1 := (cl_ HB.out hx316_1).trans hx316_1
                   replace hx316_2 := (cl_ HB.out hx316_2).trans hx316_2
                   replace hx316_3 := (cl_ HB.out hx316_3).trans hx316_3
                   have HR316_3 := Aside0.mk hi316_3
                   have HC316_3 := Aside0.mk hl316_3
                   clear hi316_3 hl316_3
                   replace p316 := eq_true p316
                   replace q316 := eq_true q316
                   have p318 : 0 ≤ (x7_2 : Int) := of_decide_eq_true (by first | (with_reducible assumption) | assumption)
                   have q318 : x7_2 < (x5_3.length : Int) := of_decide_eq_true (by first | (with_reducible assumption) | assumption)
                   obtain ⟨ad318, A318_0, c318_0, e318, hx318_0, hl318_0, hi318_0⟩ := at_L6 (Kd.S_reads' HO_5.out).2.2 x7_2 p318 q318
                   cases e318
                   obtain ⟨ce318, hce318, hMe318, hcc318⟩ := Kd.S_get HO_5.out [] x7_2 p318 (by first | exact q318 | exact of_decide_eq_true (by first | (with_reducible assumption) | assumption) | (have e_ := (Kd.S_reads' HO_5.out).1; omega))
                   obtain ⟨ve318_0, rfl, ge318_0⟩ := hMe318
                   have hv318_0 := hcc318 0 _ rfl
                   rw [Nat.add_zero, show ((Kd.slice 3 (Kd.int .i64))).sz = 1 from rfl, Nat.mul_one] at hv318_0
                   replace hv318_0 := Option.some.inj (hv318_0.symm.trans hx318_0)
                   rw [hv318_0] at ge318_0
                   have HL318_0 := Aside0.mk (show Kd.R (Kd.int .i64) 3 _ _ _ _ (rd_L6 x5_3 x7_2) from ge318_0)
                   clear hv318_0 ge318_0
                   have HX318_0 := Aside0.mk hx318_0
                   clear hcc318 hce318
                   have HR318_0 := Aside0.mk hi318_0
                   have HC318_0 := Aside0.mk hl318_0
                   clear hi318_0 hl318_0
                   replace p318 := eq_true p318
                   replace q318 := eq_true q318
                   have p319 : 0 ≤ ((ji42) : Int) := of_decide_eq_true (by first | (with_reducible assumption) | assumption)
                   have q319 : (ji42) < ((rd_L6 x5_3 x7_2).length : Int) := of_decide_eq_true (by first | (with_reducible assumption) | assumption)
                   obtain ⟨ad319, e319, hx319_0⟩ := Kd.at_int (by repeat (first | (with_reducible exact HR318_0.out) | (with_reducible refine Kd.C_alloc ?_ _) | (with_reducible refine Kd.C_drewN ?_ _) | (with_reducible refine Kd.C_drew ?_) | exact HR318_0.out)) (ji42) p319 q319
                   cases e319
                   replace p319 := eq_true p319
                   replace q319 := eq_true q319
                   refine start_ (n := 15) (S := fun w' => w'.cell? (ad316.add ((x8_3).toNat * 4)) = some (.int .i64 ((rd_T24 l1 x8_3).f0)) ∧ w'.cell? ⟨(ad316.add ((x8_3).toNat * 4)).block, (ad316.add ((x8_3).toNat * 4)).off + 1, none⟩ = some (.string ((rd_T24 l1 x8_3).f1)) ∧ w'.cell? ⟨(ad316.add ((x8_3).toNat * 4)).block, (ad316.add ((x8_3).toNat * 4)).off + 2, none⟩ = some (.int .i64 ((rd_T24 l1 x8_3).f2)) ∧ w'.cell? ⟨(ad316.add ((x8_3).toNat * 4)).block, (ad316.add ((x8_3).toNat * 4)).off + 3, none⟩ = some (.slice A316_3 ((rd_T24 l1 x8_3).f3).length c316_3) ∧ w'.cell? (ad318.add (x7_2).toNat) = some (.slice (some ad319) (rd_L6 x5_3 x7_2).length c318_0) ∧ w'.cell? (ad319.add ((ji42)).toNat) = some (.int .i64 (rd (rd_L6 x5_3 x7_2) (ji42)))) (ds := []) #[false, false, false, false, false, false, false, false, false, false, false, false, false, false, false] (by kernel_rfl) rfl rfl ⟨(ck_ HB.out hw316_0), (ck_ HB.out hw316_1), (ck_ HB.out hw316_2), (ck_ HB.out hw316_3), hx318_0, hx319_0⟩ (fun hHeld => ?_); refine with_tabW vinculumref16_table.tab18 vinculumref16_table.bits18 (fun HT_ HW_ => ?_)
                   generalize wc.drew = w51 at HO_5 HB HL318_0 HR316_3 HR318_0 HX318_0 hx316_0 hx316_1 hx316_2 hx316_3 hx318_0 hx319_0 hHeld ⊢
                   refine pure_ (i := 0) (N := some 72) (v := ?_) (a' := ?_) (mk_ 15 1) rfl rfl (an_ HT_.out) (fun _ _ _ h => h) (Or.inl ⟨by rfl, ?_⟩) ?_ ?_
                   rotate_left; (intro w'; go_simp; with_reducible rfl); rotate_left; (simp only [Act.put, sp1_, sp2_]; rfl)
                   refine pure_ (i := 1) (N := some 73) (v := ?_) (a' := ?_) (mk_ 15 3) rfl rfl (an_ HT_.out) (fun _ _ _ h => h) (Or.inl ⟨by rfl, ?_⟩) ?_ ?_
                   rotate_left; (intro w'; go_simp; with_reducible rfl); rotate_left; (simp only [Act.put, sp1_, sp2_]; rfl)
                   refine pure_ (i := 2) (N := some 74) (v := ?_) (a' := ?_) (mk_ 15 7) rfl rfl (an_ HT_.out) (fun _ _ _ h => h) (Or.inl ⟨by rfl, ?_⟩) ?_ ?_
                   rotate_left; (intro w'; go_simp; with_reducible rfl); rotate_left; (simp only [Act.put, sp1_, sp2_]; rfl)
                   refine pure_ (i := 5) (N := some 77) (v := ?_) (a' := ?_) (mk_ 15 39) rfl rfl (an_ HT_.out) (fun _ _ _ h => h) (Or.inl ⟨by rfl, ?_⟩) ?_ ?_
                   rotate_left; (intro w'; go_simp; with_reducible rfl); rotate_left; (simp only [Act.put, sp1_, sp2_]; rfl)
                   refine pure_ (i := 6) (N := some 78) (v := ?_) (a' := ?_) (mk_ 15 103) rfl rfl (an_ HT_.out) (fun _ _ _ h => h) (Or.inl ⟨by rfl, ?_⟩) ?_ ?_
                   rotate_left; (intro w'; go_simp; with_reducible rfl); rotate_left; (simp only [Act.put, sp1_, sp2_]; rfl)
                   refine pure_ (i := 7) (N := some 79) (v := ?_) (a' := ?_) (mk_ 15 231) rfl rfl (an_ HT_.out) (fun _ _ _ h => h) (Or.inl ⟨by rfl, ?_⟩) ?_ ?_
                   rotate_left; (intro w'; go_simp; with_reducible rfl); rotate_left; (simp only [Act.put, sp1_, sp2_]; rfl)
                   refine pure_ (i := 9) (N := some 81) (v := ?_) (a' := ?_) (mk_ 15 743) rfl rfl (an_ HT_.out) (fun _ _ _ h => h) (Or.inl ⟨by rfl, ?_⟩) ?_ ?_
                   rotate_left; (intro w'; go_simp; with_reducible rfl); rotate_left; (simp only [Act.put, sp1_, sp2_]; rfl)
                   refine pure_ (i := 10) (N := some 82) (v := ?_) (a' := ?_) (mk_ 15 1767) rfl rfl (an_ HT_.out) (fun _ _ _ h => h) (Or.inl ⟨by rfl, ?_⟩) ?_ ?_
                   rotate_left; (intro w'; go_simp; with_reducible rfl); rotate_left; (simp only [Act.put, sp1_, sp2_]; rfl)
                   refine take_ (i := 3) (N := some 75) (v := ?_) (a' := ?_) (mk_ 15 1775) rfl rfl (take_ofW HT_.out HW_.out (by kernel_rfl)) (fun _ _ _ h => h) (Or.inl ⟨by rfl, ?_⟩) hHeld ?_ ?_
                   rotate_left
                   ·rintro w' ⟨s0, s1, s2, s3, s4, s5⟩
                    go_simp
                    with_reducible rfl
                   rotate_left; (simp only [Act.put, sp1_, sp2_]; rfl)
                   refine take_ (i := 8) (N := some 80) (v := ?_) (a' := ?_) (mk_ 15 2031) rfl rfl (take_ofW HT_.out HW_.out (by kernel_rfl)) (fun _ _ _ h => h) (Or.inl ⟨by rfl, ?_⟩) hHeld ?_ ?_
                   rotate_left
                   ·rintro w' ⟨s0, s1, s2, s3, s4, s5⟩
                    go_simp
                    with_reducible rfl
                   rotate_left; (simp only [Act.put, sp1_, sp2_]; rfl)
                   refine pure_ (i := 11) (N := some 83) (v := ?_) (a' := ?_) (mk_ 15 4079) rfl rfl (an_ HT_.out) (fun _ _ _ h => h) (Or.inl ⟨by rfl, ?_⟩) ?_ ?_
                   rotate_left; (intro w'; go_simp; with_reducible rfl); rotate_left; (simp only [Act.put, sp1_, sp2_]; rfl)
                   refine take_ (i := 12) (N := some 84) (v := ?_) (a' := ?_) (mk_ 15 8175) rfl rfl (take_ofW HT_.out HW_.out (by kernel_rfl)) (fun _ _ _ h => h) (Or.inl ⟨by rfl, ?_⟩) hHeld ?_ ?_
                   rotate_left
                   ·rintro w' ⟨s0, s1, s2, s3, s4, s5⟩
                    go_simp
                    with_reducible rfl
                   rotate_left; (simp only [Act.put, sp1_, sp2_]; rfl)
                   refine one_ (i := 4) (N := some 76) (mk_ 15 8191) rfl rfl (one_of HT_.out (by kernel_rfl)) (by decide) (fun K hK => ?_)
                   refine goes_ Tryd.func23 (by kernel_rfl) rfl #[.agg #[.int .i64 ((rd_T24 l1 x8_3).f0), .string ((rd_T24 l1 x8_3).f1), .int .i64 ((rd_T24 l1 x8_3).f2), .slice A316_3 ((rd_T24 l1 x8_3).f3).length c316_3]] (by rfl) rfl rfl (by (try simp only [List.map_toArray, List.map_cons, List.map_nil]); first | done | rfl | (simp only [List.length_drop, List.length_take]; rfl)) ?_
                   with_reducible refine (vinculumref09_Count.calls kj24 ((rd_T24 l1 x8_3).f0) ((rd_T24 l1 x8_3).f1) ((rd_T24 l1 x8_3).f2) _ _ ((rd_T24 l1 x8_3).f3) t317 _ ?side1 ?side2 A39.out).mono ?_
                   (case side1 => exact kc_ HR316_3.out HB.out)
                   (case side2 => exact HC316_3.out)
                   rintro e w52 ⟨rfl, hb⟩
                   have HS4_ := (hb.cell (World.block_lt_of_cell? _ _ (hHeld.2.2.2.2.1))).trans (hHeld.2.2.2.2.1)
                   have HS5_ := (hb.cell (World.block_lt_of_cell? _ _ (hHeld.2.2.2.2.2))).trans (hHeld.2.2.2.2.2)
                   refine ⟨_, rfl, ?_⟩
                   have n0_ := Aside0.mk (Kd.S_below (by (with_reducible repeat (first | apply Kd.S_alloc | apply Kd.S_drewN | apply Kd.S_drew)); exact HO_5.out) hb)
                   have n1_ := Aside0.mk (Kd.R_below (by (with_reducible repeat (first | apply Kd.R_alloc | apply Kd.R_drewN | apply Kd.R_drew)); exact HL318_0.out) hb)
                   have n2_ := Aside0.mk (Kd.C_below (by repeat (first | (with_reducible exact HR318_0.out) | (with_reducible refine Kd.C_alloc ?_ _) | (with_reducible refine Kd.C_drewN ?_ _) | (with_reducible refine Kd.C_drew ?_) | exact HR318_0.out)) hb)
                   have n3_ := Aside0.mk (pw_cell_below hb HX318_0.out)
                   have n4_ := Aside0.mk (below_step (bs0_ HB.out) hb)
                   clear HO_5; clear HL318_0; clear HR318_0; clear HX318_0; clear HB
                   have HO_5 := n0_
                   have HL318_0 := n1_
                   have HR318_0 := n2_
                   have HX318_0 := n3_
                   have HB := n4_
                   clear n0_ n1_ n2_ n3_ n4_
                   (try clear hb)
                   (try clear hb2)
                   (try clear hk)
                   (try clear hi)
                   refine hK.out _ _ ⟨(ck_ HB.out hw316_0), (ck_ HB.out hw316_1), (ck_ HB.out hw316_2), (ck_ HB.out hw316_3), HS4_, HS5_⟩ (fun hHeld => ?_)
                   clear hK K
                   refine norm_ (a' := ?_) ?_ ?_
                   rotate_left
                   ·show Act.put _ (some 76) _ = _
                    simp only [Act.put, sp1_, sp2_]
                    rfl
                   refine pure_ (i := 13) (N := some 85) (v := ?_) (a' := ?_) (mk_ 15 16383) rfl rfl (an_ HT_.out) (fun _ _ _ h => h) (Or.inl ⟨by rfl, ?_⟩) ?_ ?_
                   rotate_left; (intro w'; go_simp; with_reducible rfl); rotate_left; (simp only [Act.put, sp1_, sp2_]; rfl)
                   refine pure_ (i := 14) (N := some 10) (v := ?_) (a' := ?_) (mk_ 15 32767) rfl rfl (an_ HT_.out) (fun _ _ _ h => h) (Or.inl ⟨by rfl, ?_⟩) ?_ ?_
                   rotate_left; (intro w'; go_simp; with_reducible rfl); rotate_left; (simp only [Act.put, sp1_, sp2_]; rfl)
                   refine done_ (done_of HT_.out (by kernel_rfl)) ?_
                   try go_wp2
                   go_meet
                   case rel => exact ⟨_, (x9_24), (by first | rfl | (simp; done) | (simp [*]; done)), H', ⟨by have := HK1.out; have := HK2.out; have := HK3.out; have := HJ21.out; have := HJ24.out; first | omega | exact Nat.le_refl _⟩, ⟨by (try simp only [hl5_1]); (try simp only [hl5_2]); (try simp only [hl5_3]); (with_reducible repeat (first | apply Kd.S_alloc | apply Kd.S_drewN | apply Kd.S_drew)); exact HO_5.out⟩, ⟨bs0_ HB.out⟩⟩
                ·rw [if_neg c37] at H
                 have c37b0 : decide (x8_3 < (l1.length : Int)) = false := decide_eq_false c37
                 (try simp only [hl5_1, hl5_2, hl5_3] at c37b0)
                 clear c37
                 (first | rw [c37b0] | (simp only [i64_w, i32_w]; rw [c37b0]) | skip)
                 have H' := Aside0.mk H
                 clear H
                 go_wp2
                 go_meet
                 case rel => exact ⟨_, (x9_24), (by first | rfl | (simp; done) | (simp [*]; done)), H', ⟨by have := HK1.out; have := HK2.out; have := HK3.out; have := HJ21.out; have := HJ24.out; first | omega | exact Nat.le_refl _⟩, ⟨by (try simp only [hl5_1]); (try simp only [hl5_2]); (try simp only [hl5_3]); (with_reducible repeat (first | apply Kd.S_alloc | apply Kd.S_drewN | apply Kd.S_drew)); exact HO_5.out⟩, ⟨bs0_ HB.out⟩⟩
               case rest =>
                clear HC36; (try clear c2); (try clear p2); (try clear c3); (try clear p3); (try clear q3); (try clear hx3); (try clear c4); (try clear p6); (try clear c23); (try clear c31); (try clear p31); (try clear q31); (try clear hx31); (try clear c37); (try clear c37b0); (try clear c38); (try clear c40); (try clear c41); (try clear c43); (try clear c44); (try clear c45); (try clear c45b0); (try clear c48); (try clear c48b0); (try clear hx316_0); (try clear hx316_1); (try clear hx316_2); (try clear hx316_3); (try clear hx318_0); (try clear hx319_0); (try clear p316); (try clear p318); (try clear p319); (try clear q316); (try clear q318); (try clear q319)
                obtain ⟨kq, x9_35, rfl, HA, HJ35, HO_5, HB⟩ := hcut
                cases kq with
                | zero => exact absurd HA.out (by simp [vinculumref16_table.j5])
                | succ kj35 =>
                 have H := HA.out
                 clear HA
                 simp only [vinculumref16_table.j5] at H
                 by_cases c53 : x7_2 < (l0.length : Int)
                 ·rw [if_pos c53] at H
                  have c53b0 : decide (x7_2 < (l0.length : Int)) = true := decide_eq_true c53
                  (try simp only [hl5_1, hl5_2, hl5_3] at c53b0)
                  clear c53
                  by_cases c54 : x8_3 < (l1.length : Int)
                  ·rw [if_pos c54] at H
                   have c54b0 : decide (x8_3 < (l1.length : Int)) = true := decide_eq_true c54
                   (try simp only [hl5_1, hl5_2, hl5_3] at c54b0)
                   clear c54
                   by_cases c55 : 0 ≤ x7_2
                   case neg =>
                    rw [if_neg c55] at H
                    exact absurd H (by simp)
                   rw [if_pos c55] at H
                   have c55b0 : decide (0 ≤ x7_2) = true := decide_eq_true c55
                   (try simp only [hl5_1, hl5_2, hl5_3] at c55b0)
                   clear c55
                   by_cases c56 : 0 ≤ x8_3
                   case neg =>
                    rw [if_neg c56] at H
                    exact absurd H (by simp)
                   rw [if_pos c56] at H
                   have c56b0 : decide (0 ≤ x8_3) = true := decide_eq_true c56
                   (try simp only [hl5_1, hl5_2, hl5_3] at c56b0)
                   clear c56
                   replace H := Option.bind_eq_some_iff.mp H
                   obtain ⟨t322, A570, H⟩ := H
                   replace H : (if t322 = true then ((vinculumref16_pair.f kj35 ((rd_T24 l0 x7_2).f0) ((rd_T24 l0 x7_2).f1) ((rd_T24 l0 x7_2).f2) ((rd_T24 l0 x7_2).f3) ((rd_T24 l1 x8_3).f0) ((rd_T24 l1 x8_3).f1) ((rd_T24 l1 x8_3).f2) ((rd_T24 l1 x8_3).f3)).bind fun t325 => (if 0 ≤ (wrap64 (x7_2 + 1)) then (if (wrap64 (x7_2 + 1)) < (x5_3.length : Int) then (if 0 ≤ (wrap64 (x8_3 + 1)) then (if (wrap64 (x8_3 + 1)) < ((rd_L6 x5_3 (wrap64 (x7_2 + 1))).length : Int) then (if x7_2 < (x5_3.length : Int) then (if x8_3 < ((rd_L6 x5_3 x7_2).length : Int) then (vinculumref16_table.l2 kj35 l0 l1 (x5_3.set (x7_2 : Int).toNat ((rd_L6 x5_3 x7_2).set (x8_3 : Int).toNat (mn x9_35 (wrap64 (t325 + (rd (rd_L6 x5_3 (wrap64 (x7_2 + 1))) (wrap64 (x8_3 + 1)))))))) x7_2 (wrap64 (x8_3 - 1))) else (none)) else (none)) else (none)) else (none)) else (none)) else (none))) else (if x7_2 < (x5_3.length : Int) then (if x8_3 < ((rd_L6 x5_3 x7_2).length : Int) then (vinculumref16_table.l2 kj35 l0 l1 (x5_3.set (x7_2 : Int).toNat ((rd_L6 x5_3 x7_2).set (x8_3 : Int).toNat x9_35)) x7_2 (wrap64 (x8_3 - 1))) else (none)) else (none))) = some r := H
                   have A57 := Aside0.mk A570
                   clear A570
                   by_cases c58 : t322 = true
                   ·subst c58
                    have H1 : ((vinculumref16_pair.f kj35 ((rd_T24 l0 x7_2).f0) ((rd_T24 l0 x7_2).f1) ((rd_T24 l0 x7_2).f2) ((rd_T24 l0 x7_2).f3) ((rd_T24 l1 x8_3).f0) ((rd_T24 l1 x8_3).f1) ((rd_T24 l1 x8_3).f2) ((rd_T24 l1 x8_3).f3)).bind fun t325 => (if 0 ≤ (wrap64 (x7_2 + 1)) then (if (wrap64 (x7_2 + 1)) < (x5_3.length : Int) then (if 0 ≤ (wrap64 (x8_3 + 1)) then (if (wrap64 (x8_3 + 1)) < ((rd_L6 x5_3 (wrap64 (x7_2 + 1))).length : Int) then (if x7_2 < (x5_3.length : Int) then (if x8_3 < ((rd_L6 x5_3 x7_2).length : Int) then (vinculumref16_table.l2 kj35 l0 l1 (x5_3.set (x7_2 : Int).toNat ((rd_L6 x5_3 x7_2).set (x8_3 : Int).toNat (mn x9_35 (wrap64 (t325 + (rd (rd_L6 x5_3 (wrap64 (x7_2 + 1))) (wrap64 (x8_3 + 1)))))))) x7_2 (wrap64 (x8_3 - 1))) else (none)) else (none)) else (none)) else (none)) else (none)) else (none))) = some r := by rw [if_pos rfl] at H; exact H
                    clear H
                    have H := H1
                    clear H1
                    replace H := Option.bind_eq_some_iff.mp H
                    obtain ⟨t325, A590, H⟩ := H
                    replace H : (if 0 ≤ (wrap64 (x7_2 + 1)) then (if (wrap64 (x7_2 + 1)) < (x5_3.length : Int) then (if 0 ≤ (wrap64 (x8_3 + 1)) then (if (wrap64 (x8_3 + 1)) < ((rd_L6 x5_3 (wrap64 (x7_2 + 1))).length : Int) then (if x7_2 < (x5_3.length : Int) then (if x8_3 < ((rd_L6 x5_3 x7_2).length : Int) then (vinculumref16_table.l2 kj35 l0 l1 (x5_3.set (x7_2 : Int).toNat ((rd_L6 x5_3 x7_2).set (x8_3 : Int).toNat (mn x9_35 (wrap64 (t325 + (rd (rd_L6 x5_3 (wrap64 (x7_2 + 1))) (wrap64 (x8_3 + 1)))))))) x7_2 (wrap64 (x8_3 - 1))) else (none)) else (none)) else (none)) else (none)) else (none)) else (none)) = some r := H
                    have A59 := Aside0.mk A590
                    clear A590
                    obtain ⟨ji60, hji60⟩ : ∃ j_ : Int, (wrap64 (x7_2 + 1)) = j_ := ⟨_, rfl⟩
                    replace H : (if 0 ≤ (ji60) then (if (ji60) < (x5_3.length : Int) then (if 0 ≤ (wrap64 (x8_3 + 1)) then (if (wrap64 (x8_3 + 1)) < ((rd_L6 x5_3 (ji60)).length : Int) then (if x7_2 < (x5_3.length : Int) then (if x8_3 < ((rd_L6 x5_3 x7_2).length : Int) then (vinculumref16_table.l2 kj35 l0 l1 (x5_3.set (x7_2 : Int).toNat ((rd_L6 x5_3 x7_2).set (x8_3 : Int).toNat (mn x9_35 (wrap64 (t325 + (rd (rd_L6 x5_3 (ji60)) (wrap64 (x8_3 + 1)))))))) x7_2 (wrap64 (x8_3 - 1))) else (none)) else (none)) else (none)) else (none)) else (none)) else (none)) = some r := by first | (rw [hji60] at H; exact H) | (simp only [hji60] at H ⊢; exact H)
                    (try rw [hji60] at A57)
                    (try rw [hji60] at A59)
                    have hji60w : (IntKind.i64.wrap (x7_2 + 1)) = ji60 := (i64_w _).trans hji60
                    by_cases c61 : 0 ≤ (ji60)
                    case neg =>
                     rw [if_neg c61] at H
                     exact absurd H (by simp)
                    rw [if_pos c61] at H
                    have c61b0 : decide (0 ≤ (ji60)) = true := decide_eq_true c61
                    (try simp only [hl5_1, hl5_2, hl5_3] at c61b0)
                    clear c61
                    by_cases c62 : (ji60) < (x5_3.length : Int)
                    case neg =>
                     rw [if_neg c62] at H
                     exact absurd H (by simp)
                    rw [if_pos c62] at H
                    have c62b0 : decide ((ji60) < (x5_3.length : Int)) = true := decide_eq_true c62
                    (try simp only [hl5_1, hl5_2, hl5_3] at c62b0)
                    clear c62
                    obtain ⟨ji63, hji63⟩ : ∃ j_ : Int, (wrap64 (x8_3 + 1)) = j_ := ⟨_, rfl⟩
                    replace H : (if 0 ≤ (ji63) then (if (ji63) < ((rd_L6 x5_3 (ji60)).length : Int) then (if x7_2 < (x5_3.length : Int) then (if x8_3 < ((rd_L6 x5_3 x7_2).length : Int) then (vinculumref16_table.l2 kj35 l0 l1 (x5_3.set (x7_2 : Int).toNat ((rd_L6 x5_3 x7_2).set (x8_3 : Int).toNat (mn x9_35 (wrap64 (t325 + (rd (rd_L6 x5_3 (ji60)) (ji63))))))) x7_2 (wrap64 (x8_3 - 1))) else (none)) else (none)) else (none)) else (none)) = some r := by first | (rw [hji63] at H; exact H) | (simp only [hji63] at H ⊢; exact H)
                    (try rw [hji63] at A57)
                    (try rw [hji63] at A59)
                    have hji63w : (IntKind.i64.wrap (x8_3 + 1)) = ji63 := (i64_w _).trans hji63
                    by_cases c64 : 0 ≤ (ji63)
                    case neg =>
                     rw [if_neg c64] at H
                     exact absurd H (by simp)
                    rw [if_pos c64] at H
                    have c64b0 : decide (0 ≤ (ji63)) = true := decide_eq_true c64
                    (try simp only [hl5_1, hl5_2, hl5_3] at c64b0)
                    clear c64
                    by_cases c65 : (ji63) < ((rd_L6 x5_3 (ji60)).length : Int)
                    case neg =>
                     rw [if_neg c65] at H
                     exact absurd H (by simp)
                    rw [if_pos c65] at H
                    have c65b0 : decide ((ji63) < ((rd_L6 x5_3 (ji60)).length : Int)) = true := decide_eq_true c65
                    (try simp only [hl5_1, hl5_2, hl5_3] at c65b0)
                    clear c65
                    obtain ⟨ji66, hji66⟩ : ∃ j_ : Int, (mn x9_35 (wrap64 (t325 + (rd (rd_L6 x5_3 (ji60)) (ji63))))) = j_ := ⟨_, rfl⟩
                    replace H : (if x7_2 < (x5_3.length : Int) then (if x8_3 < ((rd_L6 x5_3 x7_2).length : Int) then (vinculumref16_table.l2 kj35 l0 l1 (x5_3.set (x7_2 : Int).toNat ((rd_L6 x5_3 x7_2).set (x8_3 : Int).toNat (ji66))) x7_2 (wrap64 (x8_3 - 1))) else (none)) else (none)) = some r := by first | (rw [hji66] at H; exact H) | (simp only [hji66] at H ⊢; exact H)
                    (try rw [hji66] at A57)
                    (try rw [hji66] at A59)
                    have hji66_ : (if (wrap64 (t325 + (rd (rd_L6 x5_3 (ji60)) (ji63)))) < x9_35 then (wrap64 (t325 + (rd (rd_L6 x5_3 (ji60)) (ji63)))) else x9_35) = ji66 := hji66
                    by_cases c67 : x7_2 < (x5_3.length : Int)
                    case neg =>
                     rw [if_neg c67] at H
                     exact absurd H (by simp)
                    rw [if_pos c67] at H
                    have c67b0 : decide (x7_2 < (x5_3.length : Int)) = true := decide_eq_true c67
                    (try simp only [hl5_1, hl5_2, hl5_3] at c67b0)
                    clear c67
                    by_cases c68 : x8_3 < ((rd_L6 x5_3 x7_2).length : Int)
                    case neg =>
                     rw [if_neg c68] at H
                     exact absurd H (by simp)
                    rw [if_pos c68] at H
                    have c68b0 : decide (x8_3 < ((rd_L6 x5_3 x7_2).length : Int)) = true := decide_eq_true c68
                    (try simp only [hl5_1, hl5_2, hl5_3] at c68b0)
                    clear c68
                    obtain ⟨y329, hy329⟩ : ∃ y_ : List Int, y_ = ((rd_L6 x5_3 x7_2).set (x8_3 : Int).toNat (ji66)) := ⟨_, rfl⟩
                    replace H : (vinculumref16_table.l2 kj35 l0 l1 (x5_3.set (x7_2 : Int).toNat y329) x7_2 (wrap64 (x8_3 - 1))) = some r := by first | (rw [hy329]; with_reducible exact H) | (have H2_ := (Option.bind_some _ _).symm.trans H; rw [hy329]; with_reducible exact H2_) | (have H2_ := (Option.bind_some _ _).symm.trans H; with_reducible exact H2_) | with_reducible exact H | (rw [hy329]; exact H) | exact H
                    have Ny329 := Aside0.mk hy329
                    clear hy329
                    obtain ⟨y331, hy331⟩ : ∃ y_ : List (List Int), y_ = (x5_3.set (x7_2 : Int).toNat y329) := ⟨_, rfl⟩
                    replace H : (vinculumref16_table.l2 kj35 l0 l1 y331 x7_2 (wrap64 (x8_3 - 1))) = some r := by first | (rw [hy331]; with_reducible exact H) | (have H2_ := (Option.bind_some _ _).symm.trans H; rw [hy331]; with_reducible exact H2_) | (have H2_ := (Option.bind_some _ _).symm.trans H; with_reducible exact H2_) | with_reducible exact H | (rw [hy331]; exact H) | exact H
                    have Ny331 := Aside0.mk hy331
                    clear hy331
                    have H' := Aside0.mk H
                    clear H
                    try go_wp2
                    have n0_ := Aside0.mk (Kd.S_drew HO_5.out)
                    have n1_ := Aside0.mk (below_drew1 HB.out)
                    clear HO_5; clear HB
                    have HO_5 := n0_
                    have HB := n1_
                    clear n0_ n1_
                    have p320 : 0 ≤ (x7_2 : Int) := of_decide_eq_true (by first | (with_reducible assumption) | assumption)
                    have q320 : x7_2 < (l0.length : Int) := of_decide_eq_true (by first | (with_reducible assumption) | assumption)
                    obtain ⟨ad320, A320_3, c320_3, e320, hx320_0, hx320_1, hx320_2, hx320_3, hl320_3, hi320_3⟩ := at_T24 HR0.out x7_2 p320 q320
                    have hw320_3 := hx320_3
                    have hw320_2 := hx320_2
                    have hw320_1 := hx320_1
                    have hw320_0 := hx320_0
                    cases e320
                    replace hx320_0 := (cl_ HB.out hx320_0).trans hx320_0
                    replace hx320_1 := (cl_ HB.out hx320_1).trans hx320_1
                    replace hx320_2 := (cl_ HB.out hx320_2).trans hx320_2
                    replace hx320_3 := (cl_ HB.out hx320_3).trans hx320_3
                    have HR320_3 := Aside0.mk hi320_3
                    have HC320_3 := Aside0.mk hl320_3
                    clear hi320_3 hl320_3
                    replace p320 := eq_true p320
                    replace q320 := eq_true q320
                    have p321 : 0 ≤ (x8_3 : Int) := of_decide_eq_true (by first | (with_reducible assumption) | assumption)
                    have q321 : x8_3 < (l1.length : Int) := of_decide_eq_true (by first | (with_reducible assumption) | assumption)
                    obtain ⟨ad321, A321_3, c321_3, e321, hx321_0, hx321_1, hx321_2, hx321_3, hl321_3, hi321_3⟩ := at_T24 HR1.out x8_3 p321 q321
                    have hw321_3 := hx321_3
                    have hw321_2 := hx321_2
                    have hw321_1 := hx321_1
                    have hw321_0 := hx321_0
                    cases e321
                    replace hx321_0 := (cl_ HB.out hx321_0).trans hx321_0
                    replace hx321_1 := (cl_ HB.out hx321_1).trans hx321_1
                    replace hx321_2 := (cl_ HB.out hx321_2).trans hx321_2
                    replace hx321_3 := (cl_ HB.out hx321_3).trans hx321_3
                    have HR321_3 := Aside0.mk hi321_3
                    have HC321_3 := Aside0.mk hl321_3
                    clear hi321_3 hl321_3
                    replace p321 := eq_true p321
                    replace q321 := eq_true q321
                    refine start_ (n := 21) (S := fun w' => w'.cell? (ad320.add ((x7_2).toNat * 4)) = some (.int .i64 ((rd_T24 l0 x7_2).f0)) ∧ w'.cell? ⟨(ad320.add ((x7_2).toNat * 4)).block, (ad320.add ((x7_2).toNat * 4)).off + 1, none⟩ = some (.string ((rd_T24 l0 x7_2).f1)) ∧ w'.cell? ⟨(ad320.add ((x7_2).toNat * 4)).block, (ad320.add ((x7_2).toNat * 4)).off + 2, none⟩ = some (.int .i64 ((rd_T24 l0 x7_2).f2)) ∧ w'.cell? ⟨(ad320.add ((x7_2).toNat * 4)).block, (ad320.add ((x7_2).toNat * 4)).off + 3, none⟩ = some (.slice A320_3 ((rd_T24 l0 x7_2).f3).length c320_3) ∧ w'.cell? (ad321.add ((x8_3).toNat * 4)) = some (.int .i64 ((rd_T24 l1 x8_3).f0)) ∧ w'.cell? ⟨(ad321.add ((x8_3).toNat * 4)).block, (ad321.add ((x8_3).toNat * 4)).off + 1, none⟩ = some (.string ((rd_T24 l1 x8_3).f1)) ∧ w'.cell? ⟨(ad321.add ((x8_3).toNat * 4)).block, (ad321.add ((x8_3).toNat * 4)).off + 2, none⟩ = some (.int .i64 ((rd_T24 l1 x8_3).f2)) ∧ w'.cell? ⟨(ad321.add ((x8_3).toNat * 4)).block, (ad321.add ((x8_3).toNat * 4)).off + 3, none⟩ = some (.slice A321_3 ((rd_T24 l1 x8_3).f3).length c321_3)) (ds := []) #[false, false, false, false, false, false, false, false, false, false, false, false, false, false, false, false, false, false, false, false, false] (by kernel_rfl) rfl rfl ⟨(ck_ HB.out hw320_0), (ck_ HB.out hw320_1), (ck_ HB.out hw320_2), (ck_ HB.out hw320_3), (ck_ HB.out hw321_0), (ck_ HB.out hw321_1), (ck_ HB.out hw321_2), (ck_ HB.out hw321_3)⟩ (fun hHeld => ?_); refine with_tabW vinculumref16_table.tab21 vinculumref16_table.bits21 (fun HT_ HW_ => ?_)
                    generalize wc.drew = w70 at HO_5 HB HR320_3 HR321_3 hx320_0 hx320_1 hx320_2 hx320_3 hx321_0 hx321_1 hx321_2 hx321_3 hHeld ⊢
                    refine pure_ (i := 0) (N := some 94) (v := ?_) (a' := ?_) (mk_ 21 1) rfl rfl (an_ HT_.out) (fun _ _ _ h => h) (Or.inl ⟨by rfl, ?_⟩) ?_ ?_
                    rotate_left; (intro w'; go_simp; with_reducible rfl); rotate_left; (simp only [Act.put, sp1_, sp2_]; rfl)
                    refine pure_ (i := 1) (N := some 95) (v := ?_) (a' := ?_) (mk_ 21 3) rfl rfl (an_ HT_.out) (fun _ _ _ h => h) (Or.inl ⟨by rfl, ?_⟩) ?_ ?_
                    rotate_left; (intro w'; go_simp; with_reducible rfl); rotate_left; (simp only [Act.put, sp1_, sp2_]; rfl)
                    refine pure_ (i := 2) (N := some 96) (v := ?_) (a' := ?_) (mk_ 21 7) rfl rfl (an_ HT_.out) (fun _ _ _ h => h) (Or.inl ⟨by rfl, ?_⟩) ?_ ?_
                    rotate_left; (intro w'; go_simp; with_reducible rfl); rotate_left; (simp only [Act.put, sp1_, sp2_]; rfl)
                    refine pure_ (i := 3) (N := some 97) (v := ?_) (a' := ?_) (mk_ 21 15) rfl rfl (an_ HT_.out) (fun _ _ _ h => h) (Or.inl ⟨by rfl, ?_⟩) ?_ ?_
                    rotate_left; (intro w'; go_simp; with_reducible rfl); rotate_left; (simp only [Act.put, sp1_, sp2_]; rfl)
                    refine pure_ (i := 4) (N := some 98) (v := ?_) (a' := ?_) (mk_ 21 31) rfl rfl (an_ HT_.out) (fun _ _ _ h => h) (Or.inl ⟨by rfl, ?_⟩) ?_ ?_
                    rotate_left; (intro w'; go_simp; with_reducible rfl); rotate_left; (simp only [Act.put, sp1_, sp2_]; rfl)
                    refine pure_ (i := 5) (N := some 99) (v := ?_) (a' := ?_) (mk_ 21 63) rfl rfl (an_ HT_.out) (fun _ _ _ h => h) (Or.inl ⟨by rfl, ?_⟩) ?_ ?_
                    rotate_left; (intro w'; go_simp; with_reducible rfl); rotate_left; (simp only [Act.put, sp1_, sp2_]; rfl)
                    refine pure_ (i := 6) (N := some 100) (v := ?_) (a' := ?_) (mk_ 21 127) rfl rfl (an_ HT_.out) (fun _ _ _ h => h) (Or.inl ⟨by rfl, ?_⟩) ?_ ?_
                    rotate_left; (intro w'; go_simp; with_reducible rfl); rotate_left; (simp only [Act.put, sp1_, sp2_]; rfl)
                    refine pure_ (i := 7) (N := some 101) (v := ?_) (a' := ?_) (mk_ 21 255) rfl rfl (an_ HT_.out) (fun _ _ _ h => h) (Or.inl ⟨by rfl, ?_⟩) ?_ ?_
                    rotate_left; (intro w'; go_simp; with_reducible rfl); rotate_left; (simp only [Act.put, sp1_, sp2_]; rfl)
                    refine pure_ (i := 8) (N := some 102) (v := ?_) (a' := ?_) (mk_ 21 511) rfl rfl (an_ HT_.out) (fun _ _ _ h => h) (Or.inl ⟨by rfl, ?_⟩) ?_ ?_
                    rotate_left; (intro w'; go_simp; with_reducible rfl); rotate_left; (simp only [Act.put, sp1_, sp2_]; rfl)
                    refine pure_ (i := 9) (N := some 103) (v := ?_) (a' := ?_) (mk_ 21 1023) rfl rfl (an_ HT_.out) (fun _ _ _ h => h) (Or.inl ⟨by rfl, ?_⟩) ?_ ?_
                    rotate_left; (intro w'; go_simp; with_reducible rfl); rotate_left; (simp only [Act.put, sp1_, sp2_]; rfl)
                    refine pure_ (i := 10) (N := some 104) (v := ?_) (a' := ?_) (mk_ 21 2047) rfl rfl (an_ HT_.out) (fun _ _ _ h => h) (Or.inl ⟨by rfl, ?_⟩) ?_ ?_
                    rotate_left; (intro w'; go_simp; with_reducible rfl); rotate_left; (simp only [Act.put, sp1_, sp2_]; rfl)
                    refine pure_ (i := 11) (N := some 105) (v := ?_) (a' := ?_) (mk_ 21 4095) rfl rfl (an_ HT_.out) (fun _ _ _ h => h) (Or.inl ⟨by rfl, ?_⟩) ?_ ?_
                    rotate_left; (intro w'; go_simp; with_reducible rfl); rotate_left; (simp only [Act.put, sp1_, sp2_]; rfl)
                    refine pure_ (i := 12) (N := some 106) (v := ?_) (a' := ?_) (mk_ 21 8191) rfl rfl (an_ HT_.out) (fun _ _ _ h => h) (Or.inl ⟨by rfl, ?_⟩) ?_ ?_
                    rotate_left; (intro w'; go_simp; with_reducible rfl); rotate_left; (simp only [Act.put, sp1_, sp2_]; rfl)
                    refine pure_ (i := 13) (N := some 107) (v := ?_) (a' := ?_) (mk_ 21 16383) rfl rfl (an_ HT_.out) (fun _ _ _ h => h) (Or.inl ⟨by rfl, ?_⟩) ?_ ?_
                    rotate_left; (intro w'; go_simp; with_reducible rfl); rotate_left; (simp only [Act.put, sp1_, sp2_]; rfl)
                    refine pure_ (i := 15) (N := some 109) (v := ?_) (a' := ?_) (mk_ 21 49151) rfl rfl (an_ HT_.out) (fun _ _ _ h => h) (Or.inl ⟨by rfl, ?_⟩) ?_ ?_
                    rotate_left; (intro w'; go_simp; with_reducible rfl); rotate_left; (simp only [Act.put, sp1_, sp2_]; rfl)
                    refine pure_ (i := 16) (N := some 110) (v := ?_) (a' := ?_) (mk_ 21 114687) rfl rfl (an_ HT_.out) (fun _ _ _ h => h) (Or.inl ⟨by rfl, ?_⟩) ?_ ?_
                    rotate_left; (intro w'; go_simp; with_reducible rfl); rotate_left; (simp only [Act.put, sp1_, sp2_]; rfl)
                    refine pure_ (i := 17) (N := some 111) (v := ?_) (a' := ?_) (mk_ 21 245759) rfl rfl (an_ HT_.out) (fun _ _ _ h => h) (Or.inl ⟨by rfl, ?_⟩) ?_ ?_
                    rotate_left; (intro w'; go_simp; with_reducible rfl); rotate_left; (simp only [Act.put, sp1_, sp2_]; rfl)
                    refine take_ (i := 14) (N := some 108) (v := ?_) (a' := ?_) (mk_ 21 262143) rfl rfl (take_ofW HT_.out HW_.out (by kernel_rfl)) (fun _ _ _ h => h) (Or.inl ⟨by rfl, ?_⟩) hHeld ?_ ?_
                    rotate_left
                    ·rintro w' ⟨s0, s1, s2, s3, s4, s5, s6, s7⟩
                     go_simp
                     with_reducible rfl
                    rotate_left; (simp only [Act.put, sp1_, sp2_]; rfl)
                    refine take_ (i := 18) (N := some 112) (v := ?_) (a' := ?_) (mk_ 21 524287) rfl rfl (take_ofW HT_.out HW_.out (by kernel_rfl)) (fun _ _ _ h => h) (Or.inl ⟨by rfl, ?_⟩) hHeld ?_ ?_
                    rotate_left
                    ·rintro w' ⟨s0, s1, s2, s3, s4, s5, s6, s7⟩
                     go_simp
                     with_reducible rfl
                    rotate_left; (simp only [Act.put, sp1_, sp2_]; rfl)
                    refine one_ (i := 19) (N := some 113) (mk_ 21 1048575) rfl rfl (one_of HT_.out (by kernel_rfl)) (by decide) (fun K hK => ?_)
                    refine goes_ Tryd.func34 (by kernel_rfl) rfl #[.agg #[.int .i64 ((rd_T24 l0 x7_2).f0), .string ((rd_T24 l0 x7_2).f1), .int .i64 ((rd_T24 l0 x7_2).f2), .slice A320_3 ((rd_T24 l0 x7_2).f3).length c320_3], .agg #[.int .i64 ((rd_T24 l1 x8_3).f0), .string ((rd_T24 l1 x8_3).f1), .int .i64 ((rd_T24 l1 x8_3).f2), .slice A321_3 ((rd_T24 l1 x8_3).f3).length c321_3]] (by rfl) rfl rfl (by (try simp only [List.map_toArray, List.map_cons, List.map_nil]); first | done | rfl | (simp only [List.length_drop, List.length_take]; rfl)) ?_
                    with_reducible refine (vinculumref16_Alike.calls ((rd_T24 l0 x7_2).f0) ((rd_T24 l0 x7_2).f1) ((rd_T24 l0 x7_2).f2) _ _ ((rd_T24 l0 x7_2).f3) ((rd_T24 l1 x8_3).f0) ((rd_T24 l1 x8_3).f1) ((rd_T24 l1 x8_3).f2) _ _ ((rd_T24 l1 x8_3).f3) true _ ?side1 ?side2 ?side3 ?side4 A57.out).mono ?_
                    (case side1 => exact kc_ HR320_3.out HB.out)
                    (case side2 => exact HC320_3.out)
                    (case side3 => exact kc_ HR321_3.out HB.out)
                    (case side4 => exact HC321_3.out)
                    rintro e w71 ⟨rfl, hb⟩
                    refine ⟨_, rfl, ?_⟩
                    have n0_ := Aside0.mk (Kd.S_below (by (with_reducible repeat (first | apply Kd.S_alloc | apply Kd.S_drewN | apply Kd.S_drew)); exact HO_5.out) hb)
                    have n1_ := Aside0.mk (below_step (bs0_ HB.out) hb)
                    clear HO_5; clear HB
                    have HO_5 := n0_
                    have HB := n1_
                    clear n0_ n1_
                    (try clear hb)
                    (try clear hb2)
                    (try clear hk)
                    (try clear hi)
                    refine hK.out _ _ ⟨(ck_ HB.out hw320_0), (ck_ HB.out hw320_1), (ck_ HB.out hw320_2), (ck_ HB.out hw320_3), (ck_ HB.out hw321_0), (ck_ HB.out hw321_1), (ck_ HB.out hw321_2), (ck_ HB.out hw321_3)⟩ (fun hHeld => ?_)
                    clear hK K
                    refine norm_ (a' := ?_) ?_ ?_
                    rotate_left
                    ·show Act.put _ (some 113) _ = _
                     simp only [Act.put, sp1_, sp2_]
                     rfl
                    refine pure_ (i := 20) (N := some 114) (v := ?_) (a' := ?_) (mk_ 21 2097151) rfl rfl (an_ HT_.out) (fun _ _ _ h => h) (Or.inl ⟨by rfl, ?_⟩) ?_ ?_
                    rotate_left; (intro w'; go_simp; with_reducible rfl); rotate_left; (simp only [Act.put, sp1_, sp2_]; rfl)
                    refine done_ (done_of HT_.out (by kernel_rfl)) ?_
                    try go_wp2
                    have n0_ := Aside0.mk (Kd.S_drew HO_5.out)
                    have n1_ := Aside0.mk (below_drew1 HB.out)
                    clear HO_5; clear HB
                    have HO_5 := n0_
                    have HB := n1_
                    clear n0_ n1_
                    have p323 : 0 ≤ (x7_2 : Int) := of_decide_eq_true (by first | (with_reducible assumption) | assumption)
                    have q323 : x7_2 < (l0.length : Int) := of_decide_eq_true (by first | (with_reducible assumption) | assumption)
                    obtain ⟨ad323, A323_3, c323_3, e323, hx323_0, hx323_1, hx323_2, hx323_3, hl323_3, hi323_3⟩ := at_T24 HR0.out x7_2 p323 q323
                    have hw323_3 := hx323_3
                    have hw323_2 := hx323_2
                    have hw323_1 := hx323_1
                    have hw323_0 := hx323_0
                    obtain rfl : ad320 = ad323 := (by injection e323)
                    replace hx323_0 := (cl_ HB.out hx323_0).trans hx323_0
                    replace hx323_1 := (cl_ HB.out hx323_1).trans hx323_1
                    replace hx323_2 := (cl_ HB.out hx323_2).trans hx323_2
                    replace hx323_3 := (cl_ HB.out hx323_3).trans hx323_3
                    have HR323_3 := Aside0.mk hi323_3
                    have HC323_3 := Aside0.mk hl323_3
                    clear hi323_3 hl323_3
                    replace p323 := eq_true p323
                    replace q323 := eq_true q323
                    have p324 : 0 ≤ (x8_3 : Int) := of_decide_eq_true (by first | (with_reducible assumption) | assumption)
                    have q324 : x8_3 < (l1.length : Int) := of_decide_eq_true (by first | (with_reducible assumption) | assumption)
                    obtain ⟨ad324, A324_3, c324_3, e324, hx324_0, hx324_1, hx324_2, hx324_3, hl324_3, hi324_3⟩ := at_T24 HR1.out x8_3 p324 q324
                    have hw324_3 := hx324_3
                    have hw324_2 := hx324_2
                    have hw324_1 := hx324_1
                    have hw324_0 := hx324_0
                    obtain rfl : ad321 = ad324 := (by injection e324)
                    replace hx324_0 := (cl_ HB.out hx324_0).trans hx324_0
                    replace hx324_1 := (cl_ HB.out hx324_1).trans hx324_1
                    replace hx324_2 := (cl_ HB.out hx324_2).trans hx324_2
                    replace hx324_3 := (cl_ HB.out hx324_3).trans hx324_3
                    have HR324_3 := Aside0.mk hi324_3
                    have HC324_3 := Aside0.mk hl324_3
                    clear hi324_3 hl324_3
                    replace p324 := eq_true p324
                    replace q324 := eq_true q324
                    have p326 : 0 ≤ ((ji60) : Int) := of_decide_eq_true (by first | (with_reducible assumption) | assumption)
                    have q326 : (ji60) < (x5_3.length : Int) := of_decide_eq_true (by first | (with_reducible assumption) | assumption)
                    obtain ⟨ad326, A326_0, c326_0, e326, hx326_0, hl326_0, hi326_0⟩ := at_L6 (Kd.S_reads' HO_5.out).2.2 (ji60) p326 q326
                    cases e326
                    obtain ⟨ce326, hce326, hMe326, hcc326⟩ := Kd.S_get HO_5.out [] (ji60) p326 (by first | exact q326 | exact of_decide_eq_true (by first | (with_reducible assumption) | assumption) | (have e_ := (Kd.S_reads' HO_5.out).1; omega))
                    obtain ⟨ve326_0, rfl, ge326_0⟩ := hMe326
                    have hv326_0 := hcc326 0 _ rfl
                    rw [Nat.add_zero, show ((Kd.slice 3 (Kd.int .i64))).sz = 1 from rfl, Nat.mul_one] at hv326_0
                    replace hv326_0 := Option.some.inj (hv326_0.symm.trans hx326_0)
                    rw [hv326_0] at ge326_0
                    have HL326_0 := Aside0.mk (show Kd.R (Kd.int .i64) 3 _ _ _ _ (rd_L6 x5_3 (ji60)) from ge326_0)
                    clear hv326_0 ge326_0
                    have HX326_0 := Aside0.mk hx326_0
                    clear hcc326 hce326
                    have HR326_0 := Aside0.mk hi326_0
                    have HC326_0 := Aside0.mk hl326_0
                    clear hi326_0 hl326_0
                    replace p326 := eq_true p326
                    replace q326 := eq_true q326
                    have p327 : 0 ≤ ((ji63) : Int) := of_decide_eq_true (by first | (with_reducible assumption) | assumption)
                    have q327 : (ji63) < ((rd_L6 x5_3 (ji60)).length : Int) := of_decide_eq_true (by first | (with_reducible assumption) | assumption)
                    obtain ⟨ad327, e327, hx327_0⟩ := Kd.at_int (by repeat (first | (with_reducible exact HR326_0.out) | (with_reducible refine Kd.C_alloc ?_ _) | (with_reducible refine Kd.C_drewN ?_ _) | (with_reducible refine Kd.C_drew ?_) | exact HR326_0.out)) (ji63) p327 q327
                    cases e327
                    replace p327 := eq_true p327
                    replace q327 := eq_true q327
                    refine start_ (n := 22) (S := fun w' => w'.cell? (ad320.add ((x7_2).toNat * 4)) = some (.int .i64 ((rd_T24 l0 x7_2).f0)) ∧ w'.cell? ⟨(ad320.add ((x7_2).toNat * 4)).block, (ad320.add ((x7_2).toNat * 4)).off + 1, none⟩ = some (.string ((rd_T24 l0 x7_2).f1)) ∧ w'.cell? ⟨(ad320.add ((x7_2).toNat * 4)).block, (ad320.add ((x7_2).toNat * 4)).off + 2, none⟩ = some (.int .i64 ((rd_T24 l0 x7_2).f2)) ∧ w'.cell? ⟨(ad320.add ((x7_2).toNat * 4)).block, (ad320.add ((x7_2).toNat * 4)).off + 3, none⟩ = some (.slice A323_3 ((rd_T24 l0 x7_2).f3).length c323_3) ∧ w'.cell? (ad321.add ((x8_3).toNat * 4)) = some (.int .i64 ((rd_T24 l1 x8_3).f0)) ∧ w'.cell? ⟨(ad321.add ((x8_3).toNat * 4)).block, (ad321.add ((x8_3).toNat * 4)).off + 1, none⟩ = some (.string ((rd_T24 l1 x8_3).f1)) ∧ w'.cell? ⟨(ad321.add ((x8_3).toNat * 4)).block, (ad321.add ((x8_3).toNat * 4)).off + 2, none⟩ = some (.int .i64 ((rd_T24 l1 x8_3).f2)) ∧ w'.cell? ⟨(ad321.add ((x8_3).toNat * 4)).block, (ad321.add ((x8_3).toNat * 4)).off + 3, none⟩ = some (.slice A324_3 ((rd_T24 l1 x8_3).f3).length c324_3) ∧ w'.cell? (ad326.add ((ji60)).toNat) = some (.slice (some ad327) (rd_L6 x5_3 (ji60)).length c326_0) ∧ w'.cell? (ad327.add ((ji63)).toNat) = some (.int .i64 (rd (rd_L6 x5_3 (ji60)) (ji63)))) (ds := []) #[false, false, false, false, false, false, false, false, false, false, false, false, false, false, false, false, false, false, false, false, false, false] (by kernel_rfl) rfl rfl ⟨(ck_ HB.out hw323_0), (ck_ HB.out hw323_1), (ck_ HB.out hw323_2), (ck_ HB.out hw323_3), (ck_ HB.out hw324_0), (ck_ HB.out hw324_1), (ck_ HB.out hw324_2), (ck_ HB.out hw324_3), hx326_0, hx327_0⟩ (fun hHeld => ?_); refine with_tabW vinculumref16_table.tab22 vinculumref16_table.bits22 (fun HT_ HW_ => ?_)
                    generalize w71.drew = w72 at HO_5 HB HL326_0 HR323_3 HR324_3 HR326_0 HX326_0 hx323_0 hx323_1 hx323_2 hx323_3 hx324_0 hx324_1 hx324_2 hx324_3 hx326_0 hx327_0 hHeld ⊢
                    refine pure_ (i := 0) (N := some 115) (v := ?_) (a' := ?_) (mk_ 22 1) rfl rfl (an_ HT_.out) (fun _ _ _ h => h) (Or.inl ⟨by rfl, ?_⟩) ?_ ?_
                    rotate_left; (intro w'; go_simp; with_reducible rfl); rotate_left; (simp only [Act.put, sp1_, sp2_]; rfl)
                    refine pure_ (i := 1) (N := some 116) (v := ?_) (a' := ?_) (mk_ 22 3) rfl rfl (an_ HT_.out) (fun _ _ _ h => h) (Or.inl ⟨by rfl, ?_⟩) ?_ ?_
                    rotate_left; (intro w'; go_simp; with_reducible rfl); rotate_left; (simp only [Act.put, sp1_, sp2_]; rfl)
                    refine pure_ (i := 2) (N := some 117) (v := ?_) (a' := ?_) (mk_ 22 7) rfl rfl (an_ HT_.out) (fun _ _ _ h => h) (Or.inl ⟨by rfl, ?_⟩) ?_ ?_
                    rotate_left; (intro w'; go_simp; with_reducible rfl); rotate_left; (simp only [Act.put, sp1_, sp2_]; rfl)
                    refine pure_ (i := 3) (N := some 118) (v := ?_) (a' := ?_) (mk_ 22 15) rfl rfl (an_ HT_.out) (fun _ _ _ h => h) (Or.inl ⟨by rfl, ?_⟩) ?_ ?_
                    rotate_left; (intro w'; go_simp; with_reducible rfl); rotate_left; (simp only [Act.put, sp1_, sp2_]; rfl)
                    refine pure_ (i := 5) (N := some 120) (v := ?_) (a' := ?_) (mk_ 22 47) rfl rfl (an_ HT_.out) (fun _ _ _ h => h) (Or.inl ⟨by rfl, ?_⟩) ?_ ?_
                    rotate_left; (intro w'; go_simp; with_reducible rfl); rotate_left; (simp only [Act.put, sp1_, sp2_]; rfl)
                    refine pure_ (i := 6) (N := some 121) (v := ?_) (a' := ?_) (mk_ 22 111) rfl rfl (an_ HT_.out) (fun _ _ _ h => h) (Or.inl ⟨by rfl, ?_⟩) ?_ ?_
                    rotate_left; (intro w'; go_simp; with_reducible rfl); rotate_left; (simp only [Act.put, sp1_, sp2_]; rfl)
                    refine pure_ (i := 7) (N := some 122) (v := ?_) (a' := ?_) (mk_ 22 239) rfl rfl (an_ HT_.out) (fun _ _ _ h => h) (Or.inl ⟨by rfl, ?_⟩) ?_ ?_
                    rotate_left; (intro w'; go_simp; with_reducible rfl); rotate_left; (simp only [Act.put, sp1_, sp2_]; rfl)
                    refine pure_ (i := 10) (N := some 125) (v := ?_) (a' := ?_) (mk_ 22 1263) rfl rfl (an_ HT_.out) (fun _ _ _ h => h) (Or.inl ⟨by rfl, ?_⟩) ?_ ?_
                    rotate_left; (intro w'; go_simp; with_reducible rfl); rotate_left; (simp only [Act.put, sp1_, sp2_]; rfl)
                    refine pure_ (i := 11) (N := some 126) (v := ?_) (a' := ?_) (mk_ 22 3311) rfl rfl (an_ HT_.out) (fun _ _ _ h => h) (Or.inl ⟨by rfl, ?_⟩) ?_ ?_
                    rotate_left; (intro w'; go_simp; with_reducible rfl); rotate_left; (simp only [Act.put, sp1_, sp2_]; rfl)
                    refine pure_ (i := 12) (N := some 127) (v := ?_) (a' := ?_) (mk_ 22 7407) rfl rfl (an_ HT_.out) (fun _ _ _ h => h) (Or.inl ⟨by rfl, ?_⟩) ?_ ?_
                    rotate_left; (intro w'; go_simp; with_reducible rfl); rotate_left; (simp only [Act.put, sp1_, sp2_]; rfl)
                    refine pure_ (i := 13) (N := some 128) (v := ?_) (a' := ?_) (mk_ 22 15599) rfl rfl (an_ HT_.out) (fun _ _ _ h => h) (Or.inl ⟨by rfl, ?_⟩) ?_ ?_
                    rotate_left; (intro w'; go_simp; with_reducible rfl); rotate_left; (simp only [Act.put, sp1_, sp2_]; rfl)
                    refine pure_ (i := 15) (N := some 130) (v := ?_) (a' := ?_) (mk_ 22 48367) rfl rfl (an_ HT_.out) (fun _ _ _ h => h) (Or.inl ⟨by rfl, ?_⟩) ?_ ?_
                    rotate_left; (intro w'; go_simp; with_reducible rfl); rotate_left; (simp only [Act.put, sp1_, sp2_]; rfl)
                    refine pure_ (i := 16) (N := some 131) (v := ?_) (a' := ?_) (mk_ 22 113903) rfl rfl (an_ HT_.out) (fun _ _ _ h => h) (Or.inl ⟨by rfl, ?_⟩) ?_ ?_
                    rotate_left; (intro w'; go_simp; with_reducible rfl); rotate_left; (simp only [Act.put, sp1_, sp2_]; rfl)
                    refine take_ (i := 4) (N := some 119) (v := ?_) (a' := ?_) (mk_ 22 113919) rfl rfl (take_ofW HT_.out HW_.out (by kernel_rfl)) (fun _ _ _ h => h) (Or.inl ⟨by rfl, ?_⟩) hHeld ?_ ?_
                    rotate_left
                    ·rintro w' ⟨s0, s1, s2, s3, s4, s5, s6, s7, s8, s9⟩
                     go_simp
                     with_reducible rfl
                    rotate_left; (simp only [Act.put, sp1_, sp2_]; rfl)
                    refine take_ (i := 8) (N := some 123) (v := ?_) (a' := ?_) (mk_ 22 114175) rfl rfl (take_ofW HT_.out HW_.out (by kernel_rfl)) (fun _ _ _ h => h) (Or.inl ⟨by rfl, ?_⟩) hHeld ?_ ?_
                    rotate_left
                    ·rintro w' ⟨s0, s1, s2, s3, s4, s5, s6, s7, s8, s9⟩
                     go_simp
                     with_reducible rfl
                    rotate_left; (simp only [Act.put, sp1_, sp2_]; rfl)
                    refine take_ (i := 14) (N := some 129) (v := ?_) (a' := ?_) (mk_ 22 130559) rfl rfl (take_ofW HT_.out HW_.out (by kernel_rfl)) (fun _ _ _ h => h) (Or.inl ⟨by rfl, ?_⟩) hHeld ?_ ?_
                    rotate_left
                    ·rintro w' ⟨s0, s1, s2, s3, s4, s5, s6, s7, s8, s9⟩
                     go_simp
                     with_reducible rfl
                    rotate_left; (simp only [Act.put, sp1_, sp2_]; rfl)
                    refine pure_ (i := 17) (N := some 132) (v := ?_) (a' := ?_) (mk_ 22 261631) rfl rfl (an_ HT_.out) (fun _ _ _ h => h) (Or.inl ⟨by rfl, ?_⟩) ?_ ?_
                    rotate_left; (intro w'; go_simp; with_reducible rfl); rotate_left; (simp only [Act.put, sp1_, sp2_]; rfl)
                    refine take_ (i := 18) (N := some 133) (v := ?_) (a' := ?_) (mk_ 22 523775) rfl rfl (take_ofW HT_.out HW_.out (by kernel_rfl)) (fun _ _ _ h => h) (Or.inl ⟨by rfl, ?_⟩) hHeld ?_ ?_
                    rotate_left
                    ·rintro w' ⟨s0, s1, s2, s3, s4, s5, s6, s7, s8, s9⟩
                     go_simp
                     with_reducible rfl
                    rotate_left; (simp only [Act.put, sp1_, sp2_]; rfl)
                    refine one_ (i := 9) (N := some 124) (mk_ 22 524287) rfl rfl (one_of HT_.out (by kernel_rfl)) (by decide) (fun K hK => ?_)
                    refine goes_ Tryd.func35 (by kernel_rfl) rfl #[.agg #[.int .i64 ((rd_T24 l0 x7_2).f0), .string ((rd_T24 l0 x7_2).f1), .int .i64 ((rd_T24 l0 x7_2).f2), .slice A323_3 ((rd_T24 l0 x7_2).f3).length c323_3], .agg #[.int .i64 ((rd_T24 l1 x8_3).f0), .string ((rd_T24 l1 x8_3).f1), .int .i64 ((rd_T24 l1 x8_3).f2), .slice A324_3 ((rd_T24 l1 x8_3).f3).length c324_3]] (by rfl) rfl rfl (by (try simp only [List.map_toArray, List.map_cons, List.map_nil]); first | done | rfl | (simp only [List.length_drop, List.length_take]; rfl)) ?_
                    with_reducible refine (ih_35 kj35 (by have := HK1.out; have := HK2.out; have := HK3.out; have := HJ21.out; have := HJ24.out; have := HJ35.out; omega) ((rd_T24 l0 x7_2).f0) ((rd_T24 l0 x7_2).f1) ((rd_T24 l0 x7_2).f2) _ _ ((rd_T24 l0 x7_2).f3) ((rd_T24 l1 x8_3).f0) ((rd_T24 l1 x8_3).f1) ((rd_T24 l1 x8_3).f2) _ _ ((rd_T24 l1 x8_3).f3) t325 _ ?side1 ?side2 ?side3 ?side4 A59.out).mono ?_
                    (case side1 => exact kc_ HR323_3.out HB.out)
                    (case side2 => exact HC323_3.out)
                    (case side3 => exact kc_ HR324_3.out HB.out)
                    (case side4 => exact HC324_3.out)
                    rintro e w73 ⟨rfl, hb⟩
                    have HS8_ := (hb.cell (World.block_lt_of_cell? _ _ (hHeld.2.2.2.2.2.2.2.2.1))).trans (hHeld.2.2.2.2.2.2.2.2.1)
                    have HS9_ := (hb.cell (World.block_lt_of_cell? _ _ (hHeld.2.2.2.2.2.2.2.2.2))).trans (hHeld.2.2.2.2.2.2.2.2.2)
                    refine ⟨_, rfl, ?_⟩
                    have n0_ := Aside0.mk (Kd.S_below (by (with_reducible repeat (first | apply Kd.S_alloc | apply Kd.S_drewN | apply Kd.S_drew)); exact HO_5.out) hb)
                    have n1_ := Aside0.mk (Kd.R_below (by (with_reducible repeat (first | apply Kd.R_alloc | apply Kd.R_drewN | apply Kd.R_drew)); exact HL326_0.out) hb)
                    have n2_ := Aside0.mk (Kd.C_below (by repeat (first | (with_reducible exact HR326_0.out) | (with_reducible refine Kd.C_alloc ?_ _) | (with_reducible refine Kd.C_drewN ?_ _) | (with_reducible refine Kd.C_drew ?_) | exact HR326_0.out)) hb)
                    have n3_ := Aside0.mk (pw_cell_below hb HX326_0.out)
                    have n4_ := Aside0.mk (below_step (bs0_ HB.out) hb)
                    clear HO_5; clear HL326_0; clear HR326_0; clear HX326_0; clear HB
                    have HO_5 := n0_
                    have HL326_0 := n1_
                    have HR326_0 := n2_
                    have HX326_0 := n3_
                    have HB := n4_
                    clear n0_ n1_ n2_ n3_ n4_
                    (try clear hb)
                    (try clear hb2)
                    (try clear hk)
                    (try clear hi)
                    refine hK.out _ _ ⟨(ck_ HB.out hw323_0), (ck_ HB.out hw323_1), (ck_ HB.out hw323_2), (ck_ HB.out hw323_3), (ck_ HB.out hw324_0), (ck_ HB.out hw324_1), (ck_ HB.out hw324_2), (ck_ HB.out hw324_3), HS8_, HS9_⟩ (fun hHeld => ?_)
                    clear hK K
                    refine norm_ (a' := ?_) ?_ ?_
                    rotate_left
                    ·show Act.put _ (some 124) _ = _
                     simp only [Act.put, sp1_, sp2_]
                     rfl
                    refine pure_ (i := 19) (N := some 134) (v := ?_) (a' := ?_) (mk_ 22 1048575) rfl rfl (an_ HT_.out) (fun _ _ _ h => h) (Or.inl ⟨by rfl, ?_⟩) ?_ ?_
                    rotate_left; (intro w'; go_simp; with_reducible rfl); rotate_left; (simp only [Act.put, sp1_, sp2_]; rfl)
                    refine pure_ (i := 20) (N := some 135) (v := ?_) (a' := ?_) (mk_ 22 2097151) rfl rfl (an_ HT_.out) (fun _ _ _ h => h) (Or.inl ⟨by rfl, ?_⟩) ?_ ?_
                    rotate_left; (intro w'; go_simp; with_reducible rfl); rotate_left; (simp only [Act.put, sp1_, sp2_]; rfl)
                    refine pure_ (i := 21) (N := some 9) (v := ?_) (a' := ?_) (mk_ 22 4194303) rfl rfl (an_ HT_.out) (fun _ _ _ h => h) (Or.inl ⟨by rfl, ?_⟩) ?_ ?_
                    rotate_left; (intro w'; go_simp; with_reducible rfl); rotate_left; (simp only [Act.put, sp1_, sp2_]; rfl)
                    refine done_ (done_of HT_.out (by kernel_rfl)) ?_
                    have p328 : 0 ≤ (x7_2 : Int) := of_decide_eq_true (by first | (with_reducible assumption) | assumption)
                    have q328 : x7_2 < (x5_3.length : Int) := of_decide_eq_true (by first | (with_reducible assumption) | assumption)
                    obtain ⟨ad328, A328_0, c328_0, e328, hx328_0, hl328_0, hi328_0⟩ := at_L6 (Kd.S_reads' HO_5.out).2.2 x7_2 p328 q328
                    obtain rfl : ad326 = ad328 := (by injection e328)
                    obtain ⟨ce328, hce328, hMe328, hcc328⟩ := Kd.S_get HO_5.out [] x7_2 p328 (by first | exact q328 | exact of_decide_eq_true (by first | (with_reducible assumption) | assumption) | (have e_ := (Kd.S_reads' HO_5.out).1; omega))
                    obtain ⟨ve328_0, rfl, ge328_0⟩ := hMe328
                    have hv328_0 := hcc328 0 _ rfl
                    rw [Nat.add_zero, show ((Kd.slice 3 (Kd.int .i64))).sz = 1 from rfl, Nat.mul_one] at hv328_0
                    replace hv328_0 := Option.some.inj (hv328_0.symm.trans hx328_0)
                    rw [hv328_0] at ge328_0
                    have HL328_0 := Aside0.mk (show Kd.R (Kd.int .i64) 3 _ _ _ _ (rd_L6 x5_3 x7_2) from ge328_0)
                    clear hv328_0 ge328_0
                    have HX328_0 := Aside0.mk hx328_0
                    clear hcc328 hce328
                    have HR328_0 := Aside0.mk hi328_0
                    have HC328_0 := Aside0.mk hl328_0
                    clear hi328_0 hl328_0
                    replace p328 := eq_true p328
                    replace q328 := eq_true q328
                    have p69 : 0 ≤ (x8_3 : Int) := of_decide_eq_true (by first | (with_reducible assumption) | assumption)
                    have q69 : (x8_3 : Int) < (((rd_L6 x5_3 x7_2).length : Int) : Int) := of_decide_eq_true (by first | (with_reducible assumption) | assumption)
                    obtain ⟨go69, co69, eo69, gb69, gl69, cl69, HG69⟩ := Kd.R_form HL328_0.out (by omega)
                    (first | cases eo69 | (injection eo69 with ea_ en_ ec_; (first | subst ea_ | (injection ea_ with ea_; subst ea_)); subst ec_; clear en_))
                    have GB69 := Aside0.mk gb69
                    have GG69 := Aside0.mk HG69
                    clear gb69 gl69 HG69
                    obtain ⟨hx69_0, hf69_0⟩ := Kd.R_celln 0 HL328_0.out (x8_3 : Int) p69 q69
                    replace p69 := eq_true p69
                    replace q69 := eq_true q69
                    have hq74 : (x7_2 : Int) < (x5_3.length : Int) := (by have h_ : (x7_2 : Int) < ((x5_3.length : Int) : Int) := of_decide_eq_true (by first | (with_reducible assumption) | assumption); first | exact h_ | (have e_ := (Kd.S_reads' HO_5.out).1; omega) | simpa only [List.length_set, List.length_set] using h_)
                    obtain ⟨oki74, ce74, hcl74, hM74, hcc74, hok74, hbk74⟩ := Kd.S_borrow HO_5.out [] (x7_2 : Int) (of_decide_eq_true (by first | (with_reducible assumption) | assumption)) hq74
                    obtain ⟨ve74_0, rfl, ge74_0⟩ := hM74
                    have hv74 := hcc74 0 _ rfl
                    rw [Nat.add_zero, show ((Kd.slice 3 (Kd.int .i64))).sz = 1 from rfl, Nat.mul_one] at hv74
                    replace hv74 := Option.some.inj (hv74.symm.trans HX328_0.out)
                    subst hv74
                    clear hcc74 hcl74
                    replace ge74_0 := (show Kd.R (Kd.int .i64) 3 _ _ _ _ (rd_L6 x5_3 x7_2) from ge74_0)
                    have HP74 := Kd.R_putg ge74_0 (x8_3 : Int) ji66
                    try go_wp2_with (first | ((with_reducible refine gate_store (t := 3) (p := 142) rfl ?_); refine store_event (t := 3) (p := 142) (v := ?vo_w75) (w1 := (w73.setCell ⟨go69, (x8_3 : Int).toNat, none⟩ (.int .i64 ji66))) ?hg ?ho ?hn ?hr ?_; (case ho => rfl); (case hg => rfl); (case hn => rfl); (case hr => first | (go_simp; done) | (go_simp; rfl)); intro w75 hw; have hg : w73.grownBy w75 (some go69) := (by rw [hw]; exact HP74.2); have hz_ : Kd.R (Kd.int .i64) 3 w75 w.heap.size oki74 (.slice (some ⟨go69, 0, none⟩) (rd_L6 x5_3 x7_2).length c328_0) y329 := (by rw [hw, Ny329.out]; exact HP74.1); have hp_ : Kd.S (Kd.slice 3 (Kd.int .i64)) 35 w75 w.heap.size (fun _ => True) (.slice (some ad326) x5_3.length co8) y331 := (by rw [Ny331.out]; exact hbk74 hg (fun k_ e_ => by injection e_ with e_; subst e_; exact ge74_0.1 _ rfl) (Kd.M_row hz_)); have hm_ := Kd.R_mono hz_ hok74; clear HP74 hbk74; have n0_ := Aside0.mk (hp_); have n1_ := Aside0.mk ((by rw [hw]; exact below_set (HB.out) GB69.out : Below w.heap.size w w75)); have n2_ := Aside0.mk (hm_); have n3_ := Aside0.mk ((Kd.R_reads' hm_).2.1); clear HO_5; clear HB; clear HL326_0; clear HL328_0; have HO_5 := n0_; have HB := n1_; have HL344 := n2_; have HC330 := n3_; clear n0_ n1_ n2_ n3_; clear hg hw hp_ hz_ hm_ hok74))
                    (try simp only [← hl5_3])
                    go_roundg kj35
                    case measure => have := HK1.out; have := HK2.out; have := HK3.out; have := HJ21.out; have := HJ24.out; have := HJ35.out; omega
                    case rel => exact ⟨(y331), (wrap64 (x8_3 - 1)), (by first | rfl | (simp; done) | (simp [*]; done)), H', ⟨by have := HK1.out; have := HK2.out; have := HK3.out; have := HJ21.out; have := HJ24.out; have := HJ35.out; omega⟩, ⟨by (try simp only [hl5_1]); (try simp only [hl5_2]); (try simp only [hl5_3]); (with_reducible repeat (first | apply Kd.S_alloc | apply Kd.S_drewN | apply Kd.S_drew)); exact HO_5.out⟩, ⟨bs0_ HB.out⟩⟩
                   ·replace c58 := Bool.eq_false_iff.mpr c58
                    subst c58
                    have H1 : (if x7_2 < (x5_3.length : Int) then (if x8_3 < ((rd_L6 x5_3 x7_2).length : Int) then (vinculumref16_table.l2 kj35 l0 l1 (x5_3.set (x7_2 : Int).toNat ((rd_L6 x5_3 x7_2).set (x8_3 : Int).toNat x9_35)) x7_2 (wrap64 (x8_3 - 1))) else (none)) else (none)) = some r := by rw [if_neg (show ¬ (false = true) by decide)] at H; exact H
                    clear H
                    have H := H1
                    clear H1
                    by_cases c76 : x7_2 < (x5_3.length : Int)
                    case neg =>
                     rw [if_neg c76] at H
                     exact absurd H (by simp)
                    rw [if_pos c76] at H
                    have c76b0 : decide (x7_2 < (x5_3.length : Int)) = true := decide_eq_true c76
                    (try simp only [hl5_1, hl5_2, hl5_3] at c76b0)
                    clear c76
                    by_cases c77 : x8_3 < ((rd_L6 x5_3 x7_2).length : Int)
                    case neg =>
                     rw [if_neg c77] at H
                     exact absurd H (by simp)
                    rw [if_pos c77] at H
                    have c77b0 : decide (x8_3 < ((rd_L6 x5_3 x7_2).length : Int)) = true := decide_eq_true c77
                    (try simp only [hl5_1, hl5_2, hl5_3] at c77b0)
                    clear c77
                    obtain ⟨y333, hy333⟩ : ∃ y_ : List Int, y_ = ((rd_L6 x5_3 x7_2).set (x8_3 : Int).toNat x9_35) := ⟨_, rfl⟩
                    replace H : (vinculumref16_table.l2 kj35 l0 l1 (x5_3.set (x7_2 : Int).toNat y333) x7_2 (wrap64 (x8_3 - 1))) = some r := by first | (rw [hy333]; with_reducible exact H) | (have H2_ := (Option.bind_some _ _).symm.trans H; rw [hy333]; with_reducible exact H2_) | (have H2_ := (Option.bind_some _ _).symm.trans H; with_reducible exact H2_) | with_reducible exact H | (rw [hy333]; exact H) | exact H
                    have Ny333 := Aside0.mk hy333
                    clear hy333
                    obtain ⟨y335, hy335⟩ : ∃ y_ : List (List Int), y_ = (x5_3.set (x7_2 : Int).toNat y333) := ⟨_, rfl⟩
                    replace H : (vinculumref16_table.l2 kj35 l0 l1 y335 x7_2 (wrap64 (x8_3 - 1))) = some r := by first | (rw [hy335]; with_reducible exact H) | (have H2_ := (Option.bind_some _ _).symm.trans H; rw [hy335]; with_reducible exact H2_) | (have H2_ := (Option.bind_some _ _).symm.trans H; with_reducible exact H2_) | with_reducible exact H | (rw [hy335]; exact H) | exact H
                    have Ny335 := Aside0.mk hy335
                    clear hy335
                    have H' := Aside0.mk H
                    clear H
                    try go_wp2
                    have n0_ := Aside0.mk (Kd.S_drew HO_5.out)
                    have n1_ := Aside0.mk (below_drew1 HB.out)
                    clear HO_5; clear HB
                    have HO_5 := n0_
                    have HB := n1_
                    clear n0_ n1_
                    have p320 : 0 ≤ (x7_2 : Int) := of_decide_eq_true (by first | (with_reducible assumption) | assumption)
                    have q320 : x7_2 < (l0.length : Int) := of_decide_eq_true (by first | (with_reducible assumption) | assumption)
                    obtain ⟨ad320, A320_3, c320_3, e320, hx320_0, hx320_1, hx320_2, hx320_3, hl320_3, hi320_3⟩ := at_T24 HR0.out x7_2 p320 q320
                    have hw320_3 := hx320_3
                    have hw320_2 := hx320_2
                    have hw320_1 := hx320_1
                    have hw320_0 := hx320_0
                    cases e320
                    replace hx320_0 := (cl_ HB.out hx320_0).trans hx320_0
                    replace hx320_1 := (cl_ HB.out hx320_1).trans hx320_1
                    replace hx320_2 := (cl_ HB.out hx320_2).trans hx320_2
                    replace hx320_3 := (cl_ HB.out hx320_3).trans hx320_3
                    have HR320_3 := Aside0.mk hi320_3
                    have HC320_3 := Aside0.mk hl320_3
                    clear hi320_3 hl320_3
                    replace p320 := eq_true p320
                    replace q320 := eq_true q320
                    have p321 : 0 ≤ (x8_3 : Int) := of_decide_eq_true (by first | (with_reducible assumption) | assumption)
                    have q321 : x8_3 < (l1.length : Int) := of_decide_eq_true (by first | (with_reducible assumption) | assumption)
                    obtain ⟨ad321, A321_3, c321_3, e321, hx321_0, hx321_1, hx321_2, hx321_3, hl321_3, hi321_3⟩ := at_T24 HR1.out x8_3 p321 q321
                    have hw321_3 := hx321_3
                    have hw321_2 := hx321_2
                    have hw321_1 := hx321_1
                    have hw321_0 := hx321_0
                    cases e321
                    replace hx321_0 := (cl_ HB.out hx321_0).trans hx321_0
                    replace hx321_1 := (cl_ HB.out hx321_1).trans hx321_1
                    replace hx321_2 := (cl_ HB.out hx321_2).trans hx321_2
                    replace hx321_3 := (cl_ HB.out hx321_3).trans hx321_3
                    have HR321_3 := Aside0.mk hi321_3
                    have HC321_3 := Aside0.mk hl321_3
                    clear hi321_3 hl321_3
                    replace p321 := eq_true p321
                    replace q321 := eq_true q321
                    refine start_ (n := 21) (S := fun w' => w'.cell? (ad320.add ((x7_2).toNat * 4)) = some (.int .i64 ((rd_T24 l0 x7_2).f0)) ∧ w'.cell? ⟨(ad320.add ((x7_2).toNat * 4)).block, (ad320.add ((x7_2).toNat * 4)).off + 1, none⟩ = some (.string ((rd_T24 l0 x7_2).f1)) ∧ w'.cell? ⟨(ad320.add ((x7_2).toNat * 4)).block, (ad320.add ((x7_2).toNat * 4)).off + 2, none⟩ = some (.int .i64 ((rd_T24 l0 x7_2).f2)) ∧ w'.cell? ⟨(ad320.add ((x7_2).toNat * 4)).block, (ad320.add ((x7_2).toNat * 4)).off + 3, none⟩ = some (.slice A320_3 ((rd_T24 l0 x7_2).f3).length c320_3) ∧ w'.cell? (ad321.add ((x8_3).toNat * 4)) = some (.int .i64 ((rd_T24 l1 x8_3).f0)) ∧ w'.cell? ⟨(ad321.add ((x8_3).toNat * 4)).block, (ad321.add ((x8_3).toNat * 4)).off + 1, none⟩ = some (.string ((rd_T24 l1 x8_3).f1)) ∧ w'.cell? ⟨(ad321.add ((x8_3).toNat * 4)).block, (ad321.add ((x8_3).toNat * 4)).off + 2, none⟩ = some (.int .i64 ((rd_T24 l1 x8_3).f2)) ∧ w'.cell? ⟨(ad321.add ((x8_3).toNat * 4)).block, (ad321.add ((x8_3).toNat * 4)).off + 3, none⟩ = some (.slice A321_3 ((rd_T24 l1 x8_3).f3).length c321_3)) (ds := []) #[false, false, false, false, false, false, false, false, false, false, false, false, false, false, false, false, false, false, false, false, false] (by kernel_rfl) rfl rfl ⟨(ck_ HB.out hw320_0), (ck_ HB.out hw320_1), (ck_ HB.out hw320_2), (ck_ HB.out hw320_3), (ck_ HB.out hw321_0), (ck_ HB.out hw321_1), (ck_ HB.out hw321_2), (ck_ HB.out hw321_3)⟩ (fun hHeld => ?_); refine with_tabW vinculumref16_table.tab21 vinculumref16_table.bits21 (fun HT_ HW_ => ?_)
                    generalize wc.drew = w79 at HO_5 HB HR320_3 HR321_3 hx320_0 hx320_1 hx320_2 hx320_3 hx321_0 hx321_1 hx321_2 hx321_3 hHeld ⊢
                    refine pure_ (i := 0) (N := some 94) (v := ?_) (a' := ?_) (mk_ 21 1) rfl rfl (an_ HT_.out) (fun _ _ _ h => h) (Or.inl ⟨by rfl, ?_⟩) ?_ ?_
                    rotate_left; (intro w'; go_simp; with_reducible rfl); rotate_left; (simp only [Act.put, sp1_, sp2_]; rfl)
                    refine pure_ (i := 1) (N := some 95) (v := ?_) (a' := ?_) (mk_ 21 3) rfl rfl (an_ HT_.out) (fun _ _ _ h => h) (Or.inl ⟨by rfl, ?_⟩) ?_ ?_
                    rotate_left; (intro w'; go_simp; with_reducible rfl); rotate_left; (simp only [Act.put, sp1_, sp2_]; rfl)
                    refine pure_ (i := 2) (N := some 96) (v := ?_) (a' := ?_) (mk_ 21 7) rfl rfl (an_ HT_.out) (fun _ _ _ h => h) (Or.inl ⟨by rfl, ?_⟩) ?_ ?_
                    rotate_left; (intro w'; go_simp; with_reducible rfl); rotate_left; (simp only [Act.put, sp1_, sp2_]; rfl)
                    refine pure_ (i := 3) (N := some 97) (v := ?_) (a' := ?_) (mk_ 21 15) rfl rfl (an_ HT_.out) (fun _ _ _ h => h) (Or.inl ⟨by rfl, ?_⟩) ?_ ?_
                    rotate_left; (intro w'; go_simp; with_reducible rfl); rotate_left; (simp only [Act.put, sp1_, sp2_]; rfl)
                    refine pure_ (i := 4) (N := some 98) (v := ?_) (a' := ?_) (mk_ 21 31) rfl rfl (an_ HT_.out) (fun _ _ _ h => h) (Or.inl ⟨by rfl, ?_⟩) ?_ ?_
                    rotate_left; (intro w'; go_simp; with_reducible rfl); rotate_left; (simp only [Act.put, sp1_, sp2_]; rfl)
                    refine pure_ (i := 5) (N := some 99) (v := ?_) (a' := ?_) (mk_ 21 63) rfl rfl (an_ HT_.out) (fun _ _ _ h => h) (Or.inl ⟨by rfl, ?_⟩) ?_ ?_
                    rotate_left; (intro w'; go_simp; with_reducible rfl); rotate_left; (simp only [Act.put, sp1_, sp2_]; rfl)
                    refine pure_ (i := 6) (N := some 100) (v := ?_) (a' := ?_) (mk_ 21 127) rfl rfl (an_ HT_.out) (fun _ _ _ h => h) (Or.inl ⟨by rfl, ?_⟩) ?_ ?_
                    rotate_left; (intro w'; go_simp; with_reducible rfl); rotate_left; (simp only [Act.put, sp1_, sp2_]; rfl)
                    refine pure_ (i := 7) (N := some 101) (v := ?_) (a' := ?_) (mk_ 21 255) rfl rfl (an_ HT_.out) (fun _ _ _ h => h) (Or.inl ⟨by rfl, ?_⟩) ?_ ?_
                    rotate_left; (intro w'; go_simp; with_reducible rfl); rotate_left; (simp only [Act.put, sp1_, sp2_]; rfl)
                    refine pure_ (i := 8) (N := some 102) (v := ?_) (a' := ?_) (mk_ 21 511) rfl rfl (an_ HT_.out) (fun _ _ _ h => h) (Or.inl ⟨by rfl, ?_⟩) ?_ ?_
                    rotate_left; (intro w'; go_simp; with_reducible rfl); rotate_left; (simp only [Act.put, sp1_, sp2_]; rfl)
                    refine pure_ (i := 9) (N := some 103) (v := ?_) (a' := ?_) (mk_ 21 1023) rfl rfl (an_ HT_.out) (fun _ _ _ h => h) (Or.inl ⟨by rfl, ?_⟩) ?_ ?_
                    rotate_left; (intro w'; go_simp; with_reducible rfl); rotate_left; (simp only [Act.put, sp1_, sp2_]; rfl)
                    refine pure_ (i := 10) (N := some 104) (v := ?_) (a' := ?_) (mk_ 21 2047) rfl rfl (an_ HT_.out) (fun _ _ _ h => h) (Or.inl ⟨by rfl, ?_⟩) ?_ ?_
                    rotate_left; (intro w'; go_simp; with_reducible rfl); rotate_left; (simp only [Act.put, sp1_, sp2_]; rfl)
                    refine pure_ (i := 11) (N := some 105) (v := ?_) (a' := ?_) (mk_ 21 4095) rfl rfl (an_ HT_.out) (fun _ _ _ h => h) (Or.inl ⟨by rfl, ?_⟩) ?_ ?_
                    rotate_left; (intro w'; go_simp; with_reducible rfl); rotate_left; (simp only [Act.put, sp1_, sp2_]; rfl)
                    refine pure_ (i := 12) (N := some 106) (v := ?_) (a' := ?_) (mk_ 21 8191) rfl rfl (an_ HT_.out) (fun _ _ _ h => h) (Or.inl ⟨by rfl, ?_⟩) ?_ ?_
                    rotate_left; (intro w'; go_simp; with_reducible rfl); rotate_left; (simp only [Act.put, sp1_, sp2_]; rfl)
                    refine pure_ (i := 13) (N := some 107) (v := ?_) (a' := ?_) (mk_ 21 16383) rfl rfl (an_ HT_.out) (fun _ _ _ h => h) (Or.inl ⟨by rfl, ?_⟩) ?_ ?_
                    rotate_left; (intro w'; go_simp; with_reducible rfl); rotate_left; (simp only [Act.put, sp1_, sp2_]; rfl)
                    refine pure_ (i := 15) (N := some 109) (v := ?_) (a' := ?_) (mk_ 21 49151) rfl rfl (an_ HT_.out) (fun _ _ _ h => h) (Or.inl ⟨by rfl, ?_⟩) ?_ ?_
                    rotate_left; (intro w'; go_simp; with_reducible rfl); rotate_left; (simp only [Act.put, sp1_, sp2_]; rfl)
                    refine pure_ (i := 16) (N := some 110) (v := ?_) (a' := ?_) (mk_ 21 114687) rfl rfl (an_ HT_.out) (fun _ _ _ h => h) (Or.inl ⟨by rfl, ?_⟩) ?_ ?_
                    rotate_left; (intro w'; go_simp; with_reducible rfl); rotate_left; (simp only [Act.put, sp1_, sp2_]; rfl)
                    refine pure_ (i := 17) (N := some 111) (v := ?_) (a' := ?_) (mk_ 21 245759) rfl rfl (an_ HT_.out) (fun _ _ _ h => h) (Or.inl ⟨by rfl, ?_⟩) ?_ ?_
                    rotate_left; (intro w'; go_simp; with_reducible rfl); rotate_left; (simp only [Act.put, sp1_, sp2_]; rfl)
                    refine take_ (i := 14) (N := some 108) (v := ?_) (a' := ?_) (mk_ 21 262143) rfl rfl (take_ofW HT_.out HW_.out (by kernel_rfl)) (fun _ _ _ h => h) (Or.inl ⟨by rfl, ?_⟩) hHeld ?_ ?_
                    rotate_left
                    ·rintro w' ⟨s0, s1, s2, s3, s4, s5, s6, s7⟩
                     go_simp
                     with_reducible rfl
                    rotate_left; (simp only [Act.put, sp1_, sp2_]; rfl)
                    refine take_ (i := 18) (N := some 112) (v := ?_) (a' := ?_) (mk_ 21 524287) rfl rfl (take_ofW HT_.out HW_.out (by kernel_rfl)) (fun _ _ _ h => h) (Or.inl ⟨by rfl, ?_⟩) hHeld ?_ ?_
                    rotate_left
                    ·rintro w' ⟨s0, s1, s2, s3, s4, s5, s6, s7⟩
                     go_simp
                     with_reducible rfl
                    rotate_left; (simp only [Act.put, sp1_, sp2_]; rfl)
                    refine one_ (i := 19) (N := some 113) (mk_ 21 1048575) rfl rfl (one_of HT_.out (by kernel_rfl)) (by decide) (fun K hK => ?_)
                    refine goes_ Tryd.func34 (by kernel_rfl) rfl #[.agg #[.int .i64 ((rd_T24 l0 x7_2).f0), .string ((rd_T24 l0 x7_2).f1), .int .i64 ((rd_T24 l0 x7_2).f2), .slice A320_3 ((rd_T24 l0 x7_2).f3).length c320_3], .agg #[.int .i64 ((rd_T24 l1 x8_3).f0), .string ((rd_T24 l1 x8_3).f1), .int .i64 ((rd_T24 l1 x8_3).f2), .slice A321_3 ((rd_T24 l1 x8_3).f3).length c321_3]] (by rfl) rfl rfl (by (try simp only [List.map_toArray, List.map_cons, List.map_nil]); first | done | rfl | (simp only [List.length_drop, List.length_take]; rfl)) ?_
                    with_reducible refine (vinculumref16_Alike.calls ((rd_T24 l0 x7_2).f0) ((rd_T24 l0 x7_2).f1) ((rd_T24 l0 x7_2).f2) _ _ ((rd_T24 l0 x7_2).f3) ((rd_T24 l1 x8_3).f0) ((rd_T24 l1 x8_3).f1) ((rd_T24 l1 x8_3).f2) _ _ ((rd_T24 l1 x8_3).f3) false _ ?side1 ?side2 ?side3 ?side4 A57.out).mono ?_
                    (case side1 => exact kc_ HR320_3.out HB.out)
                    (case side2 => exact HC320_3.out)
                    (case side3 => exact kc_ HR321_3.out HB.out)
                    (case side4 => exact HC321_3.out)
                    rintro e w80 ⟨rfl, hb⟩
                    refine ⟨_, rfl, ?_⟩
                    have n0_ := Aside0.mk (Kd.S_below (by (with_reducible repeat (first | apply Kd.S_alloc | apply Kd.S_drewN | apply Kd.S_drew)); exact HO_5.out) hb)
                    have n1_ := Aside0.mk (below_step (bs0_ HB.out) hb)
                    clear HO_5; clear HB
                    have HO_5 := n0_
                    have HB := n1_
                    clear n0_ n1_
                    (try clear hb)
                    (try clear hb2)
                    (try clear hk)
                    (try clear hi)
                    refine hK.out _ _ ⟨(ck_ HB.out hw320_0), (ck_ HB.out hw320_1), (ck_ HB.out hw320_2), (ck_ HB.out hw320_3), (ck_ HB.out hw321_0), (ck_ HB.out hw321_1), (ck_ HB.out hw321_2), (ck_ HB.out hw321_3)⟩ (fun hHeld => ?_)
                    clear hK K
                    refine norm_ (a' := ?_) ?_ ?_
                    rotate_left
                    ·show Act.put _ (some 113) _ = _
                     simp only [Act.put, sp1_, sp2_]
                     rfl
                    refine pure_ (i := 20) (N := some 114) (v := ?_) (a' := ?_) (mk_ 21 2097151) rfl rfl (an_ HT_.out) (fun _ _ _ h => h) (Or.inl ⟨by rfl, ?_⟩) ?_ ?_
                    rotate_left; (intro w'; go_simp; with_reducible rfl); rotate_left; (simp only [Act.put, sp1_, sp2_]; rfl)
                    refine done_ (done_of HT_.out (by kernel_rfl)) ?_
                    have p332 : 0 ≤ (x7_2 : Int) := of_decide_eq_true (by first | (with_reducible assumption) | assumption)
                    have q332 : x7_2 < (x5_3.length : Int) := of_decide_eq_true (by first | (with_reducible assumption) | assumption)
                    obtain ⟨ad332, A332_0, c332_0, e332, hx332_0, hl332_0, hi332_0⟩ := at_L6 (Kd.S_reads' HO_5.out).2.2 x7_2 p332 q332
                    cases e332
                    obtain ⟨ce332, hce332, hMe332, hcc332⟩ := Kd.S_get HO_5.out [] x7_2 p332 (by first | exact q332 | exact of_decide_eq_true (by first | (with_reducible assumption) | assumption) | (have e_ := (Kd.S_reads' HO_5.out).1; omega))
                    obtain ⟨ve332_0, rfl, ge332_0⟩ := hMe332
                    have hv332_0 := hcc332 0 _ rfl
                    rw [Nat.add_zero, show ((Kd.slice 3 (Kd.int .i64))).sz = 1 from rfl, Nat.mul_one] at hv332_0
                    replace hv332_0 := Option.some.inj (hv332_0.symm.trans hx332_0)
                    rw [hv332_0] at ge332_0
                    have HL332_0 := Aside0.mk (show Kd.R (Kd.int .i64) 3 _ _ _ _ (rd_L6 x5_3 x7_2) from ge332_0)
                    clear hv332_0 ge332_0
                    have HX332_0 := Aside0.mk hx332_0
                    clear hcc332 hce332
                    have HR332_0 := Aside0.mk hi332_0
                    have HC332_0 := Aside0.mk hl332_0
                    clear hi332_0 hl332_0
                    replace p332 := eq_true p332
                    replace q332 := eq_true q332
                    have p78 : 0 ≤ (x8_3 : Int) := of_decide_eq_true (by first | (with_reducible assumption) | assumption)
                    have q78 : (x8_3 : Int) < (((rd_L6 x5_3 x7_2).length : Int) : Int) := of_decide_eq_true (by first | (with_reducible assumption) | assumption)
                    obtain ⟨go78, co78, eo78, gb78, gl78, cl78, HG78⟩ := Kd.R_form HL332_0.out (by omega)
                    (first | cases eo78 | (injection eo78 with ea_ en_ ec_; (first | subst ea_ | (injection ea_ with ea_; subst ea_)); subst ec_; clear en_))
                    have GB78 := Aside0.mk gb78
                    have GG78 := Aside0.mk HG78
                    clear gb78 gl78 HG78
                    obtain ⟨hx78_0, hf78_0⟩ := Kd.R_celln 0 HL332_0.out (x8_3 : Int) p78 q78
                    replace p78 := eq_true p78
                    replace q78 := eq_true q78
                    have hq81 : (x7_2 : Int) < (x5_3.length : Int) := (by have h_ : (x7_2 : Int) < ((x5_3.length : Int) : Int) := of_decide_eq_true (by first | (with_reducible assumption) | assumption); first | exact h_ | (have e_ := (Kd.S_reads' HO_5.out).1; omega) | simpa only [List.length_set, List.length_set] using h_)
                    obtain ⟨oki81, ce81, hcl81, hM81, hcc81, hok81, hbk81⟩ := Kd.S_borrow HO_5.out [] (x7_2 : Int) (of_decide_eq_true (by first | (with_reducible assumption) | assumption)) hq81
                    obtain ⟨ve81_0, rfl, ge81_0⟩ := hM81
                    have hv81 := hcc81 0 _ rfl
                    rw [Nat.add_zero, show ((Kd.slice 3 (Kd.int .i64))).sz = 1 from rfl, Nat.mul_one] at hv81
                    replace hv81 := Option.some.inj (hv81.symm.trans HX332_0.out)
                    subst hv81
                    clear hcc81 hcl81
                    replace ge81_0 := (show Kd.R (Kd.int .i64) 3 _ _ _ _ (rd_L6 x5_3 x7_2) from ge81_0)
                    have HP81 := Kd.R_putg ge81_0 (x8_3 : Int) x9_35
                    try go_wp2_with (first | ((with_reducible refine gate_store (t := 3) (p := 142) rfl ?_); refine store_event (t := 3) (p := 142) (v := ?vo_w82) (w1 := (w80.setCell ⟨go78, (x8_3 : Int).toNat, none⟩ (.int .i64 x9_35))) ?hg ?ho ?hn ?hr ?_; (case ho => rfl); (case hg => rfl); (case hn => rfl); (case hr => first | (go_simp; done) | (go_simp; rfl)); intro w82 hw; have hg : w80.grownBy w82 (some go78) := (by rw [hw]; exact HP81.2); have hz_ : Kd.R (Kd.int .i64) 3 w82 w.heap.size oki81 (.slice (some ⟨go78, 0, none⟩) (rd_L6 x5_3 x7_2).length c332_0) y333 := (by rw [hw, Ny333.out]; exact HP81.1); have hp_ : Kd.S (Kd.slice 3 (Kd.int .i64)) 35 w82 w.heap.size (fun _ => True) (.slice (some ad332) x5_3.length co8) y335 := (by rw [Ny335.out]; exact hbk81 hg (fun k_ e_ => by injection e_ with e_; subst e_; exact ge81_0.1 _ rfl) (Kd.M_row hz_)); have hm_ := Kd.R_mono hz_ hok81; clear HP81 hbk81; have n0_ := Aside0.mk (hp_); have n1_ := Aside0.mk ((by rw [hw]; exact below_set (HB.out) GB78.out : Below w.heap.size w w82)); have n2_ := Aside0.mk (hm_); have n3_ := Aside0.mk ((Kd.R_reads' hm_).2.1); clear HO_5; clear HB; clear HL332_0; have HO_5 := n0_; have HB := n1_; have HL345 := n2_; have HC334 := n3_; clear n0_ n1_ n2_ n3_; clear hg hw hp_ hz_ hm_ hok81))
                    (try simp only [← hl5_3])
                    go_roundg kj35
                    case measure => have := HK1.out; have := HK2.out; have := HK3.out; have := HJ21.out; have := HJ24.out; have := HJ35.out; omega
                    case rel => exact ⟨(y335), (wrap64 (x8_3 - 1)), (by first | rfl | (simp; done) | (simp [*]; done)), H', ⟨by have := HK1.out; have := HK2.out; have := HK3.out; have := HJ21.out; have := HJ24.out; have := HJ35.out; omega⟩, ⟨by (try simp only [hl5_1]); (try simp only [hl5_2]); (try simp only [hl5_3]); (with_reducible repeat (first | apply Kd.S_alloc | apply Kd.S_drewN | apply Kd.S_drew)); exact HO_5.out⟩, ⟨bs0_ HB.out⟩⟩
                  ·rw [if_neg c54] at H
                   have c54b0 : decide (x8_3 < (l1.length : Int)) = false := decide_eq_false c54
                   (try simp only [hl5_1, hl5_2, hl5_3] at c54b0)
                   clear c54
                   by_cases c83 : 0 ≤ x7_2
                   case neg =>
                    rw [if_neg c83] at H
                    exact absurd H (by simp)
                   rw [if_pos c83] at H
                   have c83b0 : decide (0 ≤ x7_2) = true := decide_eq_true c83
                   (try simp only [hl5_1, hl5_2, hl5_3] at c83b0)
                   clear c83
                   by_cases c84 : x7_2 < (x5_3.length : Int)
                   case neg =>
                    rw [if_neg c84] at H
                    exact absurd H (by simp)
                   rw [if_pos c84] at H
                   have c84b0 : decide (x7_2 < (x5_3.length : Int)) = true := decide_eq_true c84
                   (try simp only [hl5_1, hl5_2, hl5_3] at c84b0)
                   clear c84
                   by_cases c85 : 0 ≤ x8_3
                   case neg =>
                    rw [if_neg c85] at H
                    exact absurd H (by simp)
                   rw [if_pos c85] at H
                   have c85b0 : decide (0 ≤ x8_3) = true := decide_eq_true c85
                   (try simp only [hl5_1, hl5_2, hl5_3] at c85b0)
                   clear c85
                   by_cases c86 : x8_3 < ((rd_L6 x5_3 x7_2).length : Int)
                   case neg =>
                    rw [if_neg c86] at H
                    exact absurd H (by simp)
                   rw [if_pos c86] at H
                   have c86b0 : decide (x8_3 < ((rd_L6 x5_3 x7_2).length : Int)) = true := decide_eq_true c86
                   (try simp only [hl5_1, hl5_2, hl5_3] at c86b0)
                   clear c86
                   obtain ⟨y337, hy337⟩ : ∃ y_ : List Int, y_ = ((rd_L6 x5_3 x7_2).set (x8_3 : Int).toNat x9_35) := ⟨_, rfl⟩
                   replace H : (vinculumref16_table.l2 kj35 l0 l1 (x5_3.set (x7_2 : Int).toNat y337) x7_2 (wrap64 (x8_3 - 1))) = some r := by first | (rw [hy337]; with_reducible exact H) | (have H2_ := (Option.bind_some _ _).symm.trans H; rw [hy337]; with_reducible exact H2_) | (have H2_ := (Option.bind_some _ _).symm.trans H; with_reducible exact H2_) | with_reducible exact H | (rw [hy337]; exact H) | exact H
                   have Ny337 := Aside0.mk hy337
                   clear hy337
                   obtain ⟨y339, hy339⟩ : ∃ y_ : List (List Int), y_ = (x5_3.set (x7_2 : Int).toNat y337) := ⟨_, rfl⟩
                   replace H : (vinculumref16_table.l2 kj35 l0 l1 y339 x7_2 (wrap64 (x8_3 - 1))) = some r := by first | (rw [hy339]; with_reducible exact H) | (have H2_ := (Option.bind_some _ _).symm.trans H; rw [hy339]; with_reducible exact H2_) | (have H2_ := (Option.bind_some _ _).symm.trans H; with_reducible exact H2_) | with_reducible exact H | (rw [hy339]; exact H) | exact H
                   have Ny339 := Aside0.mk hy339
                   clear hy339
                   have H' := Aside0.mk H
                   clear H
                   try go_wp2
                   have n0_ := Aside0.mk (Kd.S_drew HO_5.out)
                   have n1_ := Aside0.mk (below_drew1 HB.out)
                   clear HO_5; clear HB
                   have HO_5 := n0_
                   have HB := n1_
                   clear n0_ n1_
                   refine start_ (n := 21) (S := fun w' => True) (ds := []) #[false, false, false, false, false, false, false, false, false, false, false, false, false, false, false, false, false, false, false, false, false] (by kernel_rfl) rfl rfl trivial (fun hHeld => ?_); refine with_tabW vinculumref16_table.tab21 vinculumref16_table.bits21 (fun HT_ HW_ => ?_)
                   generalize wc.drew = w88 at HO_5 HB hHeld ⊢
                   refine pure_ (i := 0) (N := some 94) (v := ?_) (a' := ?_) (mk_ 21 1) rfl rfl (an_ HT_.out) (fun _ _ _ h => h) (Or.inl ⟨by rfl, ?_⟩) ?_ ?_
                   rotate_left; (intro w'; go_simp; with_reducible rfl); rotate_left; (simp only [Act.put, sp1_, sp2_]; rfl)
                   refine pure_ (i := 1) (N := some 95) (v := ?_) (a' := ?_) (mk_ 21 3) rfl rfl (an_ HT_.out) (fun _ _ _ h => h) (Or.inl ⟨by rfl, ?_⟩) ?_ ?_
                   rotate_left; (intro w'; go_simp; with_reducible rfl); rotate_left; (simp only [Act.put, sp1_, sp2_]; rfl)
                   refine pure_ (i := 2) (N := some 96) (v := ?_) (a' := ?_) (mk_ 21 7) rfl rfl (an_ HT_.out) (fun _ _ _ h => h) (Or.inl ⟨by rfl, ?_⟩) ?_ ?_
                   rotate_left; (intro w'; go_simp; with_reducible rfl); rotate_left; (simp only [Act.put, sp1_, sp2_]; rfl)
                   refine pure_ (i := 3) (N := some 97) (v := ?_) (a' := ?_) (mk_ 21 15) rfl rfl (an_ HT_.out) (fun _ _ _ h => h) (Or.inl ⟨by rfl, ?_⟩) ?_ ?_
                   rotate_left; (intro w'; go_simp; with_reducible rfl); rotate_left; (simp only [Act.put, sp1_, sp2_]; rfl)
                   refine pure_ (i := 4) (N := some 98) (v := ?_) (a' := ?_) (mk_ 21 31) rfl rfl (an_ HT_.out) (fun _ _ _ h => h) (Or.inl ⟨by rfl, ?_⟩) ?_ ?_
                   rotate_left; (intro w'; go_simp; with_reducible rfl); rotate_left; (simp only [Act.put, sp1_, sp2_]; rfl)
                   refine pure_ (i := 5) (N := some 99) (v := ?_) (a' := ?_) (mk_ 21 63) rfl rfl (an_ HT_.out) (fun _ _ _ h => h) (Or.inl ⟨by rfl, ?_⟩) ?_ ?_
                   rotate_left; (intro w'; go_simp; with_reducible rfl); rotate_left; (simp only [Act.put, sp1_, sp2_]; rfl)
                   refine pure_ (i := 6) (N := some 100) (v := ?_) (a' := ?_) (mk_ 21 127) rfl rfl (an_ HT_.out) (fun _ _ _ h => h) (Or.inl ⟨by rfl, ?_⟩) ?_ ?_
                   rotate_left; (intro w'; go_simp; with_reducible rfl); rotate_left; (simp only [Act.put, sp1_, sp2_]; rfl)
                   refine pure_ (i := 7) (N := some 101) (v := ?_) (a' := ?_) (mk_ 21 255) rfl rfl (an_ HT_.out) (fun _ _ _ h => h) (Or.inl ⟨by rfl, ?_⟩) ?_ ?_
                   rotate_left; (intro w'; go_simp; with_reducible rfl); rotate_left; (simp only [Act.put, sp1_, sp2_]; rfl)
                   refine pure_ (i := 8) (N := some 102) (v := ?_) (a' := ?_) (mk_ 21 511) rfl rfl (an_ HT_.out) (fun _ _ _ h => h) (Or.inl ⟨by rfl, ?_⟩) ?_ ?_
                   rotate_left; (intro w'; go_simp; with_reducible rfl); rotate_left; (simp only [Act.put, sp1_, sp2_]; rfl)
                   refine pure_ (i := 9) (N := some 103) (v := ?_) (a' := ?_) (mk_ 21 1023) rfl rfl (an_ HT_.out) (fun _ _ _ h => h) (Or.inl ⟨by rfl, ?_⟩) ?_ ?_
                   rotate_left; (intro w'; go_simp; with_reducible rfl); rotate_left; (simp only [Act.put, sp1_, sp2_]; rfl)
                   refine pure_ (i := 10) (N := some 104) (v := ?_) (a' := ?_) (mk_ 21 2047) rfl rfl (an_ HT_.out) (fun _ _ _ h => h) (Or.inl ⟨by rfl, ?_⟩) ?_ ?_
                   rotate_left; (intro w'; go_simp; with_reducible rfl); rotate_left; (simp only [Act.put, sp1_, sp2_]; rfl)
                   refine pure_ (i := 11) (N := some 105) (v := undef) (a' := ?_) (mk_ 21 4095) rfl rfl (an_ HT_.out) (fun _ _ _ h => h) (Or.inr ⟨by rfl, rfl⟩) ?_ ?_
                   rotate_left; (simp only [Act.put, sp1_, sp2_]; rfl)
                   refine pure_ (i := 12) (N := some 106) (v := undef) (a' := ?_) (mk_ 21 8191) rfl rfl (an_ HT_.out) (fun _ _ _ h => h) (Or.inr ⟨by rfl, rfl⟩) ?_ ?_
                   rotate_left; (simp only [Act.put, sp1_, sp2_]; rfl)
                   refine pure_ (i := 13) (N := some 107) (v := undef) (a' := ?_) (mk_ 21 16383) rfl rfl (an_ HT_.out) (fun _ _ _ h => h) (Or.inr ⟨by rfl, rfl⟩) ?_ ?_
                   rotate_left; (simp only [Act.put, sp1_, sp2_]; rfl)
                   refine pure_ (i := 14) (N := some 108) (v := undef) (a' := ?_) (mk_ 21 32767) rfl rfl (an_ HT_.out) (fun _ _ _ h => h) (Or.inr ⟨by rfl, rfl⟩) ?_ ?_
                   rotate_left; (simp only [Act.put, sp1_, sp2_]; rfl)
                   refine pure_ (i := 15) (N := some 109) (v := undef) (a' := ?_) (mk_ 21 65535) rfl rfl (an_ HT_.out) (fun _ _ _ h => h) (Or.inr ⟨by rfl, rfl⟩) ?_ ?_
                   rotate_left; (simp only [Act.put, sp1_, sp2_]; rfl)
                   refine pure_ (i := 16) (N := some 110) (v := undef) (a' := ?_) (mk_ 21 131071) rfl rfl (an_ HT_.out) (fun _ _ _ h => h) (Or.inr ⟨by rfl, rfl⟩) ?_ ?_
                   rotate_left; (simp only [Act.put, sp1_, sp2_]; rfl)
                   refine pure_ (i := 17) (N := some 111) (v := undef) (a' := ?_) (mk_ 21 262143) rfl rfl (an_ HT_.out) (fun _ _ _ h => h) (Or.inr ⟨by rfl, rfl⟩) ?_ ?_
                   rotate_left; (simp only [Act.put, sp1_, sp2_]; rfl)
                   refine pure_ (i := 18) (N := some 112) (v := undef) (a' := ?_) (mk_ 21 524287) rfl rfl (an_ HT_.out) (fun _ _ _ h => h) (Or.inr ⟨by rfl, rfl⟩) ?_ ?_
                   rotate_left; (simp only [Act.put, sp1_, sp2_]; rfl)
                   refine pure_ (i := 19) (N := some 113) (v := undef) (a' := ?_) (mk_ 21 1048575) rfl rfl (an_ HT_.out) (fun _ _ _ h => h) (Or.inr ⟨by rfl, rfl⟩) ?_ ?_
                   rotate_left; (simp only [Act.put, sp1_, sp2_]; rfl)
                   refine pure_ (i := 20) (N := some 114) (v := ?_) (a' := ?_) (mk_ 21 2097151) rfl rfl (an_ HT_.out) (fun _ _ _ h => h) (Or.inl ⟨by rfl, ?_⟩) ?_ ?_
                   rotate_left; (intro w'; go_simp; with_reducible rfl); rotate_left; (simp only [Act.put, sp1_, sp2_]; rfl)
                   refine done_ (done_of HT_.out (by kernel_rfl)) ?_
                   have p336 : 0 ≤ (x7_2 : Int) := of_decide_eq_true (by first | (with_reducible assumption) | assumption)
                   have q336 : x7_2 < (x5_3.length : Int) := of_decide_eq_true (by first | (with_reducible assumption) | assumption)
                   obtain ⟨ad336, A336_0, c336_0, e336, hx336_0, hl336_0, hi336_0⟩ := at_L6 (Kd.S_reads' HO_5.out).2.2 x7_2 p336 q336
                   cases e336
                   obtain ⟨ce336, hce336, hMe336, hcc336⟩ := Kd.S_get HO_5.out [] x7_2 p336 (by first | exact q336 | exact of_decide_eq_true (by first | (with_reducible assumption) | assumption) | (have e_ := (Kd.S_reads' HO_5.out).1; omega))
                   obtain ⟨ve336_0, rfl, ge336_0⟩ := hMe336
                   have hv336_0 := hcc336 0 _ rfl
                   rw [Nat.add_zero, show ((Kd.slice 3 (Kd.int .i64))).sz = 1 from rfl, Nat.mul_one] at hv336_0
                   replace hv336_0 := Option.some.inj (hv336_0.symm.trans hx336_0)
                   rw [hv336_0] at ge336_0
                   have HL336_0 := Aside0.mk (show Kd.R (Kd.int .i64) 3 _ _ _ _ (rd_L6 x5_3 x7_2) from ge336_0)
                   clear hv336_0 ge336_0
                   have HX336_0 := Aside0.mk hx336_0
                   clear hcc336 hce336
                   have HR336_0 := Aside0.mk hi336_0
                   have HC336_0 := Aside0.mk hl336_0
                   clear hi336_0 hl336_0
                   replace p336 := eq_true p336
                   replace q336 := eq_true q336
                   have p87 : 0 ≤ (x8_3 : Int) := of_decide_eq_true (by first | (with_reducible assumption) | assumption)
                   have q87 : (x8_3 : Int) < (((rd_L6 x5_3 x7_2).length : Int) : Int) := of_decide_eq_true (by first | (with_reducible assumption) | assumption)
                   obtain ⟨go87, co87, eo87, gb87, gl87, cl87, HG87⟩ := Kd.R_form HL336_0.out (by omega)
                   (first | cases eo87 | (injection eo87 with ea_ en_ ec_; (first | subst ea_ | (injection ea_ with ea_; subst ea_)); subst ec_; clear en_))
                   have GB87 := Aside0.mk gb87
                   have GG87 := Aside0.mk HG87
                   clear gb87 gl87 HG87
                   obtain ⟨hx87_0, hf87_0⟩ := Kd.R_celln 0 HL336_0.out (x8_3 : Int) p87 q87
                   replace p87 := eq_true p87
                   replace q87 := eq_true q87
                   have hq89 : (x7_2 : Int) < (x5_3.length : Int) := (by have h_ : (x7_2 : Int) < ((x5_3.length : Int) : Int) := of_decide_eq_true (by first | (with_reducible assumption) | assumption); first | exact h_ | (have e_ := (Kd.S_reads' HO_5.out).1; omega) | simpa only [List.length_set, List.length_set] using h_)
                   obtain ⟨oki89, ce89, hcl89, hM89, hcc89, hok89, hbk89⟩ := Kd.S_borrow HO_5.out [] (x7_2 : Int) (of_decide_eq_true (by first | (with_reducible assumption) | assumption)) hq89
                   obtain ⟨ve89_0, rfl, ge89_0⟩ := hM89
                   have hv89 := hcc89 0 _ rfl
                   rw [Nat.add_zero, show ((Kd.slice 3 (Kd.int .i64))).sz = 1 from rfl, Nat.mul_one] at hv89
                   replace hv89 := Option.some.inj (hv89.symm.trans HX336_0.out)
                   subst hv89
                   clear hcc89 hcl89
                   replace ge89_0 := (show Kd.R (Kd.int .i64) 3 _ _ _ _ (rd_L6 x5_3 x7_2) from ge89_0)
                   have HP89 := Kd.R_putg ge89_0 (x8_3 : Int) x9_35
                   try go_wp2_with (first | ((with_reducible refine gate_store (t := 3) (p := 142) rfl ?_); refine store_event (t := 3) (p := 142) (v := ?vo_w90) (w1 := (w88.setCell ⟨go87, (x8_3 : Int).toNat, none⟩ (.int .i64 x9_35))) ?hg ?ho ?hn ?hr ?_; (case ho => rfl); (case hg => rfl); (case hn => rfl); (case hr => first | (go_simp; done) | (go_simp; rfl)); intro w90 hw; have hg : w88.grownBy w90 (some go87) := (by rw [hw]; exact HP89.2); have hz_ : Kd.R (Kd.int .i64) 3 w90 w.heap.size oki89 (.slice (some ⟨go87, 0, none⟩) (rd_L6 x5_3 x7_2).length c336_0) y337 := (by rw [hw, Ny337.out]; exact HP89.1); have hp_ : Kd.S (Kd.slice 3 (Kd.int .i64)) 35 w90 w.heap.size (fun _ => True) (.slice (some ad336) x5_3.length co8) y339 := (by rw [Ny339.out]; exact hbk89 hg (fun k_ e_ => by injection e_ with e_; subst e_; exact ge89_0.1 _ rfl) (Kd.M_row hz_)); have hm_ := Kd.R_mono hz_ hok89; clear HP89 hbk89; have n0_ := Aside0.mk (hp_); have n1_ := Aside0.mk ((by rw [hw]; exact below_set (HB.out) GB87.out : Below w.heap.size w w90)); have n2_ := Aside0.mk (hm_); have n3_ := Aside0.mk ((Kd.R_reads' hm_).2.1); clear HO_5; clear HB; clear HL336_0; have HO_5 := n0_; have HB := n1_; have HL346 := n2_; have HC338 := n3_; clear n0_ n1_ n2_ n3_; clear hg hw hp_ hz_ hm_ hok89))
                   (try simp only [← hl5_3])
                   go_roundg kj35
                   case measure => have := HK1.out; have := HK2.out; have := HK3.out; have := HJ21.out; have := HJ24.out; have := HJ35.out; omega
                   case rel => exact ⟨(y339), (wrap64 (x8_3 - 1)), (by first | rfl | (simp; done) | (simp [*]; done)), H', ⟨by have := HK1.out; have := HK2.out; have := HK3.out; have := HJ21.out; have := HJ24.out; have := HJ35.out; omega⟩, ⟨by (try simp only [hl5_1]); (try simp only [hl5_2]); (try simp only [hl5_3]); (with_reducible repeat (first | apply Kd.S_alloc | apply Kd.S_drewN | apply Kd.S_drew)); exact HO_5.out⟩, ⟨bs0_ HB.out⟩⟩
                 ·rw [if_neg c53] at H
                  have c53b0 : decide (x7_2 < (l0.length : Int)) = false := decide_eq_false c53
                  (try simp only [hl5_1, hl5_2, hl5_3] at c53b0)
                  clear c53
                  by_cases c91 : 0 ≤ x7_2
                  case neg =>
                   rw [if_neg c91] at H
                   exact absurd H (by simp)
                  rw [if_pos c91] at H
                  have c91b0 : decide (0 ≤ x7_2) = true := decide_eq_true c91
                  (try simp only [hl5_1, hl5_2, hl5_3] at c91b0)
                  clear c91
                  by_cases c92 : x7_2 < (x5_3.length : Int)
                  case neg =>
                   rw [if_neg c92] at H
                   exact absurd H (by simp)
                  rw [if_pos c92] at H
                  have c92b0 : decide (x7_2 < (x5_3.length : Int)) = true := decide_eq_true c92
                  (try simp only [hl5_1, hl5_2, hl5_3] at c92b0)
                  clear c92
                  by_cases c93 : 0 ≤ x8_3
                  case neg =>
                   rw [if_neg c93] at H
                   exact absurd H (by simp)
                  rw [if_pos c93] at H
                  have c93b0 : decide (0 ≤ x8_3) = true := decide_eq_true c93
                  (try simp only [hl5_1, hl5_2, hl5_3] at c93b0)
                  clear c93
                  by_cases c94 : x8_3 < ((rd_L6 x5_3 x7_2).length : Int)
                  case neg =>
                   rw [if_neg c94] at H
                   exact absurd H (by simp)
                  rw [if_pos c94] at H
                  have c94b0 : decide (x8_3 < ((rd_L6 x5_3 x7_2).length : Int)) = true := decide_eq_true c94
                  (try simp only [hl5_1, hl5_2, hl5_3] at c94b0)
                  clear c94
                  obtain ⟨y341, hy341⟩ : ∃ y_ : List Int, y_ = ((rd_L6 x5_3 x7_2).set (x8_3 : Int).toNat x9_35) := ⟨_, rfl⟩
                  replace H : (vinculumref16_table.l2 kj35 l0 l1 (x5_3.set (x7_2 : Int).toNat y341) x7_2 (wrap64 (x8_3 - 1))) = some r := by first | (rw [hy341]; with_reducible exact H) | (have H2_ := (Option.bind_some _ _).symm.trans H; rw [hy341]; with_reducible exact H2_) | (have H2_ := (Option.bind_some _ _).symm.trans H; with_reducible exact H2_) | with_reducible exact H | (rw [hy341]; exact H) | exact H
                  have Ny341 := Aside0.mk hy341
                  clear hy341
                  obtain ⟨y343, hy343⟩ : ∃ y_ : List (List Int), y_ = (x5_3.set (x7_2 : Int).toNat y341) := ⟨_, rfl⟩
                  replace H : (vinculumref16_table.l2 kj35 l0 l1 y343 x7_2 (wrap64 (x8_3 - 1))) = some r := by first | (rw [hy343]; with_reducible exact H) | (have H2_ := (Option.bind_some _ _).symm.trans H; rw [hy343]; with_reducible exact H2_) | (have H2_ := (Option.bind_some _ _).symm.trans H; with_reducible exact H2_) | with_reducible exact H | (rw [hy343]; exact H) | exact H
                  have Ny343 := Aside0.mk hy343
                  clear hy343
                  have H' := Aside0.mk H
                  clear H
                  try go_wp2
                  have n0_ := Aside0.mk (Kd.S_drew HO_5.out)
                  have n1_ := Aside0.mk (below_drew1 HB.out)
                  clear HO_5; clear HB
                  have HO_5 := n0_
                  have HB := n1_
                  clear n0_ n1_
                  refine start_ (n := 21) (S := fun w' => True) (ds := []) #[false, false, false, false, false, false, false, false, false, false, false, false, false, false, false, false, false, false, false, false, false] (by kernel_rfl) rfl rfl trivial (fun hHeld => ?_); refine with_tabW vinculumref16_table.tab21 vinculumref16_table.bits21 (fun HT_ HW_ => ?_)
                  generalize wc.drew = w96 at HO_5 HB hHeld ⊢
                  refine pure_ (i := 0) (N := some 94) (v := ?_) (a' := ?_) (mk_ 21 1) rfl rfl (an_ HT_.out) (fun _ _ _ h => h) (Or.inl ⟨by rfl, ?_⟩) ?_ ?_
                  rotate_left; (intro w'; go_simp; with_reducible rfl); rotate_left; (simp only [Act.put, sp1_, sp2_]; rfl)
                  refine pure_ (i := 1) (N := some 95) (v := ?_) (a' := ?_) (mk_ 21 3) rfl rfl (an_ HT_.out) (fun _ _ _ h => h) (Or.inl ⟨by rfl, ?_⟩) ?_ ?_
                  rotate_left; (intro w'; go_simp; with_reducible rfl); rotate_left; (simp only [Act.put, sp1_, sp2_]; rfl)
                  refine pure_ (i := 2) (N := some 96) (v := ?_) (a' := ?_) (mk_ 21 7) rfl rfl (an_ HT_.out) (fun _ _ _ h => h) (Or.inl ⟨by rfl, ?_⟩) ?_ ?_
                  rotate_left; (intro w'; go_simp; with_reducible rfl); rotate_left; (simp only [Act.put, sp1_, sp2_]; rfl)
                  refine pure_ (i := 3) (N := some 97) (v := ?_) (a' := ?_) (mk_ 21 15) rfl rfl (an_ HT_.out) (fun _ _ _ h => h) (Or.inl ⟨by rfl, ?_⟩) ?_ ?_
                  rotate_left; (intro w'; go_simp; with_reducible rfl); rotate_left; (simp only [Act.put, sp1_, sp2_]; rfl)
                  refine pure_ (i := 4) (N := some 98) (v := ?_) (a' := ?_) (mk_ 21 31) rfl rfl (an_ HT_.out) (fun _ _ _ h => h) (Or.inl ⟨by rfl, ?_⟩) ?_ ?_
                  rotate_left; (intro w'; go_simp; with_reducible rfl); rotate_left; (simp only [Act.put, sp1_, sp2_]; rfl)
                  refine pure_ (i := 5) (N := some 99) (v := undef) (a' := ?_) (mk_ 21 63) rfl rfl (an_ HT_.out) (fun _ _ _ h => h) (Or.inr ⟨by rfl, rfl⟩) ?_ ?_
                  rotate_left; (simp only [Act.put, sp1_, sp2_]; rfl)
                  refine pure_ (i := 6) (N := some 100) (v := undef) (a' := ?_) (mk_ 21 127) rfl rfl (an_ HT_.out) (fun _ _ _ h => h) (Or.inr ⟨by rfl, rfl⟩) ?_ ?_
                  rotate_left; (simp only [Act.put, sp1_, sp2_]; rfl)
                  refine pure_ (i := 7) (N := some 101) (v := undef) (a' := ?_) (mk_ 21 255) rfl rfl (an_ HT_.out) (fun _ _ _ h => h) (Or.inr ⟨by rfl, rfl⟩) ?_ ?_
                  rotate_left; (simp only [Act.put, sp1_, sp2_]; rfl)
                  refine pure_ (i := 8) (N := some 102) (v := undef) (a' := ?_) (mk_ 21 511) rfl rfl (an_ HT_.out) (fun _ _ _ h => h) (Or.inr ⟨by rfl, rfl⟩) ?_ ?_
                  rotate_left; (simp only [Act.put, sp1_, sp2_]; rfl)
                  refine pure_ (i := 9) (N := some 103) (v := ?_) (a' := ?_) (mk_ 21 1023) rfl rfl (an_ HT_.out) (fun _ _ _ h => h) (Or.inl ⟨by rfl, ?_⟩) ?_ ?_
                  rotate_left; (intro w'; go_simp; with_reducible rfl); rotate_left; (simp only [Act.put, sp1_, sp2_]; rfl)
                  refine pure_ (i := 10) (N := some 104) (v := ?_) (a' := ?_) (mk_ 21 2047) rfl rfl (an_ HT_.out) (fun _ _ _ h => h) (Or.inl ⟨by rfl, ?_⟩) ?_ ?_
                  rotate_left; (intro w'; go_simp; with_reducible rfl); rotate_left; (simp only [Act.put, sp1_, sp2_]; rfl)
                  refine pure_ (i := 11) (N := some 105) (v := undef) (a' := ?_) (mk_ 21 4095) rfl rfl (an_ HT_.out) (fun _ _ _ h => h) (Or.inr ⟨by rfl, rfl⟩) ?_ ?_
                  rotate_left; (simp only [Act.put, sp1_, sp2_]; rfl)
                  refine pure_ (i := 12) (N := some 106) (v := undef) (a' := ?_) (mk_ 21 8191) rfl rfl (an_ HT_.out) (fun _ _ _ h => h) (Or.inr ⟨by rfl, rfl⟩) ?_ ?_
                  rotate_left; (simp only [Act.put, sp1_, sp2_]; rfl)
                  refine pure_ (i := 13) (N := some 107) (v := undef) (a' := ?_) (mk_ 21 16383) rfl rfl (an_ HT_.out) (fun _ _ _ h => h) (Or.inr ⟨by rfl, rfl⟩) ?_ ?_
                  rotate_left; (simp only [Act.put, sp1_, sp2_]; rfl)
                  refine pure_ (i := 14) (N := some 108) (v := undef) (a' := ?_) (mk_ 21 32767) rfl rfl (an_ HT_.out) (fun _ _ _ h => h) (Or.inr ⟨by rfl, rfl⟩) ?_ ?_
                  rotate_left; (simp only [Act.put, sp1_, sp2_]; rfl)
                  refine pure_ (i := 15) (N := some 109) (v := undef) (a' := ?_) (mk_ 21 65535) rfl rfl (an_ HT_.out) (fun _ _ _ h => h) (Or.inr ⟨by rfl, rfl⟩) ?_ ?_
                  rotate_left; (simp only [Act.put, sp1_, sp2_]; rfl)
                  refine pure_ (i := 16) (N := some 110) (v := undef) (a' := ?_) (mk_ 21 131071) rfl rfl (an_ HT_.out) (fun _ _ _ h => h) (Or.inr ⟨by rfl, rfl⟩) ?_ ?_
                  rotate_left; (simp only [Act.put, sp1_, sp2_]; rfl)
                  refine pure_ (i := 17) (N := some 111) (v := undef) (a' := ?_) (mk_ 21 262143) rfl rfl (an_ HT_.out) (fun _ _ _ h => h) (Or.inr ⟨by rfl, rfl⟩) ?_ ?_
                  rotate_left; (simp only [Act.put, sp1_, sp2_]; rfl)
                  refine pure_ (i := 18) (N := some 112) (v := undef) (a' := ?_) (mk_ 21 524287) rfl rfl (an_ HT_.out) (fun _ _ _ h => h) (Or.inr ⟨by rfl, rfl⟩) ?_ ?_
                  rotate_left; (simp only [Act.put, sp1_, sp2_]; rfl)
                  refine pure_ (i := 19) (N := some 113) (v := undef) (a' := ?_) (mk_ 21 1048575) rfl rfl (an_ HT_.out) (fun _ _ _ h => h) (Or.inr ⟨by rfl, rfl⟩) ?_ ?_
                  rotate_left; (simp only [Act.put, sp1_, sp2_]; rfl)
                  refine pure_ (i := 20) (N := some 114) (v := ?_) (a' := ?_) (mk_ 21 2097151) rfl rfl (an_ HT_.out) (fun _ _ _ h => h) (Or.inl ⟨by rfl, ?_⟩) ?_ ?_
                  rotate_left; (intro w'; go_simp; with_reducible rfl); rotate_left; (simp only [Act.put, sp1_, sp2_]; rfl)
                  refine done_ (done_of HT_.out (by kernel_rfl)) ?_
                  have p340 : 0 ≤ (x7_2 : Int) := of_decide_eq_true (by first | (with_reducible assumption) | assumption)
                  have q340 : x7_2 < (x5_3.length : Int) := of_decide_eq_true (by first | (with_reducible assumption) | assumption)
                  obtain ⟨ad340, A340_0, c340_0, e340, hx340_0, hl340_0, hi340_0⟩ := at_L6 (Kd.S_reads' HO_5.out).2.2 x7_2 p340 q340
                  cases e340
                  obtain ⟨ce340, hce340, hMe340, hcc340⟩ := Kd.S_get HO_5.out [] x7_2 p340 (by first | exact q340 | exact of_decide_eq_true (by first | (with_reducible assumption) | assumption) | (have e_ := (Kd.S_reads' HO_5.out).1; omega))
                  obtain ⟨ve340_0, rfl, ge340_0⟩ := hMe340
                  have hv340_0 := hcc340 0 _ rfl
                  rw [Nat.add_zero, show ((Kd.slice 3 (Kd.int .i64))).sz = 1 from rfl, Nat.mul_one] at hv340_0
                  replace hv340_0 := Option.some.inj (hv340_0.symm.trans hx340_0)
                  rw [hv340_0] at ge340_0
                  have HL340_0 := Aside0.mk (show Kd.R (Kd.int .i64) 3 _ _ _ _ (rd_L6 x5_3 x7_2) from ge340_0)
                  clear hv340_0 ge340_0
                  have HX340_0 := Aside0.mk hx340_0
                  clear hcc340 hce340
                  have HR340_0 := Aside0.mk hi340_0
                  have HC340_0 := Aside0.mk hl340_0
                  clear hi340_0 hl340_0
                  replace p340 := eq_true p340
                  replace q340 := eq_true q340
                  have p95 : 0 ≤ (x8_3 : Int) := of_decide_eq_true (by first | (with_reducible assumption) | assumption)
                  have q95 : (x8_3 : Int) < (((rd_L6 x5_3 x7_2).length : Int) : Int) := of_decide_eq_true (by first | (with_reducible assumption) | assumption)
                  obtain ⟨go95, co95, eo95, gb95, gl95, cl95, HG95⟩ := Kd.R_form HL340_0.out (by omega)
                  (first | cases eo95 | (injection eo95 with ea_ en_ ec_; (first | subst ea_ | (injection ea_ with ea_; subst ea_)); subst ec_; clear en_))
                  have GB95 := Aside0.mk gb95
                  have GG95 := Aside0.mk HG95
                  clear gb95 gl95 HG95
                  obtain ⟨hx95_0, hf95_0⟩ := Kd.R_celln 0 HL340_0.out (x8_3 : Int) p95 q95
                  replace p95 := eq_true p95
                  replace q95 := eq_true q95
                  have hq97 : (x7_2 : Int) < (x5_3.length : Int) := (by have h_ : (x7_2 : Int) < ((x5_3.length : Int) : Int) := of_decide_eq_true (by first | (with_reducible assumption) | assumption); first | exact h_ | (have e_ := (Kd.S_reads' HO_5.out).1; omega) | simpa only [List.length_set, List.length_set] using h_)
                  obtain ⟨oki97, ce97, hcl97, hM97, hcc97, hok97, hbk97⟩ := Kd.S_borrow HO_5.out [] (x7_2 : Int) (of_decide_eq_true (by first | (with_reducible assumption) | assumption)) hq97
                  obtain ⟨ve97_0, rfl, ge97_0⟩ := hM97
                  have hv97 := hcc97 0 _ rfl
                  rw [Nat.add_zero, show ((Kd.slice 3 (Kd.int .i64))).sz = 1 from rfl, Nat.mul_one] at hv97
                  replace hv97 := Option.some.inj (hv97.symm.trans HX340_0.out)
                  subst hv97
                  clear hcc97 hcl97
                  replace ge97_0 := (show Kd.R (Kd.int .i64) 3 _ _ _ _ (rd_L6 x5_3 x7_2) from ge97_0)
                  have HP97 := Kd.R_putg ge97_0 (x8_3 : Int) x9_35
                  try go_wp2_with (first | ((with_reducible refine gate_store (t := 3) (p := 142) rfl ?_); refine store_event (t := 3) (p := 142) (v := ?vo_w98) (w1 := (w96.setCell ⟨go95, (x8_3 : Int).toNat, none⟩ (.int .i64 x9_35))) ?hg ?ho ?hn ?hr ?_; (case ho => rfl); (case hg => rfl); (case hn => rfl); (case hr => first | (go_simp; done) | (go_simp; rfl)); intro w98 hw; have hg : w96.grownBy w98 (some go95) := (by rw [hw]; exact HP97.2); have hz_ : Kd.R (Kd.int .i64) 3 w98 w.heap.size oki97 (.slice (some ⟨go95, 0, none⟩) (rd_L6 x5_3 x7_2).length c340_0) y341 := (by rw [hw, Ny341.out]; exact HP97.1); have hp_ : Kd.S (Kd.slice 3 (Kd.int .i64)) 35 w98 w.heap.size (fun _ => True) (.slice (some ad340) x5_3.length co8) y343 := (by rw [Ny343.out]; exact hbk97 hg (fun k_ e_ => by injection e_ with e_; subst e_; exact ge97_0.1 _ rfl) (Kd.M_row hz_)); have hm_ := Kd.R_mono hz_ hok97; clear HP97 hbk97; have n0_ := Aside0.mk (hp_); have n1_ := Aside0.mk ((by rw [hw]; exact below_set (HB.out) GB95.out : Below w.heap.size w w98)); have n2_ := Aside0.mk (hm_); have n3_ := Aside0.mk ((Kd.R_reads' hm_).2.1); clear HO_5; clear HB; clear HL340_0; have HO_5 := n0_; have HB := n1_; have HL347 := n2_; have HC342 := n3_; clear n0_ n1_ n2_ n3_; clear hg hw hp_ hz_ hm_ hok97))
                  (try simp only [← hl5_3])
                  go_roundg kj35
                  case measure => have := HK1.out; have := HK2.out; have := HK3.out; have := HJ21.out; have := HJ24.out; have := HJ35.out; omega
                  case rel => exact ⟨(y343), (wrap64 (x8_3 - 1)), (by first | rfl | (simp; done) | (simp [*]; done)), H', ⟨by have := HK1.out; have := HK2.out; have := HK3.out; have := HJ21.out; have := HJ24.out; have := HJ35.out; omega⟩, ⟨by (try simp only [hl5_1]); (try simp only [hl5_2]); (try simp only [hl5_3]); (with_reducible repeat (first | apply Kd.S_alloc | apply Kd.S_drewN | apply Kd.S_drew)); exact HO_5.out⟩, ⟨bs0_ HB.out⟩⟩
         ·rw [if_neg c21] at H
          have c21b0 : decide (0 ≤ x8_3) = false := decide_eq_false c21
          (try simp only [hl5_1, hl5_2, hl5_3] at c21b0)
          clear c21
          have H' := Aside0.mk H
          clear H
          go_wp2
          (try simp only [← hl5_2, ← hl5_3])
          go_roundg k3
          case measure => have := HK1.out; have := HK2.out; have := HK3.out; omega
          case rel => exact ⟨(x5_3), (wrap64 (x7_2 - 1)), (by first | rfl | (simp; done) | (simp [*]; done)), H', ⟨by have := HK1.out; have := HK2.out; have := HK3.out; omega⟩, ⟨by (try simp only [hl5_1]); (try simp only [hl5_2]); (try simp only [hl5_3]); (with_reducible repeat (first | apply Kd.S_alloc | apply Kd.S_drewN | apply Kd.S_drew)); exact HO_5.out⟩, ⟨bs0_ HB.out⟩⟩
      ·rw [if_neg c20] at H
       have c20b0 : decide (0 ≤ x7_2) = false := decide_eq_false c20
       (try simp only [hl5_1, hl5_2] at c20b0)
       clear c20
       obtain rfl := Option.some.inj H
       go_wp2
       go_ret
       exact ⟨_, by first | rfl | (simp [errW_none, errW_some] <;> rfl) | (simp only [← hji3]; first | rfl | (simp [errW_none, errW_some] <;> rfl)) | (simp [*, errW_none, errW_some] <;> rfl), by (with_reducible repeat (first | apply Kd.S_alloc | apply Kd.S_drewN | apply Kd.S_drew)); exact HO_5.out, bs0_ HB.out⟩
end Go.Proofs.YtihchehmkhnhaaaDoor.A
