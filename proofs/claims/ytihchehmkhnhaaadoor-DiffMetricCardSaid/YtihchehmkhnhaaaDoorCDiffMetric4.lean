/- Made for this claim by a program of the session: the Go functions' plain twins and their contracts. Lean checks it. -/
import Derived.Test.YtihchehmkhnhaaaDoorCDiffMetric2
import Derived.Test.YtihchehmkhnhaaaDoorCDiffMetric3
namespace Go.Proofs.YtihchehmkhnhaaaDoor.A
open Go.RowKit Go.Proofs.YtihchehmkhnhaaaDoorW.PrintWords Go.Proofs.YtihchehmkhnhaaaDoorW.PrintLast Go.Proofs.YtihchehmkhnhaaaDoorW.PrintMore
attribute [local go_sem] max2_int min2_int max_two min_two max_three min_three max_four min_four   -- for this text's walks alone
set_option linter.unusedVariables false
set_option linter.unusedSimpArgs false

set_option maxHeartbeats 8000000 in
set_option maxRecDepth 100000 in
theorem diff_table.step (k : Nat) (ih_43 : ∀ m_, m_ < k → ∀ (a0_0 : Int) (a0_1 : ByteArray) (a0_2 : Int) (A0_3 : Option Addr) (c0_3 : Nat) (l0_3 : List (S24)) (a1_0 : Int) (a1_1 : ByteArray) (a1_2 : Int) (A1_3 : Option Addr) (c1_3 : Nat) (l1_3 : List (S24)) (r : Int) (w : World) (hr0_3 : Kd.C k24 w A0_3 l0_3.length l0_3) (hc0_3 : l0_3.length ≤ c0_3) (hr1_3 : Kd.C k24 w A1_3 l1_3.length l1_3) (hc1_3 : l1_3.length ≤ c1_3) (h : diff_pair.f m_ a0_0 a0_1 a0_2 l0_3 a1_0 a1_1 a1_2 l1_3 = some r),
  Calls Tryd.prog 43 #[.agg #[.int .i64 a0_0, .string a0_1, .int .i64 a0_2, .slice A0_3 l0_3.length c0_3], .agg #[.int .i64 a1_0, .string a1_1, .int .i64 a1_2, .slice A1_3 l1_3.length c1_3]] w fun e w' => e = .returned (.int .i64 r) ∧ Below w.heap.size w w') (ih_31 : ∀ m_, m_ < k → ∀ (A0 : Option Addr) (c0 : Nat) (l0 : List (S24)) (A1 : Option Addr) (c1 : Nat) (l1 : List (S24)) (A2 : Option Addr) (c2 : Nat) (l2 : List (List (S47))) (a3 : Int) (a4 : Int) (r1 : Int) (r2 : Bool) (w : World) (hr0 : Kd.C k24 w A0 l0.length l0) (hc0 : l0.length ≤ c0) (hr1 : Kd.C k24 w A1 l1.length l1) (hc1 : l1.length ≤ c1) (hr2 : Kd.C (Kd.slice 47 k47) w A2 l2.length l2) (hc2 : l2.length ≤ c2) (h : diff_best.f m_ l0 l1 l2 a3 a4 = some (r1, r2)),
  Calls Tryd.prog 31 #[.slice A0 l0.length c0, .slice A1 l1.length c1, .slice A2 l2.length c2, .int .i64 a3, .int .i64 a4] w fun e w' => e = .returned (.agg #[.int .i64 r1, .bool r2]) ∧ Below w.heap.size w w') (ih_21 : ∀ m_, m_ < k → ∀ (A0 : Option Addr) (c0 : Nat) (l0 : List (S24)) (A1 : Option Addr) (c1 : Nat) (l1 : List (S24)) (r : List (List (S47))) (w : World) (hr0 : Kd.C k24 w A0 l0.length l0) (hc0 : l0.length ≤ c0) (hr1 : Kd.C k24 w A1 l1.length l1) (hc1 : l1.length ≤ c1) (h : diff_table.f m_ l0 l1 = some r),
  Calls Tryd.prog 21 #[.slice A0 l0.length c0, .slice A1 l1.length c1] w fun e w' => ∃ v0_ : Value, e = .returned (v0_) ∧ Kd.S (Kd.slice 47 k47) 48 w' w.heap.size (fun _ => True) v0_ r ∧ Below w.heap.size w w') : ∀ (A0 : Option Addr) (c0 : Nat) (l0 : List (S24)) (A1 : Option Addr) (c1 : Nat) (l1 : List (S24)) (r : List (List (S47))) (w : World) (hr0 : Kd.C k24 w A0 l0.length l0) (hc0 : l0.length ≤ c0) (hr1 : Kd.C k24 w A1 l1.length l1) (hc1 : l1.length ≤ c1) (h : diff_table.f k l0 l1 = some r),
  Calls Tryd.prog 21 #[.slice A0 l0.length c0, .slice A1 l1.length c1] w fun e w' => ∃ v0_ : Value, e = .returned (v0_) ∧ Kd.S (Kd.slice 47 k47) 48 w' w.heap.size (fun _ => True) v0_ r ∧ Below w.heap.size w w' := by
 intro A0 c0 l0 A1 c1 l1 r w hr0 hc0 hr1 hc1 h
 cases k with
 | zero => exact absurd h (by simp [diff_table.f])
 | succ k =>
 simp only [diff_table.f] at h
 have hu47 := Tryd.underlying47
 have HR0 := Aside0.mk hr0
 have HC0 := Aside0.mk hc0
 clear hr0 hc0
 have HR1 := Aside0.mk hr1
 have HC1 := Aside0.mk hc1
 clear hr1 hc1
 have HB := Aside0.mk (Below.refl w.heap.size w)
 have H : (if 0 ≤ (wrap64 ((l0.length : Int) + 1)) then (if (wrap64 ((l0.length : Int) + 1) : Int).toNat ≤ 11728124029610 then (diff_table.l0 k l0 l1 (List.replicate (wrap64 ((l0.length : Int) + 1) : Int).toNat []) (l0.length : Int)) else (none)) else (none)) = some r := h
 clear h
 obtain ⟨ji3, hji3⟩ : ∃ j_ : Int, (wrap64 ((l0.length : Int) + 1)) = j_ := ⟨_, rfl⟩
 replace H : (if 0 ≤ (ji3) then (if (ji3 : Int).toNat ≤ 11728124029610 then (diff_table.l0 k l0 l1 (List.replicate (ji3 : Int).toNat []) (l0.length : Int)) else (none)) else (none)) = some r := by first | (rw [hji3] at H; exact H) | (simp only [hji3] at H ⊢; exact H)
 have hji3w : (IntKind.i64.wrap ((l0.length : Int) + 1)) = ji3 := (i64_w _).trans hji3
 by_cases c4 : 0 ≤ (ji3)
 case neg =>
  rw [if_neg c4] at H
  exact absurd H (by simp)


 rw [if_pos c4] at H
 have c4b0 := eq_true c4
 have c4b1 : decide (0 ≤ (ji3)) = true := decide_eq_true c4
 clear c4
 by_cases c5 : (ji3 : Int).toNat ≤ 11728124029610
 case neg =>
  rw [if_neg c5] at H
  exact absurd H (by simp)
 rw [if_pos c5] at H
 have c5b0 := eq_true c5
 have c5b1 : decide ((ji3 : Int).toNat ≤ 11728124029610) = true := decide_eq_true c5
 clear c5
 obtain ⟨y174, hy174⟩ : ∃ y_ : List (List (S47)), y_ = (List.replicate (ji3 : Int).toNat []) := ⟨_, rfl⟩
 replace H : (diff_table.l0 k l0 l1 y174 (l0.length : Int)) = some r := by first | (rw [hy174]; with_reducible exact H) | (have H2_ := (Option.bind_some _ _).symm.trans H; rw [hy174]; with_reducible exact H2_) | (have H2_ := (Option.bind_some _ _).symm.trans H; with_reducible exact H2_) | with_reducible exact H | (rw [hy174]; exact H) | exact H
 have Ny174 := Aside0.mk hy174
 clear hy174
 have H' := Aside0.mk H
 clear H
 go_enter Tryd.func21, Tryd.ntmps21
 go_wp2_with (first | ((with_reducible refine gate_dst (N := 11) rfl ?_); refine Kd.S_make (Kd.slice 47 k47) _ 48 rfl (N := 11) rfl 49 _ _ rfl ji3 rfl rfl Tryd.underlying49 (.slice none 0 0) 24 info48 rfl (by decide) (by omega) [] (ok := fun _ => True) (okp := fun _ => True) ⟨_, rfl, Kd.R_nil _ _ _ _ _⟩ (fun _ hk => hk) trivial (of_decide_eq_true (by first | (with_reducible assumption) | assumption)) (Nat.le_trans (Nat.mul_le_mul_right _ (of_decide_eq_true (by first | (with_reducible assumption) | assumption) : ji3.toNat ≤ 11728124029610)) (by omega)) (Below.refl _ _) (Nat.le_refl _) ?_; intro v175 w6 ho7 hb hg_ hnew_; clear hg_ hnew_; (first | rw [← Ny174.out] at ho7 | (simp only [Int.reduceToNat] at ho7; rw [← Ny174.out] at ho7)); have n0_ := Aside0.mk (Kd.S_lower ho7 (below_size (bs0_ HB.out))); have n1_ := Aside0.mk (below_step (bs0_ HB.out) hb); clear HB; have HO176 := n0_; have HB := n1_; clear n0_ n1_; clear hb ho7))
 go_loopg [6] k (fun kq v6 w' => ∃ (x5_1 : List (List (S47))) (x6_1 : Int), v6 = .int .i64 x6_1 ∧ Aside0 (diff_table.l0 kq l0 l1 x5_1 x6_1 = some r) ∧ Aside0 (kq ≤ k) ∧ Aside0 (Kd.S (Kd.slice 47 k47) 48 w' w.heap.size (fun _ => True) v175 x5_1) ∧ Aside0 (Below w.heap.size w w'))
 case atStart => exact ⟨(y174), ((l0.length : Int)), (by first | rfl | (simp; done) | (simp [*]; done)), H', ⟨Nat.le_refl _⟩, ⟨by (with_reducible repeat (first | apply Kd.S_alloc | apply Kd.S_drewN | apply Kd.S_drew)); exact HO176.out⟩, ⟨bs0_ HB.out⟩⟩
 case round =>
  clear H'; (try clear c1); (try clear c2); (try clear p2); (try clear c4); (try clear c4b0); (try clear c4b1); (try clear c5); (try clear c5b0); (try clear c5b1); (try clear p6)
  obtain ⟨x5_1, x6_1, rfl, HA, HK1, HO_5, HB⟩ := hrel
  cases gk with
  | zero => exact absurd HA.out (by simp [diff_table.l0])
  | succ k1 =>
   have H := HA.out
   clear HA
   simp only [diff_table.l0] at H
   by_cases c8 : x6_1 ≥ 0
   ·rw [if_pos c8] at H
    have c8b0 : decide (0 ≤ x6_1) = true := decide_eq_true c8
    clear c8
    obtain ⟨ji9, hji9⟩ : ∃ j_ : Int, (wrap64 ((l1.length : Int) + 1)) = j_ := ⟨_, rfl⟩
    replace H : (if 0 ≤ (ji9) then (if (ji9 : Int).toNat ≤ 17592186044416 then (if 0 ≤ x6_1 then (if x6_1 < (x5_1.length : Int) then (diff_table.l1 k1 l0 l1 (x5_1.set (x6_1 : Int).toNat (List.replicate (ji9 : Int).toNat z47)) x6_1 (l1.length : Int)) else (none)) else (none)) else (none)) else (none)) = some r := by first | (rw [hji9] at H; exact H) | (simp only [hji9] at H ⊢; exact H)
    have hji9w : (IntKind.i64.wrap ((l1.length : Int) + 1)) = ji9 := (i64_w _).trans hji9
    by_cases c10 : 0 ≤ (ji9)
    case neg =>
     rw [if_neg c10] at H
     exact absurd H (by simp)
    rw [if_pos c10] at H
    have c10b0 := eq_true c10
    have c10b1 : decide (0 ≤ (ji9)) = true := decide_eq_true c10
    clear c10
    by_cases c11 : (ji9 : Int).toNat ≤ 17592186044416
    case neg =>
     rw [if_neg c11] at H
     exact absurd H (by simp)
    rw [if_pos c11] at H
    have c11b0 := eq_true c11
    have c11b1 : decide ((ji9 : Int).toNat ≤ 17592186044416) = true := decide_eq_true c11
    clear c11
    obtain ⟨y177, hy177⟩ : ∃ y_ : List (S47), y_ = (List.replicate (ji9 : Int).toNat z47) := ⟨_, rfl⟩
    replace H : (if 0 ≤ x6_1 then (if x6_1 < (x5_1.length : Int) then (diff_table.l1 k1 l0 l1 (x5_1.set (x6_1 : Int).toNat y177) x6_1 (l1.length : Int)) else (none)) else (none)) = some r := by first | (rw [hy177]; with_reducible exact H) | (have H2_ := (Option.bind_some _ _).symm.trans H; rw [hy177]; with_reducible exact H2_) | (have H2_ := (Option.bind_some _ _).symm.trans H; with_reducible exact H2_) | with_reducible exact H | (rw [hy177]; exact H) | exact H
    have Ny177 := Aside0.mk hy177
    clear hy177
    by_cases c12 : 0 ≤ x6_1
    case neg =>
     rw [if_neg c12] at H
     exact absurd H (by simp)
    rw [if_pos c12] at H
    have c12b0 : decide (0 ≤ x6_1) = true := decide_eq_true c12
    clear c12
    by_cases c13 : x6_1 < (x5_1.length : Int)
    case neg =>
     rw [if_neg c13] at H
     exact absurd H (by simp)
    rw [if_pos c13] at H
    have c13b0 : decide (x6_1 < (x5_1.length : Int)) = true := decide_eq_true c13
    clear c13
    obtain ⟨y180, hy180⟩ : ∃ y_ : List (List (S47)), y_ = (x5_1.set (x6_1 : Int).toNat y177) := ⟨_, rfl⟩
    replace H : (diff_table.l1 k1 l0 l1 y180 x6_1 (l1.length : Int)) = some r := by first | (rw [hy180]; with_reducible exact H) | (have H2_ := (Option.bind_some _ _).symm.trans H; rw [hy180]; with_reducible exact H2_) | (have H2_ := (Option.bind_some _ _).symm.trans H; with_reducible exact H2_) | with_reducible exact H | (rw [hy180]; exact H) | exact H
    have Ny180 := Aside0.mk hy180
    clear hy180
    have H' := Aside0.mk H
    clear H
    go_wp2_with (first | ((with_reducible refine gate_dst (N := 23) rfl ?_); refine Kd.R_make k47 _ 47 rfl (N := 23) rfl 48 _ _ rfl ji9 rfl rfl Tryd.underlying48 (.agg #[(.int .i64 0), (.bool false)]) 16 info47 rfl (by decide) (by omega) z47 (ok := fun _ => True) (okp := fun _ => True) (k47_mkM _ _ _ z47 ) (fun _ hk => hk) trivial (of_decide_eq_true (by first | (with_reducible assumption) | assumption)) (Nat.le_trans (Nat.mul_le_mul_right _ (of_decide_eq_true (by first | (with_reducible assumption) | assumption) : ji9.toNat ≤ 17592186044416)) (by omega)) (Below.refl _ _) (Nat.le_refl _) ?_; intro v178 w15 ho16 hb hg_ hnew_; clear hg_ hnew_; (first | rw [← Ny177.out] at ho16 | (simp only [Int.reduceToNat] at ho16; rw [← Ny177.out] at ho16)); have n0_ := Aside0.mk (Kd.S_elder' (by (with_reducible repeat (first | apply Kd.S_alloc | apply Kd.S_drewN | apply Kd.S_drew)); exact HO_5.out) (Kd.R_base ho16) hb); have n1_ := Aside0.mk (Kd.R_lower ho16 (below_size (bs0_ HB.out))); have n2_ := Aside0.mk (below_step (bs0_ HB.out) hb); clear HO_5; clear HB; have HO_5 := n0_; have HO179 := n1_; have HB := n2_; clear n0_ n1_ n2_; clear hb ho16; have p14 : 0 ≤ (x6_1 : Int) := of_decide_eq_true (by first | (with_reducible assumption) | assumption); have q14 : (x6_1 : Int) < ((x5_1.length : Int) : Int) := of_decide_eq_true (by first | (with_reducible assumption) | assumption); obtain ⟨go14, co14, eo14, gb14, gl14, cl14, HG14⟩ := Kd.S_form HO_5.out (by omega); (first | cases eo14 | (injection eo14 with ea_ en_ ec_; (first | subst ea_ | (injection ea_ with ea_; subst ea_)); subst ec_; clear en_)); have GB14 := Aside0.mk gb14; have GG14 := Aside0.mk HG14; clear gb14 gl14 HG14; obtain ⟨_, ce14, hcl14, hM14, hcc14, hfr14, _, _⟩ := Kd.S_elem HO_5.out [] (x6_1 : Int) p14 q14; obtain ⟨ve14_0, rfl, ge14_0⟩ := hM14; have hx14_0 := hcc14 0 _ rfl; have hf14_0 := hfr14 0; (try simp only [show ((Kd.slice 47 k47)).sz = 1 from rfl, Nat.mul_one, Nat.add_zero] at hx14_0); (try simp only [show ((Kd.slice 47 k47)).sz = 1 from rfl, Nat.mul_one, Nat.add_zero] at hf14_0); (try clear hM14); clear hcl14 hcc14 hfr14; replace p14 := eq_true p14; replace q14 := eq_true q14; have n_ := Aside0.mk (Kd.S_mono (ok' := (fun k_ => some k_ ≠ (v178 : Value).ownBlock)) HO_5.out (fun k_ hk => hk.2)); clear HO_5; have HO_5 := n_; clear n_; have HX17 := Aside0.mk (show Kd.S (Kd.slice 47 k47) 48 w15 w.heap.size (fun k_ => ((fun _ => True)) k_ ∧ ¬ ((fun k_ => some k_ = (v178 : Value).ownBlock)) k_) (.slice (some ⟨go14, 0, none⟩) x5_1.length co14) x5_1 from (by (with_reducible repeat (first | apply Kd.S_alloc | apply Kd.S_drewN | apply Kd.S_drew)); exact Kd.S_mono HO_5.out (fun k_ hk => ⟨trivial, fun e_ => hk e_⟩))); obtain ⟨oki17, ce17, hcl17, hM17, hcc17, hfr17, hoki17, hH17⟩ := Kd.S_elem HX17.out [] (x6_1 : Int) (of_decide_eq_true (by first | (with_reducible assumption) | assumption)) (by have h_ : (x6_1 : Int) < ((x5_1.length : Int) : Int) := of_decide_eq_true (by first | (with_reducible assumption) | assumption); first | exact h_ | (have e_ := (Kd.S_reads' HO_5.out).1; omega) | simpa using h_); obtain ⟨ve17_0, rfl, ge17_0⟩ := hM17; have HP17 := Kd.S_seg hH17 (of_decide_eq_true (by first | (with_reducible assumption) | assumption)) (by have h_ : (x6_1 : Int) < ((x5_1.length : Int) : Int) := of_decide_eq_true (by first | (with_reducible assumption) | assumption); first | exact h_ | (have e_ := (Kd.S_reads' HO_5.out).1; omega) | simpa using h_) (seg := [v178]) (j := 0) (show 1 ≤ 1 from by decide) (x' := y177) (Kd.M_row (Kd.R_mono (Kd.R_tight rfl (Kd.R_mono (ok' := fun k_ => ((fun _ => True)) k_ ∧ k_ ≠ go14) (Kd.R_apart' (HO179.out) (Kd.S_typed HO_5.out) (by decide)) (fun k_ hk => ⟨trivial, fun e_ => (hk.2) (by rw [e_]; rfl)⟩))) (fun _ h_ => Or.inr (h_)))) (fun _ hk => hk) (fun k_ hk_ => ((Kd.R_mono (ok' := fun k_ => ((fun _ => True)) k_ ∧ k_ ≠ go14) (Kd.R_apart' (HO179.out) (Kd.S_typed HO_5.out) (by decide)) (fun k_ hk => ⟨trivial, fun e_ => (hk.2) (by rw [e_]; rfl)⟩))).1 k_ hk_.symm); have hx17_0 := hcc17 0 _ rfl; (try simp only [show ((Kd.slice 47 k47)).sz = 1 from rfl, Nat.mul_one, Nat.add_zero] at hx17_0); have hf17_0 := hfr17 0; (try simp only [show ((Kd.slice 47 k47)).sz = 1 from rfl, Nat.mul_one, Nat.add_zero] at hf17_0); (try clear hM17); clear hcl17 hcc17 hfr17 hoki17 hH17; (try simp only [show ((Kd.slice 47 k47)).sz = 1 from rfl, Nat.mul_one, Nat.add_zero] at HP17)) | ((with_reducible refine gate_store (t := 48) (p := 24) rfl ?_); refine store_event (t := 48) (p := 24) (v := ?vo_w18) (w1 := (w15.setCell ⟨go14, (x6_1 : Int).toNat, none⟩ (v178))) ?hg ?ho ?hn ?hr ?_; (case ho => rfl); (case hg => rfl); (case hn => rfl); (case hr => first | (go_simp; done) | (go_simp; rfl) | (obtain ⟨A_, c_, e_⟩ := Kd.R_slice HO179.out; simp only [e_]; first | (go_simp; done) | (go_simp; rfl))); intro w18 hw; have hg : w15.grownBy w18 (some go14) := (by rw [hw]; exact HP17.2); have hp_ : Kd.S (Kd.slice 47 k47) 48 w18 w.heap.size (fun _ => True) (.slice (some ⟨go14, 0, none⟩) x5_1.length co14) y180 := (by rw [hw, Ny180.out]; exact HP17.1); clear HP17; have n0_ := Aside0.mk (hp_); have n1_ := Aside0.mk ((by rw [hw]; exact below_set (HB.out) GB14.out : Below w.heap.size w w18)); clear HO_5; clear HB; clear HO179; have HO_5 := n0_; have HB := n1_; clear n0_ n1_; clear hg hw hp_))
    go_loopg [7] k1 (fun kq v7 w' => ∃ (x5_2 : List (List (S47))) (x7_2 : Int), v7 = .int .i64 x7_2 ∧ Aside0 (diff_table.l1 kq l0 l1 x5_2 x6_1 x7_2 = some r) ∧ Aside0 (kq ≤ k1) ∧ Aside0 (Kd.S (Kd.slice 47 k47) 48 w' w.heap.size (fun _ => True) (.slice (some ⟨go14, 0, none⟩) x5_1.length co14) x5_2) ∧ Aside0 (Below w.heap.size w w'))
    case atStart => exact ⟨(y180), ((l1.length : Int)), (by first | rfl | (simp; done) | (simp [*]; done)), H', ⟨Nat.le_refl _⟩, ⟨by (with_reducible repeat (first | apply Kd.S_alloc | apply Kd.S_drewN | apply Kd.S_drew)); exact HO_5.out⟩, ⟨bs0_ HB.out⟩⟩
    case round =>
     clear H'; (try clear c1); (try clear p1); (try clear q1); (try clear hx1); (try clear c2); (try clear p2); (try clear c4); (try clear c4b0); (try clear c4b1); (try clear c5); (try clear c5b0); (try clear c5b1); (try clear p6); (try clear c8); (try clear c8b0); (try clear c10); (try clear c10b0); (try clear c10b1); (try clear c11); (try clear c11b0); (try clear c11b1); (try clear c12); (try clear c12b0); (try clear c13); (try clear c13b0); (try clear c14); (try clear p14); (try clear q14); (try clear hx14); (try clear hf14); (try clear c17); (try clear hx17); (try clear hf17); (try clear hx14_0); (try clear hx17_0); (try clear p14); (try clear p2); (try clear p6); (try clear q14)
     obtain ⟨x5_2, x7_2, rfl, HA, HK2, HO_5, HB⟩ := hrel
     have hl5_2 := (Kd.S_reads' HO_5.out).1
     rw [hl5_2] at HO_5
     (try simp only [hl5_2])
     cases gk with
     | zero => exact absurd HA.out (by simp [diff_table.l1])
     | succ k2 =>
      have H := HA.out
      clear HA
      simp only [diff_table.l1] at H
      by_cases c19 : x7_2 ≥ 0
      ·rw [if_pos c19] at H
       have c19b0 : decide (0 ≤ x7_2) = true := decide_eq_true c19
       (try simp only [hl5_2] at c19b0)
       clear c19
       by_cases c20 : 0 ≤ x6_1
       case neg =>
        rw [if_neg c20] at H
        exact absurd H (by simp)
       rw [if_pos c20] at H
       have c20b0 : decide (0 ≤ x6_1) = true := decide_eq_true c20
       (try simp only [hl5_2] at c20b0)
       clear c20
       by_cases c21 : x6_1 < (x5_2.length : Int)
       case neg =>
        rw [if_neg c21] at H
        exact absurd H (by simp)
       rw [if_pos c21] at H
       have c21b0 : decide (x6_1 < (x5_2.length : Int)) = true := decide_eq_true c21
       (try simp only [hl5_2] at c21b0)
       clear c21
       replace H := Option.bind_eq_some_iff.mp H
       obtain ⟨⟨t182, t183⟩, A220, H⟩ := H
       replace H : (if 0 ≤ x7_2 then (if x7_2 < ((rd_L5 x5_2 x6_1).length : Int) then (diff_table.l1 k2 l0 l1 (x5_2.set (x6_1 : Int).toNat ((rd_L5 x5_2 x6_1).set (x7_2 : Int).toNat (⟨t182, t183⟩ : S47))) x6_1 (wrap64 (x7_2 - 1))) else (none)) else (none)) = some r := H
       have A22 := Aside0.mk A220
       clear A220
       by_cases c23 : 0 ≤ x7_2
       case neg =>
        rw [if_neg c23] at H
        exact absurd H (by simp)
       rw [if_pos c23] at H
       have c23b0 : decide (0 ≤ x7_2) = true := decide_eq_true c23
       (try simp only [hl5_2] at c23b0)
       clear c23
       by_cases c24 : x7_2 < ((rd_L5 x5_2 x6_1).length : Int)
       case neg =>
        rw [if_neg c24] at H
        exact absurd H (by simp)
       rw [if_pos c24] at H
       have c24b0 : decide (x7_2 < ((rd_L5 x5_2 x6_1).length : Int)) = true := decide_eq_true c24
       (try simp only [hl5_2] at c24b0)
       clear c24
       obtain ⟨y184, hy184⟩ : ∃ y_ : List (S47), y_ = ((rd_L5 x5_2 x6_1).set (x7_2 : Int).toNat (⟨t182, t183⟩ : S47)) := ⟨_, rfl⟩
       replace H : (diff_table.l1 k2 l0 l1 (x5_2.set (x6_1 : Int).toNat y184) x6_1 (wrap64 (x7_2 - 1))) = some r := by first | (rw [hy184]; with_reducible exact H) | (have H2_ := (Option.bind_some _ _).symm.trans H; rw [hy184]; with_reducible exact H2_) | (have H2_ := (Option.bind_some _ _).symm.trans H; with_reducible exact H2_) | with_reducible exact H | (rw [hy184]; exact H) | exact H
       have Ny184 := Aside0.mk hy184
       clear hy184
       obtain ⟨y186, hy186⟩ : ∃ y_ : List (List (S47)), y_ = (x5_2.set (x6_1 : Int).toNat y184) := ⟨_, rfl⟩
       replace H : (diff_table.l1 k2 l0 l1 y186 x6_1 (wrap64 (x7_2 - 1))) = some r := by first | (rw [hy186]; with_reducible exact H) | (have H2_ := (Option.bind_some _ _).symm.trans H; rw [hy186]; with_reducible exact H2_) | (have H2_ := (Option.bind_some _ _).symm.trans H; with_reducible exact H2_) | with_reducible exact H | (rw [hy186]; exact H) | exact H
       have Ny186 := Aside0.mk hy186
       clear hy186
       have H' := Aside0.mk H
       clear H
       try go_wp2
       have n0_ := Aside0.mk (Kd.S_drew HO_5.out)
       have n1_ := Aside0.mk (below_drew1 HB.out)
       clear HO_5; clear HB
       have HO_5 := n0_
       have HB := n1_
       clear n0_ n1_
       have p181 : 0 ≤ (x6_1 : Int) := of_decide_eq_true (by first | (with_reducible assumption) | assumption)
       have q181 : x6_1 < (x5_2.length : Int) := of_decide_eq_true (by first | (with_reducible assumption) | assumption)
       obtain ⟨ad181, A181_0, c181_0, e181, hx181_0, hl181_0, hi181_0⟩ := at_L5 (Kd.S_reads' HO_5.out).2.2 x6_1 p181 q181
       obtain rfl : (⟨go14, 0, none⟩ : Addr) = ad181 := (by injection e181)
       obtain ⟨ce181, hce181, hMe181, hcc181⟩ := Kd.S_get HO_5.out [] x6_1 p181 (by first | exact q181 | exact of_decide_eq_true (by first | (with_reducible assumption) | assumption) | (have e_ := (Kd.S_reads' HO_5.out).1; omega))
       obtain ⟨ve181_0, rfl, ge181_0⟩ := hMe181
       have hv181_0 := hcc181 0 _ rfl
       rw [Nat.add_zero, show ((Kd.slice 47 k47)).sz = 1 from rfl, Nat.mul_one] at hv181_0
       replace hv181_0 := Option.some.inj (hv181_0.symm.trans hx181_0)
       rw [hv181_0] at ge181_0
       have HL181_0 := Aside0.mk (show Kd.R k47 47 _ _ _ _ (rd_L5 x5_2 x6_1) from ge181_0)
       clear hv181_0 ge181_0
       have HX181_0 := Aside0.mk hx181_0
       clear hcc181 hce181
       (first | simp only [add_plain] at hx181_0 | simp only [add_at] at hx181_0 | simp only [Addr.add, Nat.zero_add] at hx181_0 | skip)
       have HR181_0 := Aside0.mk hi181_0
       have HC181_0 := Aside0.mk hl181_0
       clear hi181_0 hl181_0
       replace p181 := eq_true p181
       replace q181 := eq_true q181
       refine start_ (n := 13) (S := fun w' => w'.cell? ⟨go14, (x6_1).toNat, none⟩ = some (.slice A181_0 (rd_L5 x5_2 x6_1).length c181_0)) (ds := [12]) #[false, false, false, false, false, false, false, false, false, false, false, false, false] (by kernel_rfl) rfl rfl (hx181_0) (fun hHeld => ?_); refine with_tabW diff_table.tab9 diff_table.bits9 (fun HT_ HW_ => ?_)
       generalize wr.drew = w26 at HO_5 HB HL181_0 HR181_0 HX181_0 hx181_0 hHeld ⊢
       refine pure_ (i := 0) (N := some 31) (v := ?_) (a' := ?_) (mk_ 13 1) rfl rfl (an_ HT_.out) (fun _ _ _ h => h) (Or.inl ⟨by rfl, ?_⟩) ?_ ?_
       rotate_left; (intro w'; go_simp; with_reducible rfl); rotate_left; (simp only [Act.put, sp1_, sp2_]; rfl)
       refine pure_ (i := 1) (N := some 32) (v := ?_) (a' := ?_) (mk_ 13 3) rfl rfl (an_ HT_.out) (fun _ _ _ h => h) (Or.inl ⟨by rfl, ?_⟩) ?_ ?_
       rotate_left; (intro w'; go_simp; with_reducible rfl); rotate_left; (simp only [Act.put, sp1_, sp2_]; rfl)
       refine pure_ (i := 2) (N := some 33) (v := ?_) (a' := ?_) (mk_ 13 7) rfl rfl (an_ HT_.out) (fun _ _ _ h => h) (Or.inl ⟨by rfl, ?_⟩) ?_ ?_
       rotate_left; (intro w'; go_simp; with_reducible rfl); rotate_left; (simp only [Act.put, sp1_, sp2_]; rfl)
       refine pure_ (i := 4) (N := some 35) (v := ?_) (a' := ?_) (mk_ 13 23) rfl rfl (an_ HT_.out) (fun _ _ _ h => h) (Or.inl ⟨by rfl, ?_⟩) ?_ ?_
       rotate_left; (intro w'; go_simp; with_reducible rfl); rotate_left; (simp only [Act.put, sp1_, sp2_]; rfl)
       refine pure_ (i := 5) (N := some 36) (v := ?_) (a' := ?_) (mk_ 13 55) rfl rfl (an_ HT_.out) (fun _ _ _ h => h) (Or.inl ⟨by rfl, ?_⟩) ?_ ?_
       rotate_left; (intro w'; go_simp; with_reducible rfl); rotate_left; (simp only [Act.put, sp1_, sp2_]; rfl)
       refine pure_ (i := 6) (N := some 37) (v := ?_) (a' := ?_) (mk_ 13 119) rfl rfl (an_ HT_.out) (fun _ _ _ h => h) (Or.inl ⟨by rfl, ?_⟩) ?_ ?_
       rotate_left; (intro w'; go_simp; with_reducible rfl); rotate_left; (simp only [Act.put, sp1_, sp2_]; rfl)
       refine pure_ (i := 7) (N := some 38) (v := ?_) (a' := ?_) (mk_ 13 247) rfl rfl (an_ HT_.out) (fun _ _ _ h => h) (Or.inl ⟨by rfl, ?_⟩) ?_ ?_
       rotate_left; (intro w'; go_simp; with_reducible rfl); rotate_left; (simp only [Act.put, sp1_, sp2_]; rfl)
       refine pure_ (i := 8) (N := some 39) (v := ?_) (a' := ?_) (mk_ 13 503) rfl rfl (an_ HT_.out) (fun _ _ _ h => h) (Or.inl ⟨by rfl, ?_⟩) ?_ ?_
       rotate_left; (intro w'; go_simp; with_reducible rfl); rotate_left; (simp only [Act.put, sp1_, sp2_]; rfl)
       refine pure_ (i := 9) (N := some 40) (v := ?_) (a' := ?_) (mk_ 13 1015) rfl rfl (an_ HT_.out) (fun _ _ _ h => h) (Or.inl ⟨by rfl, ?_⟩) ?_ ?_
       rotate_left; (intro w'; go_simp; with_reducible rfl); rotate_left; (simp only [Act.put, sp1_, sp2_]; rfl)
       refine take_ (i := 3) (N := some 34) (v := ?_) (a' := ?_) (mk_ 13 1023) rfl rfl (take_ofW HT_.out HW_.out (by kernel_rfl)) (fun _ _ _ h => h) (Or.inl ⟨by rfl, ?_⟩) hHeld ?_ ?_
       rotate_left
       ·intro w' s0
        go_simp
        with_reducible rfl
       rotate_left; (simp only [Act.put, sp1_, sp2_]; rfl)
       refine one_ (i := 10) (N := some 41) (mk_ 13 2047) rfl rfl (one_of HT_.out (by kernel_rfl)) (by decide) (fun K hK => ?_)
       refine goes_ Tryd.func31 (by kernel_rfl) rfl #[.slice A0 l0.length c0, .slice A1 l1.length c1, .slice (some ⟨go14, 0, none⟩) x5_2.length co14, .int .i64 x6_1, .int .i64 x7_2] (by rfl) rfl rfl (by (try simp only [List.map_toArray, List.map_cons, List.map_nil]); first | done | rfl | (simp only [List.length_drop, List.length_take]; rfl)) ?_
       with_reducible refine (ih_31 k2 (by have := HK1.out; have := HK2.out; omega) _ _ l0 _ _ l1 _ _ x5_2 x6_1 x7_2 t182 t183 _ ?side1 ?side2 ?side3 ?side4 ?side5 ?side6 A22.out).mono ?_
       (case side1 => exact kc_ HR0.out HB.out)
       (case side2 => exact HC0.out)
       (case side3 => exact kc_ HR1.out HB.out)
       (case side4 => exact HC1.out)
       (case side5 => repeat (first | exact (Kd.S_reads' HO_5.out).2.2 | (with_reducible refine Kd.C_alloc ?_ _) | (with_reducible refine Kd.C_drewN ?_ _) | (with_reducible refine Kd.C_drew ?_)))
       (case side6 => exact (Kd.S_reads' HO_5.out).2.1)
       rintro e w27 ⟨rfl, hb⟩
       have HS0_ := (hb.cell (World.block_lt_of_cell? _ _ (hHeld))).trans (hHeld)
       refine ⟨_, rfl, ?_⟩
       have n0_ := Aside0.mk (Kd.S_below (by (with_reducible repeat (first | apply Kd.S_alloc | apply Kd.S_drewN | apply Kd.S_drew)); exact HO_5.out) hb)
       have n1_ := Aside0.mk (Kd.R_below (by (with_reducible repeat (first | apply Kd.R_alloc | apply Kd.R_drewN | apply Kd.R_drew)); exact HL181_0.out) hb)
       have n2_ := Aside0.mk (Kd.C_below (by repeat (first | (with_reducible exact HR181_0.out) | (with_reducible refine Kd.C_alloc ?_ _) | (with_reducible refine Kd.C_drewN ?_ _) | (with_reducible refine Kd.C_drew ?_) | exact HR181_0.out)) hb)
       have n3_ := Aside0.mk (pw_cell_below hb HX181_0.out)
       have n4_ := Aside0.mk (below_step (bs0_ HB.out) hb)
       clear HO_5; clear HL181_0; clear HR181_0; clear HX181_0; clear HB
       have HO_5 := n0_
       have HL181_0 := n1_
       have HR181_0 := n2_
       have HX181_0 := n3_
       have HB := n4_
       clear n0_ n1_ n2_ n3_ n4_
       (try clear hb)
       (try clear hb2)
       (try clear hk)
       (try clear hi)
       have p25 : 0 ≤ (x7_2 : Int) := of_decide_eq_true (by first | (with_reducible assumption) | assumption)
       have q25 : (x7_2 : Int) < (((rd_L5 x5_2 x6_1).length : Int) : Int) := of_decide_eq_true (by first | (with_reducible assumption) | assumption)
       obtain ⟨go25, co25, eo25, gb25, gl25, cl25, HG25⟩ := Kd.R_form HL181_0.out (by omega)
       (first | cases eo25 | (injection eo25 with ea_ en_ ec_; (first | subst ea_ | (injection ea_ with ea_; subst ea_)); subst ec_; clear en_))
       have GB25 := Aside0.mk gb25
       have GG25 := Aside0.mk HG25
       clear gb25 gl25 HG25
       obtain ⟨ce25, hcl25, hM25, hcc25, hfr25⟩ := Kd.R_elem HL181_0.out z47 (x7_2 : Int) p25 q25
       obtain rfl := k47_openM hM25
       have hx25_0 : World.cell? _ ⟨go25, (x7_2 : Int).toNat * 2, none⟩ = some (.int .i64 ((rd_T47 (rd_L5 x5_2 x6_1) x7_2).f0)) := hcc25 0 _ rfl
       have hx25_1 : World.cell? _ ⟨go25, (x7_2 : Int).toNat * 2 + 1, none⟩ = some (.bool ((rd_T47 (rd_L5 x5_2 x6_1) x7_2).f1)) := hcc25 1 _ rfl
       have hf25_0 : World.frozen? _ ⟨go25, (x7_2 : Int).toNat * 2, none⟩ = false := hfr25 0
       have hf25_1 : World.frozen? _ ⟨go25, (x7_2 : Int).toNat * 2 + 1, none⟩ = false := hfr25 1
       (try clear hM25); clear hcl25 hcc25 hfr25
       replace p25 := eq_true p25
       replace q25 := eq_true q25
       have hq28 : (x6_1 : Int) < (x5_2.length : Int) := (by have h_ : (x6_1 : Int) < ((x5_2.length : Int) : Int) := of_decide_eq_true (by first | (with_reducible assumption) | assumption); first | exact h_ | (have e_ := (Kd.S_reads' HO_5.out).1; omega) | simpa only [List.length_set, List.length_set] using h_)
       obtain ⟨oki28, ce28, hcl28, hM28, hcc28, hok28, hbk28⟩ := Kd.S_borrow HO_5.out [] (x6_1 : Int) (of_decide_eq_true (by first | (with_reducible assumption) | assumption)) hq28
       obtain ⟨ve28_0, rfl, ge28_0⟩ := hM28
       have hv28 := hcc28 0 _ rfl
       rw [Nat.add_zero, show ((Kd.slice 47 k47)).sz = 1 from rfl, Nat.mul_one] at hv28
       replace hv28 := Option.some.inj (hv28.symm.trans HX181_0.out)
       subst hv28
       clear hcc28 hcl28
       replace ge28_0 := (show Kd.R k47 47 _ _ _ _ (rd_L5 x5_2 x6_1) from ge28_0)
       obtain ⟨cf28, hcl28, hN28, hcc28, hfr28⟩ := Kd.R_elem ge28_0 z47 (x7_2 : Int) (of_decide_eq_true (by first | (with_reducible assumption) | assumption)) (by have h_ : (x7_2 : Int) < (((rd_L5 x5_2 x6_1).length : Int) : Int) := of_decide_eq_true (by first | (with_reducible assumption) | assumption); first | exact h_ | (have e_ := (Kd.R_reads' HR181_0.out).1; omega) | simpa using h_)
       obtain rfl := k47_openM hN28
       have HP28 := Kd.R_seg ge28_0 (x7_2 : Int) (of_decide_eq_true (by first | (with_reducible assumption) | assumption)) (by have h_ : (x7_2 : Int) < (((rd_L5 x5_2 x6_1).length : Int) : Int) := of_decide_eq_true (by first | (with_reducible assumption) | assumption); first | exact h_ | (have e_ := (Kd.R_reads' HR181_0.out).1; omega) | simpa using h_) (seg := [.int .i64 t182, .bool t183]) (j := 0) hcl28 hcc28 (show 2 ≤ 2 from by decide) (x' := (⟨t182, t183⟩ : S47)) (k47_mkM _ _ _ (⟨t182, t183⟩ : S47)) (fun _ hk => hk)
       clear hcl28 hcc28 hfr28 hN28
       rw [← Ny184.out] at HP28
       have HS28 := hbk28 HP28.2 (fun k_ e_ => by injection e_ with e_; subst e_; exact ge28_0.1 _ rfl) (x' := y184) (Kd.M_row HP28.1)
       rw [← Ny186.out] at HS28
       have HQ28 := Aside0.mk HS28
       clear HP28 HS28 hbk28 hok28
       refine hK.out _ _ (HS0_) (fun hHeld => ?_)
       clear hK K
       refine norm_ (a' := ?_) ?_ ?_
       rotate_left
       ·show Act.put _ (some 41) _ = _
        simp only [Act.put, sp1_, sp2_]
        rfl
       refine pure_ (i := 11) (N := some 42) (v := ?_) (a' := ?_) (mk_ 13 4095) rfl rfl (an_ HT_.out) (fun _ _ _ h => h) (Or.inl ⟨by rfl, ?_⟩) ?_ ?_
       rotate_left; (intro w'; go_simp; with_reducible rfl); rotate_left; (simp only [Act.put, sp1_, sp2_]; rfl)
       refine last_ (i := 12) (N := none) #[true, true, true, true, true, true, true, true, true, true, true, true, true] rfl rfl (one_of HT_.out (by kernel_rfl)) (by decide) (fun K hK => ?_)
       refine skip_ (w1 := ?_) (by rfl) rfl ?_ ?_
       rotate_left
       ·go_simp
        rfl
       refine hK.out _ _ ?_
       clear hK K
       refine done_ (done_of HT_.out (by kernel_rfl)) ?_
       try go_wp2
       (try simp only [← hl5_2])
       go_roundg k2
       case measure => have := HK1.out; have := HK2.out; omega
       case rel => exact ⟨(y186), (wrap64 (x7_2 - 1)), (by first | rfl | (simp; done) | (simp [*]; done)), H', ⟨by have := HK1.out; have := HK2.out; omega⟩, ⟨by (try simp only [hl5_2]); (with_reducible repeat (first | apply Kd.S_alloc | apply Kd.S_drewN | apply Kd.S_drew)); exact HQ28.out⟩, ⟨bs2_ HB.out GB25.out GB25.out⟩⟩
      ·rw [if_neg c19] at H
       have c19b0 : decide (0 ≤ x7_2) = false := decide_eq_false c19
       (try simp only [hl5_2] at c19b0)
       clear c19
       have H' := Aside0.mk H
       clear H
       go_wp2
       (try simp only [← hl5_2])
       go_roundg k2
       case measure => have := HK1.out; have := HK2.out; omega
       case rel => exact ⟨(x5_2), (wrap64 (x6_1 - 1)), (by first | rfl | (simp; done) | (simp [*]; done)), H', ⟨by have := HK1.out; have := HK2.out; omega⟩, ⟨by (try simp only [hl5_2]); (with_reducible repeat (first | apply Kd.S_alloc | apply Kd.S_drewN | apply Kd.S_drew)); exact HO_5.out⟩, ⟨bs0_ HB.out⟩⟩
   ·rw [if_neg c8] at H
    have c8b0 : decide (0 ≤ x6_1) = false := decide_eq_false c8
    clear c8
    obtain rfl := Option.some.inj H
    go_wp2
    go_ret
    exact ⟨_, by first | rfl | (simp [errW_none, errW_some] <;> rfl) | (simp only [← hji3]; first | rfl | (simp [errW_none, errW_some] <;> rfl)) | (simp [*, errW_none, errW_some] <;> rfl), by (with_reducible repeat (first | apply Kd.S_alloc | apply Kd.S_drewN | apply Kd.S_drew)); exact HO_5.out, bs0_ HB.out⟩
theorem diff_table.all_ (k : Nat) : (∀ (a0_0 : Int) (a0_1 : ByteArray) (a0_2 : Int) (A0_3 : Option Addr) (c0_3 : Nat) (l0_3 : List (S24)) (a1_0 : Int) (a1_1 : ByteArray) (a1_2 : Int) (A1_3 : Option Addr) (c1_3 : Nat) (l1_3 : List (S24)) (r : Int) (w : World) (hr0_3 : Kd.C k24 w A0_3 l0_3.length l0_3) (hc0_3 : l0_3.length ≤ c0_3) (hr1_3 : Kd.C k24 w A1_3 l1_3.length l1_3) (hc1_3 : l1_3.length ≤ c1_3) (h : diff_pair.f k a0_0 a0_1 a0_2 l0_3 a1_0 a1_1 a1_2 l1_3 = some r),
  Calls Tryd.prog 43 #[.agg #[.int .i64 a0_0, .string a0_1, .int .i64 a0_2, .slice A0_3 l0_3.length c0_3], .agg #[.int .i64 a1_0, .string a1_1, .int .i64 a1_2, .slice A1_3 l1_3.length c1_3]] w fun e w' => e = .returned (.int .i64 r) ∧ Below w.heap.size w w') ∧ (∀ (A0 : Option Addr) (c0 : Nat) (l0 : List (S24)) (A1 : Option Addr) (c1 : Nat) (l1 : List (S24)) (A2 : Option Addr) (c2 : Nat) (l2 : List (List (S47))) (a3 : Int) (a4 : Int) (r1 : Int) (r2 : Bool) (w : World) (hr0 : Kd.C k24 w A0 l0.length l0) (hc0 : l0.length ≤ c0) (hr1 : Kd.C k24 w A1 l1.length l1) (hc1 : l1.length ≤ c1) (hr2 : Kd.C (Kd.slice 47 k47) w A2 l2.length l2) (hc2 : l2.length ≤ c2) (h : diff_best.f k l0 l1 l2 a3 a4 = some (r1, r2)),
  Calls Tryd.prog 31 #[.slice A0 l0.length c0, .slice A1 l1.length c1, .slice A2 l2.length c2, .int .i64 a3, .int .i64 a4] w fun e w' => e = .returned (.agg #[.int .i64 r1, .bool r2]) ∧ Below w.heap.size w w') ∧ (∀ (A0 : Option Addr) (c0 : Nat) (l0 : List (S24)) (A1 : Option Addr) (c1 : Nat) (l1 : List (S24)) (r : List (List (S47))) (w : World) (hr0 : Kd.C k24 w A0 l0.length l0) (hc0 : l0.length ≤ c0) (hr1 : Kd.C k24 w A1 l1.length l1) (hc1 : l1.length ≤ c1) (h : diff_table.f k l0 l1 = some r),
  Calls Tryd.prog 21 #[.slice A0 l0.length c0, .slice A1 l1.length c1] w fun e w' => ∃ v0_ : Value, e = .returned (v0_) ∧ Kd.S (Kd.slice 47 k47) 48 w' w.heap.size (fun _ => True) v0_ r ∧ Below w.heap.size w w') := by
 induction k using Nat.strongRecOn with
 | _ k ih =>
 exact ⟨diff_pair.step k (fun m_ h_ => (ih m_ h_).1) (fun m_ h_ => (ih m_ h_).2.1) (fun m_ h_ => (ih m_ h_).2.2), diff_best.step k (fun m_ h_ => (ih m_ h_).1) (fun m_ h_ => (ih m_ h_).2.1) (fun m_ h_ => (ih m_ h_).2.2), diff_table.step k (fun m_ h_ => (ih m_ h_).1) (fun m_ h_ => (ih m_ h_).2.1) (fun m_ h_ => (ih m_ h_).2.2)⟩
theorem diff_table.calls (k : Nat) : ∀ (A0 : Option Addr) (c0 : Nat) (l0 : List (S24)) (A1 : Option Addr) (c1 : Nat) (l1 : List (S24)) (r : List (List (S47))) (w : World) (hr0 : Kd.C k24 w A0 l0.length l0) (hc0 : l0.length ≤ c0) (hr1 : Kd.C k24 w A1 l1.length l1) (hc1 : l1.length ≤ c1) (h : diff_table.f k l0 l1 = some r),
  Calls Tryd.prog 21 #[.slice A0 l0.length c0, .slice A1 l1.length c1] w fun e w' => ∃ v0_ : Value, e = .returned (v0_) ∧ Kd.S (Kd.slice 47 k47) 48 w' w.heap.size (fun _ => True) v0_ r ∧ Below w.heap.size w w' := (diff_table.all_ k).2.2

def diff_Cost.f (k : Nat) (a0_0 : Int) (a0_1 : ByteArray) (a0_2 : Int) (l0_3 : List (S24)) (a1_0 : Int) (a1_1 : ByteArray) (a1_2 : Int) (l1_3 : List (S24)) : Option (Int × Int) := (diff_valid.f k a0_0 a0_1 a0_2 l0_3 a1_0 a1_1 a1_2 l1_3).bind fun t189 => (if t189 = true then ((diff_table.f k l0_3 l1_3).bind fun t190 => (if 0 < (t190.length : Int) then (if 0 < ((rd_L5 t190 0).length : Int) then (some ((rd_T47 (rd_L5 t190 0) 0).f0, 0)) else (none)) else (none))) else (some (0, 1)))
theorem diff_Cost.mono : ∀ a0 a1 a2 a3 a4 a5 a6 a7 k, LeO (diff_Cost.f k a0 a1 a2 a3 a4 a5 a6 a7) (diff_Cost.f (k + 1) a0 a1 a2 a3 a4 a5 a6 a7) := by
 intro a0 a1 a2 a3 a4 a5 a6 a7 k
 unfold diff_Cost.f
 repeat' first
   | (with_reducible exact diff_table.mono _ _ _)
   | (with_reducible exact diff_valid.mono _ _ _ _ _ _ _ _ _)
   | (with_reducible exact LeO.refl _)
   | (with_reducible exact LeO.none _)
   | (with_reducible refine LeO.ite ?_ ?_)
   | (with_reducible refine LeO.bind ?_ (fun _ => ?_))
   | exact diff_table.mono _ _ _
   | exact diff_valid.mono _ _ _ _ _ _ _ _ _
   | exact LeO.none _
   | refine LeO.ite ?_ ?_
   | refine LeO.bind ?_ (fun _ => ?_)
set_option maxHeartbeats 8000000 in
set_option maxRecDepth 100000 in
theorem diff_Cost.calls (k : Nat) (a0_0 : Int) (a0_1 : ByteArray) (a0_2 : Int) (A0_3 : Option Addr) (c0_3 : Nat) (l0_3 : List (S24)) (a1_0 : Int) (a1_1 : ByteArray) (a1_2 : Int) (A1_3 : Option Addr) (c1_3 : Nat) (l1_3 : List (S24)) (r1 : Int) (r2 : Int) (w : World) (hr0_3 : Kd.C k24 w A0_3 l0_3.length l0_3) (hc0_3 : l0_3.length ≤ c0_3) (hr1_3 : Kd.C k24 w A1_3 l1_3.length l1_3) (hc1_3 : l1_3.length ≤ c1_3) (h : diff_Cost.f k a0_0 a0_1 a0_2 l0_3 a1_0 a1_1 a1_2 l1_3 = some (r1, r2)) :
  Calls Tryd.prog 9 #[.agg #[.int .i64 a0_0, .string a0_1, .int .i64 a0_2, .slice A0_3 l0_3.length c0_3], .agg #[.int .i64 a1_0, .string a1_1, .int .i64 a1_2, .slice A1_3 l1_3.length c1_3]] w fun e w' => e = .returned (.tuple #[.int .i64 r1, .int .i64 r2]) ∧ Below w.heap.size w w' := by
 have hu24 := Tryd.underlying24
 have HR0_3 := Aside0.mk hr0_3
 have HC0_3 := Aside0.mk hc0_3
 clear hr0_3 hc0_3
 have HR1_3 := Aside0.mk hr1_3
 have HC1_3 := Aside0.mk hc1_3
 clear hr1_3 hc1_3
 have HB := Aside0.mk (Below.refl w.heap.size w)
 have H : ((diff_valid.f k a0_0 a0_1 a0_2 l0_3 a1_0 a1_1 a1_2 l1_3).bind fun t189 => (if t189 = true then ((diff_table.f k l0_3 l1_3).bind fun t190 => (if 0 < (t190.length : Int) then (if 0 < ((rd_L5 t190 0).length : Int) then (some ((rd_T47 (rd_L5 t190 0) 0).f0, 0)) else (none)) else (none))) else (some (0, 1)))) = some (r1, r2) := h
 clear h
 replace H := Option.bind_eq_some_iff.mp H
 obtain ⟨t189, A30, H⟩ := H
 replace H : (if t189 = true then ((diff_table.f k l0_3 l1_3).bind fun t190 => (if 0 < (t190.length : Int) then (if 0 < ((rd_L5 t190 0).length : Int) then (some ((rd_T47 (rd_L5 t190 0) 0).f0, 0)) else (none)) else (none))) else (some (0, 1))) = some (r1, r2) := H
 have A3 := Aside0.mk A30
 clear A30
 by_cases c4 : t189 = true
 ·subst c4
  have H1 : ((diff_table.f k l0_3 l1_3).bind fun t190 => (if 0 < (t190.length : Int) then (if 0 < ((rd_L5 t190 0).length : Int) then (some ((rd_T47 (rd_L5 t190 0) 0).f0, 0)) else (none)) else (none))) = some (r1, r2) := by rw [if_pos rfl] at H; exact H
  clear H
  have H := H1
  clear H1
  replace H := Option.bind_eq_some_iff.mp H
  obtain ⟨t190, A50, H⟩ := H
  replace H : (if 0 < (t190.length : Int) then (if 0 < ((rd_L5 t190 0).length : Int) then (some ((rd_T47 (rd_L5 t190 0) 0).f0, 0)) else (none)) else (none)) = some (r1, r2) := H
  have A5 := Aside0.mk A50
  clear A50
  by_cases c6 : 0 < (t190.length : Int)
  case neg =>
   rw [if_neg c6] at H
   exact absurd H (by simp)
  rw [if_pos c6] at H
  have c6b0 : decide (0 < (t190.length : Int)) = true := decide_eq_true c6
  have c6b1 : decide (0 < t190.length) = true := decide_eq_true (by omega)
  clear c6
  by_cases c7 : 0 < ((rd_L5 t190 0).length : Int)
  case neg =>
   rw [if_neg c7] at H
   exact absurd H (by simp)
  rw [if_pos c7] at H
  have c7b0 : decide (0 < ((rd_L5 t190 0).length : Int)) = true := decide_eq_true c7
  have c7b1 : decide (0 < (rd_L5 t190 0).length) = true := decide_eq_true (by omega)
  clear c7
  simp only [Option.some.injEq, Prod.mk.injEq] at H
  obtain ⟨rfl, rfl⟩ := H
  go_enter Tryd.func9, Tryd.ntmps9
  go_wp2_with (first | ((with_reducible refine gate_dst (N := 2) rfl ?_); refine box_event ?hg (N := 2) ?hd (cs := #[.int .i64 a0_0, .string a0_1, .int .i64 a0_2, .slice A0_3 l0_3.length c0_3]) (t := 24) ?hr ?_; (case hd => rfl); (case hg => rfl); (case hr => first | (go_simp; done) | (go_simp; rfl)); intro gb187 hg w8 hbox hb; have n0_ := Aside0.mk (below_step (bs0_ HB.out) hb); have n1_ := Aside0.mk (hbox); have n2_ := Aside0.mk ((by rw [hg]; exact (below_size (bs0_ HB.out)) : w.heap.size ≤ gb187)); have n3_ := Aside0.mk ((by rw [hg]; exact (below_size (bs0_ HB.out)) : w.heap.size ≤ gb187)); clear HB; have HB := n0_; have BK187 := n1_; have GW187 := n2_; have GE187 := n3_; clear n0_ n1_ n2_ n3_; clear hb hbox hg) | ((with_reducible refine gate_dst (N := 3) rfl ?_); refine box_event ?hg (N := 3) ?hd (cs := #[.int .i64 a1_0, .string a1_1, .int .i64 a1_2, .slice A1_3 l1_3.length c1_3]) (t := 24) ?hr ?_; (case hd => rfl); (case hg => rfl); (case hr => first | (go_simp; done) | (go_simp; rfl)); intro gb188 hg w9 hbox hb; have n0_ := Aside0.mk (blk_below (g := gb187) (o := .cells #[.int .i64 a0_0, .string a0_1, .int .i64 a0_2, .slice A0_3 l0_3.length c0_3] 24 (0, 0)) (bk_ BK187.out) hb); have n1_ := Aside0.mk (below_step (bs1_ HB.out GE187.out) hb); have n2_ := Aside0.mk (hbox); have n3_ := Aside0.mk ((by rw [hg]; exact (below_size (bs1_ HB.out GE187.out)) : w.heap.size ≤ gb188)); have n4_ := Aside0.mk ((by rw [hg]; exact (below_size (bs1_ HB.out GE187.out)) : w.heap.size ≤ gb188)); have n5_ := Aside0.mk ((by rw [hg]; exact Nat.ne_of_lt (blk_lt (g := gb187) (o := .cells #[.int .i64 a0_0, .string a0_1, .int .i64 a0_2, .slice A0_3 l0_3.length c0_3] 24 (0, 0)) (bk_ BK187.out)) : gb187 ≠ gb188)); have n6_ := Aside0.mk ((by rw [hg]; exact Nat.ne_of_gt (blk_lt (g := gb187) (o := .cells #[.int .i64 a0_0, .string a0_1, .int .i64 a0_2, .slice A0_3 l0_3.length c0_3] 24 (0, 0)) (bk_ BK187.out)) : gb188 ≠ gb187)); clear BK187; clear HB; have BK187 := n0_; have HB := n1_; have BK188 := n2_; have GW188 := n3_; have GE188 := n4_; have NB187_188 := n5_; have NB188_187 := n6_; clear n0_ n1_ n2_ n3_ n4_ n5_ n6_; clear hb hbox hg; have hnb10 := NB187_188.out; have hnc10 := NB188_187.out; have hcz11_0 : w9.cell? ⟨gb187, 0, none⟩ = some (.int .i64 a0_0) := (blk_cell BK187.out 0).trans rfl; have hcz11_1 : w9.cell? ⟨gb187, 1, none⟩ = some (.string a0_1) := (blk_cell BK187.out 1).trans rfl; have hcz11_2 : w9.cell? ⟨gb187, 2, none⟩ = some (.int .i64 a0_2) := (blk_cell BK187.out 2).trans rfl; have hcz11_3 : w9.cell? ⟨gb187, 3, none⟩ = some (.slice A0_3 l0_3.length c0_3) := (blk_cell BK187.out 3).trans rfl; have hfz11_0 := blk_frozen BK187.out 0; have hfz11_1 := blk_frozen BK187.out 1; have hfz11_2 := blk_frozen BK187.out 2; have hfz11_3 := blk_frozen BK187.out 3; have hcz12_0 : w9.cell? ⟨gb188, 0, none⟩ = some (.int .i64 a1_0) := (blk_cell BK188.out 0).trans rfl; have hcz12_1 : w9.cell? ⟨gb188, 1, none⟩ = some (.string a1_1) := (blk_cell BK188.out 1).trans rfl; have hcz12_2 : w9.cell? ⟨gb188, 2, none⟩ = some (.int .i64 a1_2) := (blk_cell BK188.out 2).trans rfl; have hcz12_3 : w9.cell? ⟨gb188, 3, none⟩ = some (.slice A1_3 l1_3.length c1_3) := (blk_cell BK188.out 3).trans rfl; have hfz12_0 := blk_frozen BK188.out 0; have hfz12_1 := blk_frozen BK188.out 1; have hfz12_2 := blk_frozen BK188.out 2; have hfz12_3 := blk_frozen BK188.out 3) | ((with_reducible refine gate_callee (f := 20) rfl ?_); refine goesL_ (some 8) rfl rfl Tryd.func20 (by kernel_rfl) rfl #[.agg #[.int .i64 a0_0, .string a0_1, .int .i64 a0_2, .slice A0_3 l0_3.length c0_3], .agg #[.int .i64 a1_0, .string a1_1, .int .i64 a1_2, .slice A1_3 l1_3.length c1_3]] rfl (by (try simp only [List.map_toArray, List.map_cons, List.map_nil]); first | done | rfl | (simp only [List.length_drop, List.length_take]; rfl)) ?_; (with_reducible refine (diff_valid.calls k a0_0 a0_1 a0_2 _ _ l0_3 a1_0 a1_1 a1_2 _ _ l1_3 true _ ?side1 ?side2 ?side3 ?side4 A3.out).mono ?_); (case side1 => exact kc_ HR0_3.out HB.out); (case side2 => exact HC0_3.out); (case side3 => exact kc_ HR1_3.out HB.out); (case side4 => exact HC1_3.out); rintro e w13 ⟨rfl, hb⟩; refine ⟨_, rfl, ?_⟩; have n0_ := Aside0.mk (blk_below (g := gb187) (o := .cells #[.int .i64 a0_0, .string a0_1, .int .i64 a0_2, .slice A0_3 l0_3.length c0_3] 24 (0, 0)) (bk_ BK187.out) hb); have n1_ := Aside0.mk (blk_below (g := gb188) (o := .cells #[.int .i64 a1_0, .string a1_1, .int .i64 a1_2, .slice A1_3 l1_3.length c1_3] 24 (0, 0)) (bk_ BK188.out) hb); have n2_ := Aside0.mk (below_step (bs2_ HB.out GE187.out GE188.out) hb); clear BK187; clear BK188; clear HB; have BK187 := n0_; have BK188 := n1_; have HB := n2_; clear n0_ n1_ n2_; (try clear hb); (try clear hb2); (try clear hk); (try clear hi); have hcz14_0 : w13.cell? ⟨gb187, 0, none⟩ = some (.int .i64 a0_0) := (blk_cell BK187.out 0).trans rfl; have hcz14_1 : w13.cell? ⟨gb187, 1, none⟩ = some (.string a0_1) := (blk_cell BK187.out 1).trans rfl; have hcz14_2 : w13.cell? ⟨gb187, 2, none⟩ = some (.int .i64 a0_2) := (blk_cell BK187.out 2).trans rfl; have hcz14_3 : w13.cell? ⟨gb187, 3, none⟩ = some (.slice A0_3 l0_3.length c0_3) := (blk_cell BK187.out 3).trans rfl; have hfz14_0 := blk_frozen BK187.out 0; have hfz14_1 := blk_frozen BK187.out 1; have hfz14_2 := blk_frozen BK187.out 2; have hfz14_3 := blk_frozen BK187.out 3; have hcz15_0 : w13.cell? ⟨gb188, 0, none⟩ = some (.int .i64 a1_0) := (blk_cell BK188.out 0).trans rfl; have hcz15_1 : w13.cell? ⟨gb188, 1, none⟩ = some (.string a1_1) := (blk_cell BK188.out 1).trans rfl; have hcz15_2 : w13.cell? ⟨gb188, 2, none⟩ = some (.int .i64 a1_2) := (blk_cell BK188.out 2).trans rfl; have hcz15_3 : w13.cell? ⟨gb188, 3, none⟩ = some (.slice A1_3 l1_3.length c1_3) := (blk_cell BK188.out 3).trans rfl; have hfz15_0 := blk_frozen BK188.out 0; have hfz15_1 := blk_frozen BK188.out 1; have hfz15_2 := blk_frozen BK188.out 2; have hfz15_3 := blk_frozen BK188.out 3) | ((with_reducible refine gate_callee (f := 21) rfl ?_); refine goesL_ (some 14) rfl rfl Tryd.func21 (by kernel_rfl) rfl #[.slice A0_3 l0_3.length c0_3, .slice A1_3 l1_3.length c1_3] rfl (by (try simp only [List.map_toArray, List.map_cons, List.map_nil]); first | done | rfl | (simp only [List.length_drop, List.length_take]; rfl)) ?_; (with_reducible refine (diff_table.calls k _ _ l0_3 _ _ l1_3 t190 _ ?side1 ?side2 ?side3 ?side4 A5.out).mono ?_); (case side1 => exact kc_ HR0_3.out HB.out); (case side2 => exact HC0_3.out); (case side3 => exact kc_ HR1_3.out HB.out); (case side4 => exact HC1_3.out); rintro e w16 ⟨v191, rfl, ho0, hb⟩; refine ⟨_, rfl, ?_⟩; have n0_ := Aside0.mk (Kd.S_lower ho0 (below_size (bs2_ HB.out GE187.out GE188.out))); have n1_ := Aside0.mk (blk_below (g := gb187) (o := .cells #[.int .i64 a0_0, .string a0_1, .int .i64 a0_2, .slice A0_3 l0_3.length c0_3] 24 (0, 0)) (bk_ BK187.out) hb); have n2_ := Aside0.mk (blk_below (g := gb188) (o := .cells #[.int .i64 a1_0, .string a1_1, .int .i64 a1_2, .slice A1_3 l1_3.length c1_3] 24 (0, 0)) (bk_ BK188.out) hb); have n3_ := Aside0.mk (below_step (bs2_ HB.out GE187.out GE188.out) hb); clear BK187; clear BK188; clear HB; have HO192 := n0_; have BK187 := n1_; have BK188 := n2_; have HB := n3_; clear n0_ n1_ n2_ n3_; (try clear hb); (try clear hb2); (try clear hk); (try clear hi); (try clear ho0); obtain ⟨Ao17, co17, eo17⟩ := Kd.S_slice HO192.out; subst eo17; have p193 : 0 ≤ (0 : Int) := (by omega); have q193 : 0 < (t190.length : Int) := of_decide_eq_true (by first | (with_reducible assumption) | assumption); obtain ⟨ad193, A193_0, c193_0, e193, hx193_0, hl193_0, hi193_0⟩ := at_L5 (Kd.S_reads' HO192.out).2.2 0 p193 q193; cases e193; obtain ⟨ce193, hce193, hMe193, hcc193⟩ := Kd.S_get HO192.out [] 0 p193 (by first | exact q193 | exact of_decide_eq_true (by first | (with_reducible assumption) | assumption) | (have e_ := (Kd.S_reads' HO192.out).1; omega)); obtain ⟨ve193_0, rfl, ge193_0⟩ := hMe193; have hv193_0 := hcc193 0 _ rfl; rw [Nat.add_zero, show ((Kd.slice 47 k47)).sz = 1 from rfl, Nat.mul_one] at hv193_0; replace hv193_0 := Option.some.inj (hv193_0.symm.trans hx193_0); rw [hv193_0] at ge193_0; have HL193_0 := Aside0.mk (show Kd.R k47 47 _ _ _ _ (rd_L5 t190 0) from ge193_0); clear hv193_0 ge193_0; clear hcc193 hce193; have qi193 : (0 < t190.length) = True := eq_true (by omega); (try rw [show ((0 : Int)).toNat = 0 from rfl] at hx193_0); (try rw [Addr.add_zero'] at hx193_0); have HR193_0 := Aside0.mk hi193_0; have HC193_0 := Aside0.mk hl193_0; clear hi193_0 hl193_0; replace p193 := eq_true p193; replace q193 := eq_true q193; have p194 : 0 ≤ (0 : Int) := (by omega); have q194 : 0 < ((rd_L5 t190 0).length : Int) := of_decide_eq_true (by first | (with_reducible assumption) | assumption); obtain ⟨ad194, e194, hx194_0, hx194_1⟩ := at_T47 (by repeat (first | (with_reducible exact HR193_0.out) | (with_reducible refine Kd.C_alloc ?_ _) | (with_reducible refine Kd.C_drewN ?_ _) | (with_reducible refine Kd.C_drew ?_) | exact HR193_0.out)) 0 p194 q194; cases e194; have qi194 : (0 < (rd_L5 t190 0).length) = True := eq_true (by omega); (try rw [show ((0 : Int)).toNat = 0 from rfl] at hx194_0); (try rw [show 0 * 2 = 0 from rfl] at hx194_0); (try rw [Addr.add_zero'] at hx194_0); (try rw [show ((0 : Int)).toNat = 0 from rfl] at hx194_1); (try rw [show 0 * 2 = 0 from rfl] at hx194_1); (try rw [Addr.add_zero'] at hx194_1); replace p194 := eq_true p194; replace q194 := eq_true q194))
  go_ret2
  exact ⟨by first | rfl | (simp [errW_none, errW_some] <;> rfl) | (simp [*, errW_none, errW_some] <;> rfl), bs2_ HB.out GE187.out GE188.out⟩
 ·replace c4 := Bool.eq_false_iff.mpr c4
  subst c4
  have H1 : (some (0, 1)) = some (r1, r2) := by rw [if_neg (show ¬ (false = true) by decide)] at H; exact H
  clear H
  have H := H1
  clear H1
  simp only [Option.some.injEq, Prod.mk.injEq] at H
  obtain ⟨rfl, rfl⟩ := H
  go_enter Tryd.func9, Tryd.ntmps9
  go_wp2_with (first | ((with_reducible refine gate_dst (N := 2) rfl ?_); refine box_event ?hg (N := 2) ?hd (cs := #[.int .i64 a0_0, .string a0_1, .int .i64 a0_2, .slice A0_3 l0_3.length c0_3]) (t := 24) ?hr ?_; (case hd => rfl); (case hg => rfl); (case hr => first | (go_simp; done) | (go_simp; rfl)); intro gb187 hg w18 hbox hb; have n0_ := Aside0.mk (below_step (bs0_ HB.out) hb); have n1_ := Aside0.mk (hbox); have n2_ := Aside0.mk ((by rw [hg]; exact (below_size (bs0_ HB.out)) : w.heap.size ≤ gb187)); have n3_ := Aside0.mk ((by rw [hg]; exact (below_size (bs0_ HB.out)) : w.heap.size ≤ gb187)); clear HB; have HB := n0_; have BK187 := n1_; have GW187 := n2_; have GE187 := n3_; clear n0_ n1_ n2_ n3_; clear hb hbox hg) | ((with_reducible refine gate_dst (N := 3) rfl ?_); refine box_event ?hg (N := 3) ?hd (cs := #[.int .i64 a1_0, .string a1_1, .int .i64 a1_2, .slice A1_3 l1_3.length c1_3]) (t := 24) ?hr ?_; (case hd => rfl); (case hg => rfl); (case hr => first | (go_simp; done) | (go_simp; rfl)); intro gb188 hg w19 hbox hb; have n0_ := Aside0.mk (blk_below (g := gb187) (o := .cells #[.int .i64 a0_0, .string a0_1, .int .i64 a0_2, .slice A0_3 l0_3.length c0_3] 24 (0, 0)) (bk_ BK187.out) hb); have n1_ := Aside0.mk (below_step (bs1_ HB.out GE187.out) hb); have n2_ := Aside0.mk (hbox); have n3_ := Aside0.mk ((by rw [hg]; exact (below_size (bs1_ HB.out GE187.out)) : w.heap.size ≤ gb188)); have n4_ := Aside0.mk ((by rw [hg]; exact (below_size (bs1_ HB.out GE187.out)) : w.heap.size ≤ gb188)); have n5_ := Aside0.mk ((by rw [hg]; exact Nat.ne_of_lt (blk_lt (g := gb187) (o := .cells #[.int .i64 a0_0, .string a0_1, .int .i64 a0_2, .slice A0_3 l0_3.length c0_3] 24 (0, 0)) (bk_ BK187.out)) : gb187 ≠ gb188)); have n6_ := Aside0.mk ((by rw [hg]; exact Nat.ne_of_gt (blk_lt (g := gb187) (o := .cells #[.int .i64 a0_0, .string a0_1, .int .i64 a0_2, .slice A0_3 l0_3.length c0_3] 24 (0, 0)) (bk_ BK187.out)) : gb188 ≠ gb187)); clear BK187; clear HB; have BK187 := n0_; have HB := n1_; have BK188 := n2_; have GW188 := n3_; have GE188 := n4_; have NB187_188 := n5_; have NB188_187 := n6_; clear n0_ n1_ n2_ n3_ n4_ n5_ n6_; clear hb hbox hg; have hnb20 := NB187_188.out; have hnc20 := NB188_187.out; have hcz21_0 : w19.cell? ⟨gb187, 0, none⟩ = some (.int .i64 a0_0) := (blk_cell BK187.out 0).trans rfl; have hcz21_1 : w19.cell? ⟨gb187, 1, none⟩ = some (.string a0_1) := (blk_cell BK187.out 1).trans rfl; have hcz21_2 : w19.cell? ⟨gb187, 2, none⟩ = some (.int .i64 a0_2) := (blk_cell BK187.out 2).trans rfl; have hcz21_3 : w19.cell? ⟨gb187, 3, none⟩ = some (.slice A0_3 l0_3.length c0_3) := (blk_cell BK187.out 3).trans rfl; have hfz21_0 := blk_frozen BK187.out 0; have hfz21_1 := blk_frozen BK187.out 1; have hfz21_2 := blk_frozen BK187.out 2; have hfz21_3 := blk_frozen BK187.out 3; have hcz22_0 : w19.cell? ⟨gb188, 0, none⟩ = some (.int .i64 a1_0) := (blk_cell BK188.out 0).trans rfl; have hcz22_1 : w19.cell? ⟨gb188, 1, none⟩ = some (.string a1_1) := (blk_cell BK188.out 1).trans rfl; have hcz22_2 : w19.cell? ⟨gb188, 2, none⟩ = some (.int .i64 a1_2) := (blk_cell BK188.out 2).trans rfl; have hcz22_3 : w19.cell? ⟨gb188, 3, none⟩ = some (.slice A1_3 l1_3.length c1_3) := (blk_cell BK188.out 3).trans rfl; have hfz22_0 := blk_frozen BK188.out 0; have hfz22_1 := blk_frozen BK188.out 1; have hfz22_2 := blk_frozen BK188.out 2; have hfz22_3 := blk_frozen BK188.out 3) | ((with_reducible refine gate_callee (f := 20) rfl ?_); refine goesL_ (some 8) rfl rfl Tryd.func20 (by kernel_rfl) rfl #[.agg #[.int .i64 a0_0, .string a0_1, .int .i64 a0_2, .slice A0_3 l0_3.length c0_3], .agg #[.int .i64 a1_0, .string a1_1, .int .i64 a1_2, .slice A1_3 l1_3.length c1_3]] rfl (by (try simp only [List.map_toArray, List.map_cons, List.map_nil]); first | done | rfl | (simp only [List.length_drop, List.length_take]; rfl)) ?_; (with_reducible refine (diff_valid.calls k a0_0 a0_1 a0_2 _ _ l0_3 a1_0 a1_1 a1_2 _ _ l1_3 false _ ?side1 ?side2 ?side3 ?side4 A3.out).mono ?_); (case side1 => exact kc_ HR0_3.out HB.out); (case side2 => exact HC0_3.out); (case side3 => exact kc_ HR1_3.out HB.out); (case side4 => exact HC1_3.out); rintro e w23 ⟨rfl, hb⟩; refine ⟨_, rfl, ?_⟩; have n0_ := Aside0.mk (blk_below (g := gb187) (o := .cells #[.int .i64 a0_0, .string a0_1, .int .i64 a0_2, .slice A0_3 l0_3.length c0_3] 24 (0, 0)) (bk_ BK187.out) hb); have n1_ := Aside0.mk (blk_below (g := gb188) (o := .cells #[.int .i64 a1_0, .string a1_1, .int .i64 a1_2, .slice A1_3 l1_3.length c1_3] 24 (0, 0)) (bk_ BK188.out) hb); have n2_ := Aside0.mk (below_step (bs2_ HB.out GE187.out GE188.out) hb); clear BK187; clear BK188; clear HB; have BK187 := n0_; have BK188 := n1_; have HB := n2_; clear n0_ n1_ n2_; (try clear hb); (try clear hb2); (try clear hk); (try clear hi)))
  go_ret2
  exact ⟨by first | rfl | (simp [errW_none, errW_some] <;> rfl) | (simp [*, errW_none, errW_some] <;> rfl), bs2_ HB.out GE187.out GE188.out⟩

def vinculumlaw16_symbols.l0 : Nat → ByteArray → Int → Int → ByteArray → Int → List (S24) → Option (Int × ByteArray × Int × (List (S24)))
 | 0, _, _, _, _, _, _ => none
 | k + 1, x0, x4, x197000, x197001, x197002, x197003 => if x4 < (x0.size : Int) then (if 0 ≤ x4 then (if x4 ≤ (wrap64 (x4 + 1)) then (if (wrap64 (x4 + 1)) ≤ (x0.size : Int) then (if x197003.length < 2513169434916 then (vinculumlaw16_symbols.l0 k x0 (wrap64 (x4 + 1)) x197000 x197001 x197002 (x197003 ++ [(⟨2, x0.extract (x4 : Int).toNat ((wrap64 (x4 + 1)) : Int).toNat, 0, ([] : List (S24))⟩ : S24)])) else (none)) else (none)) else (none)) else (none)) else (some (x197000, x197001, x197002, x197003))
def vinculumlaw16_symbols.f (k : Nat) (a0 : ByteArray) : Option (Int × ByteArray × Int × (List (S24))) := vinculumlaw16_symbols.l0 k a0 0 1 (⟨#[]⟩ : ByteArray) 0 ([] : List (S24))
theorem vinculumlaw16_symbols.mono_l : ∀ k, (∀ y0 y1 y2 y3 y4 y5, LeO (vinculumlaw16_symbols.l0 k y0 y1 y2 y3 y4 y5) (vinculumlaw16_symbols.l0 (k + 1) y0 y1 y2 y3 y4 y5))
 | 0 => fun _ _ _ _ _ _ r h => by simp [vinculumlaw16_symbols.l0] at h
 | k + 1 => by
  have ih0 := vinculumlaw16_symbols.mono_l k
  ·intro y0 y1 y2 y3 y4 y5
   unfold vinculumlaw16_symbols.l0
   repeat' first
   | (with_reducible exact ih0 _ _ _ _ _ _)
   | (with_reducible exact LeO.refl _)
   | (with_reducible exact LeO.none _)
   | (with_reducible refine LeO.ite ?_ ?_)
   | (with_reducible refine LeO.bind ?_ (fun _ => ?_))
   | exact ih0 _ _ _ _ _ _
   | exact LeO.none _
   | refine LeO.ite ?_ ?_
   | refine LeO.bind ?_ (fun _ => ?_)
theorem vinculumlaw16_symbols.mono : ∀ a0 k, LeO (vinculumlaw16_symbols.f k a0) (vinculumlaw16_symbols.f (k + 1) a0) := by
 intro a0 k
 have ih0 := vinculumlaw16_symbols.mono_l k
 unfold vinculumlaw16_symbols.f
 repeat' first
   | (with_reducible exact ih0 _ _ _ _ _ _)
   | (with_reducible exact LeO.refl _)
   | (with_reducible exact LeO.none _)
   | (with_reducible refine LeO.ite ?_ ?_)
   | (with_reducible refine LeO.bind ?_ (fun _ => ?_))
   | exact ih0 _ _ _ _ _ _
   | exact LeO.none _
   | refine LeO.ite ?_ ?_
   | refine LeO.bind ?_ (fun _ => ?_)
def vinculumlaw16_symbols.T5 : Bool × List (List Nat × List Nat) := (true, [([], []), ([0], [0]), ([], []), ([], []), ([], []), ([4], [4]), ([2, 3, 5], [2, 3, 5]), ([6], [6]), ([7], [7]), ([1, 8], [1, 8]), ([0, 1, 2, 3, 4, 5, 6, 7, 8, 9], []), ([10, 9, 9, 0, 1, 2, 3, 4, 5, 6, 7, 8, 9], [9, 10])])
def vinculumlaw16_symbols.B5 : List Nat := [0, 1, 0, 0, 0, 16, 60, 124, 252, 511, 1023, 2047]
theorem vinculumlaw16_symbols.tab5 : rtab .any (opsOf Tryd.f19 5) = vinculumlaw16_symbols.T5 := by kernel_rfl
theorem vinculumlaw16_symbols.bits5 : waitsOk vinculumlaw16_symbols.T5.2 vinculumlaw16_symbols.B5 = true := by kernel_rfl
set_option maxHeartbeats 8000000 in
set_option maxRecDepth 100000 in
theorem vinculumlaw16_symbols.calls (k : Nat) (a0 : ByteArray) (r1 : Int) (r2 : ByteArray) (r3 : Int) (r4 : List (S24)) (w : World) (h : vinculumlaw16_symbols.f k a0 = some (r1, r2, r3, r4)) :
  Calls Tryd.prog 19 #[.string a0] w fun e w' => ∃ v3_ : Value, e = .returned (.agg #[.int .i64 r1, .string r2, .int .i64 r3, v3_]) ∧ Kd.R k24 24 w' w.heap.size (fun _ => True) v3_ r4 ∧ Below w.heap.size w w' := by
 have hu24 := Tryd.underlying24
 have HB := Aside0.mk (Below.refl w.heap.size w)
 have H : (vinculumlaw16_symbols.l0 k a0 0 1 (⟨#[]⟩ : ByteArray) 0 ([] : List (S24))) = some (r1, r2, r3, r4) := h
 clear h
 have H' := Aside0.mk H
 clear H
 go_enter Tryd.func19, Tryd.ntmps19
 go_wp2_with (first | ((with_reducible refine gate_dst (N := 2) rfl ?_); refine box_event ?hg (N := 2) ?hd (cs := #[.int .i64 0, .string (⟨#[]⟩ : ByteArray), .int .i64 0, .slice none 0 0]) (t := 24) ?hr ?_; (case hd => rfl); (case hg => rfl); (case hr => first | (go_simp; done) | (go_simp; rfl)); intro gb195 hg w2 hbox hb; have n0_ := Aside0.mk (below_step (bs0_ HB.out) hb); have n1_ := Aside0.mk (hbox); have n2_ := Aside0.mk ((by rw [hg]; exact (below_size (bs0_ HB.out)) : w.heap.size ≤ gb195)); have n3_ := Aside0.mk ((by rw [hg]; exact (below_size (bs0_ HB.out)) : w.heap.size ≤ gb195)); clear HB; have HB := n0_; have BK195 := n1_; have GW195 := n2_; have GE195 := n3_; clear n0_ n1_ n2_ n3_; clear hb hbox hg) | ((with_reducible refine gate_dst (N := 3) rfl ?_); refine box_event ?hg (N := 3) ?hd (cs := #[.int .i64 0, .string (⟨#[]⟩ : ByteArray), .int .i64 0, .slice none 0 0]) (t := 24) ?hr ?_; (case hd => rfl); (case hg => rfl); (case hr => first | (go_simp; done) | (go_simp; rfl)); intro gb196 hg w3 hbox hb; have n0_ := Aside0.mk (blk_below (g := gb195) (o := .cells #[.int .i64 0, .string (⟨#[]⟩ : ByteArray), .int .i64 0, .slice none 0 0] 24 (0, 0)) (bk_ BK195.out) hb); have n1_ := Aside0.mk (below_step (bs1_ HB.out GE195.out) hb); have n2_ := Aside0.mk (hbox); have n3_ := Aside0.mk ((by rw [hg]; exact (below_size (bs1_ HB.out GE195.out)) : w.heap.size ≤ gb196)); have n4_ := Aside0.mk ((by rw [hg]; exact (below_size (bs1_ HB.out GE195.out)) : w.heap.size ≤ gb196)); have n5_ := Aside0.mk ((by rw [hg]; exact Nat.ne_of_lt (blk_lt (g := gb195) (o := .cells #[.int .i64 0, .string (⟨#[]⟩ : ByteArray), .int .i64 0, .slice none 0 0] 24 (0, 0)) (bk_ BK195.out)) : gb195 ≠ gb196)); have n6_ := Aside0.mk ((by rw [hg]; exact Nat.ne_of_gt (blk_lt (g := gb195) (o := .cells #[.int .i64 0, .string (⟨#[]⟩ : ByteArray), .int .i64 0, .slice none 0 0] 24 (0, 0)) (bk_ BK195.out)) : gb196 ≠ gb195)); clear BK195; clear HB; have BK195 := n0_; have HB := n1_; have BK196 := n2_; have GW196 := n3_; have GE196 := n4_; have NB195_196 := n5_; have NB196_195 := n6_; clear n0_ n1_ n2_ n3_ n4_ n5_ n6_; clear hb hbox hg; have hnb4 := NB196_195.out; have hnc4 := NB195_196.out; have hcz5_0 : w3.cell? ⟨gb196, 0, none⟩ = some (.int .i64 0) := (blk_cell BK196.out 0).trans rfl; have hcz5_1 : w3.cell? ⟨gb196, 1, none⟩ = some (.string (⟨#[]⟩ : ByteArray)) := (blk_cell BK196.out 1).trans rfl; have hcz5_2 : w3.cell? ⟨gb196, 2, none⟩ = some (.int .i64 0) := (blk_cell BK196.out 2).trans rfl; have hcz5_3 : w3.cell? ⟨gb196, 3, none⟩ = some (.slice none 0 0) := (blk_cell BK196.out 3).trans rfl; have hfz5_0 := blk_frozen BK196.out 0; have hfz5_1 := blk_frozen BK196.out 1; have hfz5_2 := blk_frozen BK196.out 2; have hfz5_3 := blk_frozen BK196.out 3))
 go_loopg [4] k (fun kq v4 w' => ∃ (x4_1 : Int) (x197003_1 : List (S24)) (u197003 : Value), v4 = .int .i64 x4_1 ∧ Aside0 (vinculumlaw16_symbols.l0 kq a0 x4_1 1 (⟨#[]⟩ : ByteArray) 0 x197003_1 = some (r1, r2, r3, r4)) ∧ Aside0 (kq ≤ k) ∧ Aside0 (Kd.R k24 24 w' w.heap.size (fun k_ => k_ ≠ gb195 ∧ k_ ≠ gb196) u197003 x197003_1) ∧ Aside0 (w'.heap[gb195]? = some (.cells #[.int .i64 0, .string (⟨#[]⟩ : ByteArray), .int .i64 0, (.slice none 0 0)] 24 (0, 0))) ∧ Aside0 (w'.heap[gb196]? = some (.cells #[.int .i64 1, .string (⟨#[]⟩ : ByteArray), .int .i64 0, u197003] 24 (0, 0))) ∧ Aside0 (Below w.heap.size w w'))
 case atStart => exact ⟨(0), (([] : List (S24))), (.slice none 0 0), (by first | rfl | (simp; done) | (simp [*]; done)), H', ⟨Nat.le_refl _⟩, ⟨by first | exact Kd.R_nil _ _ _ _ _ | exact Kd.N_nil _ _ _ _ _ | exact Kd.V_nil _ _ _ _ _ | exact Kd.Q_nil _ _ _ _ _ | exact Kd.S_nil _ _ _ _ _⟩, ⟨by (with_reducible repeat (first | refine blk_drewN ?_ _ | refine blk_drew ?_ | refine blk_alloc ?_ _)); refine blk_far ?_ NB195_196.out _; (with_reducible repeat (first | refine blk_drewN ?_ _ | refine blk_drew ?_ | refine blk_alloc ?_ _)); refine blk_far ?_ NB195_196.out _; (with_reducible repeat (first | refine blk_drewN ?_ _ | refine blk_drew ?_ | refine blk_alloc ?_ _)); refine blk_far ?_ NB195_196.out _; (with_reducible repeat (first | refine blk_drewN ?_ _ | refine blk_drew ?_ | refine blk_alloc ?_ _)); refine blk_far ?_ NB195_196.out _; (with_reducible repeat (first | refine blk_drewN ?_ _ | refine blk_drew ?_ | refine blk_alloc ?_ _)); exact BK195.out⟩, ⟨by (with_reducible repeat (first | refine blk_drewN ?_ _ | refine blk_drew ?_ | refine blk_alloc ?_ _)); refine blk_put (cs := #[.int .i64 1, .string (⟨#[]⟩ : ByteArray), .int .i64 0, .slice none 0 0]) ?_ 3 _ rfl; (with_reducible repeat (first | refine blk_drewN ?_ _ | refine blk_drew ?_ | refine blk_alloc ?_ _)); refine blk_put (cs := #[.int .i64 1, .string (⟨#[]⟩ : ByteArray), .int .i64 0, .slice none 0 0]) ?_ 2 _ rfl; (with_reducible repeat (first | refine blk_drewN ?_ _ | refine blk_drew ?_ | refine blk_alloc ?_ _)); refine blk_put (cs := #[.int .i64 1, .string (⟨#[]⟩ : ByteArray), .int .i64 0, .slice none 0 0]) ?_ 1 _ rfl; (with_reducible repeat (first | refine blk_drewN ?_ _ | refine blk_drew ?_ | refine blk_alloc ?_ _)); refine blk_put (cs := #[.int .i64 0, .string (⟨#[]⟩ : ByteArray), .int .i64 0, .slice none 0 0]) ?_ 0 _ rfl; (with_reducible repeat (first | refine blk_drewN ?_ _ | refine blk_drew ?_ | refine blk_alloc ?_ _)); exact BK196.out⟩, ⟨bs2_ HB.out GE195.out GE196.out⟩⟩
 case round =>
  clear H'; (try clear c1); (try clear p2); (try clear c4); (try clear hcz5_0); (try clear hcz5_1); (try clear hcz5_2); (try clear hcz5_3); (try clear hfz5_0); (try clear hfz5_1); (try clear hfz5_2); (try clear hfz5_3)
  obtain ⟨x4_1, x197003_1, u197003, rfl, HA, HK1, HO_197003, BK195, BK196, HB⟩ := hrel
  cases gk with
  | zero => exact absurd HA.out (by simp [vinculumlaw16_symbols.l0])
  | succ k1 =>
   have H := HA.out
   clear HA
   simp only [vinculumlaw16_symbols.l0] at H
   by_cases c6 : x4_1 < (a0.size : Int)
   ·rw [if_pos c6] at H
    have c6b0 : decide (x4_1 < (a0.size : Int)) = true := decide_eq_true c6
    clear c6
    by_cases c7 : 0 ≤ x4_1
    case neg =>
     rw [if_neg c7] at H
     exact absurd H (by simp)
    rw [if_pos c7] at H
    have c7b0 := eq_true c7
    have c7b1 : decide (0 ≤ x4_1) = true := decide_eq_true c7
    clear c7
    by_cases c8 : x4_1 ≤ (wrap64 (x4_1 + 1))
    case neg =>
     rw [if_neg c8] at H
     exact absurd H (by simp)
    rw [if_pos c8] at H
    have c8b0 := eq_true c8
    have c8b1 : decide (x4_1 ≤ (wrap64 (x4_1 + 1))) = true := decide_eq_true c8
    by_cases c9 : (wrap64 (x4_1 + 1)) ≤ (a0.size : Int)
    case neg =>
     rw [if_neg c9] at H
     exact absurd H (by simp)
    rw [if_pos c9] at H
    have c9b0 := eq_true c9
    have c9b1 : decide ((wrap64 (x4_1 + 1)) ≤ (a0.size : Int)) = true := decide_eq_true c9
    by_cases c10 : x197003_1.length < 2513169434916
    case neg =>
     rw [if_neg c10] at H
     exact absurd H (by simp)
    rw [if_pos c10] at H
    have LMc10 := Aside0.mk c10
    clear c10
    obtain ⟨y197, hy197⟩ : ∃ y_ : List (S24), y_ = (x197003_1 ++ [(⟨2, a0.extract (x4_1 : Int).toNat ((wrap64 (x4_1 + 1)) : Int).toNat, 0, ([] : List (S24))⟩ : S24)]) := ⟨_, rfl⟩
    replace H : (vinculumlaw16_symbols.l0 k1 a0 (wrap64 (x4_1 + 1)) 1 (⟨#[]⟩ : ByteArray) 0 y197) = some (r1, r2, r3, r4) := by first | (rw [hy197]; with_reducible exact H) | (have H2_ := (Option.bind_some _ _).symm.trans H; rw [hy197]; with_reducible exact H2_) | (have H2_ := (Option.bind_some _ _).symm.trans H; with_reducible exact H2_) | with_reducible exact H | (rw [hy197]; exact H) | exact H
    have Ny197 := Aside0.mk hy197
    clear hy197
    have H' := Aside0.mk H
    clear H
    try go_wp2
    have n0_ := Aside0.mk (Kd.R_drew HO_197003.out)
    have n1_ := Aside0.mk (blk_drew BK195.out)
    have n2_ := Aside0.mk (blk_drew BK196.out)
    have n3_ := Aside0.mk (below_drew1 HB.out)
    clear HO_197003; clear BK195; clear BK196; clear HB
    have HO_197003 := n0_
    have BK195 := n1_
    have BK196 := n2_
    have HB := n3_
    clear n0_ n1_ n2_ n3_
    refine start_ (n := 12) (S := fun w' => w'.cell? ⟨gb196, 0, none⟩ = some (.int .i64 1) ∧ w'.cell? ⟨gb196, 1, none⟩ = some (.string (⟨#[]⟩ : ByteArray)) ∧ w'.cell? ⟨gb196, 2, none⟩ = some (.int .i64 0) ∧ w'.cell? ⟨gb196, 3, none⟩ = some (u197003)) (ds := [11]) #[false, false, false, false, false, false, false, false, false, false, false, false] (by kernel_rfl) rfl rfl ⟨(blk_cell BK196.out 0).trans rfl, (blk_cell BK196.out 1).trans rfl, (blk_cell BK196.out 2).trans rfl, (blk_cell BK196.out 3).trans rfl⟩ (fun hHeld => ?_); refine with_tabW vinculumlaw16_symbols.tab5 vinculumlaw16_symbols.bits5 (fun HT_ HW_ => ?_)
    generalize wr.drew = w11 at HO_197003 BK195 BK196 HB hHeld ⊢
    refine pure_ (i := 0) (N := some 12) (v := ?_) (a' := ?_) (mk_ 12 1) rfl rfl (an_ HT_.out) (fun _ _ _ h => h) (Or.inl ⟨by rfl, ?_⟩) ?_ ?_
    rotate_left; (intro w'; go_simp; with_reducible rfl); rotate_left; (simp only [Act.put, sp1_, sp2_]; rfl)
    refine pure_ (i := 2) (N := some 14) (v := ?_) (a' := ?_) (mk_ 12 5) rfl rfl (an_ HT_.out) (fun _ _ _ h => h) (Or.inl ⟨by rfl, ?_⟩) ?_ ?_
    rotate_left; (intro w'; go_simp; with_reducible rfl); rotate_left; (simp only [Act.put, sp1_, sp2_]; rfl)
    refine pure_ (i := 3) (N := some 15) (v := ?_) (a' := ?_) (mk_ 12 13) rfl rfl (an_ HT_.out) (fun _ _ _ h => h) (Or.inl ⟨by rfl, ?_⟩) ?_ ?_
    rotate_left; (intro w'; go_simp; with_reducible rfl); rotate_left; (simp only [Act.put, sp1_, sp2_]; rfl)
    refine pure_ (i := 4) (N := some 16) (v := ?_) (a' := ?_) (mk_ 12 29) rfl rfl (an_ HT_.out) (fun _ _ _ h => h) (Or.inl ⟨by rfl, ?_⟩) ?_ ?_
    rotate_left; (intro w'; go_simp; with_reducible rfl); rotate_left; (simp only [Act.put, sp1_, sp2_]; rfl)
    refine pure_ (i := 5) (N := some 17) (v := ?_) (a' := ?_) (mk_ 12 61) rfl rfl (an_ HT_.out) (fun _ _ _ h => h) (Or.inl ⟨by rfl, ?_⟩) ?_ ?_
    rotate_left; (intro w'; go_simp; with_reducible rfl); rotate_left; (simp only [Act.put, sp1_, sp2_]; rfl)
    refine pure_ (i := 6) (N := some 18) (v := ?_) (a' := ?_) (mk_ 12 125) rfl rfl (an_ HT_.out) (fun _ _ _ h => h) (Or.inl ⟨by rfl, ?_⟩) ?_ ?_
    rotate_left; (intro w'; go_simp; with_reducible rfl); rotate_left; (simp only [Act.put, sp1_, sp2_]; rfl)
    refine pure_ (i := 7) (N := some 19) (v := ?_) (a' := ?_) (mk_ 12 253) rfl rfl (an_ HT_.out) (fun _ _ _ h => h) (Or.inl ⟨by rfl, ?_⟩) ?_ ?_
    rotate_left; (intro w'; go_simp; with_reducible rfl); rotate_left; (simp only [Act.put, sp1_, sp2_]; rfl)
    refine take_ (i := 1) (N := some 13) (v := ?_) (a' := ?_) (mk_ 12 255) rfl rfl (take_ofW HT_.out HW_.out (by kernel_rfl)) (fun _ _ _ h => h) (Or.inl ⟨by rfl, ?_⟩) hHeld ?_ ?_
    rotate_left
    ·rintro w' ⟨s0, s1, s2, s3⟩
     go_simp
     with_reducible rfl
    rotate_left; (simp only [Act.put, sp1_, sp2_]; rfl)
    refine one_ (i := 8) (N := some 20) (mk_ 12 511) rfl rfl (one_of HT_.out (by kernel_rfl)) (by decide) (fun K hK => ?_)
    refine value_ (w1 := ?_) (v := ?_) (by rfl) rfl ?_ ?_
    rotate_left 2
    ·go_simp
     constructor
     ·rfl
     ·rfl
    refine hK.out _ _ ⟨(blk_cell (blk_alloc BK196.out _) 0).trans rfl, (blk_cell (blk_alloc BK196.out _) 1).trans rfl, (blk_cell (blk_alloc BK196.out _) 2).trans rfl, (blk_cell (blk_alloc BK196.out _) 3).trans rfl⟩ (fun hHeld => ?_)
    clear hK K
    refine norm_ (a' := ?_) ?_ ?_
    rotate_left
    ·show Act.put _ (some 20) _ = _
     simp only [Act.put, sp1_, sp2_]
     rfl
    refine one_ (i := 9) (N := some 21) (mk_ 12 1023) rfl rfl (one_of HT_.out (by kernel_rfl)) (by decide) (fun K hK => ?_)
    refine Kd.R_append_step k24 (w0 := w) w.heap.size (by rfl) (.tmp 13) (.tmp 20) 22 24 (.agg #[(.int .i64 0), (.string ⟨#[]⟩), (.int .i64 0), (.slice none 0 0)]) 56 rfl Tryd.underlying22 info24 rfl (by decide) (by omega) u197003 x197003_1 (⟨2, a0.extract (x4_1 : Int).toNat ((wrap64 (x4_1 + 1)) : Int).toNat, 0, ([] : List (S24))⟩ : S24) [.int .i64 2, .string (a0.extract (x4_1 : Int).toNat ((wrap64 (x4_1 + 1)) : Int).toNat), .int .i64 0, .slice none 0 0] (fun k_ => k_ ≠ gb195 ∧ k_ ≠ gb196) (fun k_ => ((fun k_ => k_ ≠ gb195 ∧ k_ ≠ gb196)) k_ ∧ some k_ ≠ (u197003 : Value).ownBlock) rfl rfl ?aP (fun _ hk => hk) ?aF ?aO ?aB ?aS ?aL ?_
    (case aP => exact k24_mkM _ _ _ (⟨2, a0.extract (x4_1 : Int).toNat ((wrap64 (x4_1 + 1)) : Int).toNat, 0, ([] : List (S24))⟩ : S24) (Kd.R_nil _ _ _ _ _))
    (case aB => exact (bs2_ HB.out GE195.out GE196.out))
    (case aF => exact (fun k_ hk => ⟨Kd.freshB (g := gb195) (o := .cells #[.int .i64 0, .string (⟨#[]⟩ : ByteArray), .int .i64 0, .slice none 0 0] 24 (0, 0)) (bk_ BK195.out) k_ hk, Kd.freshB (g := gb196) (o := .cells #[.int .i64 1, .string (⟨#[]⟩ : ByteArray), .int .i64 0, u197003] 24 (0, 0)) (bk_ BK196.out) k_ hk⟩))
    (case aO => exact (by (with_reducible repeat (first | apply Kd.R_alloc | apply Kd.R_drewN | apply Kd.R_drew)); exact HO_197003.out))
    (case aS => exact (below_size (bs2_ HB.out GE195.out GE196.out)))
    (case aL => have := LMc10.out; omega)
    intro v198 w12 ho hb hg hat
    rw [← Ny197.out] at ho
    have n0_ := Aside0.mk (blk_grown (g := gb195) (o := .cells #[.int .i64 0, .string (⟨#[]⟩ : ByteArray), .int .i64 0, .slice none 0 0] 24 (0, 0)) (bk_ BK195.out) hg (Kd.R_away HO_197003.out (fun _ hk => hk.1)))
    have n1_ := Aside0.mk (blk_grown (g := gb196) (o := .cells #[.int .i64 1, .string (⟨#[]⟩ : ByteArray), .int .i64 0, u197003] 24 (0, 0)) (bk_ BK196.out) hg (Kd.R_away HO_197003.out (fun _ hk => hk.2)))
    have n2_ := Aside0.mk (hb)
    have n3_ := Aside0.mk (ho)
    clear BK195; clear BK196; clear HB; clear HO_197003
    have BK195 := n0_
    have BK196 := n1_
    have HB := n2_
    have HO199 := n3_
    clear n0_ n1_ n2_ n3_; clear ho hb hg hat
    obtain ⟨Ao13, co13, eo13⟩ := Kd.R_slice HO199.out
    (first | subst eo13 | (injection eo13 with f1_ f2_ f3_; have f4_ := f1_.symm; have f5_ := f3_.symm; clear f1_ f2_ f3_; subst f4_; subst f5_))
    refine hK.out _ _ ⟨(blk_cell BK196.out 0).trans rfl, (blk_cell BK196.out 1).trans rfl, (blk_cell BK196.out 2).trans rfl, (blk_cell BK196.out 3).trans rfl⟩ (fun hHeld => ?_)
    clear hK K
    refine norm_ (a' := ?_) ?_ ?_
    rotate_left
    ·show Act.put _ (some 21) _ = _
     simp only [Act.put, sp1_, sp2_]
     rfl
    refine pure_ (i := 10) (N := some 22) (v := ?_) (a' := ?_) (mk_ 12 2047) rfl rfl (an_ HT_.out) (fun _ _ _ h => h) (Or.inl ⟨by rfl, ?_⟩) ?_ ?_
    rotate_left; (intro w'; go_simp; with_reducible rfl); rotate_left; (simp only [Act.put, sp1_, sp2_]; rfl)
    refine last_ (i := 11) (N := none) #[true, true, true, true, true, true, true, true, true, true, true, true] rfl rfl (one_of HT_.out (by kernel_rfl)) (by decide) (fun K hK => ?_)
    have hs14 : w12.cell? ⟨gb196, 3, none⟩ = some (u197003) := (blk_cell BK196.out 3).trans rfl
    have hfs14 := blk_frozen BK196.out 3
    have hns14_0 := NB195_196.out
    have hms14_0 := NB196_195.out
    refine skip_ (w1 := ?_) (by rfl) rfl ?_ ?_
    rotate_left
    ·go_simp
     rfl
    refine hK.out _ _ ?_
    clear hK K
    refine done_ (done_of HT_.out (by kernel_rfl)) ?_
    try go_wp2
    go_roundg k1
    case measure => have := HK1.out; omega
    case rel => exact ⟨(wrap64 (x4_1 + 1)), (y197), (.slice Ao13 y197.length co13), (by first | rfl | (simp; done) | (simp [*]; done)), H', ⟨by have := HK1.out; omega⟩, ⟨by (with_reducible repeat (first | apply Kd.R_alloc | apply Kd.R_drewN | apply Kd.R_drew)); exact Kd.R_mono (Kd.R_far (p := ⟨gb196, 3, none⟩) (Kd.R_mono HO199.out (fun k_ hk => (⟨hk, hk.2⟩ : _ ∧ k_ ≠ gb196))) (fun _ hk => hk.2) (.slice Ao13 y197.length co13)) (fun _ hk => ⟨hk.1.1, hk.1.2⟩)⟩, ⟨by (with_reducible repeat (first | refine blk_drewN ?_ _ | refine blk_drew ?_ | refine blk_alloc ?_ _)); refine blk_far ?_ NB195_196.out _; (with_reducible repeat (first | refine blk_drewN ?_ _ | refine blk_drew ?_ | refine blk_alloc ?_ _)); exact BK195.out⟩, ⟨by (with_reducible repeat (first | refine blk_drewN ?_ _ | refine blk_drew ?_ | refine blk_alloc ?_ _)); refine blk_put (cs := #[.int .i64 1, .string (⟨#[]⟩ : ByteArray), .int .i64 0, u197003]) ?_ 3 _ rfl; (with_reducible repeat (first | refine blk_drewN ?_ _ | refine blk_drew ?_ | refine blk_alloc ?_ _)); exact BK196.out⟩, ⟨bs2_ HB.out GE195.out GE196.out⟩⟩
   ·rw [if_neg c6] at H
    have c6b0 : decide (x4_1 < (a0.size : Int)) = false := decide_eq_false c6
    clear c6
    simp only [Option.some.injEq, Prod.mk.injEq] at H
    obtain ⟨rfl, rfl, rfl, rfl⟩ := H
    have hnb15 := NB196_195.out
    have hnc15 := NB195_196.out
    have hcz16_0 : wr.cell? ⟨gb196, 0, none⟩ = some (.int .i64 1) := (blk_cell BK196.out 0).trans rfl
    have hcz16_1 : wr.cell? ⟨gb196, 1, none⟩ = some (.string (⟨#[]⟩ : ByteArray)) := (blk_cell BK196.out 1).trans rfl
    have hcz16_2 : wr.cell? ⟨gb196, 2, none⟩ = some (.int .i64 0) := (blk_cell BK196.out 2).trans rfl
    have hcz16_3 : wr.cell? ⟨gb196, 3, none⟩ = some (u197003) := (blk_cell BK196.out 3).trans rfl
    have hfz16_0 := blk_frozen BK196.out 0
    have hfz16_1 := blk_frozen BK196.out 1
    have hfz16_2 := blk_frozen BK196.out 2
    have hfz16_3 := blk_frozen BK196.out 3
    have hcz17_0 : wr.cell? ⟨gb195, 0, none⟩ = some (.int .i64 0) := (blk_cell BK195.out 0).trans rfl
    have hcz17_1 : wr.cell? ⟨gb195, 1, none⟩ = some (.string (⟨#[]⟩ : ByteArray)) := (blk_cell BK195.out 1).trans rfl
    have hcz17_2 : wr.cell? ⟨gb195, 2, none⟩ = some (.int .i64 0) := (blk_cell BK195.out 2).trans rfl
    have hcz17_3 : wr.cell? ⟨gb195, 3, none⟩ = some (.slice none 0 0) := (blk_cell BK195.out 3).trans rfl
    have hfz17_0 := blk_frozen BK195.out 0
    have hfz17_1 := blk_frozen BK195.out 1
    have hfz17_2 := blk_frozen BK195.out 2
    have hfz17_3 := blk_frozen BK195.out 3
    obtain ⟨Ao18, co18, eo18⟩ := Kd.R_slice HO_197003.out
    subst eo18
    go_wp2
    refine bodyPost_ret (results_cell_row rfl _ _ gb195 24 #[.int .i64 1, .string (⟨#[]⟩ : ByteArray), .int .i64 0, .slice Ao18 x197003_1.length co18] (0, 0) _ rfl (by (with_reducible repeat (first | refine blk_drewN ?_ _ | refine blk_drew ?_ | refine blk_alloc ?_ _)); refine blk_put (cs := #[.int .i64 1, .string (⟨#[]⟩ : ByteArray), .int .i64 0, .slice none 0 0]) ?_ 3 _ rfl; (with_reducible repeat (first | refine blk_drewN ?_ _ | refine blk_drew ?_ | refine blk_alloc ?_ _)); refine blk_put (cs := #[.int .i64 1, .string (⟨#[]⟩ : ByteArray), .int .i64 0, .slice none 0 0]) ?_ 2 _ rfl; (with_reducible repeat (first | refine blk_drewN ?_ _ | refine blk_drew ?_ | refine blk_alloc ?_ _)); refine blk_put (cs := #[.int .i64 1, .string (⟨#[]⟩ : ByteArray), .int .i64 0, .slice none 0 0]) ?_ 1 _ rfl; (with_reducible repeat (first | refine blk_drewN ?_ _ | refine blk_drew ?_ | refine blk_alloc ?_ _)); refine blk_put (cs := #[.int .i64 0, .string (⟨#[]⟩ : ByteArray), .int .i64 0, .slice none 0 0]) ?_ 0 _ rfl; (with_reducible repeat (first | refine blk_drewN ?_ _ | refine blk_drew ?_ | refine blk_alloc ?_ _)); exact BK195.out) Tryd.underlying24 rfl (by kernel_rfl)) rfl ?_
    exact ⟨_, by first | rfl | (simp [errW_none, errW_some] <;> rfl) | (simp [*, errW_none, errW_some] <;> rfl), by (with_reducible repeat (first | apply Kd.R_alloc | apply Kd.R_drewN | apply Kd.R_drew)); exact Kd.R_mono (Kd.R_far (p := ⟨gb195, 3, none⟩) (Kd.R_far (p := ⟨gb195, 2, none⟩) (Kd.R_far (p := ⟨gb195, 1, none⟩) (Kd.R_far (p := ⟨gb195, 0, none⟩) (Kd.R_mono HO_197003.out (fun k_ hk => (⟨hk, hk.1⟩ : _ ∧ k_ ≠ gb195))) (fun _ hk => hk.2) (.int .i64 1)) (fun _ hk => hk.2) (.string (⟨#[]⟩ : ByteArray))) (fun _ hk => hk.2) (.int .i64 0)) (fun _ hk => hk.2) (.slice Ao18 x197003_1.length co18)) (fun _ hk => trivial), bs2_ HB.out GE195.out GE196.out⟩

def vinculumlaw16_awake.f (k : Nat)  : Option (Bool) := (vinculumlaw16_symbols.f k (⟨#[120, 121]⟩ : ByteArray)).bind fun bt200 => ((vinculumlaw16_symbols.f k (⟨#[121, 122]⟩ : ByteArray)).bind fun bt206 => ((diff_Cost.f k bt200.1 bt200.2.1 bt200.2.2.1 bt200.2.2.2 bt206.1 bt206.2.1 bt206.2.2.1 bt206.2.2.2).bind fun bt212 => (if bt212.2 = 0 then (some (bt212.1 == 2)) else (some false))))
theorem vinculumlaw16_awake.mono : ∀ k, LeO (vinculumlaw16_awake.f k ) (vinculumlaw16_awake.f (k + 1) ) := by
 intro  k
 unfold vinculumlaw16_awake.f
 repeat' first
   | (with_reducible exact diff_Cost.mono _ _ _ _ _ _ _ _ _)
   | (with_reducible exact vinculumlaw16_symbols.mono _ _)
   | (with_reducible exact LeO.refl _)
   | (with_reducible exact LeO.none _)
   | (with_reducible refine LeO.ite ?_ ?_)
   | (with_reducible refine LeO.bind ?_ (fun _ => ?_))
   | exact diff_Cost.mono _ _ _ _ _ _ _ _ _
   | exact vinculumlaw16_symbols.mono _ _
   | exact LeO.none _
   | refine LeO.ite ?_ ?_
   | refine LeO.bind ?_ (fun _ => ?_)
set_option maxHeartbeats 8000000 in
set_option maxRecDepth 100000 in
theorem vinculumlaw16_awake.calls (k : Nat)  (r : Bool) (w : World) (h : vinculumlaw16_awake.f k  = some r) :
  Calls Tryd.prog 7 #[] w fun e w' => e = .returned (.bool r) ∧ Below w.heap.size w w' := by
 have HB := Aside0.mk (Below.refl w.heap.size w)
 have H : ((vinculumlaw16_symbols.f k (⟨#[120, 121]⟩ : ByteArray)).bind fun bt200 => ((vinculumlaw16_symbols.f k (⟨#[121, 122]⟩ : ByteArray)).bind fun bt206 => ((diff_Cost.f k bt200.1 bt200.2.1 bt200.2.2.1 bt200.2.2.2 bt206.1 bt206.2.1 bt206.2.2.1 bt206.2.2.2).bind fun bt212 => (if bt212.2 = 0 then (some (bt212.1 == 2)) else (some false))))) = some r := h
 clear h
 replace H := Option.bind_eq_some_iff.mp H
 obtain ⟨⟨t200, t201, t202, t203⟩, A10, H⟩ := H
 replace H : ((vinculumlaw16_symbols.f k (⟨#[121, 122]⟩ : ByteArray)).bind fun bt206 => ((diff_Cost.f k t200 t201 t202 t203 bt206.1 bt206.2.1 bt206.2.2.1 bt206.2.2.2).bind fun bt212 => (if bt212.2 = 0 then (some (bt212.1 == 2)) else (some false)))) = some r := H
 have A1 := Aside0.mk A10
 clear A10
 replace H := Option.bind_eq_some_iff.mp H
 obtain ⟨⟨t206, t207, t208, t209⟩, A20, H⟩ := H
 replace H : ((diff_Cost.f k t200 t201 t202 t203 t206 t207 t208 t209).bind fun bt212 => (if bt212.2 = 0 then (some (bt212.1 == 2)) else (some false))) = some r := H
 have A2 := Aside0.mk A20
 clear A20
 replace H := Option.bind_eq_some_iff.mp H
 obtain ⟨⟨t212, t213⟩, A30, H⟩ := H
 replace H : (if t213 = 0 then (some (t212 == 2)) else (some false)) = some r := H
 have A3 := Aside0.mk A30
 clear A30
 by_cases c4 : t213 = 0
 ·rw [if_pos c4] at H
  have c4b0 : (t213 == 0) = true := beq_iff_eq.mpr c4
  have c4b1 : (t213 != 0) = false := bne_eq_false_iff_eq.mpr c4
  clear c4
  obtain rfl := Option.some.inj H
  go_enter Tryd.func7, Tryd.ntmps7
  go_wp2_with (first | ((with_reducible refine gate_callee (f := 19) rfl ?_); refine goesL_ (some 4) rfl rfl Tryd.func19 (by kernel_rfl) rfl #[.string (⟨#[120, 121]⟩ : ByteArray)] rfl (by (try simp only [List.map_toArray, List.map_cons, List.map_nil]); first | done | rfl | (simp only [List.length_drop, List.length_take]; rfl)) ?_; (with_reducible refine (vinculumlaw16_symbols.calls k (⟨#[120, 121]⟩ : ByteArray) t200 t201 t202 t203 _ A1.out).mono ?_); rintro e w5 ⟨v204, rfl, ho0, hb⟩; refine ⟨_, rfl, ?_⟩; have n0_ := Aside0.mk (Kd.R_lower ho0 (below_size (bs0_ HB.out))); have n1_ := Aside0.mk (below_step (bs0_ HB.out) hb); clear HB; have HO205 := n0_; have HB := n1_; clear n0_ n1_; (try clear hb); (try clear hb2); (try clear hk); (try clear hi); (try clear ho0)) | ((with_reducible refine gate_callee (f := 19) rfl ?_); refine goesL_ (some 5) rfl rfl Tryd.func19 (by kernel_rfl) rfl #[.string (⟨#[121, 122]⟩ : ByteArray)] rfl (by (try simp only [List.map_toArray, List.map_cons, List.map_nil]); first | done | rfl | (simp only [List.length_drop, List.length_take]; rfl)) ?_; (with_reducible refine (vinculumlaw16_symbols.calls k (⟨#[121, 122]⟩ : ByteArray) t206 t207 t208 t209 _ A2.out).mono ?_); rintro e w6 ⟨v210, rfl, ho0, hb⟩; refine ⟨_, rfl, ?_⟩; have n0_ := Aside0.mk (Kd.R_elder' (by (with_reducible repeat (first | apply Kd.R_alloc | apply Kd.R_drewN | apply Kd.R_drew)); exact HO205.out) (Kd.R_base ho0) hb); have n1_ := Aside0.mk (Kd.R_lower (Kd.R_new' ho0 (Kd.R_lt (by (with_reducible repeat (first | apply Kd.R_alloc | apply Kd.R_drewN | apply Kd.R_drew)); exact HO205.out))) (below_size (bs0_ HB.out))); have n2_ := Aside0.mk (below_step (bs0_ HB.out) hb); clear HO205; clear HB; have HO205 := n0_; have HO211 := n1_; have HB := n2_; clear n0_ n1_ n2_; (try clear hb); (try clear hb2); (try clear hk); (try clear hi); (try clear ho0); obtain ⟨Ao7, co7, eo7⟩ := Kd.R_slice HO205.out; subst eo7; obtain ⟨Ao8, co8, eo8⟩ := Kd.R_slice HO211.out; subst eo8) | ((with_reducible refine gate_callee (f := 9) rfl ?_); refine goesL_ (some 6) rfl rfl Tryd.func9 (by kernel_rfl) rfl #[.agg #[.int .i64 t200, .string t201, .int .i64 t202, .slice Ao7 t203.length co7], .agg #[.int .i64 t206, .string t207, .int .i64 t208, .slice Ao8 t209.length co8]] rfl (by (try simp only [List.map_toArray, List.map_cons, List.map_nil]); first | done | rfl | (simp only [List.length_drop, List.length_take]; rfl)) ?_; (with_reducible refine (diff_Cost.calls k t200 t201 t202 _ _ t203 t206 t207 t208 _ _ t209 t212 t213 _ ?side1 ?side2 ?side3 ?side4 A3.out).mono ?_); (case side1 => repeat (first | exact (Kd.R_reads' HO205.out).2.2 | (with_reducible refine Kd.C_alloc ?_ _) | (with_reducible refine Kd.C_drewN ?_ _) | (with_reducible refine Kd.C_drew ?_))); (case side2 => exact (Kd.R_reads' HO205.out).2.1); (case side3 => repeat (first | exact (Kd.R_reads' HO211.out).2.2 | (with_reducible refine Kd.C_alloc ?_ _) | (with_reducible refine Kd.C_drewN ?_ _) | (with_reducible refine Kd.C_drew ?_))); (case side4 => exact (Kd.R_reads' HO211.out).2.1); rintro e w9 ⟨rfl, hb⟩; refine ⟨_, rfl, ?_⟩; have n0_ := Aside0.mk (Kd.R_below (by (with_reducible repeat (first | apply Kd.R_alloc | apply Kd.R_drewN | apply Kd.R_drew)); exact HO205.out) hb); have n1_ := Aside0.mk (Kd.R_below (by (with_reducible repeat (first | apply Kd.R_alloc | apply Kd.R_drewN | apply Kd.R_drew)); exact HO211.out) hb); have n2_ := Aside0.mk (below_step (bs0_ HB.out) hb); clear HO205; clear HO211; clear HB; have HO205 := n0_; have HO211 := n1_; have HB := n2_; clear n0_ n1_ n2_; (try clear hb); (try clear hb2); (try clear hk); (try clear hi)))
  go_ret
  exact ⟨by first | rfl | (simp [errW_none, errW_some] <;> rfl) | (simp [*, errW_none, errW_some] <;> rfl), bs0_ HB.out⟩
 ·rw [if_neg c4] at H
  have c4b0 : (t213 == 0) = false := beq_eq_false_iff_ne.mpr c4
  have c4b1 : (t213 != 0) = true := bne_iff_ne.mpr c4
  obtain rfl := Option.some.inj H
  go_enter Tryd.func7, Tryd.ntmps7
  go_wp2_with (first | ((with_reducible refine gate_callee (f := 19) rfl ?_); refine goesL_ (some 4) rfl rfl Tryd.func19 (by kernel_rfl) rfl #[.string (⟨#[120, 121]⟩ : ByteArray)] rfl (by (try simp only [List.map_toArray, List.map_cons, List.map_nil]); first | done | rfl | (simp only [List.length_drop, List.length_take]; rfl)) ?_; (with_reducible refine (vinculumlaw16_symbols.calls k (⟨#[120, 121]⟩ : ByteArray) t200 t201 t202 t203 _ A1.out).mono ?_); rintro e w10 ⟨v204, rfl, ho0, hb⟩; refine ⟨_, rfl, ?_⟩; have n0_ := Aside0.mk (Kd.R_lower ho0 (below_size (bs0_ HB.out))); have n1_ := Aside0.mk (below_step (bs0_ HB.out) hb); clear HB; have HO205 := n0_; have HB := n1_; clear n0_ n1_; (try clear hb); (try clear hb2); (try clear hk); (try clear hi); (try clear ho0)) | ((with_reducible refine gate_callee (f := 19) rfl ?_); refine goesL_ (some 5) rfl rfl Tryd.func19 (by kernel_rfl) rfl #[.string (⟨#[121, 122]⟩ : ByteArray)] rfl (by (try simp only [List.map_toArray, List.map_cons, List.map_nil]); first | done | rfl | (simp only [List.length_drop, List.length_take]; rfl)) ?_; (with_reducible refine (vinculumlaw16_symbols.calls k (⟨#[121, 122]⟩ : ByteArray) t206 t207 t208 t209 _ A2.out).mono ?_); rintro e w11 ⟨v210, rfl, ho0, hb⟩; refine ⟨_, rfl, ?_⟩; have n0_ := Aside0.mk (Kd.R_elder' (by (with_reducible repeat (first | apply Kd.R_alloc | apply Kd.R_drewN | apply Kd.R_drew)); exact HO205.out) (Kd.R_base ho0) hb); have n1_ := Aside0.mk (Kd.R_lower (Kd.R_new' ho0 (Kd.R_lt (by (with_reducible repeat (first | apply Kd.R_alloc | apply Kd.R_drewN | apply Kd.R_drew)); exact HO205.out))) (below_size (bs0_ HB.out))); have n2_ := Aside0.mk (below_step (bs0_ HB.out) hb); clear HO205; clear HB; have HO205 := n0_; have HO211 := n1_; have HB := n2_; clear n0_ n1_ n2_; (try clear hb); (try clear hb2); (try clear hk); (try clear hi); (try clear ho0); obtain ⟨Ao12, co12, eo12⟩ := Kd.R_slice HO205.out; subst eo12; obtain ⟨Ao13, co13, eo13⟩ := Kd.R_slice HO211.out; subst eo13) | ((with_reducible refine gate_callee (f := 9) rfl ?_); refine goesL_ (some 6) rfl rfl Tryd.func9 (by kernel_rfl) rfl #[.agg #[.int .i64 t200, .string t201, .int .i64 t202, .slice Ao12 t203.length co12], .agg #[.int .i64 t206, .string t207, .int .i64 t208, .slice Ao13 t209.length co13]] rfl (by (try simp only [List.map_toArray, List.map_cons, List.map_nil]); first | done | rfl | (simp only [List.length_drop, List.length_take]; rfl)) ?_; (with_reducible refine (diff_Cost.calls k t200 t201 t202 _ _ t203 t206 t207 t208 _ _ t209 t212 t213 _ ?side1 ?side2 ?side3 ?side4 A3.out).mono ?_); (case side1 => repeat (first | exact (Kd.R_reads' HO205.out).2.2 | (with_reducible refine Kd.C_alloc ?_ _) | (with_reducible refine Kd.C_drewN ?_ _) | (with_reducible refine Kd.C_drew ?_))); (case side2 => exact (Kd.R_reads' HO205.out).2.1); (case side3 => repeat (first | exact (Kd.R_reads' HO211.out).2.2 | (with_reducible refine Kd.C_alloc ?_ _) | (with_reducible refine Kd.C_drewN ?_ _) | (with_reducible refine Kd.C_drew ?_))); (case side4 => exact (Kd.R_reads' HO211.out).2.1); rintro e w14 ⟨rfl, hb⟩; refine ⟨_, rfl, ?_⟩; have n0_ := Aside0.mk (Kd.R_below (by (with_reducible repeat (first | apply Kd.R_alloc | apply Kd.R_drewN | apply Kd.R_drew)); exact HO205.out) hb); have n1_ := Aside0.mk (Kd.R_below (by (with_reducible repeat (first | apply Kd.R_alloc | apply Kd.R_drewN | apply Kd.R_drew)); exact HO211.out) hb); have n2_ := Aside0.mk (below_step (bs0_ HB.out) hb); clear HO205; clear HO211; clear HB; have HO205 := n0_; have HO211 := n1_; have HB := n2_; clear n0_ n1_ n2_; (try clear hb); (try clear hb2); (try clear hk); (try clear hi)))
  go_ret
  exact ⟨by first | rfl | (simp [errW_none, errW_some] <;> rfl) | (simp [*, errW_none, errW_some] <;> rfl), bs0_ HB.out⟩

end Go.Proofs.YtihchehmkhnhaaaDoor.A
/- Made for this claim by a program of the session: the Go functions' plain twins and their contracts. Lean checks it. -/
namespace Go.Proofs.YtihchehmkhnhaaaDoor.A
open Go.RowKit Go.Proofs.YtihchehmkhnhaaaDoorW.PrintWords Go.Proofs.YtihchehmkhnhaaaDoorW.PrintLast Go.Proofs.YtihchehmkhnhaaaDoorW.PrintMore
attribute [local go_sem] max2_int min2_int max_two min_two max_three min_three max_four min_four   -- for this text's walks alone
set_option linter.unusedVariables false
set_option linter.unusedSimpArgs false

mutual
def vinculumref09_left.l0 : Nat → Int → Int → Int → ByteArray → Int → List (S24) → Option (Int)
 | 0, _, _, _, _, _, _ => none
 | k + 1, x1, x5, x215000, x215001, x215002, x215003 => if x5 < (x215003.length : Int) then (if x1 ≥ 0 then (if 0 ≤ x5 then ((vinculumref09_left.f k ((rd_T24 x215003 x5).f0) ((rd_T24 x215003 x5).f1) ((rd_T24 x215003 x5).f2) ((rd_T24 x215003 x5).f3) x1).bind fun t216 => (vinculumref09_left.l0 k t216 (wrap64 (x5 + 1)) x215000 x215001 x215002 x215003)) else (none)) else (some x1)) else (some x1)
def vinculumref09_left.f : Nat → Int → ByteArray → Int → List (S24) → Int → Option (Int)
 | 0, _, _, _, _, _ => none
 | k + 1, a0_0, a0_1, a0_2, l0_3, a1 => vinculumref09_left.l0 k (wrap64 (a1 - 1)) 0 a0_0 a0_1 a0_2 l0_3
end
theorem vinculumref09_left.mono_l : ∀ k, (∀ y0 y1 y2 y3 y4, LeO (vinculumref09_left.f k y0 y1 y2 y3 y4) (vinculumref09_left.f (k + 1) y0 y1 y2 y3 y4)) ∧ (∀ y0 y1 y2 y3 y4 y5, LeO (vinculumref09_left.l0 k y0 y1 y2 y3 y4 y5) (vinculumref09_left.l0 (k + 1) y0 y1 y2 y3 y4 y5))
 | 0 => ⟨fun _ _ _ _ _ r h => by simp [vinculumref09_left.f] at h, fun _ _ _ _ _ _ r h => by simp [vinculumref09_left.l0] at h⟩
 | k + 1 => by
  obtain ⟨ih0, ih1⟩ := vinculumref09_left.mono_l k
  refine ⟨?_, ?_⟩
  ·intro y0 y1 y2 y3 y4
   unfold vinculumref09_left.f
   repeat' first
   | (with_reducible exact ih0 _ _ _ _ _)
   | (with_reducible exact ih1 _ _ _ _ _ _)
   | (with_reducible exact LeO.refl _)
   | (with_reducible exact LeO.none _)
   | (with_reducible refine LeO.ite ?_ ?_)
   | (with_reducible refine LeO.bind ?_ (fun _ => ?_))
   | exact ih0 _ _ _ _ _
   | exact ih1 _ _ _ _ _ _
   | exact LeO.none _
   | refine LeO.ite ?_ ?_
   | refine LeO.bind ?_ (fun _ => ?_)
  ·intro y0 y1 y2 y3 y4 y5
   unfold vinculumref09_left.l0
   repeat' first
   | (with_reducible exact ih0 _ _ _ _ _)
   | (with_reducible exact ih1 _ _ _ _ _ _)
   | (with_reducible exact LeO.refl _)
   | (with_reducible exact LeO.none _)
   | (with_reducible refine LeO.ite ?_ ?_)
   | (with_reducible refine LeO.bind ?_ (fun _ => ?_))
   | exact ih0 _ _ _ _ _
   | exact ih1 _ _ _ _ _ _
   | exact LeO.none _
   | refine LeO.ite ?_ ?_
   | refine LeO.bind ?_ (fun _ => ?_)
theorem vinculumref09_left.mono : ∀ a0 a1 a2 a3 a4 k, LeO (vinculumref09_left.f k a0 a1 a2 a3 a4) (vinculumref09_left.f (k + 1) a0 a1 a2 a3 a4) := by
 intro a0 a1 a2 a3 a4 k
 obtain ⟨ih0, ih1⟩ := vinculumref09_left.mono_l k
 exact ih0 a0 a1 a2 a3 a4
set_option maxHeartbeats 8000000 in
set_option maxRecDepth 100000 in
theorem vinculumref09_left.calls (k : Nat) : ∀ (a0_0 : Int) (a0_1 : ByteArray) (a0_2 : Int) (A0_3 : Option Addr) (c0_3 : Nat) (l0_3 : List (S24)) (a1 : Int) (r : Int) (w : World) (hr0_3 : Kd.C k24 w A0_3 l0_3.length l0_3) (hc0_3 : l0_3.length ≤ c0_3) (h : vinculumref09_left.f k a0_0 a0_1 a0_2 l0_3 a1 = some r),
  Calls Tryd.prog 26 #[.agg #[.int .i64 a0_0, .string a0_1, .int .i64 a0_2, .slice A0_3 l0_3.length c0_3], .int .i64 a1] w fun e w' => e = .returned (.int .i64 r) ∧ Below w.heap.size w w' := by
 induction k using Nat.strongRecOn with
 | _ k ih =>
 intro a0_0 a0_1 a0_2 A0_3 c0_3 l0_3 a1 r w hr0_3 hc0_3 h
 cases k with
 | zero => exact absurd h (by simp [vinculumref09_left.f])
 | succ k =>
 simp only [vinculumref09_left.f] at h
 have hu24 := Tryd.underlying24
 have HR0_3 := Aside0.mk hr0_3
 have HC0_3 := Aside0.mk hc0_3
 clear hr0_3 hc0_3
 have HB := Aside0.mk (Below.refl w.heap.size w)
 have H : (vinculumref09_left.l0 k (wrap64 (a1 - 1)) 0 a0_0 a0_1 a0_2 l0_3) = some r := h
 clear h
 have H' := Aside0.mk H
 clear H
 go_enter Tryd.func26, Tryd.ntmps26
 go_wp2_with (first | ((with_reducible refine gate_dst (N := 2) rfl ?_); refine box_event ?hg (N := 2) ?hd (cs := #[.int .i64 a0_0, .string a0_1, .int .i64 a0_2, .slice A0_3 l0_3.length c0_3]) (t := 24) ?hr ?_; (case hd => rfl); (case hg => rfl); (case hr => first | (go_simp; done) | (go_simp; rfl)); intro gb214 hg w3 hbox hb; have n0_ := Aside0.mk (below_step (bs0_ HB.out) hb); have n1_ := Aside0.mk (hbox); have n2_ := Aside0.mk ((by rw [hg]; exact (below_size (bs0_ HB.out)) : w.heap.size ≤ gb214)); have n3_ := Aside0.mk ((by rw [hg]; exact (below_size (bs0_ HB.out)) : w.heap.size ≤ gb214)); clear HB; have HB := n0_; have BK214 := n1_; have GW214 := n2_; have GE214 := n3_; clear n0_ n1_ n2_ n3_; clear hb hbox hg))
 go_loopg [1, 5] k (fun kq v1 v5 w' => ∃ (x1_1 : Int) (x5_1 : Int), v1 = .int .i64 x1_1 ∧ v5 = .int .i64 x5_1 ∧ Aside0 (vinculumref09_left.l0 kq x1_1 x5_1 a0_0 a0_1 a0_2 l0_3 = some r) ∧ Aside0 (kq ≤ k) ∧ Aside0 (w'.heap[gb214]? = some (.cells #[.int .i64 a0_0, .string a0_1, .int .i64 a0_2, (.slice A0_3 l0_3.length c0_3)] 24 (0, 0))) ∧ Aside0 (Below w.heap.size w w'))
 case atStart => exact ⟨(wrap64 (a1 - 1)), (0), (by first | rfl | (simp; done) | (simp [*]; done)), (by first | rfl | (simp; done) | (simp [*]; done)), H', ⟨Nat.le_refl _⟩, ⟨bk_ BK214.out⟩, ⟨bs1_ HB.out GE214.out⟩⟩
 case round =>
  clear H'; (try clear c2); (try clear p2)
  obtain ⟨x1_1, x5_1, rfl, rfl, HA, HK1, BK214, HB⟩ := hrel
  cases gk with
  | zero => exact absurd HA.out (by simp [vinculumref09_left.l0])
  | succ k1 =>
   have H := HA.out
   clear HA
   simp only [vinculumref09_left.l0] at H
   by_cases c4 : x5_1 < (l0_3.length : Int)
   ·rw [if_pos c4] at H
    have c4b0 : decide (x5_1 < (l0_3.length : Int)) = true := decide_eq_true c4
    clear c4
    by_cases c5 : x1_1 ≥ 0
    ·rw [if_pos c5] at H
     have c5b0 : decide (0 ≤ x1_1) = true := decide_eq_true c5
     clear c5
     by_cases c6 : 0 ≤ x5_1
     case neg =>
      rw [if_neg c6] at H
      exact absurd H (by simp)
     rw [if_pos c6] at H
     have c6b0 : decide (0 ≤ x5_1) = true := decide_eq_true c6
     clear c6
     replace H := Option.bind_eq_some_iff.mp H
     obtain ⟨t216, A70, H⟩ := H
     replace H : (vinculumref09_left.l0 k1 t216 (wrap64 (x5_1 + 1)) a0_0 a0_1 a0_2 l0_3) = some r := H
     have A7 := Aside0.mk A70
     clear A70
     have H' := Aside0.mk H
     clear H
     have hcz8_0 : wr.cell? ⟨gb214, 0, none⟩ = some (.int .i64 a0_0) := (blk_cell BK214.out 0).trans rfl
     have hcz8_1 : wr.cell? ⟨gb214, 1, none⟩ = some (.string a0_1) := (blk_cell BK214.out 1).trans rfl
     have hcz8_2 : wr.cell? ⟨gb214, 2, none⟩ = some (.int .i64 a0_2) := (blk_cell BK214.out 2).trans rfl
     have hcz8_3 : wr.cell? ⟨gb214, 3, none⟩ = some (.slice A0_3 l0_3.length c0_3) := (blk_cell BK214.out 3).trans rfl
     have hfz8_0 := blk_frozen BK214.out 0
     have hfz8_1 := blk_frozen BK214.out 1
     have hfz8_2 := blk_frozen BK214.out 2
     have hfz8_3 := blk_frozen BK214.out 3
     have p215 : 0 ≤ (x5_1 : Int) := of_decide_eq_true (by first | (with_reducible assumption) | assumption)
     have q215 : x5_1 < (l0_3.length : Int) := of_decide_eq_true (by first | (with_reducible assumption) | assumption)
     obtain ⟨ad215, A215_3, c215_3, e215, hx215_0, hx215_1, hx215_2, hx215_3, hl215_3, hi215_3⟩ := at_T24 HR0_3.out x5_1 p215 q215
     cases e215
     replace hx215_0 := (cl_ HB.out hx215_0).trans hx215_0
     replace hx215_1 := (cl_ HB.out hx215_1).trans hx215_1
     replace hx215_2 := (cl_ HB.out hx215_2).trans hx215_2
     replace hx215_3 := (cl_ HB.out hx215_3).trans hx215_3
     have HR215_3 := Aside0.mk hi215_3
     have HC215_3 := Aside0.mk hl215_3
     clear hi215_3 hl215_3
     replace p215 := eq_true p215
     replace q215 := eq_true q215
     go_wp2_with (first | ((with_reducible refine gate_callee (f := 26) rfl ?_); refine goesL_ (some 25) rfl rfl Tryd.func26 (by kernel_rfl) rfl #[.agg #[.int .i64 ((rd_T24 l0_3 x5_1).f0), .string ((rd_T24 l0_3 x5_1).f1), .int .i64 ((rd_T24 l0_3 x5_1).f2), .slice A215_3 ((rd_T24 l0_3 x5_1).f3).length c215_3], .int .i64 x1_1] rfl (by (try simp only [List.map_toArray, List.map_cons, List.map_nil]); first | done | rfl | (simp only [List.length_drop, List.length_take]; rfl)) ?_; (with_reducible refine (ih k1 (by have := HK1.out; omega) ((rd_T24 l0_3 x5_1).f0) ((rd_T24 l0_3 x5_1).f1) ((rd_T24 l0_3 x5_1).f2) _ _ ((rd_T24 l0_3 x5_1).f3) x1_1 t216 _ ?side1 ?side2 A7.out).mono ?_); (case side1 => exact kc_ HR215_3.out HB.out); (case side2 => exact HC215_3.out); rintro e w9 ⟨rfl, hb⟩; refine ⟨_, rfl, ?_⟩; have n0_ := Aside0.mk (blk_below (g := gb214) (o := .cells #[.int .i64 a0_0, .string a0_1, .int .i64 a0_2, .slice (some ad215) l0_3.length c0_3] 24 (0, 0)) (bk_ BK214.out) hb); have n1_ := Aside0.mk (below_step (bs1_ HB.out GE214.out) hb); clear BK214; clear HB; have BK214 := n0_; have HB := n1_; clear n0_ n1_; (try clear hb); (try clear hb2); (try clear hk); (try clear hi)))
     go_roundg k1
     case measure => have := HK1.out; omega
     case rel => exact ⟨(t216), (wrap64 (x5_1 + 1)), (by first | rfl | (simp; done) | (simp [*]; done)), (by first | rfl | (simp; done) | (simp [*]; done)), H', ⟨by have := HK1.out; omega⟩, ⟨bk_ BK214.out⟩, ⟨bs1_ HB.out GE214.out⟩⟩
    ·rw [if_neg c5] at H
     have c5b0 : decide (0 ≤ x1_1) = false := decide_eq_false c5
     clear c5
     obtain rfl := Option.some.inj H
     have hcz10_0 : wr.cell? ⟨gb214, 0, none⟩ = some (.int .i64 a0_0) := (blk_cell BK214.out 0).trans rfl
     have hcz10_1 : wr.cell? ⟨gb214, 1, none⟩ = some (.string a0_1) := (blk_cell BK214.out 1).trans rfl
     have hcz10_2 : wr.cell? ⟨gb214, 2, none⟩ = some (.int .i64 a0_2) := (blk_cell BK214.out 2).trans rfl
     have hcz10_3 : wr.cell? ⟨gb214, 3, none⟩ = some (.slice A0_3 l0_3.length c0_3) := (blk_cell BK214.out 3).trans rfl
     have hfz10_0 := blk_frozen BK214.out 0
     have hfz10_1 := blk_frozen BK214.out 1
     have hfz10_2 := blk_frozen BK214.out 2
     have hfz10_3 := blk_frozen BK214.out 3
     go_wp2
     go_ret
     exact ⟨by first | rfl | (simp [errW_none, errW_some] <;> rfl) | (simp [*, errW_none, errW_some] <;> rfl), bs1_ HB.out GE214.out⟩
   ·rw [if_neg c4] at H
    have c4b0 : decide (x5_1 < (l0_3.length : Int)) = false := decide_eq_false c4
    clear c4
    obtain rfl := Option.some.inj H
    have hcz11_0 : wr.cell? ⟨gb214, 0, none⟩ = some (.int .i64 a0_0) := (blk_cell BK214.out 0).trans rfl
    have hcz11_1 : wr.cell? ⟨gb214, 1, none⟩ = some (.string a0_1) := (blk_cell BK214.out 1).trans rfl
    have hcz11_2 : wr.cell? ⟨gb214, 2, none⟩ = some (.int .i64 a0_2) := (blk_cell BK214.out 2).trans rfl
    have hcz11_3 : wr.cell? ⟨gb214, 3, none⟩ = some (.slice A0_3 l0_3.length c0_3) := (blk_cell BK214.out 3).trans rfl
    have hfz11_0 := blk_frozen BK214.out 0
    have hfz11_1 := blk_frozen BK214.out 1
    have hfz11_2 := blk_frozen BK214.out 2
    have hfz11_3 := blk_frozen BK214.out 3
    go_wp2
    go_ret
    exact ⟨by first | rfl | (simp [errW_none, errW_some] <;> rfl) | (simp [*, errW_none, errW_some] <;> rfl), bs1_ HB.out GE214.out⟩

def vinculumref09_Few.f (k : Nat) (a0_0 : Int) (a0_1 : ByteArray) (a0_2 : Int) (l0_3 : List (S24)) (a1 : Int) : Option (Bool) := (vinculumref09_left.f k a0_0 a0_1 a0_2 l0_3 a1).bind fun t218 => (some (decide (t218 ≥ 0)))
theorem vinculumref09_Few.mono : ∀ a0 a1 a2 a3 a4 k, LeO (vinculumref09_Few.f k a0 a1 a2 a3 a4) (vinculumref09_Few.f (k + 1) a0 a1 a2 a3 a4) := by
 intro a0 a1 a2 a3 a4 k
 unfold vinculumref09_Few.f
 repeat' first
   | (with_reducible exact vinculumref09_left.mono _ _ _ _ _ _)
   | (with_reducible exact LeO.refl _)
   | (with_reducible exact LeO.none _)
   | (with_reducible refine LeO.ite ?_ ?_)
   | (with_reducible refine LeO.bind ?_ (fun _ => ?_))
   | exact vinculumref09_left.mono _ _ _ _ _ _
   | exact LeO.none _
   | refine LeO.ite ?_ ?_
   | refine LeO.bind ?_ (fun _ => ?_)
set_option maxHeartbeats 8000000 in
set_option maxRecDepth 100000 in
theorem vinculumref09_Few.calls (k : Nat) (a0_0 : Int) (a0_1 : ByteArray) (a0_2 : Int) (A0_3 : Option Addr) (c0_3 : Nat) (l0_3 : List (S24)) (a1 : Int) (r : Bool) (w : World) (hr0_3 : Kd.C k24 w A0_3 l0_3.length l0_3) (hc0_3 : l0_3.length ≤ c0_3) (h : vinculumref09_Few.f k a0_0 a0_1 a0_2 l0_3 a1 = some r) :
  Calls Tryd.prog 12 #[.agg #[.int .i64 a0_0, .string a0_1, .int .i64 a0_2, .slice A0_3 l0_3.length c0_3], .int .i64 a1] w fun e w' => e = .returned (.bool r) ∧ Below w.heap.size w w' := by
 have hu24 := Tryd.underlying24
 have HR0_3 := Aside0.mk hr0_3
 have HC0_3 := Aside0.mk hc0_3
 clear hr0_3 hc0_3
 have HB := Aside0.mk (Below.refl w.heap.size w)
 have H : ((vinculumref09_left.f k a0_0 a0_1 a0_2 l0_3 a1).bind fun t218 => (some (decide (t218 ≥ 0)))) = some r := h
 clear h
 replace H := Option.bind_eq_some_iff.mp H
 obtain ⟨t218, A30, H⟩ := H
 replace H : (some (decide (t218 ≥ 0))) = some r := H
 have A3 := Aside0.mk A30
 clear A30
 obtain rfl := Option.some.inj H
 go_enter Tryd.func12, Tryd.ntmps12
 go_wp2_with (first | ((with_reducible refine gate_dst (N := 2) rfl ?_); refine box_event ?hg (N := 2) ?hd (cs := #[.int .i64 a0_0, .string a0_1, .int .i64 a0_2, .slice A0_3 l0_3.length c0_3]) (t := 24) ?hr ?_; (case hd => rfl); (case hg => rfl); (case hr => first | (go_simp; done) | (go_simp; rfl)); intro gb217 hg w4 hbox hb; have n0_ := Aside0.mk (below_step (bs0_ HB.out) hb); have n1_ := Aside0.mk (hbox); have n2_ := Aside0.mk ((by rw [hg]; exact (below_size (bs0_ HB.out)) : w.heap.size ≤ gb217)); have n3_ := Aside0.mk ((by rw [hg]; exact (below_size (bs0_ HB.out)) : w.heap.size ≤ gb217)); clear HB; have HB := n0_; have BK217 := n1_; have GW217 := n2_; have GE217 := n3_; clear n0_ n1_ n2_ n3_; clear hb hbox hg; have hcz5_0 : w4.cell? ⟨gb217, 0, none⟩ = some (.int .i64 a0_0) := (blk_cell BK217.out 0).trans rfl; have hcz5_1 : w4.cell? ⟨gb217, 1, none⟩ = some (.string a0_1) := (blk_cell BK217.out 1).trans rfl; have hcz5_2 : w4.cell? ⟨gb217, 2, none⟩ = some (.int .i64 a0_2) := (blk_cell BK217.out 2).trans rfl; have hcz5_3 : w4.cell? ⟨gb217, 3, none⟩ = some (.slice A0_3 l0_3.length c0_3) := (blk_cell BK217.out 3).trans rfl; have hfz5_0 := blk_frozen BK217.out 0; have hfz5_1 := blk_frozen BK217.out 1; have hfz5_2 := blk_frozen BK217.out 2; have hfz5_3 := blk_frozen BK217.out 3) | ((with_reducible refine gate_callee (f := 26) rfl ?_); refine goesL_ (some 7) rfl rfl Tryd.func26 (by kernel_rfl) rfl #[.agg #[.int .i64 a0_0, .string a0_1, .int .i64 a0_2, .slice A0_3 l0_3.length c0_3], .int .i64 a1] rfl (by (try simp only [List.map_toArray, List.map_cons, List.map_nil]); first | done | rfl | (simp only [List.length_drop, List.length_take]; rfl)) ?_; (with_reducible refine (vinculumref09_left.calls k a0_0 a0_1 a0_2 _ _ l0_3 a1 t218 _ ?side1 ?side2 A3.out).mono ?_); (case side1 => exact kc_ HR0_3.out HB.out); (case side2 => exact HC0_3.out); rintro e w6 ⟨rfl, hb⟩; refine ⟨_, rfl, ?_⟩; have n0_ := Aside0.mk (blk_below (g := gb217) (o := .cells #[.int .i64 a0_0, .string a0_1, .int .i64 a0_2, .slice A0_3 l0_3.length c0_3] 24 (0, 0)) (bk_ BK217.out) hb); have n1_ := Aside0.mk (below_step (bs1_ HB.out GE217.out) hb); clear BK217; clear HB; have BK217 := n0_; have HB := n1_; clear n0_ n1_; (try clear hb); (try clear hb2); (try clear hk); (try clear hi)))
 go_ret
 exact ⟨by first | rfl | (simp [errW_none, errW_some] <;> rfl) | (simp [*, errW_none, errW_some] <;> rfl), bs1_ HB.out GE217.out⟩

mutual
def vinculumref09_Count.l0 : Nat → Int → Int → Int → ByteArray → Int → List (S24) → Option (Int)
 | 0, _, _, _, _, _, _ => none
 | k + 1, x3, x4, x220000, x220001, x220002, x220003 => if x4 < (x220003.length : Int) then (if 0 ≤ x4 then ((vinculumref09_Count.f k ((rd_T24 x220003 x4).f0) ((rd_T24 x220003 x4).f1) ((rd_T24 x220003 x4).f2) ((rd_T24 x220003 x4).f3)).bind fun t221 => (vinculumref09_Count.l0 k (wrap64 (x3 + t221)) (wrap64 (x4 + 1)) x220000 x220001 x220002 x220003)) else (none)) else (some x3)
def vinculumref09_Count.f : Nat → Int → ByteArray → Int → List (S24) → Option (Int)
 | 0, _, _, _, _ => none
 | k + 1, a0_0, a0_1, a0_2, l0_3 => vinculumref09_Count.l0 k 1 0 a0_0 a0_1 a0_2 l0_3
end
theorem vinculumref09_Count.mono_l : ∀ k, (∀ y0 y1 y2 y3, LeO (vinculumref09_Count.f k y0 y1 y2 y3) (vinculumref09_Count.f (k + 1) y0 y1 y2 y3)) ∧ (∀ y0 y1 y2 y3 y4 y5, LeO (vinculumref09_Count.l0 k y0 y1 y2 y3 y4 y5) (vinculumref09_Count.l0 (k + 1) y0 y1 y2 y3 y4 y5))
 | 0 => ⟨fun _ _ _ _ r h => by simp [vinculumref09_Count.f] at h, fun _ _ _ _ _ _ r h => by simp [vinculumref09_Count.l0] at h⟩
 | k + 1 => by
  obtain ⟨ih0, ih1⟩ := vinculumref09_Count.mono_l k
  refine ⟨?_, ?_⟩
  ·intro y0 y1 y2 y3
   unfold vinculumref09_Count.f
   repeat' first
   | (with_reducible exact ih0 _ _ _ _)
   | (with_reducible exact ih1 _ _ _ _ _ _)
   | (with_reducible exact LeO.refl _)
   | (with_reducible exact LeO.none _)
   | (with_reducible refine LeO.ite ?_ ?_)
   | (with_reducible refine LeO.bind ?_ (fun _ => ?_))
   | exact ih0 _ _ _ _
   | exact ih1 _ _ _ _ _ _
   | exact LeO.none _
   | refine LeO.ite ?_ ?_
   | refine LeO.bind ?_ (fun _ => ?_)
  ·intro y0 y1 y2 y3 y4 y5
   unfold vinculumref09_Count.l0
   repeat' first
   | (with_reducible exact ih0 _ _ _ _)
   | (with_reducible exact ih1 _ _ _ _ _ _)
   | (with_reducible exact LeO.refl _)
   | (with_reducible exact LeO.none _)
   | (with_reducible refine LeO.ite ?_ ?_)
   | (with_reducible refine LeO.bind ?_ (fun _ => ?_))
   | exact ih0 _ _ _ _
   | exact ih1 _ _ _ _ _ _
   | exact LeO.none _
   | refine LeO.ite ?_ ?_
   | refine LeO.bind ?_ (fun _ => ?_)
theorem vinculumref09_Count.mono : ∀ a0 a1 a2 a3 k, LeO (vinculumref09_Count.f k a0 a1 a2 a3) (vinculumref09_Count.f (k + 1) a0 a1 a2 a3) := by
 intro a0 a1 a2 a3 k
 obtain ⟨ih0, ih1⟩ := vinculumref09_Count.mono_l k
 exact ih0 a0 a1 a2 a3
set_option maxHeartbeats 8000000 in
set_option maxRecDepth 100000 in
theorem vinculumref09_Count.calls (k : Nat) : ∀ (a0_0 : Int) (a0_1 : ByteArray) (a0_2 : Int) (A0_3 : Option Addr) (c0_3 : Nat) (l0_3 : List (S24)) (r : Int) (w : World) (hr0_3 : Kd.C k24 w A0_3 l0_3.length l0_3) (hc0_3 : l0_3.length ≤ c0_3) (h : vinculumref09_Count.f k a0_0 a0_1 a0_2 l0_3 = some r),
  Calls Tryd.prog 23 #[.agg #[.int .i64 a0_0, .string a0_1, .int .i64 a0_2, .slice A0_3 l0_3.length c0_3]] w fun e w' => e = .returned (.int .i64 r) ∧ Below w.heap.size w w' := by
 induction k using Nat.strongRecOn with
 | _ k ih =>
 intro a0_0 a0_1 a0_2 A0_3 c0_3 l0_3 r w hr0_3 hc0_3 h
 cases k with
 | zero => exact absurd h (by simp [vinculumref09_Count.f])
 | succ k =>
 simp only [vinculumref09_Count.f] at h
 have hu24 := Tryd.underlying24
 have HR0_3 := Aside0.mk hr0_3
 have HC0_3 := Aside0.mk hc0_3
 clear hr0_3 hc0_3
 have HB := Aside0.mk (Below.refl w.heap.size w)
 have H : (vinculumref09_Count.l0 k 1 0 a0_0 a0_1 a0_2 l0_3) = some r := h
 clear h
 have H' := Aside0.mk H
 clear H
 go_enter Tryd.func23, Tryd.ntmps23
 go_wp2_with (first | ((with_reducible refine gate_dst (N := 1) rfl ?_); refine box_event ?hg (N := 1) ?hd (cs := #[.int .i64 a0_0, .string a0_1, .int .i64 a0_2, .slice A0_3 l0_3.length c0_3]) (t := 24) ?hr ?_; (case hd => rfl); (case hg => rfl); (case hr => first | (go_simp; done) | (go_simp; rfl)); intro gb219 hg w2 hbox hb; have n0_ := Aside0.mk (below_step (bs0_ HB.out) hb); have n1_ := Aside0.mk (hbox); have n2_ := Aside0.mk ((by rw [hg]; exact (below_size (bs0_ HB.out)) : w.heap.size ≤ gb219)); have n3_ := Aside0.mk ((by rw [hg]; exact (below_size (bs0_ HB.out)) : w.heap.size ≤ gb219)); clear HB; have HB := n0_; have BK219 := n1_; have GW219 := n2_; have GE219 := n3_; clear n0_ n1_ n2_ n3_; clear hb hbox hg))
 go_loopg [3, 4] k (fun kq v3 v4 w' => ∃ (x3_1 : Int) (x4_1 : Int), v3 = .int .i64 x3_1 ∧ v4 = .int .i64 x4_1 ∧ Aside0 (vinculumref09_Count.l0 kq x3_1 x4_1 a0_0 a0_1 a0_2 l0_3 = some r) ∧ Aside0 (kq ≤ k) ∧ Aside0 (w'.heap[gb219]? = some (.cells #[.int .i64 a0_0, .string a0_1, .int .i64 a0_2, (.slice A0_3 l0_3.length c0_3)] 24 (0, 0))) ∧ Aside0 (Below w.heap.size w w'))
 case atStart => exact ⟨(1), (0), (by first | rfl | (simp; done) | (simp [*]; done)), (by first | rfl | (simp; done) | (simp [*]; done)), H', ⟨Nat.le_refl _⟩, ⟨bk_ BK219.out⟩, ⟨bs1_ HB.out GE219.out⟩⟩
 case round =>
  clear H'; (try clear c2); (try clear p2)
  obtain ⟨x3_1, x4_1, rfl, rfl, HA, HK1, BK219, HB⟩ := hrel
  cases gk with
  | zero => exact absurd HA.out (by simp [vinculumref09_Count.l0])
  | succ k1 =>
   have H := HA.out
   clear HA
   simp only [vinculumref09_Count.l0] at H
   by_cases c3 : x4_1 < (l0_3.length : Int)
   ·rw [if_pos c3] at H
    have c3b0 : decide (x4_1 < (l0_3.length : Int)) = true := decide_eq_true c3
    clear c3
    by_cases c4 : 0 ≤ x4_1
    case neg =>
     rw [if_neg c4] at H
     exact absurd H (by simp)
    rw [if_pos c4] at H
    have c4b0 : decide (0 ≤ x4_1) = true := decide_eq_true c4
    clear c4
    replace H := Option.bind_eq_some_iff.mp H
    obtain ⟨t221, A50, H⟩ := H
    replace H : (vinculumref09_Count.l0 k1 (wrap64 (x3_1 + t221)) (wrap64 (x4_1 + 1)) a0_0 a0_1 a0_2 l0_3) = some r := H
    have A5 := Aside0.mk A50
    clear A50
    have H' := Aside0.mk H
    clear H
    have hcz6_0 : wr.cell? ⟨gb219, 0, none⟩ = some (.int .i64 a0_0) := (blk_cell BK219.out 0).trans rfl
    have hcz6_1 : wr.cell? ⟨gb219, 1, none⟩ = some (.string a0_1) := (blk_cell BK219.out 1).trans rfl
    have hcz6_2 : wr.cell? ⟨gb219, 2, none⟩ = some (.int .i64 a0_2) := (blk_cell BK219.out 2).trans rfl
    have hcz6_3 : wr.cell? ⟨gb219, 3, none⟩ = some (.slice A0_3 l0_3.length c0_3) := (blk_cell BK219.out 3).trans rfl
    have hfz6_0 := blk_frozen BK219.out 0
    have hfz6_1 := blk_frozen BK219.out 1
    have hfz6_2 := blk_frozen BK219.out 2
    have hfz6_3 := blk_frozen BK219.out 3
    have p220 : 0 ≤ (x4_1 : Int) := of_decide_eq_true (by first | (with_reducible assumption) | assumption)
    have q220 : x4_1 < (l0_3.length : Int) := of_decide_eq_true (by first | (with_reducible assumption) | assumption)
    obtain ⟨ad220, A220_3, c220_3, e220, hx220_0, hx220_1, hx220_2, hx220_3, hl220_3, hi220_3⟩ := at_T24 HR0_3.out x4_1 p220 q220
    cases e220
    replace hx220_0 := (cl_ HB.out hx220_0).trans hx220_0
    replace hx220_1 := (cl_ HB.out hx220_1).trans hx220_1
    replace hx220_2 := (cl_ HB.out hx220_2).trans hx220_2
    replace hx220_3 := (cl_ HB.out hx220_3).trans hx220_3
    have HR220_3 := Aside0.mk hi220_3
    have HC220_3 := Aside0.mk hl220_3
    clear hi220_3 hl220_3
    replace p220 := eq_true p220
    replace q220 := eq_true q220
    go_wp2_with (first | ((with_reducible refine gate_callee (f := 23) rfl ?_); refine goesL_ (some 18) rfl rfl Tryd.func23 (by kernel_rfl) rfl #[.agg #[.int .i64 ((rd_T24 l0_3 x4_1).f0), .string ((rd_T24 l0_3 x4_1).f1), .int .i64 ((rd_T24 l0_3 x4_1).f2), .slice A220_3 ((rd_T24 l0_3 x4_1).f3).length c220_3]] rfl (by (try simp only [List.map_toArray, List.map_cons, List.map_nil]); first | done | rfl | (simp only [List.length_drop, List.length_take]; rfl)) ?_; (with_reducible refine (ih k1 (by have := HK1.out; omega) ((rd_T24 l0_3 x4_1).f0) ((rd_T24 l0_3 x4_1).f1) ((rd_T24 l0_3 x4_1).f2) _ _ ((rd_T24 l0_3 x4_1).f3) t221 _ ?side1 ?side2 A5.out).mono ?_); (case side1 => exact kc_ HR220_3.out HB.out); (case side2 => exact HC220_3.out); rintro e w7 ⟨rfl, hb⟩; refine ⟨_, rfl, ?_⟩; have n0_ := Aside0.mk (blk_below (g := gb219) (o := .cells #[.int .i64 a0_0, .string a0_1, .int .i64 a0_2, .slice (some ad220) l0_3.length c0_3] 24 (0, 0)) (bk_ BK219.out) hb); have n1_ := Aside0.mk (below_step (bs1_ HB.out GE219.out) hb); clear BK219; clear HB; have BK219 := n0_; have HB := n1_; clear n0_ n1_; (try clear hb); (try clear hb2); (try clear hk); (try clear hi)))
    go_roundg k1
    case measure => have := HK1.out; omega
    case rel => exact ⟨(wrap64 (x3_1 + t221)), (wrap64 (x4_1 + 1)), (by first | rfl | (simp; done) | (simp [*]; done)), (by first | rfl | (simp; done) | (simp [*]; done)), H', ⟨by have := HK1.out; omega⟩, ⟨bk_ BK219.out⟩, ⟨bs1_ HB.out GE219.out⟩⟩
   ·rw [if_neg c3] at H
    have c3b0 : decide (x4_1 < (l0_3.length : Int)) = false := decide_eq_false c3
    clear c3
    obtain rfl := Option.some.inj H
    have hcz8_0 : wr.cell? ⟨gb219, 0, none⟩ = some (.int .i64 a0_0) := (blk_cell BK219.out 0).trans rfl
    have hcz8_1 : wr.cell? ⟨gb219, 1, none⟩ = some (.string a0_1) := (blk_cell BK219.out 1).trans rfl
    have hcz8_2 : wr.cell? ⟨gb219, 2, none⟩ = some (.int .i64 a0_2) := (blk_cell BK219.out 2).trans rfl
    have hcz8_3 : wr.cell? ⟨gb219, 3, none⟩ = some (.slice A0_3 l0_3.length c0_3) := (blk_cell BK219.out 3).trans rfl
    have hfz8_0 := blk_frozen BK219.out 0
    have hfz8_1 := blk_frozen BK219.out 1
    have hfz8_2 := blk_frozen BK219.out 2
    have hfz8_3 := blk_frozen BK219.out 3
    go_wp2
    go_ret
    exact ⟨by first | rfl | (simp [errW_none, errW_some] <;> rfl) | (simp [*, errW_none, errW_some] <;> rfl), bs1_ HB.out GE219.out⟩

end Go.Proofs.YtihchehmkhnhaaaDoor.A
/- Made for this claim by a program of the session: the Go functions' plain twins and their contracts. Lean checks it. -/
namespace Go.Proofs.YtihchehmkhnhaaaDoor.A
open Go.RowKit Go.Proofs.YtihchehmkhnhaaaDoorW.PrintWords Go.Proofs.YtihchehmkhnhaaaDoorW.PrintLast Go.Proofs.YtihchehmkhnhaaaDoorW.PrintMore
attribute [local go_sem] max2_int min2_int max_two min_two max_three min_three max_four min_four   -- for this text's walks alone
set_option linter.unusedVariables false
set_option linter.unusedSimpArgs false

def vinculumlaw16_few.f (k : Nat) (a0_0 : Int) (a0_1 : ByteArray) (a0_2 : Int) (l0_3 : List (S24)) (a1_0 : Int) (a1_1 : ByteArray) (a1_2 : Int) (l1_3 : List (S24)) : Option (Bool) := (vinculumref09_Few.f k a0_0 a0_1 a0_2 l0_3 120).bind fun t248 => (if t248 = true then ((vinculumref09_Few.f k a1_0 a1_1 a1_2 l1_3 120).bind fun t249 => (some t249)) else (some false))
theorem vinculumlaw16_few.mono : ∀ a0 a1 a2 a3 a4 a5 a6 a7 k, LeO (vinculumlaw16_few.f k a0 a1 a2 a3 a4 a5 a6 a7) (vinculumlaw16_few.f (k + 1) a0 a1 a2 a3 a4 a5 a6 a7) := by
 intro a0 a1 a2 a3 a4 a5 a6 a7 k
 unfold vinculumlaw16_few.f
 repeat' first
   | (with_reducible exact vinculumref09_Few.mono _ _ _ _ _ _)
   | (with_reducible exact LeO.refl _)
   | (with_reducible exact LeO.none _)
   | (with_reducible refine LeO.ite ?_ ?_)
   | (with_reducible refine LeO.bind ?_ (fun _ => ?_))
   | exact vinculumref09_Few.mono _ _ _ _ _ _
   | exact LeO.none _
   | refine LeO.ite ?_ ?_
   | refine LeO.bind ?_ (fun _ => ?_)
set_option maxHeartbeats 8000000 in
set_option maxRecDepth 100000 in
theorem vinculumlaw16_few.calls (k : Nat) (a0_0 : Int) (a0_1 : ByteArray) (a0_2 : Int) (A0_3 : Option Addr) (c0_3 : Nat) (l0_3 : List (S24)) (a1_0 : Int) (a1_1 : ByteArray) (a1_2 : Int) (A1_3 : Option Addr) (c1_3 : Nat) (l1_3 : List (S24)) (r : Bool) (w : World) (hr0_3 : Kd.C k24 w A0_3 l0_3.length l0_3) (hc0_3 : l0_3.length ≤ c0_3) (hr1_3 : Kd.C k24 w A1_3 l1_3.length l1_3) (hc1_3 : l1_3.length ≤ c1_3) (h : vinculumlaw16_few.f k a0_0 a0_1 a0_2 l0_3 a1_0 a1_1 a1_2 l1_3 = some r) :
  Calls Tryd.prog 8 #[.agg #[.int .i64 a0_0, .string a0_1, .int .i64 a0_2, .slice A0_3 l0_3.length c0_3], .agg #[.int .i64 a1_0, .string a1_1, .int .i64 a1_2, .slice A1_3 l1_3.length c1_3]] w fun e w' => e = .returned (.bool r) ∧ Below w.heap.size w w' := by
 have hu24 := Tryd.underlying24
 have HR0_3 := Aside0.mk hr0_3
 have HC0_3 := Aside0.mk hc0_3
 clear hr0_3 hc0_3
 have HR1_3 := Aside0.mk hr1_3
 have HC1_3 := Aside0.mk hc1_3
 clear hr1_3 hc1_3
 have HB := Aside0.mk (Below.refl w.heap.size w)
 have H : ((vinculumref09_Few.f k a0_0 a0_1 a0_2 l0_3 120).bind fun t248 => (if t248 = true then ((vinculumref09_Few.f k a1_0 a1_1 a1_2 l1_3 120).bind fun t249 => (some t249)) else (some false))) = some r := h
 clear h
 replace H := Option.bind_eq_some_iff.mp H
 obtain ⟨t248, A30, H⟩ := H
 replace H : (if t248 = true then ((vinculumref09_Few.f k a1_0 a1_1 a1_2 l1_3 120).bind fun t249 => (some t249)) else (some false)) = some r := H
 have A3 := Aside0.mk A30
 clear A30
 by_cases c4 : t248 = true
 ·subst c4
  have H1 : ((vinculumref09_Few.f k a1_0 a1_1 a1_2 l1_3 120).bind fun t249 => (some t249)) = some r := by rw [if_pos rfl] at H; exact H
  clear H
  have H := H1
  clear H1
  replace H := Option.bind_eq_some_iff.mp H
  obtain ⟨t249, A50, H⟩ := H
  replace H : (some t249) = some r := H
  have A5 := Aside0.mk A50
  clear A50
  obtain rfl := Option.some.inj H
  go_enter Tryd.func8, Tryd.ntmps8
  go_wp2_with (first | ((with_reducible refine gate_dst (N := 2) rfl ?_); refine box_event ?hg (N := 2) ?hd (cs := #[.int .i64 a0_0, .string a0_1, .int .i64 a0_2, .slice A0_3 l0_3.length c0_3]) (t := 24) ?hr ?_; (case hd => rfl); (case hg => rfl); (case hr => first | (go_simp; done) | (go_simp; rfl)); intro gb246 hg w6 hbox hb; have n0_ := Aside0.mk (below_step (bs0_ HB.out) hb); have n1_ := Aside0.mk (hbox); have n2_ := Aside0.mk ((by rw [hg]; exact (below_size (bs0_ HB.out)) : w.heap.size ≤ gb246)); have n3_ := Aside0.mk ((by rw [hg]; exact (below_size (bs0_ HB.out)) : w.heap.size ≤ gb246)); clear HB; have HB := n0_; have BK246 := n1_; have GW246 := n2_; have GE246 := n3_; clear n0_ n1_ n2_ n3_; clear hb hbox hg) | ((with_reducible refine gate_dst (N := 3) rfl ?_); refine box_event ?hg (N := 3) ?hd (cs := #[.int .i64 a1_0, .string a1_1, .int .i64 a1_2, .slice A1_3 l1_3.length c1_3]) (t := 24) ?hr ?_; (case hd => rfl); (case hg => rfl); (case hr => first | (go_simp; done) | (go_simp; rfl)); intro gb247 hg w7 hbox hb; have n0_ := Aside0.mk (blk_below (g := gb246) (o := .cells #[.int .i64 a0_0, .string a0_1, .int .i64 a0_2, .slice A0_3 l0_3.length c0_3] 24 (0, 0)) (bk_ BK246.out) hb); have n1_ := Aside0.mk (below_step (bs1_ HB.out GE246.out) hb); have n2_ := Aside0.mk (hbox); have n3_ := Aside0.mk ((by rw [hg]; exact (below_size (bs1_ HB.out GE246.out)) : w.heap.size ≤ gb247)); have n4_ := Aside0.mk ((by rw [hg]; exact (below_size (bs1_ HB.out GE246.out)) : w.heap.size ≤ gb247)); have n5_ := Aside0.mk ((by rw [hg]; exact Nat.ne_of_lt (blk_lt (g := gb246) (o := .cells #[.int .i64 a0_0, .string a0_1, .int .i64 a0_2, .slice A0_3 l0_3.length c0_3] 24 (0, 0)) (bk_ BK246.out)) : gb246 ≠ gb247)); have n6_ := Aside0.mk ((by rw [hg]; exact Nat.ne_of_gt (blk_lt (g := gb246) (o := .cells #[.int .i64 a0_0, .string a0_1, .int .i64 a0_2, .slice A0_3 l0_3.length c0_3] 24 (0, 0)) (bk_ BK246.out)) : gb247 ≠ gb246)); clear BK246; clear HB; have BK246 := n0_; have HB := n1_; have BK247 := n2_; have GW247 := n3_; have GE247 := n4_; have NB246_247 := n5_; have NB247_246 := n6_; clear n0_ n1_ n2_ n3_ n4_ n5_ n6_; clear hb hbox hg; have hnb8 := NB246_247.out; have hnc8 := NB247_246.out; have hcz9_0 : w7.cell? ⟨gb246, 0, none⟩ = some (.int .i64 a0_0) := (blk_cell BK246.out 0).trans rfl; have hcz9_1 : w7.cell? ⟨gb246, 1, none⟩ = some (.string a0_1) := (blk_cell BK246.out 1).trans rfl; have hcz9_2 : w7.cell? ⟨gb246, 2, none⟩ = some (.int .i64 a0_2) := (blk_cell BK246.out 2).trans rfl; have hcz9_3 : w7.cell? ⟨gb246, 3, none⟩ = some (.slice A0_3 l0_3.length c0_3) := (blk_cell BK246.out 3).trans rfl; have hfz9_0 := blk_frozen BK246.out 0; have hfz9_1 := blk_frozen BK246.out 1; have hfz9_2 := blk_frozen BK246.out 2; have hfz9_3 := blk_frozen BK246.out 3) | ((with_reducible refine gate_callee (f := 12) rfl ?_); refine goesL_ (some 6) rfl rfl Tryd.func12 (by kernel_rfl) rfl #[.agg #[.int .i64 a0_0, .string a0_1, .int .i64 a0_2, .slice A0_3 l0_3.length c0_3], .int .i64 120] rfl (by (try simp only [List.map_toArray, List.map_cons, List.map_nil]); first | done | rfl | (simp only [List.length_drop, List.length_take]; rfl)) ?_; (with_reducible refine (vinculumref09_Few.calls k a0_0 a0_1 a0_2 _ _ l0_3 120 true _ ?side1 ?side2 A3.out).mono ?_); (case side1 => exact kc_ HR0_3.out HB.out); (case side2 => exact HC0_3.out); rintro e w10 ⟨rfl, hb⟩; refine ⟨_, rfl, ?_⟩; have n0_ := Aside0.mk (blk_below (g := gb246) (o := .cells #[.int .i64 a0_0, .string a0_1, .int .i64 a0_2, .slice A0_3 l0_3.length c0_3] 24 (0, 0)) (bk_ BK246.out) hb); have n1_ := Aside0.mk (blk_below (g := gb247) (o := .cells #[.int .i64 a1_0, .string a1_1, .int .i64 a1_2, .slice A1_3 l1_3.length c1_3] 24 (0, 0)) (bk_ BK247.out) hb); have n2_ := Aside0.mk (below_step (bs2_ HB.out GE246.out GE247.out) hb); clear BK246; clear BK247; clear HB; have BK246 := n0_; have BK247 := n1_; have HB := n2_; clear n0_ n1_ n2_; (try clear hb); (try clear hb2); (try clear hk); (try clear hi); have hcz11_0 : w10.cell? ⟨gb247, 0, none⟩ = some (.int .i64 a1_0) := (blk_cell BK247.out 0).trans rfl; have hcz11_1 : w10.cell? ⟨gb247, 1, none⟩ = some (.string a1_1) := (blk_cell BK247.out 1).trans rfl; have hcz11_2 : w10.cell? ⟨gb247, 2, none⟩ = some (.int .i64 a1_2) := (blk_cell BK247.out 2).trans rfl; have hcz11_3 : w10.cell? ⟨gb247, 3, none⟩ = some (.slice A1_3 l1_3.length c1_3) := (blk_cell BK247.out 3).trans rfl; have hfz11_0 := blk_frozen BK247.out 0; have hfz11_1 := blk_frozen BK247.out 1; have hfz11_2 := blk_frozen BK247.out 2; have hfz11_3 := blk_frozen BK247.out 3) | (go_at_call 12; (with_reducible refine (vinculumref09_Few.calls k a1_0 a1_1 a1_2 _ _ l1_3 120 t249 _ ?side1 ?side2 A5.out).mono ?_); (case side1 => exact kc_ HR1_3.out HB.out); (case side2 => exact HC1_3.out); rintro e w12 ⟨rfl, hb⟩; have n0_ := Aside0.mk (blk_below (g := gb246) (o := .cells #[.int .i64 a0_0, .string a0_1, .int .i64 a0_2, .slice A0_3 l0_3.length c0_3] 24 (0, 0)) (bk_ BK246.out) hb); have n1_ := Aside0.mk (blk_below (g := gb247) (o := .cells #[.int .i64 a1_0, .string a1_1, .int .i64 a1_2, .slice A1_3 l1_3.length c1_3] 24 (0, 0)) (bk_ BK247.out) hb); have n2_ := Aside0.mk (below_step (bs2_ HB.out GE246.out GE247.out) hb); clear BK246; clear BK247; clear HB; have BK246 := n0_; have BK247 := n1_; have HB := n2_; clear n0_ n1_ n2_; (try clear hb); (try clear hb2); (try clear hk); (try clear hi)))
  go_ret
  exact ⟨by first | rfl | (simp [errW_none, errW_some] <;> rfl) | (simp [*, errW_none, errW_some] <;> rfl), bs2_ HB.out GE246.out GE247.out⟩
 ·replace c4 := Bool.eq_false_iff.mpr c4
  subst c4
  have H1 : (some false) = some r := by rw [if_neg (show ¬ (false = true) by decide)] at H; exact H
  clear H
  have H := H1
  clear H1
  obtain rfl := Option.some.inj H
  go_enter Tryd.func8, Tryd.ntmps8
  go_wp2_with (first | ((with_reducible refine gate_dst (N := 2) rfl ?_); refine box_event ?hg (N := 2) ?hd (cs := #[.int .i64 a0_0, .string a0_1, .int .i64 a0_2, .slice A0_3 l0_3.length c0_3]) (t := 24) ?hr ?_; (case hd => rfl); (case hg => rfl); (case hr => first | (go_simp; done) | (go_simp; rfl)); intro gb246 hg w13 hbox hb; have n0_ := Aside0.mk (below_step (bs0_ HB.out) hb); have n1_ := Aside0.mk (hbox); have n2_ := Aside0.mk ((by rw [hg]; exact (below_size (bs0_ HB.out)) : w.heap.size ≤ gb246)); have n3_ := Aside0.mk ((by rw [hg]; exact (below_size (bs0_ HB.out)) : w.heap.size ≤ gb246)); clear HB; have HB := n0_; have BK246 := n1_; have GW246 := n2_; have GE246 := n3_; clear n0_ n1_ n2_ n3_; clear hb hbox hg) | ((with_reducible refine gate_dst (N := 3) rfl ?_); refine box_event ?hg (N := 3) ?hd (cs := #[.int .i64 a1_0, .string a1_1, .int .i64 a1_2, .slice A1_3 l1_3.length c1_3]) (t := 24) ?hr ?_; (case hd => rfl); (case hg => rfl); (case hr => first | (go_simp; done) | (go_simp; rfl)); intro gb247 hg w14 hbox hb; have n0_ := Aside0.mk (blk_below (g := gb246) (o := .cells #[.int .i64 a0_0, .string a0_1, .int .i64 a0_2, .slice A0_3 l0_3.length c0_3] 24 (0, 0)) (bk_ BK246.out) hb); have n1_ := Aside0.mk (below_step (bs1_ HB.out GE246.out) hb); have n2_ := Aside0.mk (hbox); have n3_ := Aside0.mk ((by rw [hg]; exact (below_size (bs1_ HB.out GE246.out)) : w.heap.size ≤ gb247)); have n4_ := Aside0.mk ((by rw [hg]; exact (below_size (bs1_ HB.out GE246.out)) : w.heap.size ≤ gb247)); have n5_ := Aside0.mk ((by rw [hg]; exact Nat.ne_of_lt (blk_lt (g := gb246) (o := .cells #[.int .i64 a0_0, .string a0_1, .int .i64 a0_2, .slice A0_3 l0_3.length c0_3] 24 (0, 0)) (bk_ BK246.out)) : gb246 ≠ gb247)); have n6_ := Aside0.mk ((by rw [hg]; exact Nat.ne_of_gt (blk_lt (g := gb246) (o := .cells #[.int .i64 a0_0, .string a0_1, .int .i64 a0_2, .slice A0_3 l0_3.length c0_3] 24 (0, 0)) (bk_ BK246.out)) : gb247 ≠ gb246)); clear BK246; clear HB; have BK246 := n0_; have HB := n1_; have BK247 := n2_; have GW247 := n3_; have GE247 := n4_; have NB246_247 := n5_; have NB247_246 := n6_; clear n0_ n1_ n2_ n3_ n4_ n5_ n6_; clear hb hbox hg; have hnb15 := NB246_247.out; have hnc15 := NB247_246.out; have hcz16_0 : w14.cell? ⟨gb246, 0, none⟩ = some (.int .i64 a0_0) := (blk_cell BK246.out 0).trans rfl; have hcz16_1 : w14.cell? ⟨gb246, 1, none⟩ = some (.string a0_1) := (blk_cell BK246.out 1).trans rfl; have hcz16_2 : w14.cell? ⟨gb246, 2, none⟩ = some (.int .i64 a0_2) := (blk_cell BK246.out 2).trans rfl; have hcz16_3 : w14.cell? ⟨gb246, 3, none⟩ = some (.slice A0_3 l0_3.length c0_3) := (blk_cell BK246.out 3).trans rfl; have hfz16_0 := blk_frozen BK246.out 0; have hfz16_1 := blk_frozen BK246.out 1; have hfz16_2 := blk_frozen BK246.out 2; have hfz16_3 := blk_frozen BK246.out 3) | ((with_reducible refine gate_callee (f := 12) rfl ?_); refine goesL_ (some 6) rfl rfl Tryd.func12 (by kernel_rfl) rfl #[.agg #[.int .i64 a0_0, .string a0_1, .int .i64 a0_2, .slice A0_3 l0_3.length c0_3], .int .i64 120] rfl (by (try simp only [List.map_toArray, List.map_cons, List.map_nil]); first | done | rfl | (simp only [List.length_drop, List.length_take]; rfl)) ?_; (with_reducible refine (vinculumref09_Few.calls k a0_0 a0_1 a0_2 _ _ l0_3 120 false _ ?side1 ?side2 A3.out).mono ?_); (case side1 => exact kc_ HR0_3.out HB.out); (case side2 => exact HC0_3.out); rintro e w17 ⟨rfl, hb⟩; refine ⟨_, rfl, ?_⟩; have n0_ := Aside0.mk (blk_below (g := gb246) (o := .cells #[.int .i64 a0_0, .string a0_1, .int .i64 a0_2, .slice A0_3 l0_3.length c0_3] 24 (0, 0)) (bk_ BK246.out) hb); have n1_ := Aside0.mk (blk_below (g := gb247) (o := .cells #[.int .i64 a1_0, .string a1_1, .int .i64 a1_2, .slice A1_3 l1_3.length c1_3] 24 (0, 0)) (bk_ BK247.out) hb); have n2_ := Aside0.mk (below_step (bs2_ HB.out GE246.out GE247.out) hb); clear BK246; clear BK247; clear HB; have BK246 := n0_; have BK247 := n1_; have HB := n2_; clear n0_ n1_ n2_; (try clear hb); (try clear hb2); (try clear hk); (try clear hi)))
  go_ret
  exact ⟨by first | rfl | (simp [errW_none, errW_some] <;> rfl) | (simp [*, errW_none, errW_some] <;> rfl), bs2_ HB.out GE246.out GE247.out⟩

def vinculumref09_In.l0 : Nat → List ByteArray → ByteArray → Int → Option (Bool)
 | 0, _, _, _ => none
 | k + 1, x0, x1, x5 => if x5 < (x0.length : Int) then (if 0 ≤ x5 then (if (rdOf ByteArray.empty x0 x5).toList = x1.toList then (some true) else (vinculumref09_In.l0 k x0 x1 (wrap64 (x5 + 1)))) else (none)) else (some false)
def vinculumref09_In.f (k : Nat) (l0 : List ByteArray) (a1 : ByteArray) : Option (Bool) := vinculumref09_In.l0 k l0 a1 0
theorem vinculumref09_In.mono_l : ∀ k, (∀ y0 y1 y2, LeO (vinculumref09_In.l0 k y0 y1 y2) (vinculumref09_In.l0 (k + 1) y0 y1 y2))
 | 0 => fun _ _ _ r h => by simp [vinculumref09_In.l0] at h
 | k + 1 => by
  have ih0 := vinculumref09_In.mono_l k
  ·intro y0 y1 y2
   unfold vinculumref09_In.l0
   repeat' first
   | (with_reducible exact ih0 _ _ _)
   | (with_reducible exact LeO.refl _)
   | (with_reducible exact LeO.none _)
   | (with_reducible refine LeO.ite ?_ ?_)
   | (with_reducible refine LeO.bind ?_ (fun _ => ?_))
   | exact ih0 _ _ _
   | exact LeO.none _
   | refine LeO.ite ?_ ?_
   | refine LeO.bind ?_ (fun _ => ?_)
theorem vinculumref09_In.mono : ∀ a0 a1 k, LeO (vinculumref09_In.f k a0 a1) (vinculumref09_In.f (k + 1) a0 a1) := by
 intro a0 a1 k
 have ih0 := vinculumref09_In.mono_l k
 unfold vinculumref09_In.f
 repeat' first
   | (with_reducible exact ih0 _ _ _)
   | (with_reducible exact LeO.refl _)
   | (with_reducible exact LeO.none _)
   | (with_reducible refine LeO.ite ?_ ?_)
   | (with_reducible refine LeO.bind ?_ (fun _ => ?_))
   | exact ih0 _ _ _
   | exact LeO.none _
   | refine LeO.ite ?_ ?_
   | refine LeO.bind ?_ (fun _ => ?_)
set_option maxHeartbeats 8000000 in
set_option maxRecDepth 100000 in
theorem vinculumref09_In.calls (k : Nat) (A0 : Option Addr) (c0 : Nat) (l0 : List ByteArray) (a1 : ByteArray) (r : Bool) (w : World) (hr0 : Kd.C Kd.string w A0 l0.length l0) (hc0 : l0.length ≤ c0) (h : vinculumref09_In.f k l0 a1 = some r) :
  Calls Tryd.prog 47 #[.slice A0 l0.length c0, .string a1] w fun e w' => e = .returned (.bool r) ∧ Drawn0 w w' := by
 have HR0 := Aside0.mk hr0
 have HC0 := Aside0.mk hc0
 clear hr0 hc0
 have H : (vinculumref09_In.l0 k l0 a1 0) = some r := h
 clear h
 have H' := Aside0.mk H
 clear H
 go_enter Tryd.func47, Tryd.ntmps47
 go_wp2
 go_loopg [5] k (fun kq v5 w' => ∃ (x5_1 : Int), v5 = .int .i64 x5_1 ∧ Aside0 (vinculumref09_In.l0 kq l0 a1 x5_1 = some r) ∧ Aside0 (kq ≤ k) ∧ Drawn0 w w')
 case atStart => exact ⟨(0), (by first | rfl | (simp; done) | (simp [*]; done)), H', ⟨Nat.le_refl _⟩, by repeat (first | exact Drawn0.refl _ | apply Drawn0.step)⟩
 case round =>
  clear H'; (try clear p2)
  obtain ⟨x5_1, rfl, HA, HK1, ⟨m1, rfl⟩⟩ := hrel
  cases gk with
  | zero => exact absurd HA.out (by simp [vinculumref09_In.l0])
  | succ k1 =>
   have H := HA.out
   clear HA
   simp only [vinculumref09_In.l0] at H
   by_cases c3 : x5_1 < (l0.length : Int)
   ·rw [if_pos c3] at H
    have c3b0 : decide (x5_1 < (l0.length : Int)) = true := decide_eq_true c3
    clear c3
    by_cases c4 : 0 ≤ x5_1
    case neg =>
     rw [if_neg c4] at H
     exact absurd H (by simp)
    rw [if_pos c4] at H
    have c4b0 : decide (0 ≤ x5_1) = true := decide_eq_true c4
    clear c4
    by_cases c5 : (rdOf ByteArray.empty l0 x5_1).toList = a1.toList
    ·rw [if_pos c5] at H
     have c5b0 : ((rdOf ByteArray.empty l0 x5_1).toList == a1.toList) = true := beq_iff_eq.mpr c5
     have c5b1 : ((rdOf ByteArray.empty l0 x5_1).toList != a1.toList) = false := bne_eq_false_iff_eq.mpr c5
     clear c5
     obtain rfl := Option.some.inj H
     have p250 : 0 ≤ (x5_1 : Int) := of_decide_eq_true (by first | (with_reducible assumption) | assumption)
     have q250 : x5_1 < (l0.length : Int) := of_decide_eq_true (by first | (with_reducible assumption) | assumption)
     obtain ⟨ad250, e250, hx250_0⟩ := Kd.at_string HR0.out x5_1 p250 q250
     cases e250
     replace p250 := eq_true p250
     replace q250 := eq_true q250
     go_wp2
     go_ret
     exact ⟨by first | rfl | (simp; done) | (simp [*]; done), by repeat (first | exact Drawn0.refl _ | apply Drawn0.step)⟩
    ·rw [if_neg c5] at H
     have c5b0 : ((rdOf ByteArray.empty l0 x5_1).toList == a1.toList) = false := beq_eq_false_iff_ne.mpr c5
     have c5b1 : ((rdOf ByteArray.empty l0 x5_1).toList != a1.toList) = true := bne_iff_ne.mpr c5
     have H' := Aside0.mk H
     clear H
     have p250 : 0 ≤ (x5_1 : Int) := of_decide_eq_true (by first | (with_reducible assumption) | assumption)
     have q250 : x5_1 < (l0.length : Int) := of_decide_eq_true (by first | (with_reducible assumption) | assumption)
     obtain ⟨ad250, e250, hx250_0⟩ := Kd.at_string HR0.out x5_1 p250 q250
     cases e250
     replace p250 := eq_true p250
     replace q250 := eq_true q250
     go_wp2
     go_roundg k1
     case measure => have := HK1.out; omega
     case rel => exact ⟨(wrap64 (x5_1 + 1)), (by first | rfl | (simp; done) | (simp [*]; done)), H', ⟨by have := HK1.out; omega⟩, by repeat (first | exact Drawn0.refl _ | apply Drawn0.step)⟩
   ·rw [if_neg c3] at H
    have c3b0 : decide (x5_1 < (l0.length : Int)) = false := decide_eq_false c3
    clear c3
    obtain rfl := Option.some.inj H
    go_wp2
    go_ret
    exact ⟨by first | rfl | (simp; done) | (simp [*]; done), by repeat (first | exact Drawn0.refl _ | apply Drawn0.step)⟩

def vinculumref09_Accents.f  : Option (List ByteArray) := some (([(⟨#[104, 97, 116]⟩ : ByteArray), (⟨#[98, 97, 114]⟩ : ByteArray), (⟨#[118, 101, 99]⟩ : ByteArray), (⟨#[100, 111, 116]⟩ : ByteArray), (⟨#[116, 105, 108, 100, 101]⟩ : ByteArray), (⟨#[99, 104, 101, 99, 107]⟩ : ByteArray)] : List ByteArray))
set_option maxHeartbeats 8000000 in
set_option maxRecDepth 100000 in
theorem vinculumref09_Accents.calls  (r : List ByteArray) (w : World) (h : vinculumref09_Accents.f  = some r) :
  Calls Tryd.prog 48 #[] w fun e w' => ∃ v0_ : Value, e = .returned (v0_) ∧ Kd.R Kd.string 9 w' w.heap.size (fun _ => True) v0_ r ∧ Below w.heap.size w w' := by
 have HB := Aside0.mk (Below.refl w.heap.size w)
 have H : (some (([(⟨#[104, 97, 116]⟩ : ByteArray), (⟨#[98, 97, 114]⟩ : ByteArray), (⟨#[118, 101, 99]⟩ : ByteArray), (⟨#[100, 111, 116]⟩ : ByteArray), (⟨#[116, 105, 108, 100, 101]⟩ : ByteArray), (⟨#[99, 104, 101, 99, 107]⟩ : ByteArray)] : List ByteArray))) = some r := h
 clear h
 obtain ⟨y251, hy251⟩ : ∃ y_ : List ByteArray, y_ = (([(⟨#[104, 97, 116]⟩ : ByteArray), (⟨#[98, 97, 114]⟩ : ByteArray), (⟨#[118, 101, 99]⟩ : ByteArray), (⟨#[100, 111, 116]⟩ : ByteArray), (⟨#[116, 105, 108, 100, 101]⟩ : ByteArray), (⟨#[99, 104, 101, 99, 107]⟩ : ByteArray)] : List ByteArray)) := ⟨_, rfl⟩
 replace H : (some y251) = some r := by first | (rw [hy251]; with_reducible exact H) | (have H2_ := (Option.bind_some _ _).symm.trans H; rw [hy251]; with_reducible exact H2_) | (have H2_ := (Option.bind_some _ _).symm.trans H; with_reducible exact H2_) | with_reducible exact H | (rw [hy251]; exact H) | exact H
 have Ny251 := Aside0.mk hy251
 clear hy251
 obtain rfl := Option.some.inj H
 go_enter Tryd.func48, Tryd.ntmps48
 go_wp2_with (first | ((with_reducible refine gate_dst (N := 1) rfl ?_); refine Kd.R_lit Kd.string _ 9 ?hg (N := 1) ?hd (xs := ([(⟨#[104, 97, 116]⟩ : ByteArray), (⟨#[98, 97, 114]⟩ : ByteArray), (⟨#[118, 101, 99]⟩ : ByteArray), (⟨#[100, 111, 116]⟩ : ByteArray), (⟨#[116, 105, 108, 100, 101]⟩ : ByteArray), (⟨#[99, 104, 101, 99, 107]⟩ : ByteArray)] : List ByteArray)) (inner := [.string (⟨#[104, 97, 116]⟩ : ByteArray), .string (⟨#[98, 97, 114]⟩ : ByteArray), .string (⟨#[118, 101, 99]⟩ : ByteArray), .string (⟨#[100, 111, 116]⟩ : ByteArray), .string (⟨#[116, 105, 108, 100, 101]⟩ : ByteArray), .string (⟨#[99, 104, 101, 99, 107]⟩ : ByteArray)]) (ok := fun _ => True) (okp := fun _ => True) ?hr ?hp (fun _ hk => hk) trivial (Below.refl _ _) (Nat.le_refl _) (by simp) ?_; (case hd => rfl); (case hg => rfl); (case hr => first | (go_simp; done) | (go_simp; rfl)); (case hp => exact (Reps.one (show Kd.M Kd.string _ _ _ (⟨#[104, 97, 116]⟩ : ByteArray) [.string (⟨#[104, 97, 116]⟩ : ByteArray)] from rfl) (Reps.one (show Kd.M Kd.string _ _ _ (⟨#[98, 97, 114]⟩ : ByteArray) [.string (⟨#[98, 97, 114]⟩ : ByteArray)] from rfl) (Reps.one (show Kd.M Kd.string _ _ _ (⟨#[118, 101, 99]⟩ : ByteArray) [.string (⟨#[118, 101, 99]⟩ : ByteArray)] from rfl) (Reps.one (show Kd.M Kd.string _ _ _ (⟨#[100, 111, 116]⟩ : ByteArray) [.string (⟨#[100, 111, 116]⟩ : ByteArray)] from rfl) (Reps.one (show Kd.M Kd.string _ _ _ (⟨#[116, 105, 108, 100, 101]⟩ : ByteArray) [.string (⟨#[116, 105, 108, 100, 101]⟩ : ByteArray)] from rfl) (Reps.one (show Kd.M Kd.string _ _ _ (⟨#[99, 104, 101, 99, 107]⟩ : ByteArray) [.string (⟨#[99, 104, 101, 99, 107]⟩ : ByteArray)] from rfl) (Reps.none _ _)))))))); intro v252 w1 ho2 hb hg_ hnew_; clear hg_ hnew_; (first | rw [← Ny251.out] at ho2 | (simp only [Int.reduceToNat] at ho2; rw [← Ny251.out] at ho2)); have n0_ := Aside0.mk (Kd.R_lower ho2 (below_size (bs0_ HB.out))); have n1_ := Aside0.mk (below_step (bs0_ HB.out) hb); clear HB; have HO253 := n0_; have HB := n1_; clear n0_ n1_; clear hb ho2))
 go_ret
 exact ⟨_, by first | rfl | (simp [errW_none, errW_some] <;> rfl) | (simp [*, errW_none, errW_some] <;> rfl), by (with_reducible repeat (first | apply Kd.R_alloc | apply Kd.R_drewN | apply Kd.R_drew)); exact HO253.out, bs0_ HB.out⟩

end Go.Proofs.YtihchehmkhnhaaaDoor.A
/- Made for this claim by a program of the session: the Go functions' plain twins and their contracts. Lean checks it. -/
namespace Go.Proofs.YtihchehmkhnhaaaDoor.A
open Go.RowKit Go.Proofs.YtihchehmkhnhaaaDoorW.PrintWords Go.Proofs.YtihchehmkhnhaaaDoorW.PrintLast Go.Proofs.YtihchehmkhnhaaaDoorW.PrintMore
attribute [local go_sem] max2_int min2_int max_two min_two max_three min_three max_four min_four   -- for this text's walks alone
set_option linter.unusedVariables false
set_option linter.unusedSimpArgs false

def vinculumref09_has.l0 : Nat → ByteArray → Int → Int → Option (Bool)
 | 0, _, _, _ => none
 | k + 1, x0, x1, x5 => if x5 < (x0.size : Int) then (if 0 ≤ x5 then (if (bt x0 x5) = x1 then (some true) else (vinculumref09_has.l0 k x0 x1 (wrap64 (x5 + 1)))) else (none)) else (some false)
def vinculumref09_has.f (k : Nat) (a0 : ByteArray) (a1 : Int) : Option (Bool) := vinculumref09_has.l0 k a0 a1 0
theorem vinculumref09_has.mono_l : ∀ k, (∀ y0 y1 y2, LeO (vinculumref09_has.l0 k y0 y1 y2) (vinculumref09_has.l0 (k + 1) y0 y1 y2))
 | 0 => fun _ _ _ r h => by simp [vinculumref09_has.l0] at h
 | k + 1 => by
  have ih0 := vinculumref09_has.mono_l k
  ·intro y0 y1 y2
   unfold vinculumref09_has.l0
   repeat' first
   | (with_reducible exact ih0 _ _ _)
   | (with_reducible exact LeO.refl _)
   | (with_reducible exact LeO.none _)
   | (with_reducible refine LeO.ite ?_ ?_)
   | (with_reducible refine LeO.bind ?_ (fun _ => ?_))
   | exact ih0 _ _ _
   | exact LeO.none _
   | refine LeO.ite ?_ ?_
   | refine LeO.bind ?_ (fun _ => ?_)
theorem vinculumref09_has.mono : ∀ a0 a1 k, LeO (vinculumref09_has.f k a0 a1) (vinculumref09_has.f (k + 1) a0 a1) := by
 intro a0 a1 k
 have ih0 := vinculumref09_has.mono_l k
 unfold vinculumref09_has.f
 repeat' first
   | (with_reducible exact ih0 _ _ _)
   | (with_reducible exact LeO.refl _)
   | (with_reducible exact LeO.none _)
   | (with_reducible refine LeO.ite ?_ ?_)
   | (with_reducible refine LeO.bind ?_ (fun _ => ?_))
   | exact ih0 _ _ _
   | exact LeO.none _
   | refine LeO.ite ?_ ?_
   | refine LeO.bind ?_ (fun _ => ?_)
set_option maxHeartbeats 8000000 in
set_option maxRecDepth 100000 in
theorem vinculumref09_has.calls (k : Nat) (a0 : ByteArray) (a1 : Int) (r : Bool) (w : World) (h : vinculumref09_has.f k a0 a1 = some r) :
  Calls Tryd.prog 49 #[.string a0, .int .u8 a1] w fun e w' => e = .returned (.bool r) ∧ Drawn0 w w' := by
 have H : (vinculumref09_has.l0 k a0 a1 0) = some r := h
 clear h
 have H' := Aside0.mk H
 clear H
 go_enter Tryd.func49, Tryd.ntmps49
 go_wp2
 go_loopg [5] k (fun kq v5 w' => ∃ (x5_1 : Int), v5 = .int .i64 x5_1 ∧ Aside0 (vinculumref09_has.l0 kq a0 a1 x5_1 = some r) ∧ Aside0 (kq ≤ k) ∧ Drawn0 w w')
 case atStart => exact ⟨(0), (by first | rfl | (simp; done) | (simp [*]; done)), H', ⟨Nat.le_refl _⟩, by repeat (first | exact Drawn0.refl _ | apply Drawn0.step)⟩
 case round =>
  clear H'; (try clear p2)
  obtain ⟨x5_1, rfl, HA, HK1, ⟨m1, rfl⟩⟩ := hrel
  cases gk with
  | zero => exact absurd HA.out (by simp [vinculumref09_has.l0])
  | succ k1 =>
   have H := HA.out
   clear HA
   simp only [vinculumref09_has.l0] at H
   by_cases c3 : x5_1 < (a0.size : Int)
   ·rw [if_pos c3] at H
    have c3b0 : decide (x5_1 < (a0.size : Int)) = true := decide_eq_true c3
    clear c3
    by_cases c4 : 0 ≤ x5_1
    case neg =>
     rw [if_neg c4] at H
     exact absurd H (by simp)
    rw [if_pos c4] at H
    have c4b0 : decide (0 ≤ x5_1) = true := decide_eq_true c4
    clear c4
    by_cases c6 : (bt a0 x5_1) = a1
    ·rw [if_pos c6] at H
     have c6b0 : ((bt a0 x5_1) == a1) = true := beq_iff_eq.mpr c6
     have c6b1 : ((bt a0 x5_1) != a1) = false := bne_eq_false_iff_eq.mpr c6
     clear c6
     obtain rfl := Option.some.inj H
     have p5 : 0 ≤ (x5_1 : Int) := of_decide_eq_true (by first | (with_reducible assumption) | assumption)
     have q5 : x5_1 < (a0.size : Int) := of_decide_eq_true (by first | (with_reducible assumption) | assumption)
     have hx5 := bt_at a0 x5_1
     replace p5 := eq_true p5
     replace q5 := eq_true q5
     go_wp2
     go_ret
     exact ⟨by first | rfl | (simp; done) | (simp [*]; done), by repeat (first | exact Drawn0.refl _ | apply Drawn0.step)⟩
    ·rw [if_neg c6] at H
     have c6b0 : ((bt a0 x5_1) == a1) = false := beq_eq_false_iff_ne.mpr c6
     have c6b1 : ((bt a0 x5_1) != a1) = true := bne_iff_ne.mpr c6
     have H' := Aside0.mk H
     clear H
     have p5 : 0 ≤ (x5_1 : Int) := of_decide_eq_true (by first | (with_reducible assumption) | assumption)
     have q5 : x5_1 < (a0.size : Int) := of_decide_eq_true (by first | (with_reducible assumption) | assumption)
     have hx5 := bt_at a0 x5_1
     replace p5 := eq_true p5
     replace q5 := eq_true q5
     go_wp2
     go_roundg k1
     case measure => have := HK1.out; omega
     case rel => exact ⟨(wrap64 (x5_1 + 1)), (by first | rfl | (simp; done) | (simp [*]; done)), H', ⟨by have := HK1.out; omega⟩, by repeat (first | exact Drawn0.refl _ | apply Drawn0.step)⟩
   ·rw [if_neg c3] at H
    have c3b0 : decide (x5_1 < (a0.size : Int)) = false := decide_eq_false c3
    clear c3
    obtain rfl := Option.some.inj H
    go_wp2
    go_ret
    exact ⟨by first | rfl | (simp; done) | (simp [*]; done), by repeat (first | exact Drawn0.refl _ | apply Drawn0.step)⟩

def vinculumref09_Letter.f (a0 : Int) : Option (Bool) := if a0 ≥ 97 then (if a0 ≤ 122 then (some true) else (if a0 ≥ 65 then (some (decide (a0 ≤ 90))) else (some false))) else (if a0 ≥ 65 then (some (decide (a0 ≤ 90))) else (some false))
set_option maxHeartbeats 8000000 in
set_option maxRecDepth 100000 in
theorem vinculumref09_Letter.calls (a0 : Int) (r : Bool) (w : World) (h : vinculumref09_Letter.f a0 = some r) :
  Calls Tryd.prog 64 #[.int .u8 a0] w fun e w' => e = .returned (.bool r) ∧ Drawn0 w w' := by
 have H : (if a0 ≥ 97 then (if a0 ≤ 122 then (some true) else (if a0 ≥ 65 then (some (decide (a0 ≤ 90))) else (some false))) else (if a0 ≥ 65 then (some (decide (a0 ≤ 90))) else (some false))) = some r := h
 clear h
 by_cases c2 : a0 ≥ 97
 ·rw [if_pos c2] at H
  have c2b0 : decide (97 ≤ a0) = true := decide_eq_true c2
  clear c2
  by_cases c3 : a0 ≤ 122
  ·rw [if_pos c3] at H
   have c3b0 : decide (a0 ≤ 122) = true := decide_eq_true c3
   clear c3
   obtain rfl := Option.some.inj H
   go_enter Tryd.func64, Tryd.ntmps64
   go_wp2
   go_ret
   exact ⟨by first | rfl | (simp; done) | (simp [*]; done), by repeat (first | exact Drawn0.refl _ | apply Drawn0.step)⟩
  ·rw [if_neg c3] at H
   have c3b0 : decide (a0 ≤ 122) = false := decide_eq_false c3
   clear c3
   by_cases c4 : a0 ≥ 65
   ·rw [if_pos c4] at H
    have c4b0 : decide (65 ≤ a0) = true := decide_eq_true c4
    clear c4
    obtain rfl := Option.some.inj H
    go_enter Tryd.func64, Tryd.ntmps64
    go_wp2
    go_ret
    exact ⟨by first | rfl | (simp; done) | (simp [*]; done), by repeat (first | exact Drawn0.refl _ | apply Drawn0.step)⟩
   ·rw [if_neg c4] at H
    have c4b0 : decide (65 ≤ a0) = false := decide_eq_false c4
    clear c4
    obtain rfl := Option.some.inj H
    go_enter Tryd.func64, Tryd.ntmps64
    go_wp2
    go_ret
    exact ⟨by first | rfl | (simp; done) | (simp [*]; done), by repeat (first | exact Drawn0.refl _ | apply Drawn0.step)⟩
 ·rw [if_neg c2] at H
  have c2b0 : decide (97 ≤ a0) = false := decide_eq_false c2
  clear c2
  by_cases c5 : a0 ≥ 65
  ·rw [if_pos c5] at H
   have c5b0 : decide (65 ≤ a0) = true := decide_eq_true c5
   clear c5
   obtain rfl := Option.some.inj H
   go_enter Tryd.func64, Tryd.ntmps64
   go_wp2
   go_ret
   exact ⟨by first | rfl | (simp; done) | (simp [*]; done), by repeat (first | exact Drawn0.refl _ | apply Drawn0.step)⟩
  ·rw [if_neg c5] at H
   have c5b0 : decide (65 ≤ a0) = false := decide_eq_false c5
   clear c5
   obtain rfl := Option.some.inj H
   go_enter Tryd.func64, Tryd.ntmps64
   go_wp2
   go_ret
   exact ⟨by first | rfl | (simp; done) | (simp [*]; done), by repeat (first | exact Drawn0.refl _ | apply Drawn0.step)⟩

def vinculumref09_Character.f (k : Nat) (a0 : Int) : Option (Bool) := (vinculumref09_Letter.f a0).bind fun t254 => (if t254 = true then (some true) else ((vinculumref09_has.f k (⟨#[43, 45, 42, 47, 61, 60, 62, 44, 59, 58, 33, 124, 39, 63, 126, 64]⟩ : ByteArray) a0).bind fun t255 => (some t255)))
theorem vinculumref09_Character.mono : ∀ a0 k, LeO (vinculumref09_Character.f k a0) (vinculumref09_Character.f (k + 1) a0) := by
 intro a0 k
 unfold vinculumref09_Character.f
 repeat' first
   | (with_reducible exact vinculumref09_has.mono _ _ _)
   | (with_reducible exact LeO.refl _)
   | (with_reducible exact LeO.none _)
   | (with_reducible refine LeO.ite ?_ ?_)
   | (with_reducible refine LeO.bind ?_ (fun _ => ?_))
   | exact vinculumref09_has.mono _ _ _
   | exact LeO.none _
   | refine LeO.ite ?_ ?_
   | refine LeO.bind ?_ (fun _ => ?_)
set_option maxHeartbeats 8000000 in
set_option maxRecDepth 100000 in
theorem vinculumref09_Character.calls (k : Nat) (a0 : Int) (r : Bool) (w : World) (h : vinculumref09_Character.f k a0 = some r) :
  Calls Tryd.prog 63 #[.int .u8 a0] w fun e w' => e = .returned (.bool r) ∧ Drawn0 w w' := by
 have H : ((vinculumref09_Letter.f a0).bind fun t254 => (if t254 = true then (some true) else ((vinculumref09_has.f k (⟨#[43, 45, 42, 47, 61, 60, 62, 44, 59, 58, 33, 124, 39, 63, 126, 64]⟩ : ByteArray) a0).bind fun t255 => (some t255)))) = some r := h
 clear h
 replace H := Option.bind_eq_some_iff.mp H
 obtain ⟨t254, A20, H⟩ := H
 replace H : (if t254 = true then (some true) else ((vinculumref09_has.f k (⟨#[43, 45, 42, 47, 61, 60, 62, 44, 59, 58, 33, 124, 39, 63, 126, 64]⟩ : ByteArray) a0).bind fun t255 => (some t255))) = some r := H
 have A2 := Aside0.mk A20
 clear A20
 by_cases c3 : t254 = true
 ·subst c3
  have H1 : (some true) = some r := by rw [if_pos rfl] at H; exact H
  clear H
  have H := H1
  clear H1
  obtain rfl := Option.some.inj H
  go_enter Tryd.func63, Tryd.ntmps63
  go_wp2_with (first | ((with_reducible refine gate_callee (f := 64) rfl ?_); refine goesL_ (some 4) rfl rfl Tryd.func64 (by kernel_rfl) rfl #[.int .u8 a0] rfl (by (try simp only [List.map_toArray, List.map_cons, List.map_nil]); first | done | rfl | (simp only [List.length_drop, List.length_take]; rfl)) ?_; (with_reducible refine (vinculumref09_Letter.calls a0 true _ A2.out).mono ?_); rintro e w' ⟨rfl, ⟨nd, rfl⟩⟩; refine ⟨_, rfl, ?_⟩))
  go_ret
  exact ⟨by first | rfl | (simp; done) | (simp [*]; done), by repeat (first | exact Drawn0.refl _ | apply Drawn0.step)⟩
 ·replace c3 := Bool.eq_false_iff.mpr c3
  subst c3
  have H1 : ((vinculumref09_has.f k (⟨#[43, 45, 42, 47, 61, 60, 62, 44, 59, 58, 33, 124, 39, 63, 126, 64]⟩ : ByteArray) a0).bind fun t255 => (some t255)) = some r := by rw [if_neg (show ¬ (false = true) by decide)] at H; exact H
  clear H
  have H := H1
  clear H1
  replace H := Option.bind_eq_some_iff.mp H
  obtain ⟨t255, A40, H⟩ := H
  replace H : (some t255) = some r := H
  have A4 := Aside0.mk A40
  clear A40
  obtain rfl := Option.some.inj H
  go_enter Tryd.func63, Tryd.ntmps63
  go_wp2_with (first | ((with_reducible refine gate_callee (f := 64) rfl ?_); refine goesL_ (some 4) rfl rfl Tryd.func64 (by kernel_rfl) rfl #[.int .u8 a0] rfl (by (try simp only [List.map_toArray, List.map_cons, List.map_nil]); first | done | rfl | (simp only [List.length_drop, List.length_take]; rfl)) ?_; (with_reducible refine (vinculumref09_Letter.calls a0 false _ A2.out).mono ?_); rintro e w' ⟨rfl, ⟨nd, rfl⟩⟩; refine ⟨_, rfl, ?_⟩) | (go_at_call 49; (with_reducible refine (vinculumref09_has.calls k (⟨#[43, 45, 42, 47, 61, 60, 62, 44, 59, 58, 33, 124, 39, 63, 126, 64]⟩ : ByteArray) a0 t255 _ A4.out).mono ?_); rintro e w' ⟨rfl, ⟨nd, rfl⟩⟩))
  go_ret
  exact ⟨by first | rfl | (simp; done) | (simp [*]; done), by repeat (first | exact Drawn0.refl _ | apply Drawn0.step)⟩

def vinculumref09_Keywords.f  : Option (List ByteArray) := some (([(⟨#[102, 114, 97, 99]⟩ : ByteArray), (⟨#[114, 111, 111, 116]⟩ : ByteArray), (⟨#[109, 97, 116, 114, 105, 120]⟩ : ByteArray), (⟨#[102, 101, 110, 99, 101]⟩ : ByteArray)] : List ByteArray))
set_option maxHeartbeats 8000000 in
set_option maxRecDepth 100000 in
theorem vinculumref09_Keywords.calls  (r : List ByteArray) (w : World) (h : vinculumref09_Keywords.f  = some r) :
  Calls Tryd.prog 65 #[] w fun e w' => ∃ v0_ : Value, e = .returned (v0_) ∧ Kd.R Kd.string 9 w' w.heap.size (fun _ => True) v0_ r ∧ Below w.heap.size w w' := by
 have HB := Aside0.mk (Below.refl w.heap.size w)
 have H : (some (([(⟨#[102, 114, 97, 99]⟩ : ByteArray), (⟨#[114, 111, 111, 116]⟩ : ByteArray), (⟨#[109, 97, 116, 114, 105, 120]⟩ : ByteArray), (⟨#[102, 101, 110, 99, 101]⟩ : ByteArray)] : List ByteArray))) = some r := h
 clear h
 obtain ⟨y256, hy256⟩ : ∃ y_ : List ByteArray, y_ = (([(⟨#[102, 114, 97, 99]⟩ : ByteArray), (⟨#[114, 111, 111, 116]⟩ : ByteArray), (⟨#[109, 97, 116, 114, 105, 120]⟩ : ByteArray), (⟨#[102, 101, 110, 99, 101]⟩ : ByteArray)] : List ByteArray)) := ⟨_, rfl⟩
 replace H : (some y256) = some r := by first | (rw [hy256]; with_reducible exact H) | (have H2_ := (Option.bind_some _ _).symm.trans H; rw [hy256]; with_reducible exact H2_) | (have H2_ := (Option.bind_some _ _).symm.trans H; with_reducible exact H2_) | with_reducible exact H | (rw [hy256]; exact H) | exact H
 have Ny256 := Aside0.mk hy256
 clear hy256
 obtain rfl := Option.some.inj H
 go_enter Tryd.func65, Tryd.ntmps65
 go_wp2_with (first | ((with_reducible refine gate_dst (N := 1) rfl ?_); refine Kd.R_lit Kd.string _ 9 ?hg (N := 1) ?hd (xs := ([(⟨#[102, 114, 97, 99]⟩ : ByteArray), (⟨#[114, 111, 111, 116]⟩ : ByteArray), (⟨#[109, 97, 116, 114, 105, 120]⟩ : ByteArray), (⟨#[102, 101, 110, 99, 101]⟩ : ByteArray)] : List ByteArray)) (inner := [.string (⟨#[102, 114, 97, 99]⟩ : ByteArray), .string (⟨#[114, 111, 111, 116]⟩ : ByteArray), .string (⟨#[109, 97, 116, 114, 105, 120]⟩ : ByteArray), .string (⟨#[102, 101, 110, 99, 101]⟩ : ByteArray)]) (ok := fun _ => True) (okp := fun _ => True) ?hr ?hp (fun _ hk => hk) trivial (Below.refl _ _) (Nat.le_refl _) (by simp) ?_; (case hd => rfl); (case hg => rfl); (case hr => first | (go_simp; done) | (go_simp; rfl)); (case hp => exact (Reps.one (show Kd.M Kd.string _ _ _ (⟨#[102, 114, 97, 99]⟩ : ByteArray) [.string (⟨#[102, 114, 97, 99]⟩ : ByteArray)] from rfl) (Reps.one (show Kd.M Kd.string _ _ _ (⟨#[114, 111, 111, 116]⟩ : ByteArray) [.string (⟨#[114, 111, 111, 116]⟩ : ByteArray)] from rfl) (Reps.one (show Kd.M Kd.string _ _ _ (⟨#[109, 97, 116, 114, 105, 120]⟩ : ByteArray) [.string (⟨#[109, 97, 116, 114, 105, 120]⟩ : ByteArray)] from rfl) (Reps.one (show Kd.M Kd.string _ _ _ (⟨#[102, 101, 110, 99, 101]⟩ : ByteArray) [.string (⟨#[102, 101, 110, 99, 101]⟩ : ByteArray)] from rfl) (Reps.none _ _)))))); intro v257 w1 ho2 hb hg_ hnew_; clear hg_ hnew_; (first | rw [← Ny256.out] at ho2 | (simp only [Int.reduceToNat] at ho2; rw [← Ny256.out] at ho2)); have n0_ := Aside0.mk (Kd.R_lower ho2 (below_size (bs0_ HB.out))); have n1_ := Aside0.mk (below_step (bs0_ HB.out) hb); clear HB; have HO258 := n0_; have HB := n1_; clear n0_ n1_; clear hb ho2))
 go_ret
 exact ⟨_, by first | rfl | (simp [errW_none, errW_some] <;> rfl) | (simp [*, errW_none, errW_some] <;> rfl), by (with_reducible repeat (first | apply Kd.R_alloc | apply Kd.R_drewN | apply Kd.R_drew)); exact HO258.out, bs0_ HB.out⟩

def vinculumref09_Symbol.l0 : Nat → ByteArray → Int → Option (Bool)
 | 0, _, _ => none
 | k + 1, x0, x3 => if x3 < (x0.size : Int) then (if 0 ≤ x3 then ((vinculumref09_Letter.f (bt x0 x3)).bind fun t260 => (if t260 = true then (vinculumref09_Symbol.l0 k x0 (wrap64 (x3 + 1))) else (some false))) else (none)) else (if (x0.size : Int) ≥ 2 then (if (x0.size : Int) ≤ 16 then ((vinculumref09_Keywords.f).bind fun t261 => ((vinculumref09_In.f k t261 x0).bind fun t264 => (if t264 = true then (some false) else ((vinculumref09_Accents.f).bind fun t265 => ((vinculumref09_In.f k t265 x0).bind fun t268 => (some (!t268))))))) else (some false)) else (some false))
def vinculumref09_Symbol.f (k : Nat) (a0 : ByteArray) : Option (Bool) := if (a0.size : Int) = 1 then (if 0 < (a0.size : Int) then ((vinculumref09_Character.f k (bt a0 0)).bind fun t259 => (some t259)) else (none)) else (vinculumref09_Symbol.l0 k a0 0)
theorem vinculumref09_Symbol.mono_l : ∀ k, (∀ y0 y1, LeO (vinculumref09_Symbol.l0 k y0 y1) (vinculumref09_Symbol.l0 (k + 1) y0 y1))
 | 0 => fun _ _ r h => by simp [vinculumref09_Symbol.l0] at h
 | k + 1 => by
  have ih0 := vinculumref09_Symbol.mono_l k
  ·intro y0 y1
   unfold vinculumref09_Symbol.l0
   repeat' first
   | (with_reducible exact ih0 _ _)
   | (with_reducible exact vinculumref09_Character.mono _ _)
   | (with_reducible exact vinculumref09_In.mono _ _ _)
   | (with_reducible exact LeO.refl _)
   | (with_reducible exact LeO.none _)
   | (with_reducible refine LeO.ite ?_ ?_)
   | (with_reducible refine LeO.bind ?_ (fun _ => ?_))
   | exact ih0 _ _
   | exact vinculumref09_Character.mono _ _
   | exact vinculumref09_In.mono _ _ _
   | exact LeO.none _
   | refine LeO.ite ?_ ?_
   | refine LeO.bind ?_ (fun _ => ?_)
theorem vinculumref09_Symbol.mono : ∀ a0 k, LeO (vinculumref09_Symbol.f k a0) (vinculumref09_Symbol.f (k + 1) a0) := by
 intro a0 k
 have ih0 := vinculumref09_Symbol.mono_l k
 unfold vinculumref09_Symbol.f
 repeat' first
   | (with_reducible exact ih0 _ _)
   | (with_reducible exact vinculumref09_Character.mono _ _)
   | (with_reducible exact vinculumref09_In.mono _ _ _)
   | (with_reducible exact LeO.refl _)
   | (with_reducible exact LeO.none _)
   | (with_reducible refine LeO.ite ?_ ?_)
   | (with_reducible refine LeO.bind ?_ (fun _ => ?_))
   | exact ih0 _ _
   | exact vinculumref09_Character.mono _ _
   | exact vinculumref09_In.mono _ _ _
   | exact LeO.none _
   | refine LeO.ite ?_ ?_
   | refine LeO.bind ?_ (fun _ => ?_)
set_option maxHeartbeats 8000000 in
set_option maxRecDepth 100000 in
theorem vinculumref09_Symbol.calls (k : Nat) (a0 : ByteArray) (r : Bool) (w : World) (h : vinculumref09_Symbol.f k a0 = some r) :
  Calls Tryd.prog 44 #[.string a0] w fun e w' => e = .returned (.bool r) ∧ Below w.heap.size w w' := by
 have HB := Aside0.mk (Below.refl w.heap.size w)
 have H : (if (a0.size : Int) = 1 then (if 0 < (a0.size : Int) then ((vinculumref09_Character.f k (bt a0 0)).bind fun t259 => (some t259)) else (none)) else (vinculumref09_Symbol.l0 k a0 0)) = some r := h
 clear h
 by_cases c2 : (a0.size : Int) = 1
 ·rw [if_pos c2] at H
  have c2b0 : ((a0.size : Int) == 1) = true := beq_iff_eq.mpr c2
  have c2b1 : ((a0.size : Int) != 1) = false := bne_eq_false_iff_eq.mpr c2
  clear c2
  by_cases c3 : 0 < (a0.size : Int)
  case neg =>
   rw [if_neg c3] at H
   exact absurd H (by simp)
  rw [if_pos c3] at H
  have c3b0 : decide (0 < (a0.size : Int)) = true := decide_eq_true c3
  have c3b1 : decide (0 < a0.size) = true := decide_eq_true (by omega)
  clear c3
  replace H := Option.bind_eq_some_iff.mp H
  obtain ⟨t259, A50, H⟩ := H
  replace H : (some t259) = some r := H
  have A5 := Aside0.mk A50
  clear A50
  obtain rfl := Option.some.inj H
  have p4 : 0 ≤ (0 : Int) := (by omega)
  have q4 : 0 < a0.size := (by have : (0 : Int) < (a0.size : Int) := of_decide_eq_true (by first | (with_reducible assumption) | assumption); omega)
  have hx4 : ∀ h : 0 < a0.size, ((a0[0]'h).toNat : Int) = bt a0 0 := bt_at a0 0
  clear p4
  have qi4 : (0 < (a0.size : Int)) = True := eq_true (of_decide_eq_true (by first | (with_reducible assumption) | assumption))
  replace q4 := eq_true q4
  go_enter Tryd.func44, Tryd.ntmps44
  go_wp2_with (first | ((with_reducible refine gate_callee (f := 63) rfl ?_); refine goesL_ (some 9) rfl rfl Tryd.func63 (by kernel_rfl) rfl #[.int .u8 (bt a0 0)] rfl (by (try simp only [List.map_toArray, List.map_cons, List.map_nil]); first | done | rfl | (simp only [List.length_drop, List.length_take]; rfl)) ?_; (with_reducible refine (vinculumref09_Character.calls k (bt a0 0) t259 _ A5.out).mono ?_); rintro e w' ⟨rfl, ⟨nd, rfl⟩⟩; refine ⟨_, rfl, ?_⟩))
  go_ret
  exact ⟨by first | rfl | (simp [errW_none, errW_some] <;> rfl) | (simp [*, errW_none, errW_some] <;> rfl), bs0_ HB.out⟩
 ·rw [if_neg c2] at H
  have c2b0 : ((a0.size : Int) == 1) = false := beq_eq_false_iff_ne.mpr c2
  have c2b1 : ((a0.size : Int) != 1) = true := bne_iff_ne.mpr c2
  have H' := Aside0.mk H
  clear H
  go_enter Tryd.func44, Tryd.ntmps44
  go_wp2
  go_loopg [3] k (fun kq v3 w' => ∃ (x3_1 : Int), v3 = .int .i64 x3_1 ∧ Aside0 (vinculumref09_Symbol.l0 kq a0 x3_1 = some r) ∧ Aside0 (kq ≤ k) ∧ Aside0 (Below w.heap.size w w'))
  case atStart => exact ⟨(0), (by first | rfl | (simp; done) | (simp [*]; done)), H', ⟨Nat.le_refl _⟩, ⟨bs0_ HB.out⟩⟩
  case round =>
   clear H'; (try clear c2); (try clear c2b0); (try clear c2b1); (try clear p2); (try clear c3); (try clear c3b0); (try clear c3b1); (try clear c4); (try clear p4); (try clear q4); (try clear hx4); (try clear qi4); (try clear p4); (try clear q4)
   obtain ⟨x3_1, rfl, HA, HK1, HB⟩ := hrel
   cases gk with
   | zero => exact absurd HA.out (by simp [vinculumref09_Symbol.l0])
   | succ k1 =>
    have H := HA.out
    clear HA
    simp only [vinculumref09_Symbol.l0] at H
    by_cases c6 : x3_1 < (a0.size : Int)
    ·rw [if_pos c6] at H
     have c6b0 : decide (x3_1 < (a0.size : Int)) = true := decide_eq_true c6
     clear c6
     by_cases c7 : 0 ≤ x3_1
     case neg =>
      rw [if_neg c7] at H
      exact absurd H (by simp)
     rw [if_pos c7] at H
     have c7b0 : decide (0 ≤ x3_1) = true := decide_eq_true c7
     clear c7
     replace H := Option.bind_eq_some_iff.mp H
     obtain ⟨t260, A90, H⟩ := H
     replace H : (if t260 = true then (vinculumref09_Symbol.l0 k1 a0 (wrap64 (x3_1 + 1))) else (some false)) = some r := H
     have A9 := Aside0.mk A90
     clear A90
     by_cases c10 : t260 = true
     ·subst c10
      have H1 : (vinculumref09_Symbol.l0 k1 a0 (wrap64 (x3_1 + 1))) = some r := by rw [if_pos rfl] at H; exact H
      clear H
      have H := H1
      clear H1
      have H' := Aside0.mk H
      clear H
      have p8 : 0 ≤ (x3_1 : Int) := of_decide_eq_true (by first | (with_reducible assumption) | assumption)
      have q8 : x3_1 < (a0.size : Int) := of_decide_eq_true (by first | (with_reducible assumption) | assumption)
      have hx8 := bt_at a0 x3_1
      replace p8 := eq_true p8
      replace q8 := eq_true q8
      go_wp2_with (first | ((with_reducible refine gate_callee (f := 64) rfl ?_); refine goesL_ (some 19) rfl rfl Tryd.func64 (by kernel_rfl) rfl #[.int .u8 (bt a0 x3_1)] rfl (by (try simp only [List.map_toArray, List.map_cons, List.map_nil]); first | done | rfl | (simp only [List.length_drop, List.length_take]; rfl)) ?_; (with_reducible refine (vinculumref09_Letter.calls (bt a0 x3_1) true _ A9.out).mono ?_); rintro e w' ⟨rfl, ⟨nd, rfl⟩⟩; refine ⟨_, rfl, ?_⟩))
      go_roundg k1
      case measure => have := HK1.out; omega
      case rel => exact ⟨(wrap64 (x3_1 + 1)), (by first | rfl | (simp; done) | (simp [*]; done)), H', ⟨by have := HK1.out; omega⟩, ⟨bs0_ HB.out⟩⟩
     ·replace c10 := Bool.eq_false_iff.mpr c10
      subst c10
      have H1 : (some false) = some r := by rw [if_neg (show ¬ (false = true) by decide)] at H; exact H
      clear H
      have H := H1
      clear H1
      obtain rfl := Option.some.inj H
      have p8 : 0 ≤ (x3_1 : Int) := of_decide_eq_true (by first | (with_reducible assumption) | assumption)
      have q8 : x3_1 < (a0.size : Int) := of_decide_eq_true (by first | (with_reducible assumption) | assumption)
      have hx8 := bt_at a0 x3_1
      replace p8 := eq_true p8
      replace q8 := eq_true q8
      go_wp2_with (first | ((with_reducible refine gate_callee (f := 64) rfl ?_); refine goesL_ (some 19) rfl rfl Tryd.func64 (by kernel_rfl) rfl #[.int .u8 (bt a0 x3_1)] rfl (by (try simp only [List.map_toArray, List.map_cons, List.map_nil]); first | done | rfl | (simp only [List.length_drop, List.length_take]; rfl)) ?_; (with_reducible refine (vinculumref09_Letter.calls (bt a0 x3_1) false _ A9.out).mono ?_); rintro e w' ⟨rfl, ⟨nd, rfl⟩⟩; refine ⟨_, rfl, ?_⟩))
      go_ret
      exact ⟨by first | rfl | (simp [errW_none, errW_some] <;> rfl) | (simp [*, errW_none, errW_some] <;> rfl), bs0_ HB.out⟩
    ·rw [if_neg c6] at H
     have c6b0 : decide (x3_1 < (a0.size : Int)) = false := decide_eq_false c6
     clear c6
     by_cases c11 : (a0.size : Int) ≥ 2
     ·rw [if_pos c11] at H
      have c11b0 : decide (2 ≤ (a0.size : Int)) = true := decide_eq_true c11
      have c11b1 : decide (2 ≤ a0.size) = true := decide_eq_true (by omega)
      clear c11
      by_cases c12 : (a0.size : Int) ≤ 16
      ·rw [if_pos c12] at H
       have c12b0 : decide ((a0.size : Int) ≤ 16) = true := decide_eq_true c12
       have c12b1 : decide (a0.size ≤ 16) = true := decide_eq_true (by omega)
       clear c12
       replace H := Option.bind_eq_some_iff.mp H
       obtain ⟨t261, A130, H⟩ := H
       replace H : ((vinculumref09_In.f k1 t261 a0).bind fun t264 => (if t264 = true then (some false) else ((vinculumref09_Accents.f).bind fun t265 => ((vinculumref09_In.f k1 t265 a0).bind fun t268 => (some (!t268)))))) = some r := H
       have A13 := Aside0.mk A130
       clear A130
       replace H := Option.bind_eq_some_iff.mp H
       obtain ⟨t264, A140, H⟩ := H
       replace H : (if t264 = true then (some false) else ((vinculumref09_Accents.f).bind fun t265 => ((vinculumref09_In.f k1 t265 a0).bind fun t268 => (some (!t268))))) = some r := H
       have A14 := Aside0.mk A140
       clear A140
       by_cases c15 : t264 = true
       ·subst c15
        have H1 : (some false) = some r := by rw [if_pos rfl] at H; exact H
        clear H
        have H := H1
        clear H1
        obtain rfl := Option.some.inj H
        go_wp2_with (first | (go_at_call 65; (with_reducible refine (vinculumref09_Keywords.calls  t261 _ A13.out).mono ?_); rintro e w16 ⟨v262, rfl, ho0, hb⟩; have n0_ := Aside0.mk (Kd.R_lower ho0 (below_size (bs0_ HB.out))); have n1_ := Aside0.mk (below_step (bs0_ HB.out) hb); clear HB; have HO263 := n0_; have HB := n1_; clear n0_ n1_; (try clear hb); (try clear hb2); (try clear hk); (try clear hi); (try clear ho0); obtain ⟨Ao17, co17, eo17⟩ := Kd.R_slice HO263.out; subst eo17) | (go_at_call 47; (with_reducible refine (vinculumref09_In.calls k1 _ _ t261 a0 true _ ?side1 ?side2 A14.out).mono ?_); (case side1 => repeat (first | exact (Kd.R_reads' HO263.out).2.2 | (with_reducible refine Kd.C_alloc ?_ _) | (with_reducible refine Kd.C_drewN ?_ _) | (with_reducible refine Kd.C_drew ?_))); (case side2 => exact (Kd.R_reads' HO263.out).2.1); rintro e w' ⟨rfl, ⟨nd, rfl⟩⟩))
        go_ret
        exact ⟨by first | rfl | (simp [errW_none, errW_some] <;> rfl) | (simp [*, errW_none, errW_some] <;> rfl), bs0_ HB.out⟩
       ·replace c15 := Bool.eq_false_iff.mpr c15
        subst c15
        have H1 : ((vinculumref09_Accents.f).bind fun t265 => ((vinculumref09_In.f k1 t265 a0).bind fun t268 => (some (!t268)))) = some r := by rw [if_neg (show ¬ (false = true) by decide)] at H; exact H
        clear H
        have H := H1
        clear H1
        replace H := Option.bind_eq_some_iff.mp H
        obtain ⟨t265, A180, H⟩ := H
        replace H : ((vinculumref09_In.f k1 t265 a0).bind fun t268 => (some (!t268))) = some r := H
        have A18 := Aside0.mk A180
        clear A180
        replace H := Option.bind_eq_some_iff.mp H
        obtain ⟨t268, A190, H⟩ := H
        replace H : (some (!t268)) = some r := H
        have A19 := Aside0.mk A190
        clear A190
        obtain rfl := Option.some.inj H
        go_wp2_with (first | (go_at_call 65; (with_reducible refine (vinculumref09_Keywords.calls  t261 _ A13.out).mono ?_); rintro e w20 ⟨v262, rfl, ho0, hb⟩; have n0_ := Aside0.mk (Kd.R_lower ho0 (below_size (bs0_ HB.out))); have n1_ := Aside0.mk (below_step (bs0_ HB.out) hb); clear HB; have HO263 := n0_; have HB := n1_; clear n0_ n1_; (try clear hb); (try clear hb2); (try clear hk); (try clear hi); (try clear ho0); obtain ⟨Ao21, co21, eo21⟩ := Kd.R_slice HO263.out; subst eo21) | (go_at_call 47; (with_reducible refine (vinculumref09_In.calls k1 _ _ t261 a0 false _ ?side1 ?side2 A14.out).mono ?_); (case side1 => repeat (first | exact (Kd.R_reads' HO263.out).2.2 | (with_reducible refine Kd.C_alloc ?_ _) | (with_reducible refine Kd.C_drewN ?_ _) | (with_reducible refine Kd.C_drew ?_))); (case side2 => exact (Kd.R_reads' HO263.out).2.1); rintro e w' ⟨rfl, ⟨nd, rfl⟩⟩) | (go_at_call 48; (with_reducible refine (vinculumref09_Accents.calls  t265 _ A18.out).mono ?_); rintro e w22 ⟨v266, rfl, ho0, hb⟩; have n0_ := Aside0.mk (Kd.R_elder' (by (with_reducible repeat (first | apply Kd.R_alloc | apply Kd.R_drewN | apply Kd.R_drew)); exact HO263.out) (Kd.R_base ho0) hb); have n1_ := Aside0.mk (Kd.R_lower (Kd.R_new' ho0 (Kd.R_lt (by (with_reducible repeat (first | apply Kd.R_alloc | apply Kd.R_drewN | apply Kd.R_drew)); exact HO263.out))) (below_size (bs0_ HB.out))); have n2_ := Aside0.mk (below_step (bs0_ HB.out) hb); clear HO263; clear HB; have HO263 := n0_; have HO267 := n1_; have HB := n2_; clear n0_ n1_ n2_; (try clear hb); (try clear hb2); (try clear hk); (try clear hi); (try clear ho0); obtain ⟨Ao23, co23, eo23⟩ := Kd.R_slice HO267.out; subst eo23) | (go_at_call 47; (with_reducible refine (vinculumref09_In.calls k1 _ _ t265 a0 t268 _ ?side1 ?side2 A19.out).mono ?_); (case side1 => repeat (first | exact (Kd.R_reads' HO267.out).2.2 | (with_reducible refine Kd.C_alloc ?_ _) | (with_reducible refine Kd.C_drewN ?_ _) | (with_reducible refine Kd.C_drew ?_))); (case side2 => exact (Kd.R_reads' HO267.out).2.1); rintro e w' ⟨rfl, ⟨nd, rfl⟩⟩))
        go_ret
        exact ⟨by first | rfl | (simp [errW_none, errW_some] <;> rfl) | (simp [*, errW_none, errW_some] <;> rfl), bs0_ HB.out⟩
      ·rw [if_neg c12] at H
       have c12b0 : decide ((a0.size : Int) ≤ 16) = false := decide_eq_false c12
       have c12b1 : decide (a0.size ≤ 16) = false := decide_eq_false (by omega)
       clear c12
       obtain rfl := Option.some.inj H
       go_wp2
       go_ret
       exact ⟨by first | rfl | (simp [errW_none, errW_some] <;> rfl) | (simp [*, errW_none, errW_some] <;> rfl), bs0_ HB.out⟩
     ·rw [if_neg c11] at H
      have c11b0 : decide (2 ≤ (a0.size : Int)) = false := decide_eq_false c11
      have c11b1 : decide (2 ≤ a0.size) = false := decide_eq_false (by omega)
      clear c11
      obtain rfl := Option.some.inj H
      go_wp2
      go_ret
      exact ⟨by first | rfl | (simp [errW_none, errW_some] <;> rfl) | (simp [*, errW_none, errW_some] <;> rfl), bs0_ HB.out⟩

def vinculumref09_Digit.f (a0 : Int) : Option (Bool) := if a0 ≥ 48 then (some (decide (a0 ≤ 57))) else (some false)
set_option maxHeartbeats 8000000 in
set_option maxRecDepth 100000 in
theorem vinculumref09_Digit.calls (a0 : Int) (r : Bool) (w : World) (h : vinculumref09_Digit.f a0 = some r) :
  Calls Tryd.prog 66 #[.int .u8 a0] w fun e w' => e = .returned (.bool r) ∧ Drawn0 w w' := by
 have H : (if a0 ≥ 48 then (some (decide (a0 ≤ 57))) else (some false)) = some r := h
 clear h
 by_cases c2 : a0 ≥ 48
 ·rw [if_pos c2] at H
  have c2b0 : decide (48 ≤ a0) = true := decide_eq_true c2
  clear c2
  obtain rfl := Option.some.inj H
  go_enter Tryd.func66, Tryd.ntmps66
  go_wp2
  go_ret
  exact ⟨by first | rfl | (simp; done) | (simp [*]; done), by repeat (first | exact Drawn0.refl _ | apply Drawn0.step)⟩
 ·rw [if_neg c2] at H
  have c2b0 : decide (48 ≤ a0) = false := decide_eq_false c2
  clear c2
  obtain rfl := Option.some.inj H
  go_enter Tryd.func66, Tryd.ntmps66
  go_wp2
  go_ret
  exact ⟨by first | rfl | (simp; done) | (simp [*]; done), by repeat (first | exact Drawn0.refl _ | apply Drawn0.step)⟩

mutual
def vinculumref09_Number.l0 : Nat → ByteArray → Int → Int → Option (Bool)
 | 0, _, _, _ => none
 | k + 1, x0, x3, x4 => if x4 < (x0.size : Int) then (if 0 ≤ x4 then (if (bt x0 x4) = 46 then (if x4 > 0 then (vinculumref09_Number.j1 k x0 x3 x4 (decide (x4 < (wrap64 ((x0.size : Int) - 1))))) else (vinculumref09_Number.j1 k x0 x3 x4 false)) else (vinculumref09_Number.j1 k x0 x3 x4 false)) else (none)) else (if (x0.size : Int) > 0 then (if (x0.size : Int) ≤ 20 then (some (decide (x3 ≤ 1))) else (some false)) else (some false))
def vinculumref09_Number.j1 : Nat → ByteArray → Int → Int → Bool → Option (Bool)
 | 0, _, _, _, _ => none
 | k + 1, x0, x3, x4, x25 => if x25 = true then (vinculumref09_Number.l0 k x0 (wrap64 (x3 + 1)) (wrap64 (x4 + 1))) else (if 0 ≤ x4 then (if x4 < (x0.size : Int) then ((vinculumref09_Digit.f (bt x0 x4)).bind fun t269 => (if t269 = true then (vinculumref09_Number.l0 k x0 x3 (wrap64 (x4 + 1))) else (some false))) else (none)) else (none))
end
def vinculumref09_Number.f (k : Nat) (a0 : ByteArray) : Option (Bool) := vinculumref09_Number.l0 k a0 0 0
theorem vinculumref09_Number.mono_l : ∀ k, (∀ y0 y1 y2, LeO (vinculumref09_Number.l0 k y0 y1 y2) (vinculumref09_Number.l0 (k + 1) y0 y1 y2)) ∧ (∀ y0 y1 y2 y3, LeO (vinculumref09_Number.j1 k y0 y1 y2 y3) (vinculumref09_Number.j1 (k + 1) y0 y1 y2 y3))
 | 0 => ⟨fun _ _ _ r h => by simp [vinculumref09_Number.l0] at h, fun _ _ _ _ r h => by simp [vinculumref09_Number.j1] at h⟩
 | k + 1 => by
  obtain ⟨ih0, ih1⟩ := vinculumref09_Number.mono_l k
  refine ⟨?_, ?_⟩
  ·intro y0 y1 y2
   unfold vinculumref09_Number.l0
   repeat' first
   | (with_reducible exact ih0 _ _ _)
   | (with_reducible exact ih1 _ _ _ _)
   | (with_reducible exact LeO.refl _)
   | (with_reducible exact LeO.none _)
   | (with_reducible refine LeO.ite ?_ ?_)
   | (with_reducible refine LeO.bind ?_ (fun _ => ?_))
   | exact ih0 _ _ _
   | exact ih1 _ _ _ _
   | exact LeO.none _
   | refine LeO.ite ?_ ?_
   | refine LeO.bind ?_ (fun _ => ?_)
  ·intro y0 y1 y2 y3
   unfold vinculumref09_Number.j1
   repeat' first
   | (with_reducible exact ih0 _ _ _)
   | (with_reducible exact ih1 _ _ _ _)
   | (with_reducible exact LeO.refl _)
   | (with_reducible exact LeO.none _)
   | (with_reducible refine LeO.ite ?_ ?_)
   | (with_reducible refine LeO.bind ?_ (fun _ => ?_))
   | exact ih0 _ _ _
   | exact ih1 _ _ _ _
   | exact LeO.none _
   | refine LeO.ite ?_ ?_
   | refine LeO.bind ?_ (fun _ => ?_)
theorem vinculumref09_Number.mono : ∀ a0 k, LeO (vinculumref09_Number.f k a0) (vinculumref09_Number.f (k + 1) a0) := by
 intro a0 k
 obtain ⟨ih0, ih1⟩ := vinculumref09_Number.mono_l k
 unfold vinculumref09_Number.f
 repeat' first
   | (with_reducible exact ih0 _ _ _)
   | (with_reducible exact ih1 _ _ _ _)
   | (with_reducible exact LeO.refl _)
   | (with_reducible exact LeO.none _)
   | (with_reducible refine LeO.ite ?_ ?_)
   | (with_reducible refine LeO.bind ?_ (fun _ => ?_))
   | exact ih0 _ _ _
   | exact ih1 _ _ _ _
   | exact LeO.none _
   | refine LeO.ite ?_ ?_
   | refine LeO.bind ?_ (fun _ => ?_)
set_option maxHeartbeats 8000000 in
set_option maxRecDepth 100000 in
theorem vinculumref09_Number.calls (k : Nat) (a0 : ByteArray) (r : Bool) (w : World) (h : vinculumref09_Number.f k a0 = some r) :
  Calls Tryd.prog 45 #[.string a0] w fun e w' => e = .returned (.bool r) ∧ Drawn0 w w' := by
 have H : (vinculumref09_Number.l0 k a0 0 0) = some r := h
 clear h
 have H' := Aside0.mk H
 clear H
 go_enter Tryd.func45, Tryd.ntmps45
 go_wp2
 go_loopg [3, 4] k (fun kq v3 v4 w' => ∃ (x3_1 : Int) (x4_1 : Int), v3 = .int .i64 x3_1 ∧ v4 = .int .i64 x4_1 ∧ Aside0 (vinculumref09_Number.l0 kq a0 x3_1 x4_1 = some r) ∧ Aside0 (kq ≤ k) ∧ Drawn0 w w')
 case atStart => exact ⟨(0), (0), (by first | rfl | (simp; done) | (simp [*]; done)), (by first | rfl | (simp; done) | (simp [*]; done)), H', ⟨Nat.le_refl _⟩, by repeat (first | exact Drawn0.refl _ | apply Drawn0.step)⟩
 case round =>
  clear H'
  obtain ⟨x3_1, x4_1, rfl, rfl, HA, HK1, ⟨m1, rfl⟩⟩ := hrel
  cases gk with
  | zero => exact absurd HA.out (by simp [vinculumref09_Number.l0])
  | succ k1 =>
   have H := HA.out
   clear HA
   simp only [vinculumref09_Number.l0] at H
   by_cases c2 : x4_1 < (a0.size : Int)
   ·rw [if_pos c2] at H
    have c2b0 : decide (x4_1 < (a0.size : Int)) = true := decide_eq_true c2
    clear c2
    have HC3 := Aside0.mk H
    clear H
    go_upto_region 5 with (fail)
    go_cut [25] (fun v25 wc => ∃ (kq : Nat) (x25_2 : Bool), v25 = .bool x25_2 ∧ Aside0 (vinculumref09_Number.j1 kq a0 x3_1 x4_1 x25_2 = some r) ∧ Aside0 (kq ≤ k1) ∧ Drawn0 w wc)
    case first =>
     have H := HC3.out
     clear HC3
     by_cases c4 : 0 ≤ x4_1
     case neg =>
      rw [if_neg c4] at H
      exact absurd H (by simp)
     rw [if_pos c4] at H
     have c4b0 : decide (0 ≤ x4_1) = true := decide_eq_true c4
     clear c4
     (first | rw [c4b0] | (simp only [i64_w, i32_w]; rw [c4b0]) | skip)
     by_cases c6 : (bt a0 x4_1) = 46
     ·rw [if_pos c6] at H
      have c6b0 : ((bt a0 x4_1) == 46) = true := beq_iff_eq.mpr c6
      have c6b1 : ((bt a0 x4_1) != 46) = false := bne_eq_false_iff_eq.mpr c6
      clear c6
      by_cases c7 : x4_1 > 0
      ·rw [if_pos c7] at H
       have c7b0 : decide (0 < x4_1) = true := decide_eq_true c7
       clear c7
       have H' := Aside0.mk H
       clear H
       have p5 : 0 ≤ (x4_1 : Int) := of_decide_eq_true (by first | (with_reducible assumption) | assumption)
       have q5 : x4_1 < (a0.size : Int) := of_decide_eq_true (by first | (with_reducible assumption) | assumption)
       have hx5 := bt_at a0 x4_1
       replace p5 := eq_true p5
       replace q5 := eq_true q5
       go_wp2
       go_meet
       case rel => exact ⟨_, (decide (x4_1 < (wrap64 ((a0.size : Int) - 1)))), (by first | rfl | (simp; done) | (simp [*]; done)), H', ⟨by have := HK1.out; first | omega | exact Nat.le_refl _⟩, by repeat (first | exact Drawn0.refl _ | apply Drawn0.step)⟩
      ·rw [if_neg c7] at H
       have c7b0 : decide (0 < x4_1) = false := decide_eq_false c7
       clear c7
       have H' := Aside0.mk H
       clear H
       have p5 : 0 ≤ (x4_1 : Int) := of_decide_eq_true (by first | (with_reducible assumption) | assumption)
       have q5 : x4_1 < (a0.size : Int) := of_decide_eq_true (by first | (with_reducible assumption) | assumption)
       have hx5 := bt_at a0 x4_1
       replace p5 := eq_true p5
       replace q5 := eq_true q5
       go_wp2
       go_meet
       case rel => exact ⟨_, (false), (by first | rfl | (simp; done) | (simp [*]; done)), H', ⟨by have := HK1.out; first | omega | exact Nat.le_refl _⟩, by repeat (first | exact Drawn0.refl _ | apply Drawn0.step)⟩
     ·rw [if_neg c6] at H
      have c6b0 : ((bt a0 x4_1) == 46) = false := beq_eq_false_iff_ne.mpr c6
      have c6b1 : ((bt a0 x4_1) != 46) = true := bne_iff_ne.mpr c6
      have H' := Aside0.mk H
      clear H
      have p5 : 0 ≤ (x4_1 : Int) := of_decide_eq_true (by first | (with_reducible assumption) | assumption)
      have q5 : x4_1 < (a0.size : Int) := of_decide_eq_true (by first | (with_reducible assumption) | assumption)
      have hx5 := bt_at a0 x4_1
      replace p5 := eq_true p5
      replace q5 := eq_true q5
      go_wp2
      go_meet
      case rel => exact ⟨_, (false), (by first | rfl | (simp; done) | (simp [*]; done)), H', ⟨by have := HK1.out; first | omega | exact Nat.le_refl _⟩, by repeat (first | exact Drawn0.refl _ | apply Drawn0.step)⟩
    case rest =>
     clear HC3; (try clear c2); (try clear c2b0); (try clear p2); (try clear c4); (try clear c4b0); (try clear p5); (try clear q5); (try clear hx5); (try clear c6); (try clear c6b0); (try clear c6b1); (try clear p6); (try clear c7); (try clear c7b0); (try clear p5); (try clear q5)
     obtain ⟨kq, x25_2, rfl, HA, HJ2, ⟨mc2, rfl⟩⟩ := hcut
     cases kq with
     | zero => exact absurd HA.out (by simp [vinculumref09_Number.j1])
     | succ kj2 =>
      have H := HA.out
      clear HA
      simp only [vinculumref09_Number.j1] at H
      by_cases c8 : x25_2 = true
      ·subst c8
       have H1 : (vinculumref09_Number.l0 kj2 a0 (wrap64 (x3_1 + 1)) (wrap64 (x4_1 + 1))) = some r := by rw [if_pos rfl] at H; exact H
       clear H
       have H := H1
       clear H1
       have H' := Aside0.mk H
       clear H
       go_wp2
       go_roundg kj2
       case measure => have := HK1.out; have := HJ2.out; omega
       case rel => exact ⟨(wrap64 (x3_1 + 1)), (wrap64 (x4_1 + 1)), (by first | rfl | (simp; done) | (simp [*]; done)), (by first | rfl | (simp; done) | (simp [*]; done)), H', ⟨by have := HK1.out; have := HJ2.out; omega⟩, by repeat (first | exact Drawn0.refl _ | apply Drawn0.step)⟩
      ·replace c8 := Bool.eq_false_iff.mpr c8
       subst c8
       have H1 : (if 0 ≤ x4_1 then (if x4_1 < (a0.size : Int) then ((vinculumref09_Digit.f (bt a0 x4_1)).bind fun t269 => (if t269 = true then (vinculumref09_Number.l0 kj2 a0 x3_1 (wrap64 (x4_1 + 1))) else (some false))) else (none)) else (none)) = some r := by rw [if_neg (show ¬ (false = true) by decide)] at H; exact H
       clear H
       have H := H1
       clear H1
       by_cases c9 : 0 ≤ x4_1
       case neg =>
        rw [if_neg c9] at H
        exact absurd H (by simp)
       rw [if_pos c9] at H
       have c9b0 : decide (0 ≤ x4_1) = true := decide_eq_true c9
       clear c9
       by_cases c10 : x4_1 < (a0.size : Int)
       case neg =>
        rw [if_neg c10] at H
        exact absurd H (by simp)
       rw [if_pos c10] at H
       have c10b0 : decide (x4_1 < (a0.size : Int)) = true := decide_eq_true c10
       clear c10
       replace H := Option.bind_eq_some_iff.mp H
       obtain ⟨t269, A120, H⟩ := H
       replace H : (if t269 = true then (vinculumref09_Number.l0 kj2 a0 x3_1 (wrap64 (x4_1 + 1))) else (some false)) = some r := H
       have A12 := Aside0.mk A120
       clear A120
       by_cases c13 : t269 = true
       ·subst c13
        have H1 : (vinculumref09_Number.l0 kj2 a0 x3_1 (wrap64 (x4_1 + 1))) = some r := by rw [if_pos rfl] at H; exact H
        clear H
        have H := H1
        clear H1
        have H' := Aside0.mk H
        clear H
        have p11 : 0 ≤ (x4_1 : Int) := of_decide_eq_true (by first | (with_reducible assumption) | assumption)
        have q11 : x4_1 < (a0.size : Int) := of_decide_eq_true (by first | (with_reducible assumption) | assumption)
        have hx11 := bt_at a0 x4_1
        replace p11 := eq_true p11
        replace q11 := eq_true q11
        go_wp2_with (first | ((with_reducible refine gate_callee (f := 66) rfl ?_); refine goesL_ (some 31) rfl rfl Tryd.func66 (by kernel_rfl) rfl #[.int .u8 (bt a0 x4_1)] rfl (by (try simp only [List.map_toArray, List.map_cons, List.map_nil]); first | done | rfl | (simp only [List.length_drop, List.length_take]; rfl)) ?_; (with_reducible refine (vinculumref09_Digit.calls (bt a0 x4_1) true _ A12.out).mono ?_); rintro e w' ⟨rfl, ⟨nd, rfl⟩⟩; refine ⟨_, rfl, ?_⟩))
        go_roundg kj2
        case measure => have := HK1.out; have := HJ2.out; omega
        case rel => exact ⟨(x3_1), (wrap64 (x4_1 + 1)), (by first | rfl | (simp; done) | (simp [*]; done)), (by first | rfl | (simp; done) | (simp [*]; done)), H', ⟨by have := HK1.out; have := HJ2.out; omega⟩, by repeat (first | exact Drawn0.refl _ | apply Drawn0.step)⟩
       ·replace c13 := Bool.eq_false_iff.mpr c13
        subst c13
        have H1 : (some false) = some r := by rw [if_neg (show ¬ (false = true) by decide)] at H; exact H
        clear H
        have H := H1
        clear H1
        obtain rfl := Option.some.inj H
        have p11 : 0 ≤ (x4_1 : Int) := of_decide_eq_true (by first | (with_reducible assumption) | assumption)
        have q11 : x4_1 < (a0.size : Int) := of_decide_eq_true (by first | (with_reducible assumption) | assumption)
        have hx11 := bt_at a0 x4_1
        replace p11 := eq_true p11
        replace q11 := eq_true q11
        go_wp2_with (first | ((with_reducible refine gate_callee (f := 66) rfl ?_); refine goesL_ (some 31) rfl rfl Tryd.func66 (by kernel_rfl) rfl #[.int .u8 (bt a0 x4_1)] rfl (by (try simp only [List.map_toArray, List.map_cons, List.map_nil]); first | done | rfl | (simp only [List.length_drop, List.length_take]; rfl)) ?_; (with_reducible refine (vinculumref09_Digit.calls (bt a0 x4_1) false _ A12.out).mono ?_); rintro e w' ⟨rfl, ⟨nd, rfl⟩⟩; refine ⟨_, rfl, ?_⟩))
        go_ret
        exact ⟨by first | rfl | (simp; done) | (simp [*]; done), by repeat (first | exact Drawn0.refl _ | apply Drawn0.step)⟩
   ·rw [if_neg c2] at H
    have c2b0 : decide (x4_1 < (a0.size : Int)) = false := decide_eq_false c2
    clear c2
    by_cases c14 : (a0.size : Int) > 0
    ·rw [if_pos c14] at H
     have c14b0 : decide (0 < (a0.size : Int)) = true := decide_eq_true c14
     have c14b1 : decide (0 < a0.size) = true := decide_eq_true (by omega)
     clear c14
     by_cases c15 : (a0.size : Int) ≤ 20
     ·rw [if_pos c15] at H
      have c15b0 : decide ((a0.size : Int) ≤ 20) = true := decide_eq_true c15
      have c15b1 : decide (a0.size ≤ 20) = true := decide_eq_true (by omega)
      clear c15
      obtain rfl := Option.some.inj H
      go_wp2
      go_ret
      exact ⟨by first | rfl | (simp; done) | (simp [*]; done), by repeat (first | exact Drawn0.refl _ | apply Drawn0.step)⟩
     ·rw [if_neg c15] at H
      have c15b0 : decide ((a0.size : Int) ≤ 20) = false := decide_eq_false c15
      have c15b1 : decide (a0.size ≤ 20) = false := decide_eq_false (by omega)
      clear c15
      obtain rfl := Option.some.inj H
      go_wp2
      go_ret
      exact ⟨by first | rfl | (simp; done) | (simp [*]; done), by repeat (first | exact Drawn0.refl _ | apply Drawn0.step)⟩
    ·rw [if_neg c14] at H
     have c14b0 : decide (0 < (a0.size : Int)) = false := decide_eq_false c14
     have c14b1 : decide (0 < a0.size) = false := decide_eq_false (by omega)
     clear c14
     obtain rfl := Option.some.inj H
     go_wp2
     go_ret
     exact ⟨by first | rfl | (simp; done) | (simp [*]; done), by repeat (first | exact Drawn0.refl _ | apply Drawn0.step)⟩

def vinculumref09_Printable.l0 : Nat → ByteArray → Int → Option (Bool)
 | 0, _, _ => none
 | k + 1, x0, x3 => if x3 < (x0.size : Int) then (if 0 ≤ x3 then (if (bt x0 x3) < 32 then (some false) else (if (bt x0 x3) > 126 then (some false) else (vinculumref09_Printable.l0 k x0 (wrap64 (x3 + 1))))) else (none)) else (some true)
def vinculumref09_Printable.f (k : Nat) (a0 : ByteArray) : Option (Bool) := vinculumref09_Printable.l0 k a0 0
theorem vinculumref09_Printable.mono_l : ∀ k, (∀ y0 y1, LeO (vinculumref09_Printable.l0 k y0 y1) (vinculumref09_Printable.l0 (k + 1) y0 y1))
 | 0 => fun _ _ r h => by simp [vinculumref09_Printable.l0] at h
 | k + 1 => by
  have ih0 := vinculumref09_Printable.mono_l k
  ·intro y0 y1
   unfold vinculumref09_Printable.l0
   repeat' first
   | (with_reducible exact ih0 _ _)
   | (with_reducible exact LeO.refl _)
   | (with_reducible exact LeO.none _)
   | (with_reducible refine LeO.ite ?_ ?_)
   | (with_reducible refine LeO.bind ?_ (fun _ => ?_))
   | exact ih0 _ _
   | exact LeO.none _
   | refine LeO.ite ?_ ?_
   | refine LeO.bind ?_ (fun _ => ?_)
theorem vinculumref09_Printable.mono : ∀ a0 k, LeO (vinculumref09_Printable.f k a0) (vinculumref09_Printable.f (k + 1) a0) := by
 intro a0 k
 have ih0 := vinculumref09_Printable.mono_l k
 unfold vinculumref09_Printable.f
 repeat' first
   | (with_reducible exact ih0 _ _)
   | (with_reducible exact LeO.refl _)
   | (with_reducible exact LeO.none _)
   | (with_reducible refine LeO.ite ?_ ?_)
   | (with_reducible refine LeO.bind ?_ (fun _ => ?_))
   | exact ih0 _ _
   | exact LeO.none _
   | refine LeO.ite ?_ ?_
   | refine LeO.bind ?_ (fun _ => ?_)
set_option maxHeartbeats 8000000 in
set_option maxRecDepth 100000 in
theorem vinculumref09_Printable.calls (k : Nat) (a0 : ByteArray) (r : Bool) (w : World) (h : vinculumref09_Printable.f k a0 = some r) :
  Calls Tryd.prog 46 #[.string a0] w fun e w' => e = .returned (.bool r) ∧ Drawn0 w w' := by
 have H : (vinculumref09_Printable.l0 k a0 0) = some r := h
 clear h
 have H' := Aside0.mk H
 clear H
 go_enter Tryd.func46, Tryd.ntmps46
 go_wp2
 go_loopg [3] k (fun kq v3 w' => ∃ (x3_1 : Int), v3 = .int .i64 x3_1 ∧ Aside0 (vinculumref09_Printable.l0 kq a0 x3_1 = some r) ∧ Aside0 (kq ≤ k) ∧ Drawn0 w w')
 case atStart => exact ⟨(0), (by first | rfl | (simp; done) | (simp [*]; done)), H', ⟨Nat.le_refl _⟩, by repeat (first | exact Drawn0.refl _ | apply Drawn0.step)⟩
 case round =>
  clear H'
  obtain ⟨x3_1, rfl, HA, HK1, ⟨m1, rfl⟩⟩ := hrel
  cases gk with
  | zero => exact absurd HA.out (by simp [vinculumref09_Printable.l0])
  | succ k1 =>
   have H := HA.out
   clear HA
   simp only [vinculumref09_Printable.l0] at H
   by_cases c2 : x3_1 < (a0.size : Int)
   ·rw [if_pos c2] at H
    have c2b0 : decide (x3_1 < (a0.size : Int)) = true := decide_eq_true c2
    clear c2
    by_cases c3 : 0 ≤ x3_1
    case neg =>
     rw [if_neg c3] at H
     exact absurd H (by simp)
    rw [if_pos c3] at H
    have c3b0 : decide (0 ≤ x3_1) = true := decide_eq_true c3
    clear c3
    by_cases c5 : (bt a0 x3_1) < 32
    ·rw [if_pos c5] at H
     have c5b0 : decide ((bt a0 x3_1) < 32) = true := decide_eq_true c5
     clear c5
     obtain rfl := Option.some.inj H
     have p4 : 0 ≤ (x3_1 : Int) := of_decide_eq_true (by first | (with_reducible assumption) | assumption)
     have q4 : x3_1 < (a0.size : Int) := of_decide_eq_true (by first | (with_reducible assumption) | assumption)
     have hx4 := bt_at a0 x3_1
     replace p4 := eq_true p4
     replace q4 := eq_true q4
     go_wp2
     go_ret
     exact ⟨by first | rfl | (simp; done) | (simp [*]; done), by repeat (first | exact Drawn0.refl _ | apply Drawn0.step)⟩
    ·rw [if_neg c5] at H
     have c5b0 : decide ((bt a0 x3_1) < 32) = false := decide_eq_false c5
     clear c5
     by_cases c7 : (bt a0 x3_1) > 126
     ·rw [if_pos c7] at H
      have c7b0 : decide (126 < (bt a0 x3_1)) = true := decide_eq_true c7
      clear c7
      obtain rfl := Option.some.inj H
      have p4 : 0 ≤ (x3_1 : Int) := of_decide_eq_true (by first | (with_reducible assumption) | assumption)
      have q4 : x3_1 < (a0.size : Int) := of_decide_eq_true (by first | (with_reducible assumption) | assumption)
      have hx4 := bt_at a0 x3_1
      replace p4 := eq_true p4
      replace q4 := eq_true q4
      have p6 : 0 ≤ (x3_1 : Int) := of_decide_eq_true (by first | (with_reducible assumption) | assumption)
      have q6 : x3_1 < (a0.size : Int) := of_decide_eq_true (by first | (with_reducible assumption) | assumption)
      have hx6 := bt_at a0 x3_1
      replace p6 := eq_true p6
      replace q6 := eq_true q6
      go_wp2
      go_ret
      exact ⟨by first | rfl | (simp; done) | (simp [*]; done), by repeat (first | exact Drawn0.refl _ | apply Drawn0.step)⟩
     ·rw [if_neg c7] at H
      have c7b0 : decide (126 < (bt a0 x3_1)) = false := decide_eq_false c7
      clear c7
      have H' := Aside0.mk H
      clear H
      have p4 : 0 ≤ (x3_1 : Int) := of_decide_eq_true (by first | (with_reducible assumption) | assumption)
      have q4 : x3_1 < (a0.size : Int) := of_decide_eq_true (by first | (with_reducible assumption) | assumption)
      have hx4 := bt_at a0 x3_1
      replace p4 := eq_true p4
      replace q4 := eq_true q4
      have p6 : 0 ≤ (x3_1 : Int) := of_decide_eq_true (by first | (with_reducible assumption) | assumption)
      have q6 : x3_1 < (a0.size : Int) := of_decide_eq_true (by first | (with_reducible assumption) | assumption)
      have hx6 := bt_at a0 x3_1
      replace p6 := eq_true p6
      replace q6 := eq_true q6
      go_wp2
      go_roundg k1
      case measure => have := HK1.out; omega
      case rel => exact ⟨(wrap64 (x3_1 + 1)), (by first | rfl | (simp; done) | (simp [*]; done)), H', ⟨by have := HK1.out; omega⟩, by repeat (first | exact Drawn0.refl _ | apply Drawn0.step)⟩
   ·rw [if_neg c2] at H
    have c2b0 : decide (x3_1 < (a0.size : Int)) = false := decide_eq_false c2
    clear c2
    obtain rfl := Option.some.inj H
    go_wp2
    go_ret
    exact ⟨by first | rfl | (simp; done) | (simp [*]; done), by repeat (first | exact Drawn0.refl _ | apply Drawn0.step)⟩

end Go.Proofs.YtihchehmkhnhaaaDoor.A
