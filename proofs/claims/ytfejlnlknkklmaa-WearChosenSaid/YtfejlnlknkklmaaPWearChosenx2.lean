-- PRINTED BY print.sh 35421559b90ae4d0a3588c463048766b98c2df88dd9212a6774a882060cdf62d: not written by this session
import Derived.Test.YtfejlnlknkklmaaPWearChosenx0
import Derived.Test.YtfejlnlknkklmaaPWearChosenx1
namespace Go.Proofs.Ytfejlnlknkklmaa.PWearChosen
open Go.RowKit Go.Proofs.YtfejlnlknkklmaaW.PrintWords Go.Proofs.YtfejlnlknkklmaaW.PrintLast Go.Proofs.YtfejlnlknkklmaaW.PrintMore
attribute [local go_sem] max2_int min2_int max_two min_two max_three min_three max_four min_four   -- for this text's walks alone
set_option linter.unusedVariables false
set_option linter.unusedSimpArgs false

/-! ### tegulalaw19_WearChosen: function 7 -/
mutual
def tegulalaw19_WearChosen.j0 : Nat → List (S32) → Bool → Option (Bool)
  | 0, _, _ => none
  | k + 1, x0, x12 => if x12 = true then ((tegulalaw19_awake.f k).bind fun t118 => (some t118)) else ((wear_Least.f k x0).bind fun bt119 => (if bt119.2 = 0 then (if bt119.1 < 0 then (tegulalaw19_WearChosen.j1 k x0 bt119.1 bt119.2 true) else (tegulalaw19_WearChosen.j1 k x0 bt119.1 bt119.2 (decide (bt119.1 ≥ (x0.length : Int))))) else (tegulalaw19_WearChosen.j1 k x0 bt119.1 bt119.2 false)))
def tegulalaw19_WearChosen.j1 : Nat → List (S32) → Int → Int → Bool → Option (Bool)
  | 0, _, _, _, _ => none
  | k + 1, x0, x3, x4, x30 => if x30 = true then (some false) else (tegulalaw19_WearChosen.l0 k x0 x3 x4 0)
def tegulalaw19_WearChosen.l0 : Nat → List (S32) → Int → Int → Int → Option (Bool)
  | 0, _, _, _, _ => none
  | k + 1, x0, x3, x4, x5 => if x5 < (x0.length : Int) then (if 0 ≤ x5 then (if ((rd_T32 x0 x5).f0) = 0 then (if x4 = 0 then (if 0 ≤ x3 then (if x3 < (x0.length : Int) then (if ((rd_T32 x0 x5).f3) < ((rd_T32 x0 x3).f3) then (some false) else (if ((rd_T32 x0 x5).f3) = ((rd_T32 x0 x3).f3) then (if x5 < x3 then (some false) else (tegulalaw19_WearChosen.l0 k x0 x3 x4 (wrap64 (x5 + 1)))) else (tegulalaw19_WearChosen.l0 k x0 x3 x4 (wrap64 (x5 + 1))))) else (none)) else (none)) else (some false)) else (tegulalaw19_WearChosen.l0 k x0 x3 x4 (wrap64 (x5 + 1)))) else (none)) else (if x4 = 9 then (some true) else (if x4 = 0 then (if 0 ≤ x3 then (if x3 < (x0.length : Int) then (some (((rd_T32 x0 x3).f0) == 0)) else (none)) else (none)) else (some false)))
end
def tegulalaw19_WearChosen.f (k : Nat) (l0 : List (S32)) : Option (Bool) := (tegulalaw19_awake.f k).bind fun t117 => (if t117 = true then (tegulalaw19_WearChosen.j0 k l0 (decide ((l0.length : Int) > 100))) else (tegulalaw19_WearChosen.j0 k l0 true))
theorem tegulalaw19_WearChosen.mono_l : ∀ k, (∀ y0 y1, LeO (tegulalaw19_WearChosen.j0 k y0 y1) (tegulalaw19_WearChosen.j0 (k + 1) y0 y1)) ∧ (∀ y0 y1 y2 y3, LeO (tegulalaw19_WearChosen.j1 k y0 y1 y2 y3) (tegulalaw19_WearChosen.j1 (k + 1) y0 y1 y2 y3)) ∧ (∀ y0 y1 y2 y3, LeO (tegulalaw19_WearChosen.l0 k y0 y1 y2 y3) (tegulalaw19_WearChosen.l0 (k + 1) y0 y1 y2 y3))
  | 0 => ⟨fun _ _ r h => by simp [tegulalaw19_WearChosen.j0] at h, fun _ _ _ _ r h => by simp [tegulalaw19_WearChosen.j1] at h, fun _ _ _ _ r h => by simp [tegulalaw19_WearChosen.l0] at h⟩
  | k + 1 => by
    obtain ⟨ih0, ih1, ih2⟩ := tegulalaw19_WearChosen.mono_l k
    refine ⟨?_, ?_, ?_⟩
    · intro y0 y1
      unfold tegulalaw19_WearChosen.j0
      repeat' first
      | (with_reducible exact ih0 _ _)
      | (with_reducible exact ih1 _ _ _ _)
      | (with_reducible exact ih2 _ _ _ _)
      | (with_reducible exact tegulalaw19_awake.mono _)
      | (with_reducible exact wear_Least.mono _ _)
      | (with_reducible exact LeO.refl _)
      | (with_reducible exact LeO.none _)
      | (with_reducible refine LeO.ite ?_ ?_)
      | (with_reducible refine LeO.bind ?_ (fun _ => ?_))
      | exact ih0 _ _
      | exact ih1 _ _ _ _
      | exact ih2 _ _ _ _
      | exact tegulalaw19_awake.mono _
      | exact wear_Least.mono _ _
      | exact LeO.none _
      | refine LeO.ite ?_ ?_
      | refine LeO.bind ?_ (fun _ => ?_)
    · intro y0 y1 y2 y3
      unfold tegulalaw19_WearChosen.j1
      repeat' first
      | (with_reducible exact ih0 _ _)
      | (with_reducible exact ih1 _ _ _ _)
      | (with_reducible exact ih2 _ _ _ _)
      | (with_reducible exact tegulalaw19_awake.mono _)
      | (with_reducible exact wear_Least.mono _ _)
      | (with_reducible exact LeO.refl _)
      | (with_reducible exact LeO.none _)
      | (with_reducible refine LeO.ite ?_ ?_)
      | (with_reducible refine LeO.bind ?_ (fun _ => ?_))
      | exact ih0 _ _
      | exact ih1 _ _ _ _
      | exact ih2 _ _ _ _
      | exact tegulalaw19_awake.mono _
      | exact wear_Least.mono _ _
      | exact LeO.none _
      | refine LeO.ite ?_ ?_
      | refine LeO.bind ?_ (fun _ => ?_)
    · intro y0 y1 y2 y3
      unfold tegulalaw19_WearChosen.l0
      repeat' first
      | (with_reducible exact ih0 _ _)
      | (with_reducible exact ih1 _ _ _ _)
      | (with_reducible exact ih2 _ _ _ _)
      | (with_reducible exact tegulalaw19_awake.mono _)
      | (with_reducible exact wear_Least.mono _ _)
      | (with_reducible exact LeO.refl _)
      | (with_reducible exact LeO.none _)
      | (with_reducible refine LeO.ite ?_ ?_)
      | (with_reducible refine LeO.bind ?_ (fun _ => ?_))
      | exact ih0 _ _
      | exact ih1 _ _ _ _
      | exact ih2 _ _ _ _
      | exact tegulalaw19_awake.mono _
      | exact wear_Least.mono _ _
      | exact LeO.none _
      | refine LeO.ite ?_ ?_
      | refine LeO.bind ?_ (fun _ => ?_)
theorem tegulalaw19_WearChosen.mono : ∀ a0 k, LeO (tegulalaw19_WearChosen.f k a0) (tegulalaw19_WearChosen.f (k + 1) a0) := by
  intro a0 k
  obtain ⟨ih0, ih1, ih2⟩ := tegulalaw19_WearChosen.mono_l k
  unfold tegulalaw19_WearChosen.f
  repeat' first
      | (with_reducible exact ih0 _ _)
      | (with_reducible exact ih1 _ _ _ _)
      | (with_reducible exact ih2 _ _ _ _)
      | (with_reducible exact tegulalaw19_awake.mono _)
      | (with_reducible exact wear_Least.mono _ _)
      | (with_reducible exact LeO.refl _)
      | (with_reducible exact LeO.none _)
      | (with_reducible refine LeO.ite ?_ ?_)
      | (with_reducible refine LeO.bind ?_ (fun _ => ?_))
      | exact ih0 _ _
      | exact ih1 _ _ _ _
      | exact ih2 _ _ _ _
      | exact tegulalaw19_awake.mono _
      | exact wear_Least.mono _ _
      | exact LeO.none _
      | refine LeO.ite ?_ ?_
      | refine LeO.bind ?_ (fun _ => ?_)
set_option maxHeartbeats 8000000 in
set_option maxRecDepth 100000 in
theorem tegulalaw19_WearChosen.calls (k : Nat) (A0 : Option Addr) (c0 : Nat) (l0 : List (S32)) (r : Bool) (w : World) (hr0 : Kd.C k32 w A0 l0.length l0) (hc0 : l0.length ≤ c0) (h : tegulalaw19_WearChosen.f k l0 = some r) :
    Calls Try.prog 7 #[.slice A0 l0.length c0] w fun e w' => e = .returned (.bool r) ∧ Below w.heap.size w w' := by
  have HR0 := Aside0.mk hr0
  have HC0 := Aside0.mk hc0
  clear hr0 hc0
  have HB := Aside0.mk (Below.refl w.heap.size w)
  have H : ((tegulalaw19_awake.f k).bind fun t117 => (if t117 = true then (tegulalaw19_WearChosen.j0 k l0 (decide ((l0.length : Int) > 100))) else (tegulalaw19_WearChosen.j0 k l0 true))) = some r := h
  clear h
  have HC2 := Aside0.mk H
  clear H
  go_enter Try.func7, Try.ntmps7
  go_upto_region 1 with (fail)
  repeat (go_quiet (fail); go_upto_region 1 with (fail))
  go_cut [12] (fun v12 wc => ∃ (kq : Nat) (x12_1 : Bool), v12 = .bool x12_1 ∧ Aside0 (tegulalaw19_WearChosen.j0 kq l0 x12_1 = some r) ∧ Aside0 (kq ≤ k) ∧ Aside0 (Below w.heap.size w wc))
  case first =>
    have H := HC2.out
    clear HC2
    replace H := Option.bind_eq_some_iff.mp H
    obtain ⟨t117, A30, H⟩ := H
    replace H : (if t117 = true then (tegulalaw19_WearChosen.j0 k l0 (decide ((l0.length : Int) > 100))) else (tegulalaw19_WearChosen.j0 k l0 true)) = some r := H
    have A3 := Aside0.mk A30
    clear A30
    by_cases c4 : t117 = true
    · subst c4
      have H1 : (tegulalaw19_WearChosen.j0 k l0 (decide ((l0.length : Int) > 100))) = some r := by rw [if_pos rfl] at H; exact H
      clear H
      have H := H1
      clear H1
      have H' := Aside0.mk H
      clear H
      go_wp2_with (first | (go_at_call 8; (with_reducible refine (tegulalaw19_awake.calls k  true _ A3.out).mono ?_); rintro e w5 ⟨rfl, hb⟩; have n0_ := Aside0.mk (below_step (by repeat (first | (with_reducible first | exact HB.out | apply below_alloc | apply pw_below_drewN | apply below_drew1) | exact HB.out)) hb); clear HB; have HB := n0_; clear n0_; (try clear hb); (try clear hb2); (try clear hk); (try clear hi)))
      repeat (go_quiet (first | (go_at_call 8; (with_reducible refine (tegulalaw19_awake.calls k  true _ A3.out).mono ?_); rintro e w5 ⟨rfl, hb⟩; have n0_ := Aside0.mk (below_step (by repeat (first | (with_reducible first | exact HB.out | apply below_alloc | apply pw_below_drewN | apply below_drew1) | exact HB.out)) hb); clear HB; have HB := n0_; clear n0_; (try clear hb); (try clear hb2); (try clear hk); (try clear hi))); try go_wp2_with (first | (go_at_call 8; (with_reducible refine (tegulalaw19_awake.calls k  true _ A3.out).mono ?_); rintro e w5 ⟨rfl, hb⟩; have n0_ := Aside0.mk (below_step (by repeat (first | (with_reducible first | exact HB.out | apply below_alloc | apply pw_below_drewN | apply below_drew1) | exact HB.out)) hb); clear HB; have HB := n0_; clear n0_; (try clear hb); (try clear hb2); (try clear hk); (try clear hi))))
      go_meet
      case rel => exact ⟨_, (decide ((l0.length : Int) > 100)), (by first | rfl | (simp; done) | (simp [*]; done)), H', ⟨by first | omega | exact Nat.le_refl _⟩, ⟨by repeat (first | (with_reducible first | exact HB.out | apply below_alloc | apply pw_below_drewN | apply below_drew1) | exact HB.out)⟩⟩
    · replace c4 := Bool.eq_false_iff.mpr c4
      subst c4
      have H1 : (tegulalaw19_WearChosen.j0 k l0 true) = some r := by rw [if_neg (show ¬ (false = true) by decide)] at H; exact H
      clear H
      have H := H1
      clear H1
      have H' := Aside0.mk H
      clear H
      go_wp2_with (first | (go_at_call 8; (with_reducible refine (tegulalaw19_awake.calls k  false _ A3.out).mono ?_); rintro e w6 ⟨rfl, hb⟩; have n0_ := Aside0.mk (below_step (by repeat (first | (with_reducible first | exact HB.out | apply below_alloc | apply pw_below_drewN | apply below_drew1) | exact HB.out)) hb); clear HB; have HB := n0_; clear n0_; (try clear hb); (try clear hb2); (try clear hk); (try clear hi)))
      repeat (go_quiet (first | (go_at_call 8; (with_reducible refine (tegulalaw19_awake.calls k  false _ A3.out).mono ?_); rintro e w6 ⟨rfl, hb⟩; have n0_ := Aside0.mk (below_step (by repeat (first | (with_reducible first | exact HB.out | apply below_alloc | apply pw_below_drewN | apply below_drew1) | exact HB.out)) hb); clear HB; have HB := n0_; clear n0_; (try clear hb); (try clear hb2); (try clear hk); (try clear hi))); try go_wp2_with (first | (go_at_call 8; (with_reducible refine (tegulalaw19_awake.calls k  false _ A3.out).mono ?_); rintro e w6 ⟨rfl, hb⟩; have n0_ := Aside0.mk (below_step (by repeat (first | (with_reducible first | exact HB.out | apply below_alloc | apply pw_below_drewN | apply below_drew1) | exact HB.out)) hb); clear HB; have HB := n0_; clear n0_; (try clear hb); (try clear hb2); (try clear hk); (try clear hi))))
      go_meet
      case rel => exact ⟨_, (true), (by first | rfl | (simp; done) | (simp [*]; done)), H', ⟨by first | omega | exact Nat.le_refl _⟩, ⟨by repeat (first | (with_reducible first | exact HB.out | apply below_alloc | apply pw_below_drewN | apply below_drew1) | exact HB.out)⟩⟩
  case rest =>
    clear HC2
    try clear p2
    try clear c4
    obtain ⟨kq, x12_1, rfl, HA, HJ1, HB⟩ := hcut
    cases kq with
    | zero => exact absurd HA.out (by simp [tegulalaw19_WearChosen.j0])
    | succ kj1 =>
      have H := HA.out
      clear HA
      simp only [tegulalaw19_WearChosen.j0] at H
      by_cases c7 : x12_1 = true
      · subst c7
        have H1 : ((tegulalaw19_awake.f kj1).bind fun t118 => (some t118)) = some r := by rw [if_pos rfl] at H; exact H
        clear H
        have H := H1
        clear H1
        replace H := Option.bind_eq_some_iff.mp H
        obtain ⟨t118, A80, H⟩ := H
        replace H : (some t118) = some r := H
        have A8 := Aside0.mk A80
        clear A80
        obtain rfl := Option.some.inj H
        go_wp2_with (first | (go_at_call 8; (with_reducible refine (tegulalaw19_awake.calls kj1  t118 _ A8.out).mono ?_); rintro e w9 ⟨rfl, hb⟩; have n0_ := Aside0.mk (below_step (by repeat (first | (with_reducible first | exact HB.out | apply below_alloc | apply pw_below_drewN | apply below_drew1) | exact HB.out)) hb); clear HB; have HB := n0_; clear n0_; (try clear hb); (try clear hb2); (try clear hk); (try clear hi)))
        repeat (go_quiet (first | (go_at_call 8; (with_reducible refine (tegulalaw19_awake.calls kj1  t118 _ A8.out).mono ?_); rintro e w9 ⟨rfl, hb⟩; have n0_ := Aside0.mk (below_step (by repeat (first | (with_reducible first | exact HB.out | apply below_alloc | apply pw_below_drewN | apply below_drew1) | exact HB.out)) hb); clear HB; have HB := n0_; clear n0_; (try clear hb); (try clear hb2); (try clear hk); (try clear hi))); try go_wp2_with (first | (go_at_call 8; (with_reducible refine (tegulalaw19_awake.calls kj1  t118 _ A8.out).mono ?_); rintro e w9 ⟨rfl, hb⟩; have n0_ := Aside0.mk (below_step (by repeat (first | (with_reducible first | exact HB.out | apply below_alloc | apply pw_below_drewN | apply below_drew1) | exact HB.out)) hb); clear HB; have HB := n0_; clear n0_; (try clear hb); (try clear hb2); (try clear hk); (try clear hi))))
        go_ret
        exact ⟨by first | rfl | (simp [errW_none, errW_some] <;> rfl) | (simp [*, errW_none, errW_some] <;> rfl), by repeat (first | (with_reducible first | exact HB.out | apply below_alloc | apply pw_below_drewN | apply below_drew1) | exact HB.out)⟩
      · replace c7 := Bool.eq_false_iff.mpr c7
        subst c7
        have H1 : ((wear_Least.f kj1 l0).bind fun bt119 => (if bt119.2 = 0 then (if bt119.1 < 0 then (tegulalaw19_WearChosen.j1 kj1 l0 bt119.1 bt119.2 true) else (tegulalaw19_WearChosen.j1 kj1 l0 bt119.1 bt119.2 (decide (bt119.1 ≥ (l0.length : Int))))) else (tegulalaw19_WearChosen.j1 kj1 l0 bt119.1 bt119.2 false))) = some r := by rw [if_neg (show ¬ (false = true) by decide)] at H; exact H
        clear H
        have H := H1
        clear H1
        replace H := Option.bind_eq_some_iff.mp H
        obtain ⟨⟨t119, t120⟩, A100, H⟩ := H
        replace H : (if t120 = 0 then (if t119 < 0 then (tegulalaw19_WearChosen.j1 kj1 l0 t119 t120 true) else (tegulalaw19_WearChosen.j1 kj1 l0 t119 t120 (decide (t119 ≥ (l0.length : Int))))) else (tegulalaw19_WearChosen.j1 kj1 l0 t119 t120 false)) = some r := H
        have A10 := Aside0.mk A100
        clear A100
        have HC11 := Aside0.mk H
        clear H
        go_upto_region 4 with (first | (go_at_call 9; (with_reducible refine (wear_Least.calls kj1 _ _ l0 t119 t120 _ ?side1 ?side2 A10.out).mono ?_); (case side1 => repeat (first | exact (Kd.C_below HR0.out HB.out) | (with_reducible refine Kd.C_alloc ?_ _) | (with_reducible refine Kd.C_drewN ?_ _) | (with_reducible refine Kd.C_drew ?_))); (case side2 => exact HC0.out); rintro e w12 ⟨rfl, hb⟩; have n0_ := Aside0.mk (below_step (by repeat (first | (with_reducible first | exact HB.out | apply below_alloc | apply pw_below_drewN | apply below_drew1) | exact HB.out)) hb); clear HB; have HB := n0_; clear n0_; (try clear hb); (try clear hb2); (try clear hk); (try clear hi)))
        repeat (go_quiet (first | (go_at_call 9; (with_reducible refine (wear_Least.calls kj1 _ _ l0 t119 t120 _ ?side1 ?side2 A10.out).mono ?_); (case side1 => repeat (first | exact (Kd.C_below HR0.out HB.out) | (with_reducible refine Kd.C_alloc ?_ _) | (with_reducible refine Kd.C_drewN ?_ _) | (with_reducible refine Kd.C_drew ?_))); (case side2 => exact HC0.out); rintro e w12 ⟨rfl, hb⟩; have n0_ := Aside0.mk (below_step (by repeat (first | (with_reducible first | exact HB.out | apply below_alloc | apply pw_below_drewN | apply below_drew1) | exact HB.out)) hb); clear HB; have HB := n0_; clear n0_; (try clear hb); (try clear hb2); (try clear hk); (try clear hi))); go_upto_region 4 with (first | (go_at_call 9; (with_reducible refine (wear_Least.calls kj1 _ _ l0 t119 t120 _ ?side1 ?side2 A10.out).mono ?_); (case side1 => repeat (first | exact (Kd.C_below HR0.out HB.out) | (with_reducible refine Kd.C_alloc ?_ _) | (with_reducible refine Kd.C_drewN ?_ _) | (with_reducible refine Kd.C_drew ?_))); (case side2 => exact HC0.out); rintro e w12 ⟨rfl, hb⟩; have n0_ := Aside0.mk (below_step (by repeat (first | (with_reducible first | exact HB.out | apply below_alloc | apply pw_below_drewN | apply below_drew1) | exact HB.out)) hb); clear HB; have HB := n0_; clear n0_; (try clear hb); (try clear hb2); (try clear hk); (try clear hi))))
        (try simp only [Act.put, List.setIfInBounds_toArray, List.set_cons_zero, List.set_cons_succ])
        go_cut [30] (fun v30 wc => ∃ (kq : Nat) (x30_10 : Bool), v30 = .bool x30_10 ∧ Aside0 (tegulalaw19_WearChosen.j1 kq l0 t119 t120 x30_10 = some r) ∧ Aside0 (kq ≤ kj1) ∧ Aside0 (Below w.heap.size w wc))
        case first =>
          have H := HC11.out
          clear HC11
          by_cases c13 : t120 = 0
          · rw [if_pos c13] at H
            have c13b0 : (t120 == 0) = true := beq_iff_eq.mpr c13
            have c13b1 : (t120 != 0) = false := bne_eq_false_iff_eq.mpr c13
            clear c13
            (first | rw [c13b0] | (simp only [i64_w, i32_w]; rw [c13b0]) | skip)
            by_cases c14 : t119 < 0
            · rw [if_pos c14] at H
              have c14b0 : decide (t119 < 0) = true := decide_eq_true c14
              clear c14
              have H' := Aside0.mk H
              clear H
              go_wp2
              repeat (go_quiet (fail); try go_wp2)
              go_meet
              case rel => exact ⟨_, (true), (by first | rfl | (simp; done) | (simp [*]; done)), H', ⟨by have := HJ1.out; first | omega | exact Nat.le_refl _⟩, ⟨by repeat (first | (with_reducible first | exact HB.out | apply below_alloc | apply pw_below_drewN | apply below_drew1) | exact HB.out)⟩⟩
            · rw [if_neg c14] at H
              have c14b0 : decide (t119 < 0) = false := decide_eq_false c14
              clear c14
              have H' := Aside0.mk H
              clear H
              go_wp2
              repeat (go_quiet (fail); try go_wp2)
              go_meet
              case rel => exact ⟨_, (decide (t119 ≥ (l0.length : Int))), (by first | rfl | (simp; done) | (simp [*]; done)), H', ⟨by have := HJ1.out; first | omega | exact Nat.le_refl _⟩, ⟨by repeat (first | (with_reducible first | exact HB.out | apply below_alloc | apply pw_below_drewN | apply below_drew1) | exact HB.out)⟩⟩
          · rw [if_neg c13] at H
            have c13b0 : (t120 == 0) = false := beq_eq_false_iff_ne.mpr c13
            have c13b1 : (t120 != 0) = true := bne_iff_ne.mpr c13
            (first | rw [c13b0] | (simp only [i64_w, i32_w]; rw [c13b0]) | skip)
            have H' := Aside0.mk H
            clear H
            go_wp2
            repeat (go_quiet (fail); try go_wp2)
            go_meet
            case rel => exact ⟨_, (false), (by first | rfl | (simp; done) | (simp [*]; done)), H', ⟨by have := HJ1.out; first | omega | exact Nat.le_refl _⟩, ⟨by repeat (first | (with_reducible first | exact HB.out | apply below_alloc | apply pw_below_drewN | apply below_drew1) | exact HB.out)⟩⟩
        case rest =>
          clear HC11
          try clear c1
          try clear p2
          try clear c4
          try clear c7
          try clear c13
          try clear c13b0
          try clear c13b1
          try clear c14
          try clear c14b0
          try clear p2
          obtain ⟨kq, x30_10, rfl, HA, HJ10, HB⟩ := hcut
          cases kq with
          | zero => exact absurd HA.out (by simp [tegulalaw19_WearChosen.j1])
          | succ kj10 =>
            have H := HA.out
            clear HA
            simp only [tegulalaw19_WearChosen.j1] at H
            by_cases c15 : x30_10 = true
            · subst c15
              have H1 : (some false) = some r := by rw [if_pos rfl] at H; exact H
              clear H
              have H := H1
              clear H1
              obtain rfl := Option.some.inj H
              go_wp2
              repeat (go_quiet (fail); try go_wp2)
              go_ret
              exact ⟨by first | rfl | (simp [errW_none, errW_some] <;> rfl) | (simp [*, errW_none, errW_some] <;> rfl), by repeat (first | (with_reducible first | exact HB.out | apply below_alloc | apply pw_below_drewN | apply below_drew1) | exact HB.out)⟩
            · replace c15 := Bool.eq_false_iff.mpr c15
              subst c15
              have H1 : (tegulalaw19_WearChosen.l0 kj10 l0 t119 t120 0) = some r := by rw [if_neg (show ¬ (false = true) by decide)] at H; exact H
              clear H
              have H := H1
              clear H1
              have H' := Aside0.mk H
              clear H
              go_wp2
              repeat (go_quiet (fail); try go_wp2)
              go_loopg [5] kj10 (fun kq v5 w' => ∃ (x5_3 : Int), v5 = .int .i64 x5_3 ∧ Aside0 (tegulalaw19_WearChosen.l0 kq l0 t119 t120 x5_3 = some r) ∧ Aside0 (kq ≤ kj10) ∧ Aside0 (Below w.heap.size w w'))
              case atStart => exact ⟨(0), (by first | rfl | (simp; done) | (simp [*]; done)), H', ⟨Nat.le_refl _⟩, ⟨by repeat (first | (with_reducible first | exact HB.out | apply below_alloc | apply pw_below_drewN | apply below_drew1) | exact HB.out)⟩⟩
              case round =>
                clear H'
                try clear c1
                try clear p2
                try clear c4
                try clear c7
                try clear c13
                try clear c13b0
                try clear c13b1
                try clear c14
                try clear c14b0
                try clear c15
                try clear p2
                obtain ⟨x5_3, rfl, HA, HK3, HB⟩ := hrel
                cases gk with
                | zero => exact absurd HA.out (by simp [tegulalaw19_WearChosen.l0])
                | succ k3 =>
                  have H := HA.out
                  clear HA
                  simp only [tegulalaw19_WearChosen.l0] at H
                  by_cases c16 : x5_3 < (l0.length : Int)
                  · rw [if_pos c16] at H
                    have c16b0 : decide (x5_3 < (l0.length : Int)) = true := decide_eq_true c16
                    clear c16
                    by_cases c17 : 0 ≤ x5_3
                    · rw [if_pos c17] at H
                      have c17b0 : decide (0 ≤ x5_3) = true := decide_eq_true c17
                      clear c17
                      by_cases c18 : ((rd_T32 l0 x5_3).f0) = 0
                      · rw [if_pos c18] at H
                        have c18b0 : (((rd_T32 l0 x5_3).f0) == 0) = true := beq_iff_eq.mpr c18
                        have c18b1 : (((rd_T32 l0 x5_3).f0) != 0) = false := bne_eq_false_iff_eq.mpr c18
                        clear c18
                        by_cases c19 : t120 = 0
                        · rw [if_pos c19] at H
                          have c19b0 : (t120 == 0) = true := beq_iff_eq.mpr c19
                          have c19b1 : (t120 != 0) = false := bne_eq_false_iff_eq.mpr c19
                          clear c19
                          by_cases c20 : 0 ≤ t119
                          · rw [if_pos c20] at H
                            have c20b0 : decide (0 ≤ t119) = true := decide_eq_true c20
                            clear c20
                            by_cases c21 : t119 < (l0.length : Int)
                            · rw [if_pos c21] at H
                              have c21b0 : decide (t119 < (l0.length : Int)) = true := decide_eq_true c21
                              clear c21
                              by_cases c22 : ((rd_T32 l0 x5_3).f3) < ((rd_T32 l0 t119).f3)
                              · rw [if_pos c22] at H
                                have c22b0 : decide (((rd_T32 l0 x5_3).f3) < ((rd_T32 l0 t119).f3)) = true := decide_eq_true c22
                                clear c22
                                obtain rfl := Option.some.inj H
                                have p121 : 0 ≤ (x5_3 : Int) := of_decide_eq_true (by first | (with_reducible assumption) | assumption)
                                have q121 : x5_3 < (l0.length : Int) := of_decide_eq_true (by first | (with_reducible assumption) | assumption)
                                obtain ⟨ad121, e121, hx121_0, hx121_1, hx121_2, hx121_3⟩ := at_T32 HR0.out x5_3 p121 q121
                                cases e121
                                replace hx121_0 := (HB.out.cell (World.block_lt_of_cell? w _ hx121_0)).trans hx121_0
                                replace hx121_1 := (HB.out.cell (World.block_lt_of_cell? w _ hx121_1)).trans hx121_1
                                replace hx121_2 := (HB.out.cell (World.block_lt_of_cell? w _ hx121_2)).trans hx121_2
                                replace hx121_3 := (HB.out.cell (World.block_lt_of_cell? w _ hx121_3)).trans hx121_3
                                replace p121 := eq_true p121
                                replace q121 := eq_true q121
                                have p122 : 0 ≤ (x5_3 : Int) := of_decide_eq_true (by first | (with_reducible assumption) | assumption)
                                have q122 : x5_3 < (l0.length : Int) := of_decide_eq_true (by first | (with_reducible assumption) | assumption)
                                obtain ⟨ad122, e122, hx122_0, hx122_1, hx122_2, hx122_3⟩ := at_T32 HR0.out x5_3 p122 q122
                                obtain rfl : ad121 = ad122 := (by injection e122)
                                replace hx122_0 := (HB.out.cell (World.block_lt_of_cell? w _ hx122_0)).trans hx122_0
                                replace hx122_1 := (HB.out.cell (World.block_lt_of_cell? w _ hx122_1)).trans hx122_1
                                replace hx122_2 := (HB.out.cell (World.block_lt_of_cell? w _ hx122_2)).trans hx122_2
                                replace hx122_3 := (HB.out.cell (World.block_lt_of_cell? w _ hx122_3)).trans hx122_3
                                replace p122 := eq_true p122
                                replace q122 := eq_true q122
                                have p123 : 0 ≤ (t119 : Int) := of_decide_eq_true (by first | (with_reducible assumption) | assumption)
                                have q123 : t119 < (l0.length : Int) := of_decide_eq_true (by first | (with_reducible assumption) | assumption)
                                obtain ⟨ad123, e123, hx123_0, hx123_1, hx123_2, hx123_3⟩ := at_T32 HR0.out t119 p123 q123
                                obtain rfl : ad121 = ad123 := (by injection e123)
                                replace hx123_0 := (HB.out.cell (World.block_lt_of_cell? w _ hx123_0)).trans hx123_0
                                replace hx123_1 := (HB.out.cell (World.block_lt_of_cell? w _ hx123_1)).trans hx123_1
                                replace hx123_2 := (HB.out.cell (World.block_lt_of_cell? w _ hx123_2)).trans hx123_2
                                replace hx123_3 := (HB.out.cell (World.block_lt_of_cell? w _ hx123_3)).trans hx123_3
                                replace p123 := eq_true p123
                                replace q123 := eq_true q123
                                go_wp2
                                repeat (go_quiet (fail); try go_wp2)
                                go_ret
                                exact ⟨by first | rfl | (simp [errW_none, errW_some] <;> rfl) | (simp [*, errW_none, errW_some] <;> rfl), by repeat (first | (with_reducible first | exact HB.out | apply below_alloc | apply pw_below_drewN | apply below_drew1) | exact HB.out)⟩
                              · rw [if_neg c22] at H
                                have c22b0 : decide (((rd_T32 l0 x5_3).f3) < ((rd_T32 l0 t119).f3)) = false := decide_eq_false c22
                                clear c22
                                by_cases c23 : ((rd_T32 l0 x5_3).f3) = ((rd_T32 l0 t119).f3)
                                · rw [if_pos c23] at H
                                  have c23b0 : (((rd_T32 l0 x5_3).f3) == ((rd_T32 l0 t119).f3)) = true := beq_iff_eq.mpr c23
                                  have c23b1 : (((rd_T32 l0 x5_3).f3) != ((rd_T32 l0 t119).f3)) = false := bne_eq_false_iff_eq.mpr c23
                                  clear c23
                                  by_cases c24 : x5_3 < t119
                                  · rw [if_pos c24] at H
                                    have c24b0 : decide (x5_3 < t119) = true := decide_eq_true c24
                                    clear c24
                                    obtain rfl := Option.some.inj H
                                    have p121 : 0 ≤ (x5_3 : Int) := of_decide_eq_true (by first | (with_reducible assumption) | assumption)
                                    have q121 : x5_3 < (l0.length : Int) := of_decide_eq_true (by first | (with_reducible assumption) | assumption)
                                    obtain ⟨ad121, e121, hx121_0, hx121_1, hx121_2, hx121_3⟩ := at_T32 HR0.out x5_3 p121 q121
                                    cases e121
                                    replace hx121_0 := (HB.out.cell (World.block_lt_of_cell? w _ hx121_0)).trans hx121_0
                                    replace hx121_1 := (HB.out.cell (World.block_lt_of_cell? w _ hx121_1)).trans hx121_1
                                    replace hx121_2 := (HB.out.cell (World.block_lt_of_cell? w _ hx121_2)).trans hx121_2
                                    replace hx121_3 := (HB.out.cell (World.block_lt_of_cell? w _ hx121_3)).trans hx121_3
                                    replace p121 := eq_true p121
                                    replace q121 := eq_true q121
                                    have p122 : 0 ≤ (x5_3 : Int) := of_decide_eq_true (by first | (with_reducible assumption) | assumption)
                                    have q122 : x5_3 < (l0.length : Int) := of_decide_eq_true (by first | (with_reducible assumption) | assumption)
                                    obtain ⟨ad122, e122, hx122_0, hx122_1, hx122_2, hx122_3⟩ := at_T32 HR0.out x5_3 p122 q122
                                    obtain rfl : ad121 = ad122 := (by injection e122)
                                    replace hx122_0 := (HB.out.cell (World.block_lt_of_cell? w _ hx122_0)).trans hx122_0
                                    replace hx122_1 := (HB.out.cell (World.block_lt_of_cell? w _ hx122_1)).trans hx122_1
                                    replace hx122_2 := (HB.out.cell (World.block_lt_of_cell? w _ hx122_2)).trans hx122_2
                                    replace hx122_3 := (HB.out.cell (World.block_lt_of_cell? w _ hx122_3)).trans hx122_3
                                    replace p122 := eq_true p122
                                    replace q122 := eq_true q122
                                    have p123 : 0 ≤ (t119 : Int) := of_decide_eq_true (by first | (with_reducible assumption) | assumption)
                                    have q123 : t119 < (l0.length : Int) := of_decide_eq_true (by first | (with_reducible assumption) | assumption)
                                    obtain ⟨ad123, e123, hx123_0, hx123_1, hx123_2, hx123_3⟩ := at_T32 HR0.out t119 p123 q123
                                    obtain rfl : ad121 = ad123 := (by injection e123)
                                    replace hx123_0 := (HB.out.cell (World.block_lt_of_cell? w _ hx123_0)).trans hx123_0
                                    replace hx123_1 := (HB.out.cell (World.block_lt_of_cell? w _ hx123_1)).trans hx123_1
                                    replace hx123_2 := (HB.out.cell (World.block_lt_of_cell? w _ hx123_2)).trans hx123_2
                                    replace hx123_3 := (HB.out.cell (World.block_lt_of_cell? w _ hx123_3)).trans hx123_3
                                    replace p123 := eq_true p123
                                    replace q123 := eq_true q123
                                    have p124 : 0 ≤ (x5_3 : Int) := of_decide_eq_true (by first | (with_reducible assumption) | assumption)
                                    have q124 : x5_3 < (l0.length : Int) := of_decide_eq_true (by first | (with_reducible assumption) | assumption)
                                    obtain ⟨ad124, e124, hx124_0, hx124_1, hx124_2, hx124_3⟩ := at_T32 HR0.out x5_3 p124 q124
                                    obtain rfl : ad121 = ad124 := (by injection e124)
                                    replace hx124_0 := (HB.out.cell (World.block_lt_of_cell? w _ hx124_0)).trans hx124_0
                                    replace hx124_1 := (HB.out.cell (World.block_lt_of_cell? w _ hx124_1)).trans hx124_1
                                    replace hx124_2 := (HB.out.cell (World.block_lt_of_cell? w _ hx124_2)).trans hx124_2
                                    replace hx124_3 := (HB.out.cell (World.block_lt_of_cell? w _ hx124_3)).trans hx124_3
                                    replace p124 := eq_true p124
                                    replace q124 := eq_true q124
                                    have p125 : 0 ≤ (t119 : Int) := of_decide_eq_true (by first | (with_reducible assumption) | assumption)
                                    have q125 : t119 < (l0.length : Int) := of_decide_eq_true (by first | (with_reducible assumption) | assumption)
                                    obtain ⟨ad125, e125, hx125_0, hx125_1, hx125_2, hx125_3⟩ := at_T32 HR0.out t119 p125 q125
                                    obtain rfl : ad121 = ad125 := (by injection e125)
                                    replace hx125_0 := (HB.out.cell (World.block_lt_of_cell? w _ hx125_0)).trans hx125_0
                                    replace hx125_1 := (HB.out.cell (World.block_lt_of_cell? w _ hx125_1)).trans hx125_1
                                    replace hx125_2 := (HB.out.cell (World.block_lt_of_cell? w _ hx125_2)).trans hx125_2
                                    replace hx125_3 := (HB.out.cell (World.block_lt_of_cell? w _ hx125_3)).trans hx125_3
                                    replace p125 := eq_true p125
                                    replace q125 := eq_true q125
                                    go_wp2
                                    repeat (go_quiet (fail); try go_wp2)
                                    go_ret
                                    exact ⟨by first | rfl | (simp [errW_none, errW_some] <;> rfl) | (simp [*, errW_none, errW_some] <;> rfl), by repeat (first | (with_reducible first | exact HB.out | apply below_alloc | apply pw_below_drewN | apply below_drew1) | exact HB.out)⟩
                                  · rw [if_neg c24] at H
                                    have c24b0 : decide (x5_3 < t119) = false := decide_eq_false c24
                                    clear c24
                                    have H' := Aside0.mk H
                                    clear H
                                    have p121 : 0 ≤ (x5_3 : Int) := of_decide_eq_true (by first | (with_reducible assumption) | assumption)
                                    have q121 : x5_3 < (l0.length : Int) := of_decide_eq_true (by first | (with_reducible assumption) | assumption)
                                    obtain ⟨ad121, e121, hx121_0, hx121_1, hx121_2, hx121_3⟩ := at_T32 HR0.out x5_3 p121 q121
                                    cases e121
                                    replace hx121_0 := (HB.out.cell (World.block_lt_of_cell? w _ hx121_0)).trans hx121_0
                                    replace hx121_1 := (HB.out.cell (World.block_lt_of_cell? w _ hx121_1)).trans hx121_1
                                    replace hx121_2 := (HB.out.cell (World.block_lt_of_cell? w _ hx121_2)).trans hx121_2
                                    replace hx121_3 := (HB.out.cell (World.block_lt_of_cell? w _ hx121_3)).trans hx121_3
                                    replace p121 := eq_true p121
                                    replace q121 := eq_true q121
                                    have p122 : 0 ≤ (x5_3 : Int) := of_decide_eq_true (by first | (with_reducible assumption) | assumption)
                                    have q122 : x5_3 < (l0.length : Int) := of_decide_eq_true (by first | (with_reducible assumption) | assumption)
                                    obtain ⟨ad122, e122, hx122_0, hx122_1, hx122_2, hx122_3⟩ := at_T32 HR0.out x5_3 p122 q122
                                    obtain rfl : ad121 = ad122 := (by injection e122)
                                    replace hx122_0 := (HB.out.cell (World.block_lt_of_cell? w _ hx122_0)).trans hx122_0
                                    replace hx122_1 := (HB.out.cell (World.block_lt_of_cell? w _ hx122_1)).trans hx122_1
                                    replace hx122_2 := (HB.out.cell (World.block_lt_of_cell? w _ hx122_2)).trans hx122_2
                                    replace hx122_3 := (HB.out.cell (World.block_lt_of_cell? w _ hx122_3)).trans hx122_3
                                    replace p122 := eq_true p122
                                    replace q122 := eq_true q122
                                    have p123 : 0 ≤ (t119 : Int) := of_decide_eq_true (by first | (with_reducible assumption) | assumption)
                                    have q123 : t119 < (l0.length : Int) := of_decide_eq_true (by first | (with_reducible assumption) | assumption)
                                    obtain ⟨ad123, e123, hx123_0, hx123_1, hx123_2, hx123_3⟩ := at_T32 HR0.out t119 p123 q123
                                    obtain rfl : ad121 = ad123 := (by injection e123)
                                    replace hx123_0 := (HB.out.cell (World.block_lt_of_cell? w _ hx123_0)).trans hx123_0
                                    replace hx123_1 := (HB.out.cell (World.block_lt_of_cell? w _ hx123_1)).trans hx123_1
                                    replace hx123_2 := (HB.out.cell (World.block_lt_of_cell? w _ hx123_2)).trans hx123_2
                                    replace hx123_3 := (HB.out.cell (World.block_lt_of_cell? w _ hx123_3)).trans hx123_3
                                    replace p123 := eq_true p123
                                    replace q123 := eq_true q123
                                    have p124 : 0 ≤ (x5_3 : Int) := of_decide_eq_true (by first | (with_reducible assumption) | assumption)
                                    have q124 : x5_3 < (l0.length : Int) := of_decide_eq_true (by first | (with_reducible assumption) | assumption)
                                    obtain ⟨ad124, e124, hx124_0, hx124_1, hx124_2, hx124_3⟩ := at_T32 HR0.out x5_3 p124 q124
                                    obtain rfl : ad121 = ad124 := (by injection e124)
                                    replace hx124_0 := (HB.out.cell (World.block_lt_of_cell? w _ hx124_0)).trans hx124_0
                                    replace hx124_1 := (HB.out.cell (World.block_lt_of_cell? w _ hx124_1)).trans hx124_1
                                    replace hx124_2 := (HB.out.cell (World.block_lt_of_cell? w _ hx124_2)).trans hx124_2
                                    replace hx124_3 := (HB.out.cell (World.block_lt_of_cell? w _ hx124_3)).trans hx124_3
                                    replace p124 := eq_true p124
                                    replace q124 := eq_true q124
                                    have p125 : 0 ≤ (t119 : Int) := of_decide_eq_true (by first | (with_reducible assumption) | assumption)
                                    have q125 : t119 < (l0.length : Int) := of_decide_eq_true (by first | (with_reducible assumption) | assumption)
                                    obtain ⟨ad125, e125, hx125_0, hx125_1, hx125_2, hx125_3⟩ := at_T32 HR0.out t119 p125 q125
                                    obtain rfl : ad121 = ad125 := (by injection e125)
                                    replace hx125_0 := (HB.out.cell (World.block_lt_of_cell? w _ hx125_0)).trans hx125_0
                                    replace hx125_1 := (HB.out.cell (World.block_lt_of_cell? w _ hx125_1)).trans hx125_1
                                    replace hx125_2 := (HB.out.cell (World.block_lt_of_cell? w _ hx125_2)).trans hx125_2
                                    replace hx125_3 := (HB.out.cell (World.block_lt_of_cell? w _ hx125_3)).trans hx125_3
                                    replace p125 := eq_true p125
                                    replace q125 := eq_true q125
                                    go_wp2
                                    repeat (go_quiet (fail); try go_wp2)
                                    go_roundg k3
                                    case measure => have := HJ1.out; have := HJ10.out; have := HK3.out; omega
                                    case rel => exact ⟨(wrap64 (x5_3 + 1)), (by first | rfl | (simp; done) | (simp [*]; done)), H', ⟨by have := HJ1.out; have := HJ10.out; have := HK3.out; omega⟩, ⟨by repeat (first | (with_reducible first | exact HB.out | apply below_alloc | apply pw_below_drewN | apply below_drew1) | exact HB.out)⟩⟩
                                · rw [if_neg c23] at H
                                  have c23b0 : (((rd_T32 l0 x5_3).f3) == ((rd_T32 l0 t119).f3)) = false := beq_eq_false_iff_ne.mpr c23
                                  have c23b1 : (((rd_T32 l0 x5_3).f3) != ((rd_T32 l0 t119).f3)) = true := bne_iff_ne.mpr c23
                                  have H' := Aside0.mk H
                                  clear H
                                  have p121 : 0 ≤ (x5_3 : Int) := of_decide_eq_true (by first | (with_reducible assumption) | assumption)
                                  have q121 : x5_3 < (l0.length : Int) := of_decide_eq_true (by first | (with_reducible assumption) | assumption)
                                  obtain ⟨ad121, e121, hx121_0, hx121_1, hx121_2, hx121_3⟩ := at_T32 HR0.out x5_3 p121 q121
                                  cases e121
                                  replace hx121_0 := (HB.out.cell (World.block_lt_of_cell? w _ hx121_0)).trans hx121_0
                                  replace hx121_1 := (HB.out.cell (World.block_lt_of_cell? w _ hx121_1)).trans hx121_1
                                  replace hx121_2 := (HB.out.cell (World.block_lt_of_cell? w _ hx121_2)).trans hx121_2
                                  replace hx121_3 := (HB.out.cell (World.block_lt_of_cell? w _ hx121_3)).trans hx121_3
                                  replace p121 := eq_true p121
                                  replace q121 := eq_true q121
                                  have p122 : 0 ≤ (x5_3 : Int) := of_decide_eq_true (by first | (with_reducible assumption) | assumption)
                                  have q122 : x5_3 < (l0.length : Int) := of_decide_eq_true (by first | (with_reducible assumption) | assumption)
                                  obtain ⟨ad122, e122, hx122_0, hx122_1, hx122_2, hx122_3⟩ := at_T32 HR0.out x5_3 p122 q122
                                  obtain rfl : ad121 = ad122 := (by injection e122)
                                  replace hx122_0 := (HB.out.cell (World.block_lt_of_cell? w _ hx122_0)).trans hx122_0
                                  replace hx122_1 := (HB.out.cell (World.block_lt_of_cell? w _ hx122_1)).trans hx122_1
                                  replace hx122_2 := (HB.out.cell (World.block_lt_of_cell? w _ hx122_2)).trans hx122_2
                                  replace hx122_3 := (HB.out.cell (World.block_lt_of_cell? w _ hx122_3)).trans hx122_3
                                  replace p122 := eq_true p122
                                  replace q122 := eq_true q122
                                  have p123 : 0 ≤ (t119 : Int) := of_decide_eq_true (by first | (with_reducible assumption) | assumption)
                                  have q123 : t119 < (l0.length : Int) := of_decide_eq_true (by first | (with_reducible assumption) | assumption)
                                  obtain ⟨ad123, e123, hx123_0, hx123_1, hx123_2, hx123_3⟩ := at_T32 HR0.out t119 p123 q123
                                  obtain rfl : ad121 = ad123 := (by injection e123)
                                  replace hx123_0 := (HB.out.cell (World.block_lt_of_cell? w _ hx123_0)).trans hx123_0
                                  replace hx123_1 := (HB.out.cell (World.block_lt_of_cell? w _ hx123_1)).trans hx123_1
                                  replace hx123_2 := (HB.out.cell (World.block_lt_of_cell? w _ hx123_2)).trans hx123_2
                                  replace hx123_3 := (HB.out.cell (World.block_lt_of_cell? w _ hx123_3)).trans hx123_3
                                  replace p123 := eq_true p123
                                  replace q123 := eq_true q123
                                  have p124 : 0 ≤ (x5_3 : Int) := of_decide_eq_true (by first | (with_reducible assumption) | assumption)
                                  have q124 : x5_3 < (l0.length : Int) := of_decide_eq_true (by first | (with_reducible assumption) | assumption)
                                  obtain ⟨ad124, e124, hx124_0, hx124_1, hx124_2, hx124_3⟩ := at_T32 HR0.out x5_3 p124 q124
                                  obtain rfl : ad121 = ad124 := (by injection e124)
                                  replace hx124_0 := (HB.out.cell (World.block_lt_of_cell? w _ hx124_0)).trans hx124_0
                                  replace hx124_1 := (HB.out.cell (World.block_lt_of_cell? w _ hx124_1)).trans hx124_1
                                  replace hx124_2 := (HB.out.cell (World.block_lt_of_cell? w _ hx124_2)).trans hx124_2
                                  replace hx124_3 := (HB.out.cell (World.block_lt_of_cell? w _ hx124_3)).trans hx124_3
                                  replace p124 := eq_true p124
                                  replace q124 := eq_true q124
                                  have p125 : 0 ≤ (t119 : Int) := of_decide_eq_true (by first | (with_reducible assumption) | assumption)
                                  have q125 : t119 < (l0.length : Int) := of_decide_eq_true (by first | (with_reducible assumption) | assumption)
                                  obtain ⟨ad125, e125, hx125_0, hx125_1, hx125_2, hx125_3⟩ := at_T32 HR0.out t119 p125 q125
                                  obtain rfl : ad121 = ad125 := (by injection e125)
                                  replace hx125_0 := (HB.out.cell (World.block_lt_of_cell? w _ hx125_0)).trans hx125_0
                                  replace hx125_1 := (HB.out.cell (World.block_lt_of_cell? w _ hx125_1)).trans hx125_1
                                  replace hx125_2 := (HB.out.cell (World.block_lt_of_cell? w _ hx125_2)).trans hx125_2
                                  replace hx125_3 := (HB.out.cell (World.block_lt_of_cell? w _ hx125_3)).trans hx125_3
                                  replace p125 := eq_true p125
                                  replace q125 := eq_true q125
                                  go_wp2
                                  repeat (go_quiet (fail); try go_wp2)
                                  go_roundg k3
                                  case measure => have := HJ1.out; have := HJ10.out; have := HK3.out; omega
                                  case rel => exact ⟨(wrap64 (x5_3 + 1)), (by first | rfl | (simp; done) | (simp [*]; done)), H', ⟨by have := HJ1.out; have := HJ10.out; have := HK3.out; omega⟩, ⟨by repeat (first | (with_reducible first | exact HB.out | apply below_alloc | apply pw_below_drewN | apply below_drew1) | exact HB.out)⟩⟩
                            · rw [if_neg c21] at H
                              exact absurd H (by simp)
                          · rw [if_neg c20] at H
                            exact absurd H (by simp)
                        · rw [if_neg c19] at H
                          have c19b0 : (t120 == 0) = false := beq_eq_false_iff_ne.mpr c19
                          have c19b1 : (t120 != 0) = true := bne_iff_ne.mpr c19
                          obtain rfl := Option.some.inj H
                          have p121 : 0 ≤ (x5_3 : Int) := of_decide_eq_true (by first | (with_reducible assumption) | assumption)
                          have q121 : x5_3 < (l0.length : Int) := of_decide_eq_true (by first | (with_reducible assumption) | assumption)
                          obtain ⟨ad121, e121, hx121_0, hx121_1, hx121_2, hx121_3⟩ := at_T32 HR0.out x5_3 p121 q121
                          cases e121
                          replace hx121_0 := (HB.out.cell (World.block_lt_of_cell? w _ hx121_0)).trans hx121_0
                          replace hx121_1 := (HB.out.cell (World.block_lt_of_cell? w _ hx121_1)).trans hx121_1
                          replace hx121_2 := (HB.out.cell (World.block_lt_of_cell? w _ hx121_2)).trans hx121_2
                          replace hx121_3 := (HB.out.cell (World.block_lt_of_cell? w _ hx121_3)).trans hx121_3
                          replace p121 := eq_true p121
                          replace q121 := eq_true q121
                          go_wp2
                          repeat (go_quiet (fail); try go_wp2)
                          go_ret
                          exact ⟨by first | rfl | (simp [errW_none, errW_some] <;> rfl) | (simp [*, errW_none, errW_some] <;> rfl), by repeat (first | (with_reducible first | exact HB.out | apply below_alloc | apply pw_below_drewN | apply below_drew1) | exact HB.out)⟩
                      · rw [if_neg c18] at H
                        have c18b0 : (((rd_T32 l0 x5_3).f0) == 0) = false := beq_eq_false_iff_ne.mpr c18
                        have c18b1 : (((rd_T32 l0 x5_3).f0) != 0) = true := bne_iff_ne.mpr c18
                        have H' := Aside0.mk H
                        clear H
                        have p121 : 0 ≤ (x5_3 : Int) := of_decide_eq_true (by first | (with_reducible assumption) | assumption)
                        have q121 : x5_3 < (l0.length : Int) := of_decide_eq_true (by first | (with_reducible assumption) | assumption)
                        obtain ⟨ad121, e121, hx121_0, hx121_1, hx121_2, hx121_3⟩ := at_T32 HR0.out x5_3 p121 q121
                        cases e121
                        replace hx121_0 := (HB.out.cell (World.block_lt_of_cell? w _ hx121_0)).trans hx121_0
                        replace hx121_1 := (HB.out.cell (World.block_lt_of_cell? w _ hx121_1)).trans hx121_1
                        replace hx121_2 := (HB.out.cell (World.block_lt_of_cell? w _ hx121_2)).trans hx121_2
                        replace hx121_3 := (HB.out.cell (World.block_lt_of_cell? w _ hx121_3)).trans hx121_3
                        replace p121 := eq_true p121
                        replace q121 := eq_true q121
                        go_wp2
                        repeat (go_quiet (fail); try go_wp2)
                        go_roundg k3
                        case measure => have := HJ1.out; have := HJ10.out; have := HK3.out; omega
                        case rel => exact ⟨(wrap64 (x5_3 + 1)), (by first | rfl | (simp; done) | (simp [*]; done)), H', ⟨by have := HJ1.out; have := HJ10.out; have := HK3.out; omega⟩, ⟨by repeat (first | (with_reducible first | exact HB.out | apply below_alloc | apply pw_below_drewN | apply below_drew1) | exact HB.out)⟩⟩
                    · rw [if_neg c17] at H
                      exact absurd H (by simp)
                  · rw [if_neg c16] at H
                    have c16b0 : decide (x5_3 < (l0.length : Int)) = false := decide_eq_false c16
                    clear c16
                    by_cases c25 : t120 = 9
                    · rw [if_pos c25] at H
                      have c25b0 : (t120 == 9) = true := beq_iff_eq.mpr c25
                      have c25b1 : (t120 != 9) = false := bne_eq_false_iff_eq.mpr c25
                      clear c25
                      obtain rfl := Option.some.inj H
                      go_wp2
                      repeat (go_quiet (fail); try go_wp2)
                      go_ret
                      exact ⟨by first | rfl | (simp [errW_none, errW_some] <;> rfl) | (simp [*, errW_none, errW_some] <;> rfl), by repeat (first | (with_reducible first | exact HB.out | apply below_alloc | apply pw_below_drewN | apply below_drew1) | exact HB.out)⟩
                    · rw [if_neg c25] at H
                      have c25b0 : (t120 == 9) = false := beq_eq_false_iff_ne.mpr c25
                      have c25b1 : (t120 != 9) = true := bne_iff_ne.mpr c25
                      by_cases c26 : t120 = 0
                      · rw [if_pos c26] at H
                        have c26b0 : (t120 == 0) = true := beq_iff_eq.mpr c26
                        have c26b1 : (t120 != 0) = false := bne_eq_false_iff_eq.mpr c26
                        clear c26
                        by_cases c27 : 0 ≤ t119
                        · rw [if_pos c27] at H
                          have c27b0 : decide (0 ≤ t119) = true := decide_eq_true c27
                          clear c27
                          by_cases c28 : t119 < (l0.length : Int)
                          · rw [if_pos c28] at H
                            have c28b0 : decide (t119 < (l0.length : Int)) = true := decide_eq_true c28
                            clear c28
                            obtain rfl := Option.some.inj H
                            have p126 : 0 ≤ (t119 : Int) := of_decide_eq_true (by first | (with_reducible assumption) | assumption)
                            have q126 : t119 < (l0.length : Int) := of_decide_eq_true (by first | (with_reducible assumption) | assumption)
                            obtain ⟨ad126, e126, hx126_0, hx126_1, hx126_2, hx126_3⟩ := at_T32 HR0.out t119 p126 q126
                            cases e126
                            replace hx126_0 := (HB.out.cell (World.block_lt_of_cell? w _ hx126_0)).trans hx126_0
                            replace hx126_1 := (HB.out.cell (World.block_lt_of_cell? w _ hx126_1)).trans hx126_1
                            replace hx126_2 := (HB.out.cell (World.block_lt_of_cell? w _ hx126_2)).trans hx126_2
                            replace hx126_3 := (HB.out.cell (World.block_lt_of_cell? w _ hx126_3)).trans hx126_3
                            replace p126 := eq_true p126
                            replace q126 := eq_true q126
                            go_wp2
                            repeat (go_quiet (fail); try go_wp2)
                            go_ret
                            exact ⟨by first | rfl | (simp [errW_none, errW_some] <;> rfl) | (simp [*, errW_none, errW_some] <;> rfl), by repeat (first | (with_reducible first | exact HB.out | apply below_alloc | apply pw_below_drewN | apply below_drew1) | exact HB.out)⟩
                          · rw [if_neg c28] at H
                            exact absurd H (by simp)
                        · rw [if_neg c27] at H
                          exact absurd H (by simp)
                      · rw [if_neg c26] at H
                        have c26b0 : (t120 == 0) = false := beq_eq_false_iff_ne.mpr c26
                        have c26b1 : (t120 != 0) = true := bne_iff_ne.mpr c26
                        obtain rfl := Option.some.inj H
                        go_wp2
                        repeat (go_quiet (fail); try go_wp2)
                        go_ret
                        exact ⟨by first | rfl | (simp [errW_none, errW_some] <;> rfl) | (simp [*, errW_none, errW_some] <;> rfl), by repeat (first | (with_reducible first | exact HB.out | apply below_alloc | apply pw_below_drewN | apply below_drew1) | exact HB.out)⟩

end Go.Proofs.Ytfejlnlknkklmaa.PWearChosen
