-- PRINTED BY print.sh 35421559b90ae4d0a3588c463048766b98c2df88dd9212a6774a882060cdf62d: not written by this session
import Derived.Test.YtfejlnlknkklmaaPWearLeastx0
namespace Go.Proofs.Ytfejlnlknkklmaa.PWearLeast
open Go.RowKit Go.Proofs.YtfejlnlknkklmaaW.PrintWords Go.Proofs.YtfejlnlknkklmaaW.PrintLast Go.Proofs.YtfejlnlknkklmaaW.PrintMore
attribute [local go_sem] max2_int min2_int max_two min_two max_three min_three max_four min_four   -- for this text's walks alone
set_option linter.unusedVariables false
set_option linter.unusedSimpArgs false

/-! ### wear_Least: function 9 -/
def wear_Least.l0 : Nat → List (S32) → Int → List (S32) → Int → Int → Option (Int × Int)
  | 0, _, _, _, _, _ => none
  | k + 1, x0, x4, x7, x8, x9 => if x9 < x8 then (if 0 ≤ x9 then (if x9 < (x7.length : Int) then (if ((rd_T32 x7 x9).f0) = 0 then (if x4 < 0 then (wear_Least.l0 k x0 x9 x7 x8 (wrap64 (x9 + 1))) else (if 0 ≤ x4 then (if x4 < (x0.length : Int) then (if ((rd_T32 x7 x9).f3) < ((rd_T32 x0 x4).f3) then (wear_Least.l0 k x0 x9 x7 x8 (wrap64 (x9 + 1))) else (wear_Least.l0 k x0 x4 x7 x8 (wrap64 (x9 + 1)))) else (none)) else (none))) else (wear_Least.l0 k x0 x4 x7 x8 (wrap64 (x9 + 1)))) else (none)) else (none)) else (if x4 < 0 then (some (0, 9)) else (some (x4, 0)))
def wear_Least.f (k : Nat) (l0 : List (S32)) : Option (Int × Int) := wear_Least.l0 k l0 (-1) l0 (l0.length : Int) 0
theorem wear_Least.mono_l : ∀ k, (∀ y0 y1 y2 y3 y4, LeO (wear_Least.l0 k y0 y1 y2 y3 y4) (wear_Least.l0 (k + 1) y0 y1 y2 y3 y4))
  | 0 => fun _ _ _ _ _ r h => by simp [wear_Least.l0] at h
  | k + 1 => by
    have ih0 := wear_Least.mono_l k
    · intro y0 y1 y2 y3 y4
      unfold wear_Least.l0
      repeat' first
      | (with_reducible exact ih0 _ _ _ _ _)
      | (with_reducible exact LeO.refl _)
      | (with_reducible exact LeO.none _)
      | (with_reducible refine LeO.ite ?_ ?_)
      | (with_reducible refine LeO.bind ?_ (fun _ => ?_))
      | exact ih0 _ _ _ _ _
      | exact LeO.none _
      | refine LeO.ite ?_ ?_
      | refine LeO.bind ?_ (fun _ => ?_)
theorem wear_Least.mono : ∀ a0 k, LeO (wear_Least.f k a0) (wear_Least.f (k + 1) a0) := by
  intro a0 k
  have ih0 := wear_Least.mono_l k
  unfold wear_Least.f
  repeat' first
      | (with_reducible exact ih0 _ _ _ _ _)
      | (with_reducible exact LeO.refl _)
      | (with_reducible exact LeO.none _)
      | (with_reducible refine LeO.ite ?_ ?_)
      | (with_reducible refine LeO.bind ?_ (fun _ => ?_))
      | exact ih0 _ _ _ _ _
      | exact LeO.none _
      | refine LeO.ite ?_ ?_
      | refine LeO.bind ?_ (fun _ => ?_)
set_option maxHeartbeats 8000000 in
set_option maxRecDepth 100000 in
theorem wear_Least.calls (k : Nat) (A0 : Option Addr) (c0 : Nat) (l0 : List (S32)) (r1 : Int) (r2 : Int) (w : World) (hr0 : Kd.C k32 w A0 l0.length l0) (hc0 : l0.length ≤ c0) (h : wear_Least.f k l0 = some (r1, r2)) :
    Calls Try.prog 9 #[.slice A0 l0.length c0] w fun e w' => e = .returned (.tuple #[.int .i64 r1, .int .i64 r2]) ∧ Below w.heap.size w w' := by
  have hu32 := Try.underlying32
  have HR0 := Aside0.mk hr0
  have HC0 := Aside0.mk hc0
  clear hr0 hc0
  have HB := Aside0.mk (Below.refl w.heap.size w)
  have H : (wear_Least.l0 k l0 (-1) l0 (l0.length : Int) 0) = some (r1, r2) := h
  clear h
  have H' := Aside0.mk H
  clear H
  go_enter Try.func9, Try.ntmps9
  go_wp2
  repeat (go_quiet (fail); try go_wp2)
  go_loopg [4, 9] k (fun kq v4 v9 w' => ∃ (x4_1 : Int) (x9_1 : Int), v4 = .int .i64 x4_1 ∧ v9 = .int .i64 x9_1 ∧ Aside0 (wear_Least.l0 kq l0 x4_1 l0 (l0.length : Int) x9_1 = some (r1, r2)) ∧ Aside0 (kq ≤ k) ∧ Aside0 (Below w.heap.size w w'))
  case atStart => exact ⟨((-1)), (0), (by first | rfl | (simp; done) | (simp [*]; done)), (by first | rfl | (simp; done) | (simp [*]; done)), H', ⟨Nat.le_refl _⟩, ⟨by repeat (first | (with_reducible first | exact HB.out | apply below_alloc | apply pw_below_drewN | apply below_drew1) | exact HB.out)⟩⟩
  case round =>
    clear H'
    obtain ⟨x4_1, x9_1, rfl, rfl, HA, HK1, HB⟩ := hrel
    cases gk with
    | zero => exact absurd HA.out (by simp [wear_Least.l0])
    | succ k1 =>
      have H := HA.out
      clear HA
      simp only [wear_Least.l0] at H
      by_cases c2 : x9_1 < (l0.length : Int)
      · rw [if_pos c2] at H
        have c2b0 : decide (x9_1 < (l0.length : Int)) = true := decide_eq_true c2
        clear c2
        by_cases c3 : 0 ≤ x9_1
        · rw [if_pos c3] at H
          have c3b0 : decide (0 ≤ x9_1) = true := decide_eq_true c3
          clear c3
          by_cases c4 : x9_1 < (l0.length : Int)
          · rw [if_pos c4] at H
            have c4b0 : decide (x9_1 < (l0.length : Int)) = true := decide_eq_true c4
            clear c4
            by_cases c5 : ((rd_T32 l0 x9_1).f0) = 0
            · rw [if_pos c5] at H
              have c5b0 : (((rd_T32 l0 x9_1).f0) == 0) = true := beq_iff_eq.mpr c5
              have c5b1 : (((rd_T32 l0 x9_1).f0) != 0) = false := bne_eq_false_iff_eq.mpr c5
              clear c5
              by_cases c6 : x4_1 < 0
              · rw [if_pos c6] at H
                have c6b0 : decide (x4_1 < 0) = true := decide_eq_true c6
                clear c6
                have H' := Aside0.mk H
                clear H
                have p101 : 0 ≤ (x9_1 : Int) := of_decide_eq_true (by first | (with_reducible assumption) | assumption)
                have q101 : x9_1 < (l0.length : Int) := of_decide_eq_true (by first | (with_reducible assumption) | assumption)
                obtain ⟨ad101, e101, hx101_0, hx101_1, hx101_2, hx101_3⟩ := at_T32 HR0.out x9_1 p101 q101
                cases e101
                replace hx101_0 := (HB.out.cell (World.block_lt_of_cell? w _ hx101_0)).trans hx101_0
                replace hx101_1 := (HB.out.cell (World.block_lt_of_cell? w _ hx101_1)).trans hx101_1
                replace hx101_2 := (HB.out.cell (World.block_lt_of_cell? w _ hx101_2)).trans hx101_2
                replace hx101_3 := (HB.out.cell (World.block_lt_of_cell? w _ hx101_3)).trans hx101_3
                replace p101 := eq_true p101
                replace q101 := eq_true q101
                go_wp2_with (first | ((with_reducible refine gate_dst (N := 6) rfl ?_); refine box_event ?hg (N := 6) ?hd (cs := #[.int .i64 0, .int .i64 0, .int .u64 0, .int .u64 0]) (t := 32) ?hr ?_; (case hd => rfl); (case hg => rfl); (case hr => first | (go_simp; done) | (go_simp; rfl)); intro gb102 hg w7 hbox hb; have n0_ := Aside0.mk (below_step (by repeat (first | (with_reducible first | exact HB.out | apply below_alloc | apply pw_below_drewN | apply below_drew1) | exact HB.out)) hb); have n1_ := Aside0.mk (hbox); have n2_ := Aside0.mk ((by rw [hg]; exact (below_size (by repeat (first | (with_reducible first | exact HB.out | apply below_alloc | apply pw_below_drewN | apply below_drew1) | exact HB.out))) : w.heap.size ≤ gb102)); have n3_ := Aside0.mk ((by rw [hg]; exact (below_size (by repeat (first | (with_reducible first | exact HB.out | apply below_alloc | apply pw_below_drewN | apply below_drew1) | exact HB.out))) : w.heap.size ≤ gb102)); clear HB; have HB := n0_; have BK102 := n1_; have GW102 := n2_; have GE102 := n3_; clear n0_ n1_ n2_ n3_; clear hb hbox hg; have hcz8_0 : w7.cell? ⟨gb102, 0, none⟩ = some (.int .i64 0) := (blk_cell BK102.out 0).trans rfl; have hcz8_1 : w7.cell? ⟨gb102, 1, none⟩ = some (.int .i64 0) := (blk_cell BK102.out 1).trans rfl; have hcz8_2 : w7.cell? ⟨gb102, 2, none⟩ = some (.int .u64 0) := (blk_cell BK102.out 2).trans rfl; have hcz8_3 : w7.cell? ⟨gb102, 3, none⟩ = some (.int .u64 0) := (blk_cell BK102.out 3).trans rfl; have hfz8_0 := blk_frozen BK102.out 0; have hfz8_1 := blk_frozen BK102.out 1; have hfz8_2 := blk_frozen BK102.out 2; have hfz8_3 := blk_frozen BK102.out 3))
                repeat (go_quiet (first | ((with_reducible refine gate_dst (N := 6) rfl ?_); refine box_event ?hg (N := 6) ?hd (cs := #[.int .i64 0, .int .i64 0, .int .u64 0, .int .u64 0]) (t := 32) ?hr ?_; (case hd => rfl); (case hg => rfl); (case hr => first | (go_simp; done) | (go_simp; rfl)); intro gb102 hg w7 hbox hb; have n0_ := Aside0.mk (below_step (by repeat (first | (with_reducible first | exact HB.out | apply below_alloc | apply pw_below_drewN | apply below_drew1) | exact HB.out)) hb); have n1_ := Aside0.mk (hbox); have n2_ := Aside0.mk ((by rw [hg]; exact (below_size (by repeat (first | (with_reducible first | exact HB.out | apply below_alloc | apply pw_below_drewN | apply below_drew1) | exact HB.out))) : w.heap.size ≤ gb102)); have n3_ := Aside0.mk ((by rw [hg]; exact (below_size (by repeat (first | (with_reducible first | exact HB.out | apply below_alloc | apply pw_below_drewN | apply below_drew1) | exact HB.out))) : w.heap.size ≤ gb102)); clear HB; have HB := n0_; have BK102 := n1_; have GW102 := n2_; have GE102 := n3_; clear n0_ n1_ n2_ n3_; clear hb hbox hg; have hcz8_0 : w7.cell? ⟨gb102, 0, none⟩ = some (.int .i64 0) := (blk_cell BK102.out 0).trans rfl; have hcz8_1 : w7.cell? ⟨gb102, 1, none⟩ = some (.int .i64 0) := (blk_cell BK102.out 1).trans rfl; have hcz8_2 : w7.cell? ⟨gb102, 2, none⟩ = some (.int .u64 0) := (blk_cell BK102.out 2).trans rfl; have hcz8_3 : w7.cell? ⟨gb102, 3, none⟩ = some (.int .u64 0) := (blk_cell BK102.out 3).trans rfl; have hfz8_0 := blk_frozen BK102.out 0; have hfz8_1 := blk_frozen BK102.out 1; have hfz8_2 := blk_frozen BK102.out 2; have hfz8_3 := blk_frozen BK102.out 3)); try go_wp2_with (first | ((with_reducible refine gate_dst (N := 6) rfl ?_); refine box_event ?hg (N := 6) ?hd (cs := #[.int .i64 0, .int .i64 0, .int .u64 0, .int .u64 0]) (t := 32) ?hr ?_; (case hd => rfl); (case hg => rfl); (case hr => first | (go_simp; done) | (go_simp; rfl)); intro gb102 hg w7 hbox hb; have n0_ := Aside0.mk (below_step (by repeat (first | (with_reducible first | exact HB.out | apply below_alloc | apply pw_below_drewN | apply below_drew1) | exact HB.out)) hb); have n1_ := Aside0.mk (hbox); have n2_ := Aside0.mk ((by rw [hg]; exact (below_size (by repeat (first | (with_reducible first | exact HB.out | apply below_alloc | apply pw_below_drewN | apply below_drew1) | exact HB.out))) : w.heap.size ≤ gb102)); have n3_ := Aside0.mk ((by rw [hg]; exact (below_size (by repeat (first | (with_reducible first | exact HB.out | apply below_alloc | apply pw_below_drewN | apply below_drew1) | exact HB.out))) : w.heap.size ≤ gb102)); clear HB; have HB := n0_; have BK102 := n1_; have GW102 := n2_; have GE102 := n3_; clear n0_ n1_ n2_ n3_; clear hb hbox hg; have hcz8_0 : w7.cell? ⟨gb102, 0, none⟩ = some (.int .i64 0) := (blk_cell BK102.out 0).trans rfl; have hcz8_1 : w7.cell? ⟨gb102, 1, none⟩ = some (.int .i64 0) := (blk_cell BK102.out 1).trans rfl; have hcz8_2 : w7.cell? ⟨gb102, 2, none⟩ = some (.int .u64 0) := (blk_cell BK102.out 2).trans rfl; have hcz8_3 : w7.cell? ⟨gb102, 3, none⟩ = some (.int .u64 0) := (blk_cell BK102.out 3).trans rfl; have hfz8_0 := blk_frozen BK102.out 0; have hfz8_1 := blk_frozen BK102.out 1; have hfz8_2 := blk_frozen BK102.out 2; have hfz8_3 := blk_frozen BK102.out 3)))
                go_roundg k1
                case measure => have := HK1.out; omega
                case rel => exact ⟨(x9_1), (wrap64 (x9_1 + 1)), (by first | rfl | (simp; done) | (simp [*]; done)), (by first | rfl | (simp; done) | (simp [*]; done)), H', ⟨by have := HK1.out; omega⟩, ⟨by repeat (first | (with_reducible first | exact HB.out | apply below_alloc | apply pw_below_drewN | apply below_drew1 | refine below_set ?_ GE102.out) | exact HB.out)⟩⟩
              · rw [if_neg c6] at H
                have c6b0 : decide (x4_1 < 0) = false := decide_eq_false c6
                clear c6
                by_cases c9 : 0 ≤ x4_1
                · rw [if_pos c9] at H
                  have c9b0 : decide (0 ≤ x4_1) = true := decide_eq_true c9
                  clear c9
                  by_cases c10 : x4_1 < (l0.length : Int)
                  · rw [if_pos c10] at H
                    have c10b0 : decide (x4_1 < (l0.length : Int)) = true := decide_eq_true c10
                    clear c10
                    by_cases c11 : ((rd_T32 l0 x9_1).f3) < ((rd_T32 l0 x4_1).f3)
                    · rw [if_pos c11] at H
                      have c11b0 : decide (((rd_T32 l0 x9_1).f3) < ((rd_T32 l0 x4_1).f3)) = true := decide_eq_true c11
                      clear c11
                      have H' := Aside0.mk H
                      clear H
                      have p101 : 0 ≤ (x9_1 : Int) := of_decide_eq_true (by first | (with_reducible assumption) | assumption)
                      have q101 : x9_1 < (l0.length : Int) := of_decide_eq_true (by first | (with_reducible assumption) | assumption)
                      obtain ⟨ad101, e101, hx101_0, hx101_1, hx101_2, hx101_3⟩ := at_T32 HR0.out x9_1 p101 q101
                      cases e101
                      replace hx101_0 := (HB.out.cell (World.block_lt_of_cell? w _ hx101_0)).trans hx101_0
                      replace hx101_1 := (HB.out.cell (World.block_lt_of_cell? w _ hx101_1)).trans hx101_1
                      replace hx101_2 := (HB.out.cell (World.block_lt_of_cell? w _ hx101_2)).trans hx101_2
                      replace hx101_3 := (HB.out.cell (World.block_lt_of_cell? w _ hx101_3)).trans hx101_3
                      replace p101 := eq_true p101
                      replace q101 := eq_true q101
                      go_wp2_with (first | ((with_reducible refine gate_dst (N := 6) rfl ?_); refine box_event ?hg (N := 6) ?hd (cs := #[.int .i64 0, .int .i64 0, .int .u64 0, .int .u64 0]) (t := 32) ?hr ?_; (case hd => rfl); (case hg => rfl); (case hr => first | (go_simp; done) | (go_simp; rfl)); intro gb102 hg w12 hbox hb; have n0_ := Aside0.mk (below_step (by repeat (first | (with_reducible first | exact HB.out | apply below_alloc | apply pw_below_drewN | apply below_drew1) | exact HB.out)) hb); have n1_ := Aside0.mk (hbox); have n2_ := Aside0.mk ((by rw [hg]; exact (below_size (by repeat (first | (with_reducible first | exact HB.out | apply below_alloc | apply pw_below_drewN | apply below_drew1) | exact HB.out))) : w.heap.size ≤ gb102)); have n3_ := Aside0.mk ((by rw [hg]; exact (below_size (by repeat (first | (with_reducible first | exact HB.out | apply below_alloc | apply pw_below_drewN | apply below_drew1) | exact HB.out))) : w.heap.size ≤ gb102)); clear HB; have HB := n0_; have BK102 := n1_; have GW102 := n2_; have GE102 := n3_; clear n0_ n1_ n2_ n3_; clear hb hbox hg; have hcz13_0 : w12.cell? ⟨gb102, 0, none⟩ = some (.int .i64 0) := (blk_cell BK102.out 0).trans rfl; have hcz13_1 : w12.cell? ⟨gb102, 1, none⟩ = some (.int .i64 0) := (blk_cell BK102.out 1).trans rfl; have hcz13_2 : w12.cell? ⟨gb102, 2, none⟩ = some (.int .u64 0) := (blk_cell BK102.out 2).trans rfl; have hcz13_3 : w12.cell? ⟨gb102, 3, none⟩ = some (.int .u64 0) := (blk_cell BK102.out 3).trans rfl; have hfz13_0 := blk_frozen BK102.out 0; have hfz13_1 := blk_frozen BK102.out 1; have hfz13_2 := blk_frozen BK102.out 2; have hfz13_3 := blk_frozen BK102.out 3; have p103 : 0 ≤ (x4_1 : Int) := of_decide_eq_true (by first | (with_reducible assumption) | assumption); have q103 : x4_1 < (l0.length : Int) := of_decide_eq_true (by first | (with_reducible assumption) | assumption); obtain ⟨ad103, e103, hx103_0, hx103_1, hx103_2, hx103_3⟩ := at_T32 HR0.out x4_1 p103 q103; obtain rfl : ad101 = ad103 := (by injection e103); have hn103_0 : ad101.block ≠ gb102 := Nat.ne_of_lt (Nat.lt_of_lt_of_le (by have := World.block_lt_of_cell? _ _ hx103_0; first | rwa [add_block] at this | exact this) GW102.out); have hn103_1 : ad101.block ≠ gb102 := Nat.ne_of_lt (Nat.lt_of_lt_of_le (by have := World.block_lt_of_cell? _ _ hx103_0; first | rwa [add_block] at this | exact this) GW102.out); have hn103_2 : ad101.block ≠ gb102 := Nat.ne_of_lt (Nat.lt_of_lt_of_le (by have := World.block_lt_of_cell? _ _ hx103_0; first | rwa [add_block] at this | exact this) GW102.out); have hn103_3 : ad101.block ≠ gb102 := Nat.ne_of_lt (Nat.lt_of_lt_of_le (by have := World.block_lt_of_cell? _ _ hx103_0; first | rwa [add_block] at this | exact this) GW102.out); replace hx103_0 := (HB.out.cell (World.block_lt_of_cell? w _ hx103_0)).trans hx103_0; replace hx103_1 := (HB.out.cell (World.block_lt_of_cell? w _ hx103_1)).trans hx103_1; replace hx103_2 := (HB.out.cell (World.block_lt_of_cell? w _ hx103_2)).trans hx103_2; replace hx103_3 := (HB.out.cell (World.block_lt_of_cell? w _ hx103_3)).trans hx103_3; replace hx103_0 := (cell_far (p := ⟨gb102, 0, none⟩) (by first | (rw [add_block]; exact hn103_0) | (show (Addr.add _ _).block ≠ _; rw [add_block]; exact hn103_0) | exact hn103_0) (.int .i64 ((rd_T32 l0 x9_1).f0))).trans hx103_0; replace hx103_1 := (cell_far (p := ⟨gb102, 0, none⟩) (by first | (rw [add_block]; exact hn103_0) | (show (Addr.add _ _).block ≠ _; rw [add_block]; exact hn103_0) | exact hn103_0) (.int .i64 ((rd_T32 l0 x9_1).f0))).trans hx103_1; replace hx103_2 := (cell_far (p := ⟨gb102, 0, none⟩) (by first | (rw [add_block]; exact hn103_0) | (show (Addr.add _ _).block ≠ _; rw [add_block]; exact hn103_0) | exact hn103_0) (.int .i64 ((rd_T32 l0 x9_1).f0))).trans hx103_2; replace hx103_3 := (cell_far (p := ⟨gb102, 0, none⟩) (by first | (rw [add_block]; exact hn103_0) | (show (Addr.add _ _).block ≠ _; rw [add_block]; exact hn103_0) | exact hn103_0) (.int .i64 ((rd_T32 l0 x9_1).f0))).trans hx103_3; replace hx103_0 := (cell_far (p := ⟨gb102, 1, none⟩) (by first | (rw [add_block]; exact hn103_1) | (show (Addr.add _ _).block ≠ _; rw [add_block]; exact hn103_1) | exact hn103_1) (.int .i64 ((rd_T32 l0 x9_1).f1))).trans hx103_0; replace hx103_1 := (cell_far (p := ⟨gb102, 1, none⟩) (by first | (rw [add_block]; exact hn103_1) | (show (Addr.add _ _).block ≠ _; rw [add_block]; exact hn103_1) | exact hn103_1) (.int .i64 ((rd_T32 l0 x9_1).f1))).trans hx103_1; replace hx103_2 := (cell_far (p := ⟨gb102, 1, none⟩) (by first | (rw [add_block]; exact hn103_1) | (show (Addr.add _ _).block ≠ _; rw [add_block]; exact hn103_1) | exact hn103_1) (.int .i64 ((rd_T32 l0 x9_1).f1))).trans hx103_2; replace hx103_3 := (cell_far (p := ⟨gb102, 1, none⟩) (by first | (rw [add_block]; exact hn103_1) | (show (Addr.add _ _).block ≠ _; rw [add_block]; exact hn103_1) | exact hn103_1) (.int .i64 ((rd_T32 l0 x9_1).f1))).trans hx103_3; replace hx103_0 := (cell_far (p := ⟨gb102, 2, none⟩) (by first | (rw [add_block]; exact hn103_2) | (show (Addr.add _ _).block ≠ _; rw [add_block]; exact hn103_2) | exact hn103_2) (.int .u64 ((rd_T32 l0 x9_1).f2))).trans hx103_0; replace hx103_1 := (cell_far (p := ⟨gb102, 2, none⟩) (by first | (rw [add_block]; exact hn103_2) | (show (Addr.add _ _).block ≠ _; rw [add_block]; exact hn103_2) | exact hn103_2) (.int .u64 ((rd_T32 l0 x9_1).f2))).trans hx103_1; replace hx103_2 := (cell_far (p := ⟨gb102, 2, none⟩) (by first | (rw [add_block]; exact hn103_2) | (show (Addr.add _ _).block ≠ _; rw [add_block]; exact hn103_2) | exact hn103_2) (.int .u64 ((rd_T32 l0 x9_1).f2))).trans hx103_2; replace hx103_3 := (cell_far (p := ⟨gb102, 2, none⟩) (by first | (rw [add_block]; exact hn103_2) | (show (Addr.add _ _).block ≠ _; rw [add_block]; exact hn103_2) | exact hn103_2) (.int .u64 ((rd_T32 l0 x9_1).f2))).trans hx103_3; replace hx103_0 := (cell_far (p := ⟨gb102, 3, none⟩) (by first | (rw [add_block]; exact hn103_3) | (show (Addr.add _ _).block ≠ _; rw [add_block]; exact hn103_3) | exact hn103_3) (.int .u64 ((rd_T32 l0 x9_1).f3))).trans hx103_0; replace hx103_1 := (cell_far (p := ⟨gb102, 3, none⟩) (by first | (rw [add_block]; exact hn103_3) | (show (Addr.add _ _).block ≠ _; rw [add_block]; exact hn103_3) | exact hn103_3) (.int .u64 ((rd_T32 l0 x9_1).f3))).trans hx103_1; replace hx103_2 := (cell_far (p := ⟨gb102, 3, none⟩) (by first | (rw [add_block]; exact hn103_3) | (show (Addr.add _ _).block ≠ _; rw [add_block]; exact hn103_3) | exact hn103_3) (.int .u64 ((rd_T32 l0 x9_1).f3))).trans hx103_2; replace hx103_3 := (cell_far (p := ⟨gb102, 3, none⟩) (by first | (rw [add_block]; exact hn103_3) | (show (Addr.add _ _).block ≠ _; rw [add_block]; exact hn103_3) | exact hn103_3) (.int .u64 ((rd_T32 l0 x9_1).f3))).trans hx103_3; (try have hy103_0 := fun (n_ : Nat) => (show ((((((w12.drewN n_).setCell ⟨gb102, 0, none⟩ (.int .i64 ((rd_T32 l0 x9_1).f0))).setCell ⟨gb102, 1, none⟩ (.int .i64 ((rd_T32 l0 x9_1).f1))).setCell ⟨gb102, 2, none⟩ (.int .u64 ((rd_T32 l0 x9_1).f2))).setCell ⟨gb102, 3, none⟩ (.int .u64 ((rd_T32 l0 x9_1).f3)))).cell? _ = some _ from hx103_0)); (try have hy103_1 := fun (n_ : Nat) => (show ((((((w12.drewN n_).setCell ⟨gb102, 0, none⟩ (.int .i64 ((rd_T32 l0 x9_1).f0))).setCell ⟨gb102, 1, none⟩ (.int .i64 ((rd_T32 l0 x9_1).f1))).setCell ⟨gb102, 2, none⟩ (.int .u64 ((rd_T32 l0 x9_1).f2))).setCell ⟨gb102, 3, none⟩ (.int .u64 ((rd_T32 l0 x9_1).f3)))).cell? _ = some _ from hx103_1)); (try have hy103_2 := fun (n_ : Nat) => (show ((((((w12.drewN n_).setCell ⟨gb102, 0, none⟩ (.int .i64 ((rd_T32 l0 x9_1).f0))).setCell ⟨gb102, 1, none⟩ (.int .i64 ((rd_T32 l0 x9_1).f1))).setCell ⟨gb102, 2, none⟩ (.int .u64 ((rd_T32 l0 x9_1).f2))).setCell ⟨gb102, 3, none⟩ (.int .u64 ((rd_T32 l0 x9_1).f3)))).cell? _ = some _ from hx103_2)); (try have hy103_3 := fun (n_ : Nat) => (show ((((((w12.drewN n_).setCell ⟨gb102, 0, none⟩ (.int .i64 ((rd_T32 l0 x9_1).f0))).setCell ⟨gb102, 1, none⟩ (.int .i64 ((rd_T32 l0 x9_1).f1))).setCell ⟨gb102, 2, none⟩ (.int .u64 ((rd_T32 l0 x9_1).f2))).setCell ⟨gb102, 3, none⟩ (.int .u64 ((rd_T32 l0 x9_1).f3)))).cell? _ = some _ from hx103_3)); clear hn103_0; clear hn103_1; clear hn103_2; clear hn103_3; replace p103 := eq_true p103; replace q103 := eq_true q103))
                      repeat (go_quiet (first | ((with_reducible refine gate_dst (N := 6) rfl ?_); refine box_event ?hg (N := 6) ?hd (cs := #[.int .i64 0, .int .i64 0, .int .u64 0, .int .u64 0]) (t := 32) ?hr ?_; (case hd => rfl); (case hg => rfl); (case hr => first | (go_simp; done) | (go_simp; rfl)); intro gb102 hg w12 hbox hb; have n0_ := Aside0.mk (below_step (by repeat (first | (with_reducible first | exact HB.out | apply below_alloc | apply pw_below_drewN | apply below_drew1) | exact HB.out)) hb); have n1_ := Aside0.mk (hbox); have n2_ := Aside0.mk ((by rw [hg]; exact (below_size (by repeat (first | (with_reducible first | exact HB.out | apply below_alloc | apply pw_below_drewN | apply below_drew1) | exact HB.out))) : w.heap.size ≤ gb102)); have n3_ := Aside0.mk ((by rw [hg]; exact (below_size (by repeat (first | (with_reducible first | exact HB.out | apply below_alloc | apply pw_below_drewN | apply below_drew1) | exact HB.out))) : w.heap.size ≤ gb102)); clear HB; have HB := n0_; have BK102 := n1_; have GW102 := n2_; have GE102 := n3_; clear n0_ n1_ n2_ n3_; clear hb hbox hg; have hcz13_0 : w12.cell? ⟨gb102, 0, none⟩ = some (.int .i64 0) := (blk_cell BK102.out 0).trans rfl; have hcz13_1 : w12.cell? ⟨gb102, 1, none⟩ = some (.int .i64 0) := (blk_cell BK102.out 1).trans rfl; have hcz13_2 : w12.cell? ⟨gb102, 2, none⟩ = some (.int .u64 0) := (blk_cell BK102.out 2).trans rfl; have hcz13_3 : w12.cell? ⟨gb102, 3, none⟩ = some (.int .u64 0) := (blk_cell BK102.out 3).trans rfl; have hfz13_0 := blk_frozen BK102.out 0; have hfz13_1 := blk_frozen BK102.out 1; have hfz13_2 := blk_frozen BK102.out 2; have hfz13_3 := blk_frozen BK102.out 3; have p103 : 0 ≤ (x4_1 : Int) := of_decide_eq_true (by first | (with_reducible assumption) | assumption); have q103 : x4_1 < (l0.length : Int) := of_decide_eq_true (by first | (with_reducible assumption) | assumption); obtain ⟨ad103, e103, hx103_0, hx103_1, hx103_2, hx103_3⟩ := at_T32 HR0.out x4_1 p103 q103; obtain rfl : ad101 = ad103 := (by injection e103); have hn103_0 : ad101.block ≠ gb102 := Nat.ne_of_lt (Nat.lt_of_lt_of_le (by have := World.block_lt_of_cell? _ _ hx103_0; first | rwa [add_block] at this | exact this) GW102.out); have hn103_1 : ad101.block ≠ gb102 := Nat.ne_of_lt (Nat.lt_of_lt_of_le (by have := World.block_lt_of_cell? _ _ hx103_0; first | rwa [add_block] at this | exact this) GW102.out); have hn103_2 : ad101.block ≠ gb102 := Nat.ne_of_lt (Nat.lt_of_lt_of_le (by have := World.block_lt_of_cell? _ _ hx103_0; first | rwa [add_block] at this | exact this) GW102.out); have hn103_3 : ad101.block ≠ gb102 := Nat.ne_of_lt (Nat.lt_of_lt_of_le (by have := World.block_lt_of_cell? _ _ hx103_0; first | rwa [add_block] at this | exact this) GW102.out); replace hx103_0 := (HB.out.cell (World.block_lt_of_cell? w _ hx103_0)).trans hx103_0; replace hx103_1 := (HB.out.cell (World.block_lt_of_cell? w _ hx103_1)).trans hx103_1; replace hx103_2 := (HB.out.cell (World.block_lt_of_cell? w _ hx103_2)).trans hx103_2; replace hx103_3 := (HB.out.cell (World.block_lt_of_cell? w _ hx103_3)).trans hx103_3; replace hx103_0 := (cell_far (p := ⟨gb102, 0, none⟩) (by first | (rw [add_block]; exact hn103_0) | (show (Addr.add _ _).block ≠ _; rw [add_block]; exact hn103_0) | exact hn103_0) (.int .i64 ((rd_T32 l0 x9_1).f0))).trans hx103_0; replace hx103_1 := (cell_far (p := ⟨gb102, 0, none⟩) (by first | (rw [add_block]; exact hn103_0) | (show (Addr.add _ _).block ≠ _; rw [add_block]; exact hn103_0) | exact hn103_0) (.int .i64 ((rd_T32 l0 x9_1).f0))).trans hx103_1; replace hx103_2 := (cell_far (p := ⟨gb102, 0, none⟩) (by first | (rw [add_block]; exact hn103_0) | (show (Addr.add _ _).block ≠ _; rw [add_block]; exact hn103_0) | exact hn103_0) (.int .i64 ((rd_T32 l0 x9_1).f0))).trans hx103_2; replace hx103_3 := (cell_far (p := ⟨gb102, 0, none⟩) (by first | (rw [add_block]; exact hn103_0) | (show (Addr.add _ _).block ≠ _; rw [add_block]; exact hn103_0) | exact hn103_0) (.int .i64 ((rd_T32 l0 x9_1).f0))).trans hx103_3; replace hx103_0 := (cell_far (p := ⟨gb102, 1, none⟩) (by first | (rw [add_block]; exact hn103_1) | (show (Addr.add _ _).block ≠ _; rw [add_block]; exact hn103_1) | exact hn103_1) (.int .i64 ((rd_T32 l0 x9_1).f1))).trans hx103_0; replace hx103_1 := (cell_far (p := ⟨gb102, 1, none⟩) (by first | (rw [add_block]; exact hn103_1) | (show (Addr.add _ _).block ≠ _; rw [add_block]; exact hn103_1) | exact hn103_1) (.int .i64 ((rd_T32 l0 x9_1).f1))).trans hx103_1; replace hx103_2 := (cell_far (p := ⟨gb102, 1, none⟩) (by first | (rw [add_block]; exact hn103_1) | (show (Addr.add _ _).block ≠ _; rw [add_block]; exact hn103_1) | exact hn103_1) (.int .i64 ((rd_T32 l0 x9_1).f1))).trans hx103_2; replace hx103_3 := (cell_far (p := ⟨gb102, 1, none⟩) (by first | (rw [add_block]; exact hn103_1) | (show (Addr.add _ _).block ≠ _; rw [add_block]; exact hn103_1) | exact hn103_1) (.int .i64 ((rd_T32 l0 x9_1).f1))).trans hx103_3; replace hx103_0 := (cell_far (p := ⟨gb102, 2, none⟩) (by first | (rw [add_block]; exact hn103_2) | (show (Addr.add _ _).block ≠ _; rw [add_block]; exact hn103_2) | exact hn103_2) (.int .u64 ((rd_T32 l0 x9_1).f2))).trans hx103_0; replace hx103_1 := (cell_far (p := ⟨gb102, 2, none⟩) (by first | (rw [add_block]; exact hn103_2) | (show (Addr.add _ _).block ≠ _; rw [add_block]; exact hn103_2) | exact hn103_2) (.int .u64 ((rd_T32 l0 x9_1).f2))).trans hx103_1; replace hx103_2 := (cell_far (p := ⟨gb102, 2, none⟩) (by first | (rw [add_block]; exact hn103_2) | (show (Addr.add _ _).block ≠ _; rw [add_block]; exact hn103_2) | exact hn103_2) (.int .u64 ((rd_T32 l0 x9_1).f2))).trans hx103_2; replace hx103_3 := (cell_far (p := ⟨gb102, 2, none⟩) (by first | (rw [add_block]; exact hn103_2) | (show (Addr.add _ _).block ≠ _; rw [add_block]; exact hn103_2) | exact hn103_2) (.int .u64 ((rd_T32 l0 x9_1).f2))).trans hx103_3; replace hx103_0 := (cell_far (p := ⟨gb102, 3, none⟩) (by first | (rw [add_block]; exact hn103_3) | (show (Addr.add _ _).block ≠ _; rw [add_block]; exact hn103_3) | exact hn103_3) (.int .u64 ((rd_T32 l0 x9_1).f3))).trans hx103_0; replace hx103_1 := (cell_far (p := ⟨gb102, 3, none⟩) (by first | (rw [add_block]; exact hn103_3) | (show (Addr.add _ _).block ≠ _; rw [add_block]; exact hn103_3) | exact hn103_3) (.int .u64 ((rd_T32 l0 x9_1).f3))).trans hx103_1; replace hx103_2 := (cell_far (p := ⟨gb102, 3, none⟩) (by first | (rw [add_block]; exact hn103_3) | (show (Addr.add _ _).block ≠ _; rw [add_block]; exact hn103_3) | exact hn103_3) (.int .u64 ((rd_T32 l0 x9_1).f3))).trans hx103_2; replace hx103_3 := (cell_far (p := ⟨gb102, 3, none⟩) (by first | (rw [add_block]; exact hn103_3) | (show (Addr.add _ _).block ≠ _; rw [add_block]; exact hn103_3) | exact hn103_3) (.int .u64 ((rd_T32 l0 x9_1).f3))).trans hx103_3; (try have hy103_0 := fun (n_ : Nat) => (show ((((((w12.drewN n_).setCell ⟨gb102, 0, none⟩ (.int .i64 ((rd_T32 l0 x9_1).f0))).setCell ⟨gb102, 1, none⟩ (.int .i64 ((rd_T32 l0 x9_1).f1))).setCell ⟨gb102, 2, none⟩ (.int .u64 ((rd_T32 l0 x9_1).f2))).setCell ⟨gb102, 3, none⟩ (.int .u64 ((rd_T32 l0 x9_1).f3)))).cell? _ = some _ from hx103_0)); (try have hy103_1 := fun (n_ : Nat) => (show ((((((w12.drewN n_).setCell ⟨gb102, 0, none⟩ (.int .i64 ((rd_T32 l0 x9_1).f0))).setCell ⟨gb102, 1, none⟩ (.int .i64 ((rd_T32 l0 x9_1).f1))).setCell ⟨gb102, 2, none⟩ (.int .u64 ((rd_T32 l0 x9_1).f2))).setCell ⟨gb102, 3, none⟩ (.int .u64 ((rd_T32 l0 x9_1).f3)))).cell? _ = some _ from hx103_1)); (try have hy103_2 := fun (n_ : Nat) => (show ((((((w12.drewN n_).setCell ⟨gb102, 0, none⟩ (.int .i64 ((rd_T32 l0 x9_1).f0))).setCell ⟨gb102, 1, none⟩ (.int .i64 ((rd_T32 l0 x9_1).f1))).setCell ⟨gb102, 2, none⟩ (.int .u64 ((rd_T32 l0 x9_1).f2))).setCell ⟨gb102, 3, none⟩ (.int .u64 ((rd_T32 l0 x9_1).f3)))).cell? _ = some _ from hx103_2)); (try have hy103_3 := fun (n_ : Nat) => (show ((((((w12.drewN n_).setCell ⟨gb102, 0, none⟩ (.int .i64 ((rd_T32 l0 x9_1).f0))).setCell ⟨gb102, 1, none⟩ (.int .i64 ((rd_T32 l0 x9_1).f1))).setCell ⟨gb102, 2, none⟩ (.int .u64 ((rd_T32 l0 x9_1).f2))).setCell ⟨gb102, 3, none⟩ (.int .u64 ((rd_T32 l0 x9_1).f3)))).cell? _ = some _ from hx103_3)); clear hn103_0; clear hn103_1; clear hn103_2; clear hn103_3; replace p103 := eq_true p103; replace q103 := eq_true q103)); try go_wp2_with (first | ((with_reducible refine gate_dst (N := 6) rfl ?_); refine box_event ?hg (N := 6) ?hd (cs := #[.int .i64 0, .int .i64 0, .int .u64 0, .int .u64 0]) (t := 32) ?hr ?_; (case hd => rfl); (case hg => rfl); (case hr => first | (go_simp; done) | (go_simp; rfl)); intro gb102 hg w12 hbox hb; have n0_ := Aside0.mk (below_step (by repeat (first | (with_reducible first | exact HB.out | apply below_alloc | apply pw_below_drewN | apply below_drew1) | exact HB.out)) hb); have n1_ := Aside0.mk (hbox); have n2_ := Aside0.mk ((by rw [hg]; exact (below_size (by repeat (first | (with_reducible first | exact HB.out | apply below_alloc | apply pw_below_drewN | apply below_drew1) | exact HB.out))) : w.heap.size ≤ gb102)); have n3_ := Aside0.mk ((by rw [hg]; exact (below_size (by repeat (first | (with_reducible first | exact HB.out | apply below_alloc | apply pw_below_drewN | apply below_drew1) | exact HB.out))) : w.heap.size ≤ gb102)); clear HB; have HB := n0_; have BK102 := n1_; have GW102 := n2_; have GE102 := n3_; clear n0_ n1_ n2_ n3_; clear hb hbox hg; have hcz13_0 : w12.cell? ⟨gb102, 0, none⟩ = some (.int .i64 0) := (blk_cell BK102.out 0).trans rfl; have hcz13_1 : w12.cell? ⟨gb102, 1, none⟩ = some (.int .i64 0) := (blk_cell BK102.out 1).trans rfl; have hcz13_2 : w12.cell? ⟨gb102, 2, none⟩ = some (.int .u64 0) := (blk_cell BK102.out 2).trans rfl; have hcz13_3 : w12.cell? ⟨gb102, 3, none⟩ = some (.int .u64 0) := (blk_cell BK102.out 3).trans rfl; have hfz13_0 := blk_frozen BK102.out 0; have hfz13_1 := blk_frozen BK102.out 1; have hfz13_2 := blk_frozen BK102.out 2; have hfz13_3 := blk_frozen BK102.out 3; have p103 : 0 ≤ (x4_1 : Int) := of_decide_eq_true (by first | (with_reducible assumption) | assumption); have q103 : x4_1 < (l0.length : Int) := of_decide_eq_true (by first | (with_reducible assumption) | assumption); obtain ⟨ad103, e103, hx103_0, hx103_1, hx103_2, hx103_3⟩ := at_T32 HR0.out x4_1 p103 q103; obtain rfl : ad101 = ad103 := (by injection e103); have hn103_0 : ad101.block ≠ gb102 := Nat.ne_of_lt (Nat.lt_of_lt_of_le (by have := World.block_lt_of_cell? _ _ hx103_0; first | rwa [add_block] at this | exact this) GW102.out); have hn103_1 : ad101.block ≠ gb102 := Nat.ne_of_lt (Nat.lt_of_lt_of_le (by have := World.block_lt_of_cell? _ _ hx103_0; first | rwa [add_block] at this | exact this) GW102.out); have hn103_2 : ad101.block ≠ gb102 := Nat.ne_of_lt (Nat.lt_of_lt_of_le (by have := World.block_lt_of_cell? _ _ hx103_0; first | rwa [add_block] at this | exact this) GW102.out); have hn103_3 : ad101.block ≠ gb102 := Nat.ne_of_lt (Nat.lt_of_lt_of_le (by have := World.block_lt_of_cell? _ _ hx103_0; first | rwa [add_block] at this | exact this) GW102.out); replace hx103_0 := (HB.out.cell (World.block_lt_of_cell? w _ hx103_0)).trans hx103_0; replace hx103_1 := (HB.out.cell (World.block_lt_of_cell? w _ hx103_1)).trans hx103_1; replace hx103_2 := (HB.out.cell (World.block_lt_of_cell? w _ hx103_2)).trans hx103_2; replace hx103_3 := (HB.out.cell (World.block_lt_of_cell? w _ hx103_3)).trans hx103_3; replace hx103_0 := (cell_far (p := ⟨gb102, 0, none⟩) (by first | (rw [add_block]; exact hn103_0) | (show (Addr.add _ _).block ≠ _; rw [add_block]; exact hn103_0) | exact hn103_0) (.int .i64 ((rd_T32 l0 x9_1).f0))).trans hx103_0; replace hx103_1 := (cell_far (p := ⟨gb102, 0, none⟩) (by first | (rw [add_block]; exact hn103_0) | (show (Addr.add _ _).block ≠ _; rw [add_block]; exact hn103_0) | exact hn103_0) (.int .i64 ((rd_T32 l0 x9_1).f0))).trans hx103_1; replace hx103_2 := (cell_far (p := ⟨gb102, 0, none⟩) (by first | (rw [add_block]; exact hn103_0) | (show (Addr.add _ _).block ≠ _; rw [add_block]; exact hn103_0) | exact hn103_0) (.int .i64 ((rd_T32 l0 x9_1).f0))).trans hx103_2; replace hx103_3 := (cell_far (p := ⟨gb102, 0, none⟩) (by first | (rw [add_block]; exact hn103_0) | (show (Addr.add _ _).block ≠ _; rw [add_block]; exact hn103_0) | exact hn103_0) (.int .i64 ((rd_T32 l0 x9_1).f0))).trans hx103_3; replace hx103_0 := (cell_far (p := ⟨gb102, 1, none⟩) (by first | (rw [add_block]; exact hn103_1) | (show (Addr.add _ _).block ≠ _; rw [add_block]; exact hn103_1) | exact hn103_1) (.int .i64 ((rd_T32 l0 x9_1).f1))).trans hx103_0; replace hx103_1 := (cell_far (p := ⟨gb102, 1, none⟩) (by first | (rw [add_block]; exact hn103_1) | (show (Addr.add _ _).block ≠ _; rw [add_block]; exact hn103_1) | exact hn103_1) (.int .i64 ((rd_T32 l0 x9_1).f1))).trans hx103_1; replace hx103_2 := (cell_far (p := ⟨gb102, 1, none⟩) (by first | (rw [add_block]; exact hn103_1) | (show (Addr.add _ _).block ≠ _; rw [add_block]; exact hn103_1) | exact hn103_1) (.int .i64 ((rd_T32 l0 x9_1).f1))).trans hx103_2; replace hx103_3 := (cell_far (p := ⟨gb102, 1, none⟩) (by first | (rw [add_block]; exact hn103_1) | (show (Addr.add _ _).block ≠ _; rw [add_block]; exact hn103_1) | exact hn103_1) (.int .i64 ((rd_T32 l0 x9_1).f1))).trans hx103_3; replace hx103_0 := (cell_far (p := ⟨gb102, 2, none⟩) (by first | (rw [add_block]; exact hn103_2) | (show (Addr.add _ _).block ≠ _; rw [add_block]; exact hn103_2) | exact hn103_2) (.int .u64 ((rd_T32 l0 x9_1).f2))).trans hx103_0; replace hx103_1 := (cell_far (p := ⟨gb102, 2, none⟩) (by first | (rw [add_block]; exact hn103_2) | (show (Addr.add _ _).block ≠ _; rw [add_block]; exact hn103_2) | exact hn103_2) (.int .u64 ((rd_T32 l0 x9_1).f2))).trans hx103_1; replace hx103_2 := (cell_far (p := ⟨gb102, 2, none⟩) (by first | (rw [add_block]; exact hn103_2) | (show (Addr.add _ _).block ≠ _; rw [add_block]; exact hn103_2) | exact hn103_2) (.int .u64 ((rd_T32 l0 x9_1).f2))).trans hx103_2; replace hx103_3 := (cell_far (p := ⟨gb102, 2, none⟩) (by first | (rw [add_block]; exact hn103_2) | (show (Addr.add _ _).block ≠ _; rw [add_block]; exact hn103_2) | exact hn103_2) (.int .u64 ((rd_T32 l0 x9_1).f2))).trans hx103_3; replace hx103_0 := (cell_far (p := ⟨gb102, 3, none⟩) (by first | (rw [add_block]; exact hn103_3) | (show (Addr.add _ _).block ≠ _; rw [add_block]; exact hn103_3) | exact hn103_3) (.int .u64 ((rd_T32 l0 x9_1).f3))).trans hx103_0; replace hx103_1 := (cell_far (p := ⟨gb102, 3, none⟩) (by first | (rw [add_block]; exact hn103_3) | (show (Addr.add _ _).block ≠ _; rw [add_block]; exact hn103_3) | exact hn103_3) (.int .u64 ((rd_T32 l0 x9_1).f3))).trans hx103_1; replace hx103_2 := (cell_far (p := ⟨gb102, 3, none⟩) (by first | (rw [add_block]; exact hn103_3) | (show (Addr.add _ _).block ≠ _; rw [add_block]; exact hn103_3) | exact hn103_3) (.int .u64 ((rd_T32 l0 x9_1).f3))).trans hx103_2; replace hx103_3 := (cell_far (p := ⟨gb102, 3, none⟩) (by first | (rw [add_block]; exact hn103_3) | (show (Addr.add _ _).block ≠ _; rw [add_block]; exact hn103_3) | exact hn103_3) (.int .u64 ((rd_T32 l0 x9_1).f3))).trans hx103_3; (try have hy103_0 := fun (n_ : Nat) => (show ((((((w12.drewN n_).setCell ⟨gb102, 0, none⟩ (.int .i64 ((rd_T32 l0 x9_1).f0))).setCell ⟨gb102, 1, none⟩ (.int .i64 ((rd_T32 l0 x9_1).f1))).setCell ⟨gb102, 2, none⟩ (.int .u64 ((rd_T32 l0 x9_1).f2))).setCell ⟨gb102, 3, none⟩ (.int .u64 ((rd_T32 l0 x9_1).f3)))).cell? _ = some _ from hx103_0)); (try have hy103_1 := fun (n_ : Nat) => (show ((((((w12.drewN n_).setCell ⟨gb102, 0, none⟩ (.int .i64 ((rd_T32 l0 x9_1).f0))).setCell ⟨gb102, 1, none⟩ (.int .i64 ((rd_T32 l0 x9_1).f1))).setCell ⟨gb102, 2, none⟩ (.int .u64 ((rd_T32 l0 x9_1).f2))).setCell ⟨gb102, 3, none⟩ (.int .u64 ((rd_T32 l0 x9_1).f3)))).cell? _ = some _ from hx103_1)); (try have hy103_2 := fun (n_ : Nat) => (show ((((((w12.drewN n_).setCell ⟨gb102, 0, none⟩ (.int .i64 ((rd_T32 l0 x9_1).f0))).setCell ⟨gb102, 1, none⟩ (.int .i64 ((rd_T32 l0 x9_1).f1))).setCell ⟨gb102, 2, none⟩ (.int .u64 ((rd_T32 l0 x9_1).f2))).setCell ⟨gb102, 3, none⟩ (.int .u64 ((rd_T32 l0 x9_1).f3)))).cell? _ = some _ from hx103_2)); (try have hy103_3 := fun (n_ : Nat) => (show ((((((w12.drewN n_).setCell ⟨gb102, 0, none⟩ (.int .i64 ((rd_T32 l0 x9_1).f0))).setCell ⟨gb102, 1, none⟩ (.int .i64 ((rd_T32 l0 x9_1).f1))).setCell ⟨gb102, 2, none⟩ (.int .u64 ((rd_T32 l0 x9_1).f2))).setCell ⟨gb102, 3, none⟩ (.int .u64 ((rd_T32 l0 x9_1).f3)))).cell? _ = some _ from hx103_3)); clear hn103_0; clear hn103_1; clear hn103_2; clear hn103_3; replace p103 := eq_true p103; replace q103 := eq_true q103)))
                      go_roundg k1
                      case measure => have := HK1.out; omega
                      case rel => exact ⟨(x9_1), (wrap64 (x9_1 + 1)), (by first | rfl | (simp; done) | (simp [*]; done)), (by first | rfl | (simp; done) | (simp [*]; done)), H', ⟨by have := HK1.out; omega⟩, ⟨by repeat (first | (with_reducible first | exact HB.out | apply below_alloc | apply pw_below_drewN | apply below_drew1 | refine below_set ?_ GE102.out) | exact HB.out)⟩⟩
                    · rw [if_neg c11] at H
                      have c11b0 : decide (((rd_T32 l0 x9_1).f3) < ((rd_T32 l0 x4_1).f3)) = false := decide_eq_false c11
                      clear c11
                      have H' := Aside0.mk H
                      clear H
                      have p101 : 0 ≤ (x9_1 : Int) := of_decide_eq_true (by first | (with_reducible assumption) | assumption)
                      have q101 : x9_1 < (l0.length : Int) := of_decide_eq_true (by first | (with_reducible assumption) | assumption)
                      obtain ⟨ad101, e101, hx101_0, hx101_1, hx101_2, hx101_3⟩ := at_T32 HR0.out x9_1 p101 q101
                      cases e101
                      replace hx101_0 := (HB.out.cell (World.block_lt_of_cell? w _ hx101_0)).trans hx101_0
                      replace hx101_1 := (HB.out.cell (World.block_lt_of_cell? w _ hx101_1)).trans hx101_1
                      replace hx101_2 := (HB.out.cell (World.block_lt_of_cell? w _ hx101_2)).trans hx101_2
                      replace hx101_3 := (HB.out.cell (World.block_lt_of_cell? w _ hx101_3)).trans hx101_3
                      replace p101 := eq_true p101
                      replace q101 := eq_true q101
                      go_wp2_with (first | ((with_reducible refine gate_dst (N := 6) rfl ?_); refine box_event ?hg (N := 6) ?hd (cs := #[.int .i64 0, .int .i64 0, .int .u64 0, .int .u64 0]) (t := 32) ?hr ?_; (case hd => rfl); (case hg => rfl); (case hr => first | (go_simp; done) | (go_simp; rfl)); intro gb102 hg w14 hbox hb; have n0_ := Aside0.mk (below_step (by repeat (first | (with_reducible first | exact HB.out | apply below_alloc | apply pw_below_drewN | apply below_drew1) | exact HB.out)) hb); have n1_ := Aside0.mk (hbox); have n2_ := Aside0.mk ((by rw [hg]; exact (below_size (by repeat (first | (with_reducible first | exact HB.out | apply below_alloc | apply pw_below_drewN | apply below_drew1) | exact HB.out))) : w.heap.size ≤ gb102)); have n3_ := Aside0.mk ((by rw [hg]; exact (below_size (by repeat (first | (with_reducible first | exact HB.out | apply below_alloc | apply pw_below_drewN | apply below_drew1) | exact HB.out))) : w.heap.size ≤ gb102)); clear HB; have HB := n0_; have BK102 := n1_; have GW102 := n2_; have GE102 := n3_; clear n0_ n1_ n2_ n3_; clear hb hbox hg; have hcz15_0 : w14.cell? ⟨gb102, 0, none⟩ = some (.int .i64 0) := (blk_cell BK102.out 0).trans rfl; have hcz15_1 : w14.cell? ⟨gb102, 1, none⟩ = some (.int .i64 0) := (blk_cell BK102.out 1).trans rfl; have hcz15_2 : w14.cell? ⟨gb102, 2, none⟩ = some (.int .u64 0) := (blk_cell BK102.out 2).trans rfl; have hcz15_3 : w14.cell? ⟨gb102, 3, none⟩ = some (.int .u64 0) := (blk_cell BK102.out 3).trans rfl; have hfz15_0 := blk_frozen BK102.out 0; have hfz15_1 := blk_frozen BK102.out 1; have hfz15_2 := blk_frozen BK102.out 2; have hfz15_3 := blk_frozen BK102.out 3; have p103 : 0 ≤ (x4_1 : Int) := of_decide_eq_true (by first | (with_reducible assumption) | assumption); have q103 : x4_1 < (l0.length : Int) := of_decide_eq_true (by first | (with_reducible assumption) | assumption); obtain ⟨ad103, e103, hx103_0, hx103_1, hx103_2, hx103_3⟩ := at_T32 HR0.out x4_1 p103 q103; obtain rfl : ad101 = ad103 := (by injection e103); have hn103_0 : ad101.block ≠ gb102 := Nat.ne_of_lt (Nat.lt_of_lt_of_le (by have := World.block_lt_of_cell? _ _ hx103_0; first | rwa [add_block] at this | exact this) GW102.out); have hn103_1 : ad101.block ≠ gb102 := Nat.ne_of_lt (Nat.lt_of_lt_of_le (by have := World.block_lt_of_cell? _ _ hx103_0; first | rwa [add_block] at this | exact this) GW102.out); have hn103_2 : ad101.block ≠ gb102 := Nat.ne_of_lt (Nat.lt_of_lt_of_le (by have := World.block_lt_of_cell? _ _ hx103_0; first | rwa [add_block] at this | exact this) GW102.out); have hn103_3 : ad101.block ≠ gb102 := Nat.ne_of_lt (Nat.lt_of_lt_of_le (by have := World.block_lt_of_cell? _ _ hx103_0; first | rwa [add_block] at this | exact this) GW102.out); replace hx103_0 := (HB.out.cell (World.block_lt_of_cell? w _ hx103_0)).trans hx103_0; replace hx103_1 := (HB.out.cell (World.block_lt_of_cell? w _ hx103_1)).trans hx103_1; replace hx103_2 := (HB.out.cell (World.block_lt_of_cell? w _ hx103_2)).trans hx103_2; replace hx103_3 := (HB.out.cell (World.block_lt_of_cell? w _ hx103_3)).trans hx103_3; replace hx103_0 := (cell_far (p := ⟨gb102, 0, none⟩) (by first | (rw [add_block]; exact hn103_0) | (show (Addr.add _ _).block ≠ _; rw [add_block]; exact hn103_0) | exact hn103_0) (.int .i64 ((rd_T32 l0 x9_1).f0))).trans hx103_0; replace hx103_1 := (cell_far (p := ⟨gb102, 0, none⟩) (by first | (rw [add_block]; exact hn103_0) | (show (Addr.add _ _).block ≠ _; rw [add_block]; exact hn103_0) | exact hn103_0) (.int .i64 ((rd_T32 l0 x9_1).f0))).trans hx103_1; replace hx103_2 := (cell_far (p := ⟨gb102, 0, none⟩) (by first | (rw [add_block]; exact hn103_0) | (show (Addr.add _ _).block ≠ _; rw [add_block]; exact hn103_0) | exact hn103_0) (.int .i64 ((rd_T32 l0 x9_1).f0))).trans hx103_2; replace hx103_3 := (cell_far (p := ⟨gb102, 0, none⟩) (by first | (rw [add_block]; exact hn103_0) | (show (Addr.add _ _).block ≠ _; rw [add_block]; exact hn103_0) | exact hn103_0) (.int .i64 ((rd_T32 l0 x9_1).f0))).trans hx103_3; replace hx103_0 := (cell_far (p := ⟨gb102, 1, none⟩) (by first | (rw [add_block]; exact hn103_1) | (show (Addr.add _ _).block ≠ _; rw [add_block]; exact hn103_1) | exact hn103_1) (.int .i64 ((rd_T32 l0 x9_1).f1))).trans hx103_0; replace hx103_1 := (cell_far (p := ⟨gb102, 1, none⟩) (by first | (rw [add_block]; exact hn103_1) | (show (Addr.add _ _).block ≠ _; rw [add_block]; exact hn103_1) | exact hn103_1) (.int .i64 ((rd_T32 l0 x9_1).f1))).trans hx103_1; replace hx103_2 := (cell_far (p := ⟨gb102, 1, none⟩) (by first | (rw [add_block]; exact hn103_1) | (show (Addr.add _ _).block ≠ _; rw [add_block]; exact hn103_1) | exact hn103_1) (.int .i64 ((rd_T32 l0 x9_1).f1))).trans hx103_2; replace hx103_3 := (cell_far (p := ⟨gb102, 1, none⟩) (by first | (rw [add_block]; exact hn103_1) | (show (Addr.add _ _).block ≠ _; rw [add_block]; exact hn103_1) | exact hn103_1) (.int .i64 ((rd_T32 l0 x9_1).f1))).trans hx103_3; replace hx103_0 := (cell_far (p := ⟨gb102, 2, none⟩) (by first | (rw [add_block]; exact hn103_2) | (show (Addr.add _ _).block ≠ _; rw [add_block]; exact hn103_2) | exact hn103_2) (.int .u64 ((rd_T32 l0 x9_1).f2))).trans hx103_0; replace hx103_1 := (cell_far (p := ⟨gb102, 2, none⟩) (by first | (rw [add_block]; exact hn103_2) | (show (Addr.add _ _).block ≠ _; rw [add_block]; exact hn103_2) | exact hn103_2) (.int .u64 ((rd_T32 l0 x9_1).f2))).trans hx103_1; replace hx103_2 := (cell_far (p := ⟨gb102, 2, none⟩) (by first | (rw [add_block]; exact hn103_2) | (show (Addr.add _ _).block ≠ _; rw [add_block]; exact hn103_2) | exact hn103_2) (.int .u64 ((rd_T32 l0 x9_1).f2))).trans hx103_2; replace hx103_3 := (cell_far (p := ⟨gb102, 2, none⟩) (by first | (rw [add_block]; exact hn103_2) | (show (Addr.add _ _).block ≠ _; rw [add_block]; exact hn103_2) | exact hn103_2) (.int .u64 ((rd_T32 l0 x9_1).f2))).trans hx103_3; replace hx103_0 := (cell_far (p := ⟨gb102, 3, none⟩) (by first | (rw [add_block]; exact hn103_3) | (show (Addr.add _ _).block ≠ _; rw [add_block]; exact hn103_3) | exact hn103_3) (.int .u64 ((rd_T32 l0 x9_1).f3))).trans hx103_0; replace hx103_1 := (cell_far (p := ⟨gb102, 3, none⟩) (by first | (rw [add_block]; exact hn103_3) | (show (Addr.add _ _).block ≠ _; rw [add_block]; exact hn103_3) | exact hn103_3) (.int .u64 ((rd_T32 l0 x9_1).f3))).trans hx103_1; replace hx103_2 := (cell_far (p := ⟨gb102, 3, none⟩) (by first | (rw [add_block]; exact hn103_3) | (show (Addr.add _ _).block ≠ _; rw [add_block]; exact hn103_3) | exact hn103_3) (.int .u64 ((rd_T32 l0 x9_1).f3))).trans hx103_2; replace hx103_3 := (cell_far (p := ⟨gb102, 3, none⟩) (by first | (rw [add_block]; exact hn103_3) | (show (Addr.add _ _).block ≠ _; rw [add_block]; exact hn103_3) | exact hn103_3) (.int .u64 ((rd_T32 l0 x9_1).f3))).trans hx103_3; (try have hy103_0 := fun (n_ : Nat) => (show ((((((w14.drewN n_).setCell ⟨gb102, 0, none⟩ (.int .i64 ((rd_T32 l0 x9_1).f0))).setCell ⟨gb102, 1, none⟩ (.int .i64 ((rd_T32 l0 x9_1).f1))).setCell ⟨gb102, 2, none⟩ (.int .u64 ((rd_T32 l0 x9_1).f2))).setCell ⟨gb102, 3, none⟩ (.int .u64 ((rd_T32 l0 x9_1).f3)))).cell? _ = some _ from hx103_0)); (try have hy103_1 := fun (n_ : Nat) => (show ((((((w14.drewN n_).setCell ⟨gb102, 0, none⟩ (.int .i64 ((rd_T32 l0 x9_1).f0))).setCell ⟨gb102, 1, none⟩ (.int .i64 ((rd_T32 l0 x9_1).f1))).setCell ⟨gb102, 2, none⟩ (.int .u64 ((rd_T32 l0 x9_1).f2))).setCell ⟨gb102, 3, none⟩ (.int .u64 ((rd_T32 l0 x9_1).f3)))).cell? _ = some _ from hx103_1)); (try have hy103_2 := fun (n_ : Nat) => (show ((((((w14.drewN n_).setCell ⟨gb102, 0, none⟩ (.int .i64 ((rd_T32 l0 x9_1).f0))).setCell ⟨gb102, 1, none⟩ (.int .i64 ((rd_T32 l0 x9_1).f1))).setCell ⟨gb102, 2, none⟩ (.int .u64 ((rd_T32 l0 x9_1).f2))).setCell ⟨gb102, 3, none⟩ (.int .u64 ((rd_T32 l0 x9_1).f3)))).cell? _ = some _ from hx103_2)); (try have hy103_3 := fun (n_ : Nat) => (show ((((((w14.drewN n_).setCell ⟨gb102, 0, none⟩ (.int .i64 ((rd_T32 l0 x9_1).f0))).setCell ⟨gb102, 1, none⟩ (.int .i64 ((rd_T32 l0 x9_1).f1))).setCell ⟨gb102, 2, none⟩ (.int .u64 ((rd_T32 l0 x9_1).f2))).setCell ⟨gb102, 3, none⟩ (.int .u64 ((rd_T32 l0 x9_1).f3)))).cell? _ = some _ from hx103_3)); clear hn103_0; clear hn103_1; clear hn103_2; clear hn103_3; replace p103 := eq_true p103; replace q103 := eq_true q103))
                      repeat (go_quiet (first | ((with_reducible refine gate_dst (N := 6) rfl ?_); refine box_event ?hg (N := 6) ?hd (cs := #[.int .i64 0, .int .i64 0, .int .u64 0, .int .u64 0]) (t := 32) ?hr ?_; (case hd => rfl); (case hg => rfl); (case hr => first | (go_simp; done) | (go_simp; rfl)); intro gb102 hg w14 hbox hb; have n0_ := Aside0.mk (below_step (by repeat (first | (with_reducible first | exact HB.out | apply below_alloc | apply pw_below_drewN | apply below_drew1) | exact HB.out)) hb); have n1_ := Aside0.mk (hbox); have n2_ := Aside0.mk ((by rw [hg]; exact (below_size (by repeat (first | (with_reducible first | exact HB.out | apply below_alloc | apply pw_below_drewN | apply below_drew1) | exact HB.out))) : w.heap.size ≤ gb102)); have n3_ := Aside0.mk ((by rw [hg]; exact (below_size (by repeat (first | (with_reducible first | exact HB.out | apply below_alloc | apply pw_below_drewN | apply below_drew1) | exact HB.out))) : w.heap.size ≤ gb102)); clear HB; have HB := n0_; have BK102 := n1_; have GW102 := n2_; have GE102 := n3_; clear n0_ n1_ n2_ n3_; clear hb hbox hg; have hcz15_0 : w14.cell? ⟨gb102, 0, none⟩ = some (.int .i64 0) := (blk_cell BK102.out 0).trans rfl; have hcz15_1 : w14.cell? ⟨gb102, 1, none⟩ = some (.int .i64 0) := (blk_cell BK102.out 1).trans rfl; have hcz15_2 : w14.cell? ⟨gb102, 2, none⟩ = some (.int .u64 0) := (blk_cell BK102.out 2).trans rfl; have hcz15_3 : w14.cell? ⟨gb102, 3, none⟩ = some (.int .u64 0) := (blk_cell BK102.out 3).trans rfl; have hfz15_0 := blk_frozen BK102.out 0; have hfz15_1 := blk_frozen BK102.out 1; have hfz15_2 := blk_frozen BK102.out 2; have hfz15_3 := blk_frozen BK102.out 3; have p103 : 0 ≤ (x4_1 : Int) := of_decide_eq_true (by first | (with_reducible assumption) | assumption); have q103 : x4_1 < (l0.length : Int) := of_decide_eq_true (by first | (with_reducible assumption) | assumption); obtain ⟨ad103, e103, hx103_0, hx103_1, hx103_2, hx103_3⟩ := at_T32 HR0.out x4_1 p103 q103; obtain rfl : ad101 = ad103 := (by injection e103); have hn103_0 : ad101.block ≠ gb102 := Nat.ne_of_lt (Nat.lt_of_lt_of_le (by have := World.block_lt_of_cell? _ _ hx103_0; first | rwa [add_block] at this | exact this) GW102.out); have hn103_1 : ad101.block ≠ gb102 := Nat.ne_of_lt (Nat.lt_of_lt_of_le (by have := World.block_lt_of_cell? _ _ hx103_0; first | rwa [add_block] at this | exact this) GW102.out); have hn103_2 : ad101.block ≠ gb102 := Nat.ne_of_lt (Nat.lt_of_lt_of_le (by have := World.block_lt_of_cell? _ _ hx103_0; first | rwa [add_block] at this | exact this) GW102.out); have hn103_3 : ad101.block ≠ gb102 := Nat.ne_of_lt (Nat.lt_of_lt_of_le (by have := World.block_lt_of_cell? _ _ hx103_0; first | rwa [add_block] at this | exact this) GW102.out); replace hx103_0 := (HB.out.cell (World.block_lt_of_cell? w _ hx103_0)).trans hx103_0; replace hx103_1 := (HB.out.cell (World.block_lt_of_cell? w _ hx103_1)).trans hx103_1; replace hx103_2 := (HB.out.cell (World.block_lt_of_cell? w _ hx103_2)).trans hx103_2; replace hx103_3 := (HB.out.cell (World.block_lt_of_cell? w _ hx103_3)).trans hx103_3; replace hx103_0 := (cell_far (p := ⟨gb102, 0, none⟩) (by first | (rw [add_block]; exact hn103_0) | (show (Addr.add _ _).block ≠ _; rw [add_block]; exact hn103_0) | exact hn103_0) (.int .i64 ((rd_T32 l0 x9_1).f0))).trans hx103_0; replace hx103_1 := (cell_far (p := ⟨gb102, 0, none⟩) (by first | (rw [add_block]; exact hn103_0) | (show (Addr.add _ _).block ≠ _; rw [add_block]; exact hn103_0) | exact hn103_0) (.int .i64 ((rd_T32 l0 x9_1).f0))).trans hx103_1; replace hx103_2 := (cell_far (p := ⟨gb102, 0, none⟩) (by first | (rw [add_block]; exact hn103_0) | (show (Addr.add _ _).block ≠ _; rw [add_block]; exact hn103_0) | exact hn103_0) (.int .i64 ((rd_T32 l0 x9_1).f0))).trans hx103_2; replace hx103_3 := (cell_far (p := ⟨gb102, 0, none⟩) (by first | (rw [add_block]; exact hn103_0) | (show (Addr.add _ _).block ≠ _; rw [add_block]; exact hn103_0) | exact hn103_0) (.int .i64 ((rd_T32 l0 x9_1).f0))).trans hx103_3; replace hx103_0 := (cell_far (p := ⟨gb102, 1, none⟩) (by first | (rw [add_block]; exact hn103_1) | (show (Addr.add _ _).block ≠ _; rw [add_block]; exact hn103_1) | exact hn103_1) (.int .i64 ((rd_T32 l0 x9_1).f1))).trans hx103_0; replace hx103_1 := (cell_far (p := ⟨gb102, 1, none⟩) (by first | (rw [add_block]; exact hn103_1) | (show (Addr.add _ _).block ≠ _; rw [add_block]; exact hn103_1) | exact hn103_1) (.int .i64 ((rd_T32 l0 x9_1).f1))).trans hx103_1; replace hx103_2 := (cell_far (p := ⟨gb102, 1, none⟩) (by first | (rw [add_block]; exact hn103_1) | (show (Addr.add _ _).block ≠ _; rw [add_block]; exact hn103_1) | exact hn103_1) (.int .i64 ((rd_T32 l0 x9_1).f1))).trans hx103_2; replace hx103_3 := (cell_far (p := ⟨gb102, 1, none⟩) (by first | (rw [add_block]; exact hn103_1) | (show (Addr.add _ _).block ≠ _; rw [add_block]; exact hn103_1) | exact hn103_1) (.int .i64 ((rd_T32 l0 x9_1).f1))).trans hx103_3; replace hx103_0 := (cell_far (p := ⟨gb102, 2, none⟩) (by first | (rw [add_block]; exact hn103_2) | (show (Addr.add _ _).block ≠ _; rw [add_block]; exact hn103_2) | exact hn103_2) (.int .u64 ((rd_T32 l0 x9_1).f2))).trans hx103_0; replace hx103_1 := (cell_far (p := ⟨gb102, 2, none⟩) (by first | (rw [add_block]; exact hn103_2) | (show (Addr.add _ _).block ≠ _; rw [add_block]; exact hn103_2) | exact hn103_2) (.int .u64 ((rd_T32 l0 x9_1).f2))).trans hx103_1; replace hx103_2 := (cell_far (p := ⟨gb102, 2, none⟩) (by first | (rw [add_block]; exact hn103_2) | (show (Addr.add _ _).block ≠ _; rw [add_block]; exact hn103_2) | exact hn103_2) (.int .u64 ((rd_T32 l0 x9_1).f2))).trans hx103_2; replace hx103_3 := (cell_far (p := ⟨gb102, 2, none⟩) (by first | (rw [add_block]; exact hn103_2) | (show (Addr.add _ _).block ≠ _; rw [add_block]; exact hn103_2) | exact hn103_2) (.int .u64 ((rd_T32 l0 x9_1).f2))).trans hx103_3; replace hx103_0 := (cell_far (p := ⟨gb102, 3, none⟩) (by first | (rw [add_block]; exact hn103_3) | (show (Addr.add _ _).block ≠ _; rw [add_block]; exact hn103_3) | exact hn103_3) (.int .u64 ((rd_T32 l0 x9_1).f3))).trans hx103_0; replace hx103_1 := (cell_far (p := ⟨gb102, 3, none⟩) (by first | (rw [add_block]; exact hn103_3) | (show (Addr.add _ _).block ≠ _; rw [add_block]; exact hn103_3) | exact hn103_3) (.int .u64 ((rd_T32 l0 x9_1).f3))).trans hx103_1; replace hx103_2 := (cell_far (p := ⟨gb102, 3, none⟩) (by first | (rw [add_block]; exact hn103_3) | (show (Addr.add _ _).block ≠ _; rw [add_block]; exact hn103_3) | exact hn103_3) (.int .u64 ((rd_T32 l0 x9_1).f3))).trans hx103_2; replace hx103_3 := (cell_far (p := ⟨gb102, 3, none⟩) (by first | (rw [add_block]; exact hn103_3) | (show (Addr.add _ _).block ≠ _; rw [add_block]; exact hn103_3) | exact hn103_3) (.int .u64 ((rd_T32 l0 x9_1).f3))).trans hx103_3; (try have hy103_0 := fun (n_ : Nat) => (show ((((((w14.drewN n_).setCell ⟨gb102, 0, none⟩ (.int .i64 ((rd_T32 l0 x9_1).f0))).setCell ⟨gb102, 1, none⟩ (.int .i64 ((rd_T32 l0 x9_1).f1))).setCell ⟨gb102, 2, none⟩ (.int .u64 ((rd_T32 l0 x9_1).f2))).setCell ⟨gb102, 3, none⟩ (.int .u64 ((rd_T32 l0 x9_1).f3)))).cell? _ = some _ from hx103_0)); (try have hy103_1 := fun (n_ : Nat) => (show ((((((w14.drewN n_).setCell ⟨gb102, 0, none⟩ (.int .i64 ((rd_T32 l0 x9_1).f0))).setCell ⟨gb102, 1, none⟩ (.int .i64 ((rd_T32 l0 x9_1).f1))).setCell ⟨gb102, 2, none⟩ (.int .u64 ((rd_T32 l0 x9_1).f2))).setCell ⟨gb102, 3, none⟩ (.int .u64 ((rd_T32 l0 x9_1).f3)))).cell? _ = some _ from hx103_1)); (try have hy103_2 := fun (n_ : Nat) => (show ((((((w14.drewN n_).setCell ⟨gb102, 0, none⟩ (.int .i64 ((rd_T32 l0 x9_1).f0))).setCell ⟨gb102, 1, none⟩ (.int .i64 ((rd_T32 l0 x9_1).f1))).setCell ⟨gb102, 2, none⟩ (.int .u64 ((rd_T32 l0 x9_1).f2))).setCell ⟨gb102, 3, none⟩ (.int .u64 ((rd_T32 l0 x9_1).f3)))).cell? _ = some _ from hx103_2)); (try have hy103_3 := fun (n_ : Nat) => (show ((((((w14.drewN n_).setCell ⟨gb102, 0, none⟩ (.int .i64 ((rd_T32 l0 x9_1).f0))).setCell ⟨gb102, 1, none⟩ (.int .i64 ((rd_T32 l0 x9_1).f1))).setCell ⟨gb102, 2, none⟩ (.int .u64 ((rd_T32 l0 x9_1).f2))).setCell ⟨gb102, 3, none⟩ (.int .u64 ((rd_T32 l0 x9_1).f3)))).cell? _ = some _ from hx103_3)); clear hn103_0; clear hn103_1; clear hn103_2; clear hn103_3; replace p103 := eq_true p103; replace q103 := eq_true q103)); try go_wp2_with (first | ((with_reducible refine gate_dst (N := 6) rfl ?_); refine box_event ?hg (N := 6) ?hd (cs := #[.int .i64 0, .int .i64 0, .int .u64 0, .int .u64 0]) (t := 32) ?hr ?_; (case hd => rfl); (case hg => rfl); (case hr => first | (go_simp; done) | (go_simp; rfl)); intro gb102 hg w14 hbox hb; have n0_ := Aside0.mk (below_step (by repeat (first | (with_reducible first | exact HB.out | apply below_alloc | apply pw_below_drewN | apply below_drew1) | exact HB.out)) hb); have n1_ := Aside0.mk (hbox); have n2_ := Aside0.mk ((by rw [hg]; exact (below_size (by repeat (first | (with_reducible first | exact HB.out | apply below_alloc | apply pw_below_drewN | apply below_drew1) | exact HB.out))) : w.heap.size ≤ gb102)); have n3_ := Aside0.mk ((by rw [hg]; exact (below_size (by repeat (first | (with_reducible first | exact HB.out | apply below_alloc | apply pw_below_drewN | apply below_drew1) | exact HB.out))) : w.heap.size ≤ gb102)); clear HB; have HB := n0_; have BK102 := n1_; have GW102 := n2_; have GE102 := n3_; clear n0_ n1_ n2_ n3_; clear hb hbox hg; have hcz15_0 : w14.cell? ⟨gb102, 0, none⟩ = some (.int .i64 0) := (blk_cell BK102.out 0).trans rfl; have hcz15_1 : w14.cell? ⟨gb102, 1, none⟩ = some (.int .i64 0) := (blk_cell BK102.out 1).trans rfl; have hcz15_2 : w14.cell? ⟨gb102, 2, none⟩ = some (.int .u64 0) := (blk_cell BK102.out 2).trans rfl; have hcz15_3 : w14.cell? ⟨gb102, 3, none⟩ = some (.int .u64 0) := (blk_cell BK102.out 3).trans rfl; have hfz15_0 := blk_frozen BK102.out 0; have hfz15_1 := blk_frozen BK102.out 1; have hfz15_2 := blk_frozen BK102.out 2; have hfz15_3 := blk_frozen BK102.out 3; have p103 : 0 ≤ (x4_1 : Int) := of_decide_eq_true (by first | (with_reducible assumption) | assumption); have q103 : x4_1 < (l0.length : Int) := of_decide_eq_true (by first | (with_reducible assumption) | assumption); obtain ⟨ad103, e103, hx103_0, hx103_1, hx103_2, hx103_3⟩ := at_T32 HR0.out x4_1 p103 q103; obtain rfl : ad101 = ad103 := (by injection e103); have hn103_0 : ad101.block ≠ gb102 := Nat.ne_of_lt (Nat.lt_of_lt_of_le (by have := World.block_lt_of_cell? _ _ hx103_0; first | rwa [add_block] at this | exact this) GW102.out); have hn103_1 : ad101.block ≠ gb102 := Nat.ne_of_lt (Nat.lt_of_lt_of_le (by have := World.block_lt_of_cell? _ _ hx103_0; first | rwa [add_block] at this | exact this) GW102.out); have hn103_2 : ad101.block ≠ gb102 := Nat.ne_of_lt (Nat.lt_of_lt_of_le (by have := World.block_lt_of_cell? _ _ hx103_0; first | rwa [add_block] at this | exact this) GW102.out); have hn103_3 : ad101.block ≠ gb102 := Nat.ne_of_lt (Nat.lt_of_lt_of_le (by have := World.block_lt_of_cell? _ _ hx103_0; first | rwa [add_block] at this | exact this) GW102.out); replace hx103_0 := (HB.out.cell (World.block_lt_of_cell? w _ hx103_0)).trans hx103_0; replace hx103_1 := (HB.out.cell (World.block_lt_of_cell? w _ hx103_1)).trans hx103_1; replace hx103_2 := (HB.out.cell (World.block_lt_of_cell? w _ hx103_2)).trans hx103_2; replace hx103_3 := (HB.out.cell (World.block_lt_of_cell? w _ hx103_3)).trans hx103_3; replace hx103_0 := (cell_far (p := ⟨gb102, 0, none⟩) (by first | (rw [add_block]; exact hn103_0) | (show (Addr.add _ _).block ≠ _; rw [add_block]; exact hn103_0) | exact hn103_0) (.int .i64 ((rd_T32 l0 x9_1).f0))).trans hx103_0; replace hx103_1 := (cell_far (p := ⟨gb102, 0, none⟩) (by first | (rw [add_block]; exact hn103_0) | (show (Addr.add _ _).block ≠ _; rw [add_block]; exact hn103_0) | exact hn103_0) (.int .i64 ((rd_T32 l0 x9_1).f0))).trans hx103_1; replace hx103_2 := (cell_far (p := ⟨gb102, 0, none⟩) (by first | (rw [add_block]; exact hn103_0) | (show (Addr.add _ _).block ≠ _; rw [add_block]; exact hn103_0) | exact hn103_0) (.int .i64 ((rd_T32 l0 x9_1).f0))).trans hx103_2; replace hx103_3 := (cell_far (p := ⟨gb102, 0, none⟩) (by first | (rw [add_block]; exact hn103_0) | (show (Addr.add _ _).block ≠ _; rw [add_block]; exact hn103_0) | exact hn103_0) (.int .i64 ((rd_T32 l0 x9_1).f0))).trans hx103_3; replace hx103_0 := (cell_far (p := ⟨gb102, 1, none⟩) (by first | (rw [add_block]; exact hn103_1) | (show (Addr.add _ _).block ≠ _; rw [add_block]; exact hn103_1) | exact hn103_1) (.int .i64 ((rd_T32 l0 x9_1).f1))).trans hx103_0; replace hx103_1 := (cell_far (p := ⟨gb102, 1, none⟩) (by first | (rw [add_block]; exact hn103_1) | (show (Addr.add _ _).block ≠ _; rw [add_block]; exact hn103_1) | exact hn103_1) (.int .i64 ((rd_T32 l0 x9_1).f1))).trans hx103_1; replace hx103_2 := (cell_far (p := ⟨gb102, 1, none⟩) (by first | (rw [add_block]; exact hn103_1) | (show (Addr.add _ _).block ≠ _; rw [add_block]; exact hn103_1) | exact hn103_1) (.int .i64 ((rd_T32 l0 x9_1).f1))).trans hx103_2; replace hx103_3 := (cell_far (p := ⟨gb102, 1, none⟩) (by first | (rw [add_block]; exact hn103_1) | (show (Addr.add _ _).block ≠ _; rw [add_block]; exact hn103_1) | exact hn103_1) (.int .i64 ((rd_T32 l0 x9_1).f1))).trans hx103_3; replace hx103_0 := (cell_far (p := ⟨gb102, 2, none⟩) (by first | (rw [add_block]; exact hn103_2) | (show (Addr.add _ _).block ≠ _; rw [add_block]; exact hn103_2) | exact hn103_2) (.int .u64 ((rd_T32 l0 x9_1).f2))).trans hx103_0; replace hx103_1 := (cell_far (p := ⟨gb102, 2, none⟩) (by first | (rw [add_block]; exact hn103_2) | (show (Addr.add _ _).block ≠ _; rw [add_block]; exact hn103_2) | exact hn103_2) (.int .u64 ((rd_T32 l0 x9_1).f2))).trans hx103_1; replace hx103_2 := (cell_far (p := ⟨gb102, 2, none⟩) (by first | (rw [add_block]; exact hn103_2) | (show (Addr.add _ _).block ≠ _; rw [add_block]; exact hn103_2) | exact hn103_2) (.int .u64 ((rd_T32 l0 x9_1).f2))).trans hx103_2; replace hx103_3 := (cell_far (p := ⟨gb102, 2, none⟩) (by first | (rw [add_block]; exact hn103_2) | (show (Addr.add _ _).block ≠ _; rw [add_block]; exact hn103_2) | exact hn103_2) (.int .u64 ((rd_T32 l0 x9_1).f2))).trans hx103_3; replace hx103_0 := (cell_far (p := ⟨gb102, 3, none⟩) (by first | (rw [add_block]; exact hn103_3) | (show (Addr.add _ _).block ≠ _; rw [add_block]; exact hn103_3) | exact hn103_3) (.int .u64 ((rd_T32 l0 x9_1).f3))).trans hx103_0; replace hx103_1 := (cell_far (p := ⟨gb102, 3, none⟩) (by first | (rw [add_block]; exact hn103_3) | (show (Addr.add _ _).block ≠ _; rw [add_block]; exact hn103_3) | exact hn103_3) (.int .u64 ((rd_T32 l0 x9_1).f3))).trans hx103_1; replace hx103_2 := (cell_far (p := ⟨gb102, 3, none⟩) (by first | (rw [add_block]; exact hn103_3) | (show (Addr.add _ _).block ≠ _; rw [add_block]; exact hn103_3) | exact hn103_3) (.int .u64 ((rd_T32 l0 x9_1).f3))).trans hx103_2; replace hx103_3 := (cell_far (p := ⟨gb102, 3, none⟩) (by first | (rw [add_block]; exact hn103_3) | (show (Addr.add _ _).block ≠ _; rw [add_block]; exact hn103_3) | exact hn103_3) (.int .u64 ((rd_T32 l0 x9_1).f3))).trans hx103_3; (try have hy103_0 := fun (n_ : Nat) => (show ((((((w14.drewN n_).setCell ⟨gb102, 0, none⟩ (.int .i64 ((rd_T32 l0 x9_1).f0))).setCell ⟨gb102, 1, none⟩ (.int .i64 ((rd_T32 l0 x9_1).f1))).setCell ⟨gb102, 2, none⟩ (.int .u64 ((rd_T32 l0 x9_1).f2))).setCell ⟨gb102, 3, none⟩ (.int .u64 ((rd_T32 l0 x9_1).f3)))).cell? _ = some _ from hx103_0)); (try have hy103_1 := fun (n_ : Nat) => (show ((((((w14.drewN n_).setCell ⟨gb102, 0, none⟩ (.int .i64 ((rd_T32 l0 x9_1).f0))).setCell ⟨gb102, 1, none⟩ (.int .i64 ((rd_T32 l0 x9_1).f1))).setCell ⟨gb102, 2, none⟩ (.int .u64 ((rd_T32 l0 x9_1).f2))).setCell ⟨gb102, 3, none⟩ (.int .u64 ((rd_T32 l0 x9_1).f3)))).cell? _ = some _ from hx103_1)); (try have hy103_2 := fun (n_ : Nat) => (show ((((((w14.drewN n_).setCell ⟨gb102, 0, none⟩ (.int .i64 ((rd_T32 l0 x9_1).f0))).setCell ⟨gb102, 1, none⟩ (.int .i64 ((rd_T32 l0 x9_1).f1))).setCell ⟨gb102, 2, none⟩ (.int .u64 ((rd_T32 l0 x9_1).f2))).setCell ⟨gb102, 3, none⟩ (.int .u64 ((rd_T32 l0 x9_1).f3)))).cell? _ = some _ from hx103_2)); (try have hy103_3 := fun (n_ : Nat) => (show ((((((w14.drewN n_).setCell ⟨gb102, 0, none⟩ (.int .i64 ((rd_T32 l0 x9_1).f0))).setCell ⟨gb102, 1, none⟩ (.int .i64 ((rd_T32 l0 x9_1).f1))).setCell ⟨gb102, 2, none⟩ (.int .u64 ((rd_T32 l0 x9_1).f2))).setCell ⟨gb102, 3, none⟩ (.int .u64 ((rd_T32 l0 x9_1).f3)))).cell? _ = some _ from hx103_3)); clear hn103_0; clear hn103_1; clear hn103_2; clear hn103_3; replace p103 := eq_true p103; replace q103 := eq_true q103)))
                      go_roundg k1
                      case measure => have := HK1.out; omega
                      case rel => exact ⟨(x4_1), (wrap64 (x9_1 + 1)), (by first | rfl | (simp; done) | (simp [*]; done)), (by first | rfl | (simp; done) | (simp [*]; done)), H', ⟨by have := HK1.out; omega⟩, ⟨by repeat (first | (with_reducible first | exact HB.out | apply below_alloc | apply pw_below_drewN | apply below_drew1 | refine below_set ?_ GE102.out) | exact HB.out)⟩⟩
                  · rw [if_neg c10] at H
                    exact absurd H (by simp)
                · rw [if_neg c9] at H
                  exact absurd H (by simp)
            · rw [if_neg c5] at H
              have c5b0 : (((rd_T32 l0 x9_1).f0) == 0) = false := beq_eq_false_iff_ne.mpr c5
              have c5b1 : (((rd_T32 l0 x9_1).f0) != 0) = true := bne_iff_ne.mpr c5
              have H' := Aside0.mk H
              clear H
              have p101 : 0 ≤ (x9_1 : Int) := of_decide_eq_true (by first | (with_reducible assumption) | assumption)
              have q101 : x9_1 < (l0.length : Int) := of_decide_eq_true (by first | (with_reducible assumption) | assumption)
              obtain ⟨ad101, e101, hx101_0, hx101_1, hx101_2, hx101_3⟩ := at_T32 HR0.out x9_1 p101 q101
              cases e101
              replace hx101_0 := (HB.out.cell (World.block_lt_of_cell? w _ hx101_0)).trans hx101_0
              replace hx101_1 := (HB.out.cell (World.block_lt_of_cell? w _ hx101_1)).trans hx101_1
              replace hx101_2 := (HB.out.cell (World.block_lt_of_cell? w _ hx101_2)).trans hx101_2
              replace hx101_3 := (HB.out.cell (World.block_lt_of_cell? w _ hx101_3)).trans hx101_3
              replace p101 := eq_true p101
              replace q101 := eq_true q101
              go_wp2_with (first | ((with_reducible refine gate_dst (N := 6) rfl ?_); refine box_event ?hg (N := 6) ?hd (cs := #[.int .i64 0, .int .i64 0, .int .u64 0, .int .u64 0]) (t := 32) ?hr ?_; (case hd => rfl); (case hg => rfl); (case hr => first | (go_simp; done) | (go_simp; rfl)); intro gb102 hg w16 hbox hb; have n0_ := Aside0.mk (below_step (by repeat (first | (with_reducible first | exact HB.out | apply below_alloc | apply pw_below_drewN | apply below_drew1) | exact HB.out)) hb); have n1_ := Aside0.mk (hbox); have n2_ := Aside0.mk ((by rw [hg]; exact (below_size (by repeat (first | (with_reducible first | exact HB.out | apply below_alloc | apply pw_below_drewN | apply below_drew1) | exact HB.out))) : w.heap.size ≤ gb102)); have n3_ := Aside0.mk ((by rw [hg]; exact (below_size (by repeat (first | (with_reducible first | exact HB.out | apply below_alloc | apply pw_below_drewN | apply below_drew1) | exact HB.out))) : w.heap.size ≤ gb102)); clear HB; have HB := n0_; have BK102 := n1_; have GW102 := n2_; have GE102 := n3_; clear n0_ n1_ n2_ n3_; clear hb hbox hg; have hcz17_0 : w16.cell? ⟨gb102, 0, none⟩ = some (.int .i64 0) := (blk_cell BK102.out 0).trans rfl; have hcz17_1 : w16.cell? ⟨gb102, 1, none⟩ = some (.int .i64 0) := (blk_cell BK102.out 1).trans rfl; have hcz17_2 : w16.cell? ⟨gb102, 2, none⟩ = some (.int .u64 0) := (blk_cell BK102.out 2).trans rfl; have hcz17_3 : w16.cell? ⟨gb102, 3, none⟩ = some (.int .u64 0) := (blk_cell BK102.out 3).trans rfl; have hfz17_0 := blk_frozen BK102.out 0; have hfz17_1 := blk_frozen BK102.out 1; have hfz17_2 := blk_frozen BK102.out 2; have hfz17_3 := blk_frozen BK102.out 3))
              repeat (go_quiet (first | ((with_reducible refine gate_dst (N := 6) rfl ?_); refine box_event ?hg (N := 6) ?hd (cs := #[.int .i64 0, .int .i64 0, .int .u64 0, .int .u64 0]) (t := 32) ?hr ?_; (case hd => rfl); (case hg => rfl); (case hr => first | (go_simp; done) | (go_simp; rfl)); intro gb102 hg w16 hbox hb; have n0_ := Aside0.mk (below_step (by repeat (first | (with_reducible first | exact HB.out | apply below_alloc | apply pw_below_drewN | apply below_drew1) | exact HB.out)) hb); have n1_ := Aside0.mk (hbox); have n2_ := Aside0.mk ((by rw [hg]; exact (below_size (by repeat (first | (with_reducible first | exact HB.out | apply below_alloc | apply pw_below_drewN | apply below_drew1) | exact HB.out))) : w.heap.size ≤ gb102)); have n3_ := Aside0.mk ((by rw [hg]; exact (below_size (by repeat (first | (with_reducible first | exact HB.out | apply below_alloc | apply pw_below_drewN | apply below_drew1) | exact HB.out))) : w.heap.size ≤ gb102)); clear HB; have HB := n0_; have BK102 := n1_; have GW102 := n2_; have GE102 := n3_; clear n0_ n1_ n2_ n3_; clear hb hbox hg; have hcz17_0 : w16.cell? ⟨gb102, 0, none⟩ = some (.int .i64 0) := (blk_cell BK102.out 0).trans rfl; have hcz17_1 : w16.cell? ⟨gb102, 1, none⟩ = some (.int .i64 0) := (blk_cell BK102.out 1).trans rfl; have hcz17_2 : w16.cell? ⟨gb102, 2, none⟩ = some (.int .u64 0) := (blk_cell BK102.out 2).trans rfl; have hcz17_3 : w16.cell? ⟨gb102, 3, none⟩ = some (.int .u64 0) := (blk_cell BK102.out 3).trans rfl; have hfz17_0 := blk_frozen BK102.out 0; have hfz17_1 := blk_frozen BK102.out 1; have hfz17_2 := blk_frozen BK102.out 2; have hfz17_3 := blk_frozen BK102.out 3)); try go_wp2_with (first | ((with_reducible refine gate_dst (N := 6) rfl ?_); refine box_event ?hg (N := 6) ?hd (cs := #[.int .i64 0, .int .i64 0, .int .u64 0, .int .u64 0]) (t := 32) ?hr ?_; (case hd => rfl); (case hg => rfl); (case hr => first | (go_simp; done) | (go_simp; rfl)); intro gb102 hg w16 hbox hb; have n0_ := Aside0.mk (below_step (by repeat (first | (with_reducible first | exact HB.out | apply below_alloc | apply pw_below_drewN | apply below_drew1) | exact HB.out)) hb); have n1_ := Aside0.mk (hbox); have n2_ := Aside0.mk ((by rw [hg]; exact (below_size (by repeat (first | (with_reducible first | exact HB.out | apply below_alloc | apply pw_below_drewN | apply below_drew1) | exact HB.out))) : w.heap.size ≤ gb102)); have n3_ := Aside0.mk ((by rw [hg]; exact (below_size (by repeat (first | (with_reducible first | exact HB.out | apply below_alloc | apply pw_below_drewN | apply below_drew1) | exact HB.out))) : w.heap.size ≤ gb102)); clear HB; have HB := n0_; have BK102 := n1_; have GW102 := n2_; have GE102 := n3_; clear n0_ n1_ n2_ n3_; clear hb hbox hg; have hcz17_0 : w16.cell? ⟨gb102, 0, none⟩ = some (.int .i64 0) := (blk_cell BK102.out 0).trans rfl; have hcz17_1 : w16.cell? ⟨gb102, 1, none⟩ = some (.int .i64 0) := (blk_cell BK102.out 1).trans rfl; have hcz17_2 : w16.cell? ⟨gb102, 2, none⟩ = some (.int .u64 0) := (blk_cell BK102.out 2).trans rfl; have hcz17_3 : w16.cell? ⟨gb102, 3, none⟩ = some (.int .u64 0) := (blk_cell BK102.out 3).trans rfl; have hfz17_0 := blk_frozen BK102.out 0; have hfz17_1 := blk_frozen BK102.out 1; have hfz17_2 := blk_frozen BK102.out 2; have hfz17_3 := blk_frozen BK102.out 3)))
              go_roundg k1
              case measure => have := HK1.out; omega
              case rel => exact ⟨(x4_1), (wrap64 (x9_1 + 1)), (by first | rfl | (simp; done) | (simp [*]; done)), (by first | rfl | (simp; done) | (simp [*]; done)), H', ⟨by have := HK1.out; omega⟩, ⟨by repeat (first | (with_reducible first | exact HB.out | apply below_alloc | apply pw_below_drewN | apply below_drew1 | refine below_set ?_ GE102.out) | exact HB.out)⟩⟩
          · rw [if_neg c4] at H
            exact absurd H (by simp)
        · rw [if_neg c3] at H
          exact absurd H (by simp)
      · rw [if_neg c2] at H
        have c2b0 : decide (x9_1 < (l0.length : Int)) = false := decide_eq_false c2
        clear c2
        by_cases c18 : x4_1 < 0
        · rw [if_pos c18] at H
          have c18b0 : decide (x4_1 < 0) = true := decide_eq_true c18
          clear c18
          simp only [Option.some.injEq, Prod.mk.injEq] at H
          obtain ⟨rfl, rfl⟩ := H
          go_wp2
          repeat (go_quiet (fail); try go_wp2)
          go_ret2
          exact ⟨by first | rfl | (simp [errW_none, errW_some] <;> rfl) | (simp [*, errW_none, errW_some] <;> rfl), by repeat (first | (with_reducible first | exact HB.out | apply below_alloc | apply pw_below_drewN | apply below_drew1) | exact HB.out)⟩
        · rw [if_neg c18] at H
          have c18b0 : decide (x4_1 < 0) = false := decide_eq_false c18
          clear c18
          simp only [Option.some.injEq, Prod.mk.injEq] at H
          obtain ⟨rfl, rfl⟩ := H
          go_wp2
          repeat (go_quiet (fail); try go_wp2)
          go_ret2
          exact ⟨by first | rfl | (simp [errW_none, errW_some] <;> rfl) | (simp [*, errW_none, errW_some] <;> rfl), by repeat (first | (with_reducible first | exact HB.out | apply below_alloc | apply pw_below_drewN | apply below_drew1) | exact HB.out)⟩

/-! ### wear_Spread: function 11 -/
def wear_Spread.l0 : Nat → Int → Int → List (S32) → Int → Int → Option (Int)
  | 0, _, _, _, _, _ => none
  | k + 1, x3, x4, x18, x19, x20 => if x20 < x19 then (if 0 ≤ x20 then (if x20 < (x18.length : Int) then (wear_Spread.l0 k (mn x3 ((rd_T32 x18 x20).f3)) (mx x4 ((rd_T32 x18 x20).f3)) x18 x19 (wrap64 (x20 + 1))) else (none)) else (none)) else (some (IntKind.u64.wrap (x4 - x3)))
def wear_Spread.f (k : Nat) (l0 : List (S32)) : Option (Int) := if (l0.length : Int) = 0 then (some 0) else (if 0 < (l0.length : Int) then (wear_Spread.l0 k ((rd_T32 l0 0).f3) ((rd_T32 l0 0).f3) l0 (l0.length : Int) 0) else (none))
theorem wear_Spread.mono_l : ∀ k, (∀ y0 y1 y2 y3 y4, LeO (wear_Spread.l0 k y0 y1 y2 y3 y4) (wear_Spread.l0 (k + 1) y0 y1 y2 y3 y4))
  | 0 => fun _ _ _ _ _ r h => by simp [wear_Spread.l0] at h
  | k + 1 => by
    have ih0 := wear_Spread.mono_l k
    · intro y0 y1 y2 y3 y4
      unfold wear_Spread.l0
      repeat' first
      | (with_reducible exact ih0 _ _ _ _ _)
      | (with_reducible exact LeO.refl _)
      | (with_reducible exact LeO.none _)
      | (with_reducible refine LeO.ite ?_ ?_)
      | (with_reducible refine LeO.bind ?_ (fun _ => ?_))
      | exact ih0 _ _ _ _ _
      | exact LeO.none _
      | refine LeO.ite ?_ ?_
      | refine LeO.bind ?_ (fun _ => ?_)
theorem wear_Spread.mono : ∀ a0 k, LeO (wear_Spread.f k a0) (wear_Spread.f (k + 1) a0) := by
  intro a0 k
  have ih0 := wear_Spread.mono_l k
  unfold wear_Spread.f
  repeat' first
      | (with_reducible exact ih0 _ _ _ _ _)
      | (with_reducible exact LeO.refl _)
      | (with_reducible exact LeO.none _)
      | (with_reducible refine LeO.ite ?_ ?_)
      | (with_reducible refine LeO.bind ?_ (fun _ => ?_))
      | exact ih0 _ _ _ _ _
      | exact LeO.none _
      | refine LeO.ite ?_ ?_
      | refine LeO.bind ?_ (fun _ => ?_)
set_option maxHeartbeats 8000000 in
set_option maxRecDepth 100000 in
theorem wear_Spread.calls (k : Nat) (A0 : Option Addr) (c0 : Nat) (l0 : List (S32)) (r : Int) (w : World) (hr0 : Kd.C k32 w A0 l0.length l0) (hc0 : l0.length ≤ c0) (h : wear_Spread.f k l0 = some r) :
    Calls Try.prog 11 #[.slice A0 l0.length c0] w fun e w' => e = .returned (.int .u64 r) ∧ Below w.heap.size w w' := by
  have hu32 := Try.underlying32
  have HR0 := Aside0.mk hr0
  have HC0 := Aside0.mk hc0
  clear hr0 hc0
  have HB := Aside0.mk (Below.refl w.heap.size w)
  have H : (if (l0.length : Int) = 0 then (some 0) else (if 0 < (l0.length : Int) then (wear_Spread.l0 k ((rd_T32 l0 0).f3) ((rd_T32 l0 0).f3) l0 (l0.length : Int) 0) else (none))) = some r := h
  clear h
  by_cases c2 : (l0.length : Int) = 0
  · rw [if_pos c2] at H
    have c2b0 : ((l0.length : Int) == 0) = true := beq_iff_eq.mpr c2
    have c2b1 : ((l0.length : Int) != 0) = false := bne_eq_false_iff_eq.mpr c2
    clear c2
    obtain rfl := Option.some.inj H
    go_enter Try.func11, Try.ntmps11
    go_wp2
    repeat (go_quiet (fail); try go_wp2)
    go_ret
    exact ⟨by first | rfl | (simp [errW_none, errW_some] <;> rfl) | (simp [*, errW_none, errW_some] <;> rfl), by repeat (first | (with_reducible first | exact HB.out | apply below_alloc | apply pw_below_drewN | apply below_drew1) | exact HB.out)⟩
  · rw [if_neg c2] at H
    have c2b0 : ((l0.length : Int) == 0) = false := beq_eq_false_iff_ne.mpr c2
    have c2b1 : ((l0.length : Int) != 0) = true := bne_iff_ne.mpr c2
    have c2b2 : ¬ (l0 = []) := fun h_ => c2 (by rw [h_]; rfl)
    by_cases c3 : 0 < (l0.length : Int)
    · rw [if_pos c3] at H
      have c3b0 : decide (0 < (l0.length : Int)) = true := decide_eq_true c3
      have c3b1 : decide (0 < l0.length) = true := decide_eq_true (by omega)
      clear c3
      have H' := Aside0.mk H
      clear H
      have p104 : 0 ≤ (0 : Int) := (by omega)
      have q104 : 0 < (l0.length : Int) := of_decide_eq_true (by first | (with_reducible assumption) | assumption)
      obtain ⟨ad104, e104, hx104_0, hx104_1, hx104_2, hx104_3⟩ := at_T32 HR0.out 0 p104 q104
      cases e104
      have qi104 : (0 < l0.length) = True := eq_true (by omega)
      (try rw [show ((0 : Int)).toNat = 0 from rfl] at hx104_0)
      (try rw [show 0 * 4 = 0 from rfl] at hx104_0)
      (try rw [Addr.add_zero'] at hx104_0)
      (try rw [show ((0 : Int)).toNat = 0 from rfl] at hx104_1)
      (try rw [show 0 * 4 = 0 from rfl] at hx104_1)
      (try rw [Addr.add_zero'] at hx104_1)
      (try rw [show ((0 : Int)).toNat = 0 from rfl] at hx104_2)
      (try rw [show 0 * 4 = 0 from rfl] at hx104_2)
      (try rw [Addr.add_zero'] at hx104_2)
      (try rw [show ((0 : Int)).toNat = 0 from rfl] at hx104_3)
      (try rw [show 0 * 4 = 0 from rfl] at hx104_3)
      (try rw [Addr.add_zero'] at hx104_3)
      replace p104 := eq_true p104
      replace q104 := eq_true q104
      have p105 : 0 ≤ (0 : Int) := (by omega)
      have q105 : 0 < (l0.length : Int) := of_decide_eq_true (by first | (with_reducible assumption) | assumption)
      obtain ⟨ad105, e105, hx105_0, hx105_1, hx105_2, hx105_3⟩ := at_T32 HR0.out 0 p105 q105
      obtain rfl : ad104 = ad105 := (by injection e105)
      have qi105 : (0 < l0.length) = True := eq_true (by omega)
      (try rw [show ((0 : Int)).toNat = 0 from rfl] at hx105_0)
      (try rw [show 0 * 4 = 0 from rfl] at hx105_0)
      (try rw [Addr.add_zero'] at hx105_0)
      (try rw [show ((0 : Int)).toNat = 0 from rfl] at hx105_1)
      (try rw [show 0 * 4 = 0 from rfl] at hx105_1)
      (try rw [Addr.add_zero'] at hx105_1)
      (try rw [show ((0 : Int)).toNat = 0 from rfl] at hx105_2)
      (try rw [show 0 * 4 = 0 from rfl] at hx105_2)
      (try rw [Addr.add_zero'] at hx105_2)
      (try rw [show ((0 : Int)).toNat = 0 from rfl] at hx105_3)
      (try rw [show 0 * 4 = 0 from rfl] at hx105_3)
      (try rw [Addr.add_zero'] at hx105_3)
      replace p105 := eq_true p105
      replace q105 := eq_true q105
      go_enter Try.func11, Try.ntmps11
      go_wp2
      repeat (go_quiet (fail); try go_wp2)
      go_loopg [3, 4, 20] k (fun kq v3 v4 v20 w' => ∃ (x3_1 : Int) (x4_1 : Int) (x20_1 : Int), v3 = .int .u64 x3_1 ∧ v4 = .int .u64 x4_1 ∧ v20 = .int .i64 x20_1 ∧ Aside0 (wear_Spread.l0 kq x3_1 x4_1 l0 (l0.length : Int) x20_1 = some r) ∧ Aside0 (kq ≤ k) ∧ Aside0 (Below w.heap.size w w'))
      case atStart => exact ⟨((rd_T32 l0 0).f3), ((rd_T32 l0 0).f3), (0), (by first | rfl | (simp; done) | (simp [*]; done)), (by first | rfl | (simp; done) | (simp [*]; done)), (by first | rfl | (simp; done) | (simp [*]; done)), H', ⟨Nat.le_refl _⟩, ⟨by repeat (first | (with_reducible first | exact HB.out | apply below_alloc | apply pw_below_drewN | apply below_drew1) | exact HB.out)⟩⟩
      case round =>
        clear H'
        try clear c1
        try clear p1
        try clear q1
        try clear hx1
        try clear qi1
        try clear c2
        try clear c2b0
        try clear c2b1
        try clear c2b2
        try clear p2
        try clear c3
        try clear c3b0
        try clear c3b1
        try clear hx104_0
        try clear hx104_1
        try clear hx104_2
        try clear hx104_3
        try clear hx105_0
        try clear hx105_1
        try clear hx105_2
        try clear hx105_3
        try clear p104
        try clear p105
        try clear q104
        try clear q105
        obtain ⟨x3_1, x4_1, x20_1, rfl, rfl, rfl, HA, HK1, HB⟩ := hrel
        cases gk with
        | zero => exact absurd HA.out (by simp [wear_Spread.l0])
        | succ k1 =>
          have H := HA.out
          clear HA
          simp only [wear_Spread.l0] at H
          by_cases c4 : x20_1 < (l0.length : Int)
          · rw [if_pos c4] at H
            have c4b0 : decide (x20_1 < (l0.length : Int)) = true := decide_eq_true c4
            clear c4
            by_cases c5 : 0 ≤ x20_1
            · rw [if_pos c5] at H
              have c5b0 : decide (0 ≤ x20_1) = true := decide_eq_true c5
              clear c5
              by_cases c6 : x20_1 < (l0.length : Int)
              · rw [if_pos c6] at H
                have c6b0 : decide (x20_1 < (l0.length : Int)) = true := decide_eq_true c6
                clear c6
                obtain ⟨ji7, hji7⟩ : ∃ j_ : Int, (mn x3_1 ((rd_T32 l0 x20_1).f3)) = j_ := ⟨_, rfl⟩
                replace H : (wear_Spread.l0 k1 ji7 (mx x4_1 ((rd_T32 l0 x20_1).f3)) l0 (l0.length : Int) (wrap64 (x20_1 + 1))) = some r := by first | (rw [hji7] at H; exact H) | (simp only [hji7] at H ⊢; exact H)
                have hji7_ : (if ((rd_T32 l0 x20_1).f3) < x3_1 then ((rd_T32 l0 x20_1).f3) else x3_1) = ji7 := hji7
                obtain ⟨ji8, hji8⟩ : ∃ j_ : Int, (mx x4_1 ((rd_T32 l0 x20_1).f3)) = j_ := ⟨_, rfl⟩
                replace H : (wear_Spread.l0 k1 ji7 ji8 l0 (l0.length : Int) (wrap64 (x20_1 + 1))) = some r := by first | (rw [hji8] at H; exact H) | (simp only [hji8] at H ⊢; exact H)
                have hji8_ : (if x4_1 < ((rd_T32 l0 x20_1).f3) then ((rd_T32 l0 x20_1).f3) else x4_1) = ji8 := hji8
                have H' := Aside0.mk H
                clear H
                have p106 : 0 ≤ (x20_1 : Int) := of_decide_eq_true (by first | (with_reducible assumption) | assumption)
                have q106 : x20_1 < (l0.length : Int) := of_decide_eq_true (by first | (with_reducible assumption) | assumption)
                obtain ⟨ad106, e106, hx106_0, hx106_1, hx106_2, hx106_3⟩ := at_T32 HR0.out x20_1 p106 q106
                obtain rfl : ad104 = ad106 := (by injection e106)
                replace hx106_0 := (HB.out.cell (World.block_lt_of_cell? w _ hx106_0)).trans hx106_0
                replace hx106_1 := (HB.out.cell (World.block_lt_of_cell? w _ hx106_1)).trans hx106_1
                replace hx106_2 := (HB.out.cell (World.block_lt_of_cell? w _ hx106_2)).trans hx106_2
                replace hx106_3 := (HB.out.cell (World.block_lt_of_cell? w _ hx106_3)).trans hx106_3
                replace p106 := eq_true p106
                replace q106 := eq_true q106
                go_wp2_with (first | ((with_reducible refine gate_dst (N := 6) rfl ?_); refine box_event ?hg (N := 6) ?hd (cs := #[.int .i64 0, .int .i64 0, .int .u64 0, .int .u64 0]) (t := 32) ?hr ?_; (case hd => rfl); (case hg => rfl); (case hr => first | (go_simp; done) | (go_simp; rfl)); intro gb107 hg w9 hbox hb; have n0_ := Aside0.mk (below_step (by repeat (first | (with_reducible first | exact HB.out | apply below_alloc | apply pw_below_drewN | apply below_drew1) | exact HB.out)) hb); have n1_ := Aside0.mk (hbox); have n2_ := Aside0.mk ((by rw [hg]; exact (below_size (by repeat (first | (with_reducible first | exact HB.out | apply below_alloc | apply pw_below_drewN | apply below_drew1) | exact HB.out))) : w.heap.size ≤ gb107)); have n3_ := Aside0.mk ((by rw [hg]; exact (below_size (by repeat (first | (with_reducible first | exact HB.out | apply below_alloc | apply pw_below_drewN | apply below_drew1) | exact HB.out))) : w.heap.size ≤ gb107)); clear HB; have HB := n0_; have BK107 := n1_; have GW107 := n2_; have GE107 := n3_; clear n0_ n1_ n2_ n3_; clear hb hbox hg; have hcz10_0 : w9.cell? ⟨gb107, 0, none⟩ = some (.int .i64 0) := (blk_cell BK107.out 0).trans rfl; have hcz10_1 : w9.cell? ⟨gb107, 1, none⟩ = some (.int .i64 0) := (blk_cell BK107.out 1).trans rfl; have hcz10_2 : w9.cell? ⟨gb107, 2, none⟩ = some (.int .u64 0) := (blk_cell BK107.out 2).trans rfl; have hcz10_3 : w9.cell? ⟨gb107, 3, none⟩ = some (.int .u64 0) := (blk_cell BK107.out 3).trans rfl; have hfz10_0 := blk_frozen BK107.out 0; have hfz10_1 := blk_frozen BK107.out 1; have hfz10_2 := blk_frozen BK107.out 2; have hfz10_3 := blk_frozen BK107.out 3))
                repeat (go_quiet (first | ((with_reducible refine gate_dst (N := 6) rfl ?_); refine box_event ?hg (N := 6) ?hd (cs := #[.int .i64 0, .int .i64 0, .int .u64 0, .int .u64 0]) (t := 32) ?hr ?_; (case hd => rfl); (case hg => rfl); (case hr => first | (go_simp; done) | (go_simp; rfl)); intro gb107 hg w9 hbox hb; have n0_ := Aside0.mk (below_step (by repeat (first | (with_reducible first | exact HB.out | apply below_alloc | apply pw_below_drewN | apply below_drew1) | exact HB.out)) hb); have n1_ := Aside0.mk (hbox); have n2_ := Aside0.mk ((by rw [hg]; exact (below_size (by repeat (first | (with_reducible first | exact HB.out | apply below_alloc | apply pw_below_drewN | apply below_drew1) | exact HB.out))) : w.heap.size ≤ gb107)); have n3_ := Aside0.mk ((by rw [hg]; exact (below_size (by repeat (first | (with_reducible first | exact HB.out | apply below_alloc | apply pw_below_drewN | apply below_drew1) | exact HB.out))) : w.heap.size ≤ gb107)); clear HB; have HB := n0_; have BK107 := n1_; have GW107 := n2_; have GE107 := n3_; clear n0_ n1_ n2_ n3_; clear hb hbox hg; have hcz10_0 : w9.cell? ⟨gb107, 0, none⟩ = some (.int .i64 0) := (blk_cell BK107.out 0).trans rfl; have hcz10_1 : w9.cell? ⟨gb107, 1, none⟩ = some (.int .i64 0) := (blk_cell BK107.out 1).trans rfl; have hcz10_2 : w9.cell? ⟨gb107, 2, none⟩ = some (.int .u64 0) := (blk_cell BK107.out 2).trans rfl; have hcz10_3 : w9.cell? ⟨gb107, 3, none⟩ = some (.int .u64 0) := (blk_cell BK107.out 3).trans rfl; have hfz10_0 := blk_frozen BK107.out 0; have hfz10_1 := blk_frozen BK107.out 1; have hfz10_2 := blk_frozen BK107.out 2; have hfz10_3 := blk_frozen BK107.out 3)); try go_wp2_with (first | ((with_reducible refine gate_dst (N := 6) rfl ?_); refine box_event ?hg (N := 6) ?hd (cs := #[.int .i64 0, .int .i64 0, .int .u64 0, .int .u64 0]) (t := 32) ?hr ?_; (case hd => rfl); (case hg => rfl); (case hr => first | (go_simp; done) | (go_simp; rfl)); intro gb107 hg w9 hbox hb; have n0_ := Aside0.mk (below_step (by repeat (first | (with_reducible first | exact HB.out | apply below_alloc | apply pw_below_drewN | apply below_drew1) | exact HB.out)) hb); have n1_ := Aside0.mk (hbox); have n2_ := Aside0.mk ((by rw [hg]; exact (below_size (by repeat (first | (with_reducible first | exact HB.out | apply below_alloc | apply pw_below_drewN | apply below_drew1) | exact HB.out))) : w.heap.size ≤ gb107)); have n3_ := Aside0.mk ((by rw [hg]; exact (below_size (by repeat (first | (with_reducible first | exact HB.out | apply below_alloc | apply pw_below_drewN | apply below_drew1) | exact HB.out))) : w.heap.size ≤ gb107)); clear HB; have HB := n0_; have BK107 := n1_; have GW107 := n2_; have GE107 := n3_; clear n0_ n1_ n2_ n3_; clear hb hbox hg; have hcz10_0 : w9.cell? ⟨gb107, 0, none⟩ = some (.int .i64 0) := (blk_cell BK107.out 0).trans rfl; have hcz10_1 : w9.cell? ⟨gb107, 1, none⟩ = some (.int .i64 0) := (blk_cell BK107.out 1).trans rfl; have hcz10_2 : w9.cell? ⟨gb107, 2, none⟩ = some (.int .u64 0) := (blk_cell BK107.out 2).trans rfl; have hcz10_3 : w9.cell? ⟨gb107, 3, none⟩ = some (.int .u64 0) := (blk_cell BK107.out 3).trans rfl; have hfz10_0 := blk_frozen BK107.out 0; have hfz10_1 := blk_frozen BK107.out 1; have hfz10_2 := blk_frozen BK107.out 2; have hfz10_3 := blk_frozen BK107.out 3)))
                go_roundg k1
                case measure => have := HK1.out; omega
                case rel => exact ⟨(ji7), (ji8), (wrap64 (x20_1 + 1)), (by first | rfl | (simp; done) | (simp only [← hji7] <;> (first | rfl | simp)) | (simp [*]; done)), (by first | rfl | (simp; done) | (simp only [← hji8] <;> (first | rfl | simp)) | (simp [*]; done)), (by first | rfl | (simp; done) | (simp [*]; done)), H', ⟨by have := HK1.out; omega⟩, ⟨by repeat (first | (with_reducible first | exact HB.out | apply below_alloc | apply pw_below_drewN | apply below_drew1 | refine below_set ?_ GE107.out) | exact HB.out)⟩⟩
              · rw [if_neg c6] at H
                exact absurd H (by simp)
            · rw [if_neg c5] at H
              exact absurd H (by simp)
          · rw [if_neg c4] at H
            have c4b0 : decide (x20_1 < (l0.length : Int)) = false := decide_eq_false c4
            clear c4
            obtain rfl := Option.some.inj H
            go_wp2
            repeat (go_quiet (fail); try go_wp2)
            go_ret
            exact ⟨by first | rfl | (simp [errW_none, errW_some] <;> rfl) | (simp [*, errW_none, errW_some] <;> rfl), by repeat (first | (with_reducible first | exact HB.out | apply below_alloc | apply pw_below_drewN | apply below_drew1) | exact HB.out)⟩
    · rw [if_neg c3] at H
      exact absurd H (by simp)

/-! ### wear_Total: function 13 -/
def wear_Total.l0 : Nat → Int → List (S32) → Int → Int → Option (Int)
  | 0, _, _, _, _ => none
  | k + 1, x3, x6, x7, x8 => if x8 < x7 then (if 0 ≤ x8 then (if x8 < (x6.length : Int) then (wear_Total.l0 k (IntKind.u64.wrap (x3 + ((rd_T32 x6 x8).f3))) x6 x7 (wrap64 (x8 + 1))) else (none)) else (none)) else (some x3)
def wear_Total.f (k : Nat) (l0 : List (S32)) : Option (Int) := wear_Total.l0 k 0 l0 (l0.length : Int) 0
theorem wear_Total.mono_l : ∀ k, (∀ y0 y1 y2 y3, LeO (wear_Total.l0 k y0 y1 y2 y3) (wear_Total.l0 (k + 1) y0 y1 y2 y3))
  | 0 => fun _ _ _ _ r h => by simp [wear_Total.l0] at h
  | k + 1 => by
    have ih0 := wear_Total.mono_l k
    · intro y0 y1 y2 y3
      unfold wear_Total.l0
      repeat' first
      | (with_reducible exact ih0 _ _ _ _)
      | (with_reducible exact LeO.refl _)
      | (with_reducible exact LeO.none _)
      | (with_reducible refine LeO.ite ?_ ?_)
      | (with_reducible refine LeO.bind ?_ (fun _ => ?_))
      | exact ih0 _ _ _ _
      | exact LeO.none _
      | refine LeO.ite ?_ ?_
      | refine LeO.bind ?_ (fun _ => ?_)
theorem wear_Total.mono : ∀ a0 k, LeO (wear_Total.f k a0) (wear_Total.f (k + 1) a0) := by
  intro a0 k
  have ih0 := wear_Total.mono_l k
  unfold wear_Total.f
  repeat' first
      | (with_reducible exact ih0 _ _ _ _)
      | (with_reducible exact LeO.refl _)
      | (with_reducible exact LeO.none _)
      | (with_reducible refine LeO.ite ?_ ?_)
      | (with_reducible refine LeO.bind ?_ (fun _ => ?_))
      | exact ih0 _ _ _ _
      | exact LeO.none _
      | refine LeO.ite ?_ ?_
      | refine LeO.bind ?_ (fun _ => ?_)
set_option maxHeartbeats 8000000 in
set_option maxRecDepth 100000 in
theorem wear_Total.calls (k : Nat) (A0 : Option Addr) (c0 : Nat) (l0 : List (S32)) (r : Int) (w : World) (hr0 : Kd.C k32 w A0 l0.length l0) (hc0 : l0.length ≤ c0) (h : wear_Total.f k l0 = some r) :
    Calls Try.prog 13 #[.slice A0 l0.length c0] w fun e w' => e = .returned (.int .u64 r) ∧ Below w.heap.size w w' := by
  have hu32 := Try.underlying32
  have HR0 := Aside0.mk hr0
  have HC0 := Aside0.mk hc0
  clear hr0 hc0
  have HB := Aside0.mk (Below.refl w.heap.size w)
  have H : (wear_Total.l0 k 0 l0 (l0.length : Int) 0) = some r := h
  clear h
  have H' := Aside0.mk H
  clear H
  go_enter Try.func13, Try.ntmps13
  go_wp2
  go_loopg [3, 8] k (fun kq v3 v8 w' => ∃ (x3_1 : Int) (x8_1 : Int), v3 = .int .u64 x3_1 ∧ v8 = .int .i64 x8_1 ∧ Aside0 (wear_Total.l0 kq x3_1 l0 (l0.length : Int) x8_1 = some r) ∧ Aside0 (kq ≤ k) ∧ Aside0 (Below w.heap.size w w'))
  case atStart => exact ⟨(0), (0), (by first | rfl | (simp; done) | (simp [*]; done)), (by first | rfl | (simp; done) | (simp [*]; done)), H', ⟨Nat.le_refl _⟩, ⟨by repeat (first | (with_reducible first | exact HB.out | apply below_alloc | apply pw_below_drewN | apply below_drew1) | exact HB.out)⟩⟩
  case round =>
    clear H'
    try clear c1
    obtain ⟨x3_1, x8_1, rfl, rfl, HA, HK1, HB⟩ := hrel
    cases gk with
    | zero => exact absurd HA.out (by simp [wear_Total.l0])
    | succ k1 =>
      have H := HA.out
      clear HA
      simp only [wear_Total.l0] at H
      by_cases c2 : x8_1 < (l0.length : Int)
      · rw [if_pos c2] at H
        have c2b0 : decide (x8_1 < (l0.length : Int)) = true := decide_eq_true c2
        clear c2
        by_cases c3 : 0 ≤ x8_1
        · rw [if_pos c3] at H
          have c3b0 : decide (0 ≤ x8_1) = true := decide_eq_true c3
          clear c3
          by_cases c4 : x8_1 < (l0.length : Int)
          · rw [if_pos c4] at H
            have c4b0 : decide (x8_1 < (l0.length : Int)) = true := decide_eq_true c4
            clear c4
            have H' := Aside0.mk H
            clear H
            have p108 : 0 ≤ (x8_1 : Int) := of_decide_eq_true (by first | (with_reducible assumption) | assumption)
            have q108 : x8_1 < (l0.length : Int) := of_decide_eq_true (by first | (with_reducible assumption) | assumption)
            obtain ⟨ad108, e108, hx108_0, hx108_1, hx108_2, hx108_3⟩ := at_T32 HR0.out x8_1 p108 q108
            cases e108
            replace hx108_0 := (HB.out.cell (World.block_lt_of_cell? w _ hx108_0)).trans hx108_0
            replace hx108_1 := (HB.out.cell (World.block_lt_of_cell? w _ hx108_1)).trans hx108_1
            replace hx108_2 := (HB.out.cell (World.block_lt_of_cell? w _ hx108_2)).trans hx108_2
            replace hx108_3 := (HB.out.cell (World.block_lt_of_cell? w _ hx108_3)).trans hx108_3
            replace p108 := eq_true p108
            replace q108 := eq_true q108
            go_wp2_with (first | ((with_reducible refine gate_dst (N := 5) rfl ?_); refine box_event ?hg (N := 5) ?hd (cs := #[.int .i64 0, .int .i64 0, .int .u64 0, .int .u64 0]) (t := 32) ?hr ?_; (case hd => rfl); (case hg => rfl); (case hr => first | (go_simp; done) | (go_simp; rfl)); intro gb109 hg w5 hbox hb; have n0_ := Aside0.mk (below_step (by repeat (first | (with_reducible first | exact HB.out | apply below_alloc | apply pw_below_drewN | apply below_drew1) | exact HB.out)) hb); have n1_ := Aside0.mk (hbox); have n2_ := Aside0.mk ((by rw [hg]; exact (below_size (by repeat (first | (with_reducible first | exact HB.out | apply below_alloc | apply pw_below_drewN | apply below_drew1) | exact HB.out))) : w.heap.size ≤ gb109)); have n3_ := Aside0.mk ((by rw [hg]; exact (below_size (by repeat (first | (with_reducible first | exact HB.out | apply below_alloc | apply pw_below_drewN | apply below_drew1) | exact HB.out))) : w.heap.size ≤ gb109)); clear HB; have HB := n0_; have BK109 := n1_; have GW109 := n2_; have GE109 := n3_; clear n0_ n1_ n2_ n3_; clear hb hbox hg; have hcz6_0 : w5.cell? ⟨gb109, 0, none⟩ = some (.int .i64 0) := (blk_cell BK109.out 0).trans rfl; have hcz6_1 : w5.cell? ⟨gb109, 1, none⟩ = some (.int .i64 0) := (blk_cell BK109.out 1).trans rfl; have hcz6_2 : w5.cell? ⟨gb109, 2, none⟩ = some (.int .u64 0) := (blk_cell BK109.out 2).trans rfl; have hcz6_3 : w5.cell? ⟨gb109, 3, none⟩ = some (.int .u64 0) := (blk_cell BK109.out 3).trans rfl; have hfz6_0 := blk_frozen BK109.out 0; have hfz6_1 := blk_frozen BK109.out 1; have hfz6_2 := blk_frozen BK109.out 2; have hfz6_3 := blk_frozen BK109.out 3))
            go_roundg k1
            case measure => have := HK1.out; omega
            case rel => exact ⟨(IntKind.u64.wrap (x3_1 + ((rd_T32 l0 x8_1).f3))), (wrap64 (x8_1 + 1)), (by first | rfl | (simp; done) | (simp [*]; done)), (by first | rfl | (simp; done) | (simp [*]; done)), H', ⟨by have := HK1.out; omega⟩, ⟨by repeat (first | (with_reducible first | exact HB.out | apply below_alloc | apply pw_below_drewN | apply below_drew1 | refine below_set ?_ GE109.out) | exact HB.out)⟩⟩
          · rw [if_neg c4] at H
            exact absurd H (by simp)
        · rw [if_neg c3] at H
          exact absurd H (by simp)
      · rw [if_neg c2] at H
        have c2b0 : decide (x8_1 < (l0.length : Int)) = false := decide_eq_false c2
        clear c2
        obtain rfl := Option.some.inj H
        go_wp2
        go_ret
        exact ⟨by first | rfl | (simp [errW_none, errW_some] <;> rfl) | (simp [*, errW_none, errW_some] <;> rfl), by repeat (first | (with_reducible first | exact HB.out | apply below_alloc | apply pw_below_drewN | apply below_drew1) | exact HB.out)⟩

/-! ### tegulalaw19_awake: function 8 -/
def tegulalaw19_awake.f (k : Nat)  : Option (Bool) := (some (([(⟨0, 0, 0, 3⟩ : S32), (⟨1, 0, 0, 0⟩ : S32), (⟨0, 0, 0, 2⟩ : S32)] : List (S32)) : List (S32))).bind fun y110 => ((wear_Least.f k y110).bind fun bt113 => (if bt113.1 = 2 then (if bt113.2 = 0 then ((wear_Spread.f k y110).bind fun t115 => (if t115 = 3 then ((wear_Total.f k y110).bind fun t116 => (some (t116 == 5))) else (some false))) else (some false)) else (some false)))
theorem tegulalaw19_awake.mono : ∀ k, LeO (tegulalaw19_awake.f k ) (tegulalaw19_awake.f (k + 1) ) := by
  intro  k
  unfold tegulalaw19_awake.f
  repeat' first
      | (with_reducible exact wear_Least.mono _ _)
      | (with_reducible exact wear_Spread.mono _ _)
      | (with_reducible exact wear_Total.mono _ _)
      | (with_reducible exact LeO.refl _)
      | (with_reducible exact LeO.none _)
      | (with_reducible refine LeO.ite ?_ ?_)
      | (with_reducible refine LeO.bind ?_ (fun _ => ?_))
      | exact wear_Least.mono _ _
      | exact wear_Spread.mono _ _
      | exact wear_Total.mono _ _
      | exact LeO.none _
      | refine LeO.ite ?_ ?_
      | refine LeO.bind ?_ (fun _ => ?_)
set_option maxHeartbeats 8000000 in
set_option maxRecDepth 100000 in
theorem tegulalaw19_awake.calls (k : Nat)  (r : Bool) (w : World) (h : tegulalaw19_awake.f k  = some r) :
    Calls Try.prog 8 #[] w fun e w' => e = .returned (.bool r) ∧ Below w.heap.size w w' := by
  have hu32 := Try.underlying32
  have HB := Aside0.mk (Below.refl w.heap.size w)
  have H : ((some (([(⟨0, 0, 0, 3⟩ : S32), (⟨1, 0, 0, 0⟩ : S32), (⟨0, 0, 0, 2⟩ : S32)] : List (S32)) : List (S32))).bind fun y110 => ((wear_Least.f k y110).bind fun bt113 => (if bt113.1 = 2 then (if bt113.2 = 0 then ((wear_Spread.f k y110).bind fun t115 => (if t115 = 3 then ((wear_Total.f k y110).bind fun t116 => (some (t116 == 5))) else (some false))) else (some false)) else (some false)))) = some r := h
  clear h
  obtain ⟨y110, hy110⟩ : ∃ y_ : List (S32), y_ = (([(⟨0, 0, 0, 3⟩ : S32), (⟨1, 0, 0, 0⟩ : S32), (⟨0, 0, 0, 2⟩ : S32)] : List (S32))) := ⟨_, rfl⟩
  replace H : ((wear_Least.f k y110).bind fun bt113 => (if bt113.1 = 2 then (if bt113.2 = 0 then ((wear_Spread.f k y110).bind fun t115 => (if t115 = 3 then ((wear_Total.f k y110).bind fun t116 => (some (t116 == 5))) else (some false))) else (some false)) else (some false))) = some r := by first | (rw [hy110]; with_reducible exact H) | (have H2_ := (Option.bind_some _ _).symm.trans H; rw [hy110]; with_reducible exact H2_) | (have H2_ := (Option.bind_some _ _).symm.trans H; with_reducible exact H2_) | with_reducible exact H | (rw [hy110]; exact H) | exact H
  have Ny110 := Aside0.mk hy110
  clear hy110
  replace H := Option.bind_eq_some_iff.mp H
  obtain ⟨⟨t113, t114⟩, A10, H⟩ := H
  replace H : (if t113 = 2 then (if t114 = 0 then ((wear_Spread.f k y110).bind fun t115 => (if t115 = 3 then ((wear_Total.f k y110).bind fun t116 => (some (t116 == 5))) else (some false))) else (some false)) else (some false)) = some r := H
  have A1 := Aside0.mk A10
  clear A10
  by_cases c2 : t113 = 2
  · rw [if_pos c2] at H
    have c2b0 : (t113 == 2) = true := beq_iff_eq.mpr c2
    have c2b1 : (t113 != 2) = false := bne_eq_false_iff_eq.mpr c2
    clear c2
    by_cases c3 : t114 = 0
    · rw [if_pos c3] at H
      have c3b0 : (t114 == 0) = true := beq_iff_eq.mpr c3
      have c3b1 : (t114 != 0) = false := bne_eq_false_iff_eq.mpr c3
      clear c3
      replace H := Option.bind_eq_some_iff.mp H
      obtain ⟨t115, A40, H⟩ := H
      replace H : (if t115 = 3 then ((wear_Total.f k y110).bind fun t116 => (some (t116 == 5))) else (some false)) = some r := H
      have A4 := Aside0.mk A40
      clear A40
      by_cases c5 : t115 = 3
      · rw [if_pos c5] at H
        have c5b0 : (t115 == 3) = true := beq_iff_eq.mpr c5
        have c5b1 : (t115 != 3) = false := bne_eq_false_iff_eq.mpr c5
        clear c5
        replace H := Option.bind_eq_some_iff.mp H
        obtain ⟨t116, A60, H⟩ := H
        replace H : (some (t116 == 5)) = some r := H
        have A6 := Aside0.mk A60
        clear A60
        obtain rfl := Option.some.inj H
        go_enter Try.func8, Try.ntmps8
        go_wp2_with (first | ((with_reducible refine gate_dst (N := 7) rfl ?_); refine Kd.R_lit k32 _ 32 ?hg (N := 7) ?hd (xs := ([(⟨0, 0, 0, 3⟩ : S32), (⟨1, 0, 0, 0⟩ : S32), (⟨0, 0, 0, 2⟩ : S32)] : List (S32))) (inner := [.int .i64 0, .int .i64 0, .int .u64 0, .int .u64 3, .int .i64 1, .int .i64 0, .int .u64 0, .int .u64 0, .int .i64 0, .int .i64 0, .int .u64 0, .int .u64 2]) (ok := fun _ => True) (okp := fun _ => True) ?hr ?hp (fun _ hk => hk) trivial (Below.refl _ _) (Nat.le_refl _) (by simp) ?_; (case hd => rfl); (case hg => rfl); (case hr => first | (go_simp; done) | (go_simp; rfl)); (case hp => exact (Reps.c4 (show Kd.M k32 _ _ _ (⟨0, 0, 0, 3⟩ : S32) [.int .i64 0, .int .i64 0, .int .u64 0, .int .u64 3] from (k32_mkM _ _ _ (⟨0, 0, 0, 3⟩ : S32) )) (Reps.c4 (show Kd.M k32 _ _ _ (⟨1, 0, 0, 0⟩ : S32) [.int .i64 1, .int .i64 0, .int .u64 0, .int .u64 0] from (k32_mkM _ _ _ (⟨1, 0, 0, 0⟩ : S32) )) (Reps.c4 (show Kd.M k32 _ _ _ (⟨0, 0, 0, 2⟩ : S32) [.int .i64 0, .int .i64 0, .int .u64 0, .int .u64 2] from (k32_mkM _ _ _ (⟨0, 0, 0, 2⟩ : S32) )) (Reps.none _ _))))); intro v111 w7 ho8 hb hg_ hnew_; clear hg_ hnew_; (first | rw [← Ny110.out] at ho8 | (simp only [Int.reduceToNat] at ho8; rw [← Ny110.out] at ho8)); have n0_ := Aside0.mk (Kd.R_lower ho8 (below_size (by repeat (first | (with_reducible first | exact HB.out | apply below_alloc | apply pw_below_drewN | apply below_drew1) | exact HB.out)))); have n1_ := Aside0.mk (below_step (by repeat (first | (with_reducible first | exact HB.out | apply below_alloc | apply pw_below_drewN | apply below_drew1) | exact HB.out)) hb); clear HB; have HO112 := n0_; have HB := n1_; clear n0_ n1_; clear hb ho8; obtain ⟨Ao9, co9, eo9⟩ := Kd.R_slice HO112.out; subst eo9) | ((with_reducible refine gate_callee (f := 9) rfl ?_); refine goesL_ (some 10) rfl rfl Try.func9 (by kernel_rfl) rfl #[.slice Ao9 y110.length co9] rfl (by (try simp only [List.map_toArray, List.map_cons, List.map_nil]); first | done | rfl | (simp only [List.length_drop, List.length_take]; rfl)) ?_; (with_reducible refine (wear_Least.calls k _ _ y110 t113 t114 _ ?side1 ?side2 A1.out).mono ?_); (case side1 => repeat (first | exact (Kd.R_reads' HO112.out).2.2 | (with_reducible refine Kd.C_alloc ?_ _) | (with_reducible refine Kd.C_drewN ?_ _) | (with_reducible refine Kd.C_drew ?_))); (case side2 => exact (Kd.R_reads' HO112.out).2.1); rintro e w10 ⟨rfl, hb⟩; refine ⟨_, rfl, ?_⟩; have n0_ := Aside0.mk (Kd.R_below (by (with_reducible repeat (first | apply Kd.R_alloc | apply Kd.R_drewN | apply Kd.R_drew)); exact HO112.out) hb); have n1_ := Aside0.mk (below_step (by repeat (first | (with_reducible first | exact HB.out | apply below_alloc | apply pw_below_drewN | apply below_drew1) | exact HB.out)) hb); clear HO112; clear HB; have HO112 := n0_; have HB := n1_; clear n0_ n1_; (try clear hb); (try clear hb2); (try clear hk); (try clear hi)) | (go_at_call 11; (with_reducible refine (wear_Spread.calls k _ _ y110 t115 _ ?side1 ?side2 A4.out).mono ?_); (case side1 => repeat (first | exact (Kd.R_reads' HO112.out).2.2 | (with_reducible refine Kd.C_alloc ?_ _) | (with_reducible refine Kd.C_drewN ?_ _) | (with_reducible refine Kd.C_drew ?_))); (case side2 => exact (Kd.R_reads' HO112.out).2.1); rintro e w11 ⟨rfl, hb⟩; have n0_ := Aside0.mk (Kd.R_below (by (with_reducible repeat (first | apply Kd.R_alloc | apply Kd.R_drewN | apply Kd.R_drew)); exact HO112.out) hb); have n1_ := Aside0.mk (below_step (by repeat (first | (with_reducible first | exact HB.out | apply below_alloc | apply pw_below_drewN | apply below_drew1) | exact HB.out)) hb); clear HO112; clear HB; have HO112 := n0_; have HB := n1_; clear n0_ n1_; (try clear hb); (try clear hb2); (try clear hk); (try clear hi)) | (go_at_call 13; (with_reducible refine (wear_Total.calls k _ _ y110 t116 _ ?side1 ?side2 A6.out).mono ?_); (case side1 => repeat (first | exact (Kd.R_reads' HO112.out).2.2 | (with_reducible refine Kd.C_alloc ?_ _) | (with_reducible refine Kd.C_drewN ?_ _) | (with_reducible refine Kd.C_drew ?_))); (case side2 => exact (Kd.R_reads' HO112.out).2.1); rintro e w12 ⟨rfl, hb⟩; have n0_ := Aside0.mk (Kd.R_below (by (with_reducible repeat (first | apply Kd.R_alloc | apply Kd.R_drewN | apply Kd.R_drew)); exact HO112.out) hb); have n1_ := Aside0.mk (below_step (by repeat (first | (with_reducible first | exact HB.out | apply below_alloc | apply pw_below_drewN | apply below_drew1) | exact HB.out)) hb); clear HO112; clear HB; have HO112 := n0_; have HB := n1_; clear n0_ n1_; (try clear hb); (try clear hb2); (try clear hk); (try clear hi)))
        go_ret
        exact ⟨by first | rfl | (simp [errW_none, errW_some] <;> rfl) | (simp [*, errW_none, errW_some] <;> rfl), by repeat (first | (with_reducible first | exact HB.out | apply below_alloc | apply pw_below_drewN | apply below_drew1) | exact HB.out)⟩
      · rw [if_neg c5] at H
        have c5b0 : (t115 == 3) = false := beq_eq_false_iff_ne.mpr c5
        have c5b1 : (t115 != 3) = true := bne_iff_ne.mpr c5
        obtain rfl := Option.some.inj H
        go_enter Try.func8, Try.ntmps8
        go_wp2_with (first | ((with_reducible refine gate_dst (N := 7) rfl ?_); refine Kd.R_lit k32 _ 32 ?hg (N := 7) ?hd (xs := ([(⟨0, 0, 0, 3⟩ : S32), (⟨1, 0, 0, 0⟩ : S32), (⟨0, 0, 0, 2⟩ : S32)] : List (S32))) (inner := [.int .i64 0, .int .i64 0, .int .u64 0, .int .u64 3, .int .i64 1, .int .i64 0, .int .u64 0, .int .u64 0, .int .i64 0, .int .i64 0, .int .u64 0, .int .u64 2]) (ok := fun _ => True) (okp := fun _ => True) ?hr ?hp (fun _ hk => hk) trivial (Below.refl _ _) (Nat.le_refl _) (by simp) ?_; (case hd => rfl); (case hg => rfl); (case hr => first | (go_simp; done) | (go_simp; rfl)); (case hp => exact (Reps.c4 (show Kd.M k32 _ _ _ (⟨0, 0, 0, 3⟩ : S32) [.int .i64 0, .int .i64 0, .int .u64 0, .int .u64 3] from (k32_mkM _ _ _ (⟨0, 0, 0, 3⟩ : S32) )) (Reps.c4 (show Kd.M k32 _ _ _ (⟨1, 0, 0, 0⟩ : S32) [.int .i64 1, .int .i64 0, .int .u64 0, .int .u64 0] from (k32_mkM _ _ _ (⟨1, 0, 0, 0⟩ : S32) )) (Reps.c4 (show Kd.M k32 _ _ _ (⟨0, 0, 0, 2⟩ : S32) [.int .i64 0, .int .i64 0, .int .u64 0, .int .u64 2] from (k32_mkM _ _ _ (⟨0, 0, 0, 2⟩ : S32) )) (Reps.none _ _))))); intro v111 w13 ho14 hb hg_ hnew_; clear hg_ hnew_; (first | rw [← Ny110.out] at ho14 | (simp only [Int.reduceToNat] at ho14; rw [← Ny110.out] at ho14)); have n0_ := Aside0.mk (Kd.R_lower ho14 (below_size (by repeat (first | (with_reducible first | exact HB.out | apply below_alloc | apply pw_below_drewN | apply below_drew1) | exact HB.out)))); have n1_ := Aside0.mk (below_step (by repeat (first | (with_reducible first | exact HB.out | apply below_alloc | apply pw_below_drewN | apply below_drew1) | exact HB.out)) hb); clear HB; have HO112 := n0_; have HB := n1_; clear n0_ n1_; clear hb ho14; obtain ⟨Ao15, co15, eo15⟩ := Kd.R_slice HO112.out; subst eo15) | ((with_reducible refine gate_callee (f := 9) rfl ?_); refine goesL_ (some 10) rfl rfl Try.func9 (by kernel_rfl) rfl #[.slice Ao15 y110.length co15] rfl (by (try simp only [List.map_toArray, List.map_cons, List.map_nil]); first | done | rfl | (simp only [List.length_drop, List.length_take]; rfl)) ?_; (with_reducible refine (wear_Least.calls k _ _ y110 t113 t114 _ ?side1 ?side2 A1.out).mono ?_); (case side1 => repeat (first | exact (Kd.R_reads' HO112.out).2.2 | (with_reducible refine Kd.C_alloc ?_ _) | (with_reducible refine Kd.C_drewN ?_ _) | (with_reducible refine Kd.C_drew ?_))); (case side2 => exact (Kd.R_reads' HO112.out).2.1); rintro e w16 ⟨rfl, hb⟩; refine ⟨_, rfl, ?_⟩; have n0_ := Aside0.mk (Kd.R_below (by (with_reducible repeat (first | apply Kd.R_alloc | apply Kd.R_drewN | apply Kd.R_drew)); exact HO112.out) hb); have n1_ := Aside0.mk (below_step (by repeat (first | (with_reducible first | exact HB.out | apply below_alloc | apply pw_below_drewN | apply below_drew1) | exact HB.out)) hb); clear HO112; clear HB; have HO112 := n0_; have HB := n1_; clear n0_ n1_; (try clear hb); (try clear hb2); (try clear hk); (try clear hi)) | (go_at_call 11; (with_reducible refine (wear_Spread.calls k _ _ y110 t115 _ ?side1 ?side2 A4.out).mono ?_); (case side1 => repeat (first | exact (Kd.R_reads' HO112.out).2.2 | (with_reducible refine Kd.C_alloc ?_ _) | (with_reducible refine Kd.C_drewN ?_ _) | (with_reducible refine Kd.C_drew ?_))); (case side2 => exact (Kd.R_reads' HO112.out).2.1); rintro e w17 ⟨rfl, hb⟩; have n0_ := Aside0.mk (Kd.R_below (by (with_reducible repeat (first | apply Kd.R_alloc | apply Kd.R_drewN | apply Kd.R_drew)); exact HO112.out) hb); have n1_ := Aside0.mk (below_step (by repeat (first | (with_reducible first | exact HB.out | apply below_alloc | apply pw_below_drewN | apply below_drew1) | exact HB.out)) hb); clear HO112; clear HB; have HO112 := n0_; have HB := n1_; clear n0_ n1_; (try clear hb); (try clear hb2); (try clear hk); (try clear hi)))
        go_ret
        exact ⟨by first | rfl | (simp [errW_none, errW_some] <;> rfl) | (simp [*, errW_none, errW_some] <;> rfl), by repeat (first | (with_reducible first | exact HB.out | apply below_alloc | apply pw_below_drewN | apply below_drew1) | exact HB.out)⟩
    · rw [if_neg c3] at H
      have c3b0 : (t114 == 0) = false := beq_eq_false_iff_ne.mpr c3
      have c3b1 : (t114 != 0) = true := bne_iff_ne.mpr c3
      obtain rfl := Option.some.inj H
      go_enter Try.func8, Try.ntmps8
      go_wp2_with (first | ((with_reducible refine gate_dst (N := 7) rfl ?_); refine Kd.R_lit k32 _ 32 ?hg (N := 7) ?hd (xs := ([(⟨0, 0, 0, 3⟩ : S32), (⟨1, 0, 0, 0⟩ : S32), (⟨0, 0, 0, 2⟩ : S32)] : List (S32))) (inner := [.int .i64 0, .int .i64 0, .int .u64 0, .int .u64 3, .int .i64 1, .int .i64 0, .int .u64 0, .int .u64 0, .int .i64 0, .int .i64 0, .int .u64 0, .int .u64 2]) (ok := fun _ => True) (okp := fun _ => True) ?hr ?hp (fun _ hk => hk) trivial (Below.refl _ _) (Nat.le_refl _) (by simp) ?_; (case hd => rfl); (case hg => rfl); (case hr => first | (go_simp; done) | (go_simp; rfl)); (case hp => exact (Reps.c4 (show Kd.M k32 _ _ _ (⟨0, 0, 0, 3⟩ : S32) [.int .i64 0, .int .i64 0, .int .u64 0, .int .u64 3] from (k32_mkM _ _ _ (⟨0, 0, 0, 3⟩ : S32) )) (Reps.c4 (show Kd.M k32 _ _ _ (⟨1, 0, 0, 0⟩ : S32) [.int .i64 1, .int .i64 0, .int .u64 0, .int .u64 0] from (k32_mkM _ _ _ (⟨1, 0, 0, 0⟩ : S32) )) (Reps.c4 (show Kd.M k32 _ _ _ (⟨0, 0, 0, 2⟩ : S32) [.int .i64 0, .int .i64 0, .int .u64 0, .int .u64 2] from (k32_mkM _ _ _ (⟨0, 0, 0, 2⟩ : S32) )) (Reps.none _ _))))); intro v111 w18 ho19 hb hg_ hnew_; clear hg_ hnew_; (first | rw [← Ny110.out] at ho19 | (simp only [Int.reduceToNat] at ho19; rw [← Ny110.out] at ho19)); have n0_ := Aside0.mk (Kd.R_lower ho19 (below_size (by repeat (first | (with_reducible first | exact HB.out | apply below_alloc | apply pw_below_drewN | apply below_drew1) | exact HB.out)))); have n1_ := Aside0.mk (below_step (by repeat (first | (with_reducible first | exact HB.out | apply below_alloc | apply pw_below_drewN | apply below_drew1) | exact HB.out)) hb); clear HB; have HO112 := n0_; have HB := n1_; clear n0_ n1_; clear hb ho19; obtain ⟨Ao20, co20, eo20⟩ := Kd.R_slice HO112.out; subst eo20) | ((with_reducible refine gate_callee (f := 9) rfl ?_); refine goesL_ (some 10) rfl rfl Try.func9 (by kernel_rfl) rfl #[.slice Ao20 y110.length co20] rfl (by (try simp only [List.map_toArray, List.map_cons, List.map_nil]); first | done | rfl | (simp only [List.length_drop, List.length_take]; rfl)) ?_; (with_reducible refine (wear_Least.calls k _ _ y110 t113 t114 _ ?side1 ?side2 A1.out).mono ?_); (case side1 => repeat (first | exact (Kd.R_reads' HO112.out).2.2 | (with_reducible refine Kd.C_alloc ?_ _) | (with_reducible refine Kd.C_drewN ?_ _) | (with_reducible refine Kd.C_drew ?_))); (case side2 => exact (Kd.R_reads' HO112.out).2.1); rintro e w21 ⟨rfl, hb⟩; refine ⟨_, rfl, ?_⟩; have n0_ := Aside0.mk (Kd.R_below (by (with_reducible repeat (first | apply Kd.R_alloc | apply Kd.R_drewN | apply Kd.R_drew)); exact HO112.out) hb); have n1_ := Aside0.mk (below_step (by repeat (first | (with_reducible first | exact HB.out | apply below_alloc | apply pw_below_drewN | apply below_drew1) | exact HB.out)) hb); clear HO112; clear HB; have HO112 := n0_; have HB := n1_; clear n0_ n1_; (try clear hb); (try clear hb2); (try clear hk); (try clear hi)))
      go_ret
      exact ⟨by first | rfl | (simp [errW_none, errW_some] <;> rfl) | (simp [*, errW_none, errW_some] <;> rfl), by repeat (first | (with_reducible first | exact HB.out | apply below_alloc | apply pw_below_drewN | apply below_drew1) | exact HB.out)⟩
  · rw [if_neg c2] at H
    have c2b0 : (t113 == 2) = false := beq_eq_false_iff_ne.mpr c2
    have c2b1 : (t113 != 2) = true := bne_iff_ne.mpr c2
    obtain rfl := Option.some.inj H
    go_enter Try.func8, Try.ntmps8
    go_wp2_with (first | ((with_reducible refine gate_dst (N := 7) rfl ?_); refine Kd.R_lit k32 _ 32 ?hg (N := 7) ?hd (xs := ([(⟨0, 0, 0, 3⟩ : S32), (⟨1, 0, 0, 0⟩ : S32), (⟨0, 0, 0, 2⟩ : S32)] : List (S32))) (inner := [.int .i64 0, .int .i64 0, .int .u64 0, .int .u64 3, .int .i64 1, .int .i64 0, .int .u64 0, .int .u64 0, .int .i64 0, .int .i64 0, .int .u64 0, .int .u64 2]) (ok := fun _ => True) (okp := fun _ => True) ?hr ?hp (fun _ hk => hk) trivial (Below.refl _ _) (Nat.le_refl _) (by simp) ?_; (case hd => rfl); (case hg => rfl); (case hr => first | (go_simp; done) | (go_simp; rfl)); (case hp => exact (Reps.c4 (show Kd.M k32 _ _ _ (⟨0, 0, 0, 3⟩ : S32) [.int .i64 0, .int .i64 0, .int .u64 0, .int .u64 3] from (k32_mkM _ _ _ (⟨0, 0, 0, 3⟩ : S32) )) (Reps.c4 (show Kd.M k32 _ _ _ (⟨1, 0, 0, 0⟩ : S32) [.int .i64 1, .int .i64 0, .int .u64 0, .int .u64 0] from (k32_mkM _ _ _ (⟨1, 0, 0, 0⟩ : S32) )) (Reps.c4 (show Kd.M k32 _ _ _ (⟨0, 0, 0, 2⟩ : S32) [.int .i64 0, .int .i64 0, .int .u64 0, .int .u64 2] from (k32_mkM _ _ _ (⟨0, 0, 0, 2⟩ : S32) )) (Reps.none _ _))))); intro v111 w22 ho23 hb hg_ hnew_; clear hg_ hnew_; (first | rw [← Ny110.out] at ho23 | (simp only [Int.reduceToNat] at ho23; rw [← Ny110.out] at ho23)); have n0_ := Aside0.mk (Kd.R_lower ho23 (below_size (by repeat (first | (with_reducible first | exact HB.out | apply below_alloc | apply pw_below_drewN | apply below_drew1) | exact HB.out)))); have n1_ := Aside0.mk (below_step (by repeat (first | (with_reducible first | exact HB.out | apply below_alloc | apply pw_below_drewN | apply below_drew1) | exact HB.out)) hb); clear HB; have HO112 := n0_; have HB := n1_; clear n0_ n1_; clear hb ho23; obtain ⟨Ao24, co24, eo24⟩ := Kd.R_slice HO112.out; subst eo24) | ((with_reducible refine gate_callee (f := 9) rfl ?_); refine goesL_ (some 10) rfl rfl Try.func9 (by kernel_rfl) rfl #[.slice Ao24 y110.length co24] rfl (by (try simp only [List.map_toArray, List.map_cons, List.map_nil]); first | done | rfl | (simp only [List.length_drop, List.length_take]; rfl)) ?_; (with_reducible refine (wear_Least.calls k _ _ y110 t113 t114 _ ?side1 ?side2 A1.out).mono ?_); (case side1 => repeat (first | exact (Kd.R_reads' HO112.out).2.2 | (with_reducible refine Kd.C_alloc ?_ _) | (with_reducible refine Kd.C_drewN ?_ _) | (with_reducible refine Kd.C_drew ?_))); (case side2 => exact (Kd.R_reads' HO112.out).2.1); rintro e w25 ⟨rfl, hb⟩; refine ⟨_, rfl, ?_⟩; have n0_ := Aside0.mk (Kd.R_below (by (with_reducible repeat (first | apply Kd.R_alloc | apply Kd.R_drewN | apply Kd.R_drew)); exact HO112.out) hb); have n1_ := Aside0.mk (below_step (by repeat (first | (with_reducible first | exact HB.out | apply below_alloc | apply pw_below_drewN | apply below_drew1) | exact HB.out)) hb); clear HO112; clear HB; have HO112 := n0_; have HB := n1_; clear n0_ n1_; (try clear hb); (try clear hb2); (try clear hk); (try clear hi)))
    go_ret
    exact ⟨by first | rfl | (simp [errW_none, errW_some] <;> rfl) | (simp [*, errW_none, errW_some] <;> rfl), by repeat (first | (with_reducible first | exact HB.out | apply below_alloc | apply pw_below_drewN | apply below_drew1) | exact HB.out)⟩

/-! ### tegularef19_Least: function 10 -/
def tegularef19_Least.l0 : Nat → List (S32) → Int → Int → Option (Int × Int)
  | 0, _, _, _ => none
  | k + 1, x0, x4, x5 => if x5 < (x0.length : Int) then (if 0 ≤ x5 then (if ((rd_T32 x0 x5).f0) = 0 then (if x4 < 0 then (tegularef19_Least.l0 k x0 x5 (wrap64 (x5 + 1))) else (if 0 ≤ x4 then (if x4 < (x0.length : Int) then (if ((rd_T32 x0 x5).f3) < ((rd_T32 x0 x4).f3) then (tegularef19_Least.l0 k x0 x5 (wrap64 (x5 + 1))) else (tegularef19_Least.l0 k x0 x4 (wrap64 (x5 + 1)))) else (none)) else (none))) else (tegularef19_Least.l0 k x0 x4 (wrap64 (x5 + 1)))) else (none)) else (if x4 < 0 then (some (0, 9)) else (some (x4, 0)))
def tegularef19_Least.f (k : Nat) (l0 : List (S32)) : Option (Int × Int) := tegularef19_Least.l0 k l0 (-1) 0
theorem tegularef19_Least.mono_l : ∀ k, (∀ y0 y1 y2, LeO (tegularef19_Least.l0 k y0 y1 y2) (tegularef19_Least.l0 (k + 1) y0 y1 y2))
  | 0 => fun _ _ _ r h => by simp [tegularef19_Least.l0] at h
  | k + 1 => by
    have ih0 := tegularef19_Least.mono_l k
    · intro y0 y1 y2
      unfold tegularef19_Least.l0
      repeat' first
      | (with_reducible exact ih0 _ _ _)
      | (with_reducible exact LeO.refl _)
      | (with_reducible exact LeO.none _)
      | (with_reducible refine LeO.ite ?_ ?_)
      | (with_reducible refine LeO.bind ?_ (fun _ => ?_))
      | exact ih0 _ _ _
      | exact LeO.none _
      | refine LeO.ite ?_ ?_
      | refine LeO.bind ?_ (fun _ => ?_)
theorem tegularef19_Least.mono : ∀ a0 k, LeO (tegularef19_Least.f k a0) (tegularef19_Least.f (k + 1) a0) := by
  intro a0 k
  have ih0 := tegularef19_Least.mono_l k
  unfold tegularef19_Least.f
  repeat' first
      | (with_reducible exact ih0 _ _ _)
      | (with_reducible exact LeO.refl _)
      | (with_reducible exact LeO.none _)
      | (with_reducible refine LeO.ite ?_ ?_)
      | (with_reducible refine LeO.bind ?_ (fun _ => ?_))
      | exact ih0 _ _ _
      | exact LeO.none _
      | refine LeO.ite ?_ ?_
      | refine LeO.bind ?_ (fun _ => ?_)
set_option maxHeartbeats 8000000 in
set_option maxRecDepth 100000 in
theorem tegularef19_Least.calls (k : Nat) (A0 : Option Addr) (c0 : Nat) (l0 : List (S32)) (r1 : Int) (r2 : Int) (w : World) (hr0 : Kd.C k32 w A0 l0.length l0) (hc0 : l0.length ≤ c0) (h : tegularef19_Least.f k l0 = some (r1, r2)) :
    Calls Try.prog 10 #[.slice A0 l0.length c0] w fun e w' => e = .returned (.tuple #[.int .i64 r1, .int .i64 r2]) ∧ Drawn0 w w' := by
  have HR0 := Aside0.mk hr0
  have HC0 := Aside0.mk hc0
  clear hr0 hc0
  have H : (tegularef19_Least.l0 k l0 (-1) 0) = some (r1, r2) := h
  clear h
  have H' := Aside0.mk H
  clear H
  go_enter Try.func10, Try.ntmps10
  go_wp2
  repeat (go_quiet (fail); try go_wp2)
  go_loopg [4, 5] k (fun kq v4 v5 w' => ∃ (x4_1 : Int) (x5_1 : Int), v4 = .int .i64 x4_1 ∧ v5 = .int .i64 x5_1 ∧ Aside0 (tegularef19_Least.l0 kq l0 x4_1 x5_1 = some (r1, r2)) ∧ Aside0 (kq ≤ k) ∧ Drawn0 w w')
  case atStart => exact ⟨((-1)), (0), (by first | rfl | (simp; done) | (simp [*]; done)), (by first | rfl | (simp; done) | (simp [*]; done)), H', ⟨Nat.le_refl _⟩, by repeat (first | exact Drawn0.refl _ | apply Drawn0.step)⟩
  case round =>
    clear H'
    try clear c1
    obtain ⟨x4_1, x5_1, rfl, rfl, HA, HK1, ⟨m1, rfl⟩⟩ := hrel
    cases gk with
    | zero => exact absurd HA.out (by simp [tegularef19_Least.l0])
    | succ k1 =>
      have H := HA.out
      clear HA
      simp only [tegularef19_Least.l0] at H
      by_cases c2 : x5_1 < (l0.length : Int)
      · rw [if_pos c2] at H
        have c2b0 : decide (x5_1 < (l0.length : Int)) = true := decide_eq_true c2
        clear c2
        by_cases c3 : 0 ≤ x5_1
        · rw [if_pos c3] at H
          have c3b0 : decide (0 ≤ x5_1) = true := decide_eq_true c3
          clear c3
          by_cases c4 : ((rd_T32 l0 x5_1).f0) = 0
          · rw [if_pos c4] at H
            have c4b0 : (((rd_T32 l0 x5_1).f0) == 0) = true := beq_iff_eq.mpr c4
            have c4b1 : (((rd_T32 l0 x5_1).f0) != 0) = false := bne_eq_false_iff_eq.mpr c4
            clear c4
            by_cases c5 : x4_1 < 0
            · rw [if_pos c5] at H
              have c5b0 : decide (x4_1 < 0) = true := decide_eq_true c5
              clear c5
              have H' := Aside0.mk H
              clear H
              have p117 : 0 ≤ (x5_1 : Int) := of_decide_eq_true (by first | (with_reducible assumption) | assumption)
              have q117 : x5_1 < (l0.length : Int) := of_decide_eq_true (by first | (with_reducible assumption) | assumption)
              obtain ⟨ad117, e117, hx117_0, hx117_1, hx117_2, hx117_3⟩ := at_T32 HR0.out x5_1 p117 q117
              cases e117
              replace p117 := eq_true p117
              replace q117 := eq_true q117
              go_wp2
              repeat (go_quiet (fail); try go_wp2)
              go_roundg k1
              case measure => have := HK1.out; omega
              case rel => exact ⟨(x5_1), (wrap64 (x5_1 + 1)), (by first | rfl | (simp; done) | (simp [*]; done)), (by first | rfl | (simp; done) | (simp [*]; done)), H', ⟨by have := HK1.out; omega⟩, by repeat (first | exact Drawn0.refl _ | apply Drawn0.step)⟩
            · rw [if_neg c5] at H
              have c5b0 : decide (x4_1 < 0) = false := decide_eq_false c5
              clear c5
              by_cases c6 : 0 ≤ x4_1
              · rw [if_pos c6] at H
                have c6b0 : decide (0 ≤ x4_1) = true := decide_eq_true c6
                clear c6
                by_cases c7 : x4_1 < (l0.length : Int)
                · rw [if_pos c7] at H
                  have c7b0 : decide (x4_1 < (l0.length : Int)) = true := decide_eq_true c7
                  clear c7
                  by_cases c8 : ((rd_T32 l0 x5_1).f3) < ((rd_T32 l0 x4_1).f3)
                  · rw [if_pos c8] at H
                    have c8b0 : decide (((rd_T32 l0 x5_1).f3) < ((rd_T32 l0 x4_1).f3)) = true := decide_eq_true c8
                    clear c8
                    have H' := Aside0.mk H
                    clear H
                    have p117 : 0 ≤ (x5_1 : Int) := of_decide_eq_true (by first | (with_reducible assumption) | assumption)
                    have q117 : x5_1 < (l0.length : Int) := of_decide_eq_true (by first | (with_reducible assumption) | assumption)
                    obtain ⟨ad117, e117, hx117_0, hx117_1, hx117_2, hx117_3⟩ := at_T32 HR0.out x5_1 p117 q117
                    cases e117
                    replace p117 := eq_true p117
                    replace q117 := eq_true q117
                    have p118 : 0 ≤ (x5_1 : Int) := of_decide_eq_true (by first | (with_reducible assumption) | assumption)
                    have q118 : x5_1 < (l0.length : Int) := of_decide_eq_true (by first | (with_reducible assumption) | assumption)
                    obtain ⟨ad118, e118, hx118_0, hx118_1, hx118_2, hx118_3⟩ := at_T32 HR0.out x5_1 p118 q118
                    obtain rfl : ad117 = ad118 := (by injection e118)
                    replace p118 := eq_true p118
                    replace q118 := eq_true q118
                    have p119 : 0 ≤ (x4_1 : Int) := of_decide_eq_true (by first | (with_reducible assumption) | assumption)
                    have q119 : x4_1 < (l0.length : Int) := of_decide_eq_true (by first | (with_reducible assumption) | assumption)
                    obtain ⟨ad119, e119, hx119_0, hx119_1, hx119_2, hx119_3⟩ := at_T32 HR0.out x4_1 p119 q119
                    obtain rfl : ad117 = ad119 := (by injection e119)
                    replace p119 := eq_true p119
                    replace q119 := eq_true q119
                    go_wp2
                    repeat (go_quiet (fail); try go_wp2)
                    go_roundg k1
                    case measure => have := HK1.out; omega
                    case rel => exact ⟨(x5_1), (wrap64 (x5_1 + 1)), (by first | rfl | (simp; done) | (simp [*]; done)), (by first | rfl | (simp; done) | (simp [*]; done)), H', ⟨by have := HK1.out; omega⟩, by repeat (first | exact Drawn0.refl _ | apply Drawn0.step)⟩
                  · rw [if_neg c8] at H
                    have c8b0 : decide (((rd_T32 l0 x5_1).f3) < ((rd_T32 l0 x4_1).f3)) = false := decide_eq_false c8
                    clear c8
                    have H' := Aside0.mk H
                    clear H
                    have p117 : 0 ≤ (x5_1 : Int) := of_decide_eq_true (by first | (with_reducible assumption) | assumption)
                    have q117 : x5_1 < (l0.length : Int) := of_decide_eq_true (by first | (with_reducible assumption) | assumption)
                    obtain ⟨ad117, e117, hx117_0, hx117_1, hx117_2, hx117_3⟩ := at_T32 HR0.out x5_1 p117 q117
                    cases e117
                    replace p117 := eq_true p117
                    replace q117 := eq_true q117
                    have p118 : 0 ≤ (x5_1 : Int) := of_decide_eq_true (by first | (with_reducible assumption) | assumption)
                    have q118 : x5_1 < (l0.length : Int) := of_decide_eq_true (by first | (with_reducible assumption) | assumption)
                    obtain ⟨ad118, e118, hx118_0, hx118_1, hx118_2, hx118_3⟩ := at_T32 HR0.out x5_1 p118 q118
                    obtain rfl : ad117 = ad118 := (by injection e118)
                    replace p118 := eq_true p118
                    replace q118 := eq_true q118
                    have p119 : 0 ≤ (x4_1 : Int) := of_decide_eq_true (by first | (with_reducible assumption) | assumption)
                    have q119 : x4_1 < (l0.length : Int) := of_decide_eq_true (by first | (with_reducible assumption) | assumption)
                    obtain ⟨ad119, e119, hx119_0, hx119_1, hx119_2, hx119_3⟩ := at_T32 HR0.out x4_1 p119 q119
                    obtain rfl : ad117 = ad119 := (by injection e119)
                    replace p119 := eq_true p119
                    replace q119 := eq_true q119
                    go_wp2
                    repeat (go_quiet (fail); try go_wp2)
                    go_roundg k1
                    case measure => have := HK1.out; omega
                    case rel => exact ⟨(x4_1), (wrap64 (x5_1 + 1)), (by first | rfl | (simp; done) | (simp [*]; done)), (by first | rfl | (simp; done) | (simp [*]; done)), H', ⟨by have := HK1.out; omega⟩, by repeat (first | exact Drawn0.refl _ | apply Drawn0.step)⟩
                · rw [if_neg c7] at H
                  exact absurd H (by simp)
              · rw [if_neg c6] at H
                exact absurd H (by simp)
          · rw [if_neg c4] at H
            have c4b0 : (((rd_T32 l0 x5_1).f0) == 0) = false := beq_eq_false_iff_ne.mpr c4
            have c4b1 : (((rd_T32 l0 x5_1).f0) != 0) = true := bne_iff_ne.mpr c4
            have H' := Aside0.mk H
            clear H
            have p117 : 0 ≤ (x5_1 : Int) := of_decide_eq_true (by first | (with_reducible assumption) | assumption)
            have q117 : x5_1 < (l0.length : Int) := of_decide_eq_true (by first | (with_reducible assumption) | assumption)
            obtain ⟨ad117, e117, hx117_0, hx117_1, hx117_2, hx117_3⟩ := at_T32 HR0.out x5_1 p117 q117
            cases e117
            replace p117 := eq_true p117
            replace q117 := eq_true q117
            go_wp2
            repeat (go_quiet (fail); try go_wp2)
            go_roundg k1
            case measure => have := HK1.out; omega
            case rel => exact ⟨(x4_1), (wrap64 (x5_1 + 1)), (by first | rfl | (simp; done) | (simp [*]; done)), (by first | rfl | (simp; done) | (simp [*]; done)), H', ⟨by have := HK1.out; omega⟩, by repeat (first | exact Drawn0.refl _ | apply Drawn0.step)⟩
        · rw [if_neg c3] at H
          exact absurd H (by simp)
      · rw [if_neg c2] at H
        have c2b0 : decide (x5_1 < (l0.length : Int)) = false := decide_eq_false c2
        clear c2
        by_cases c9 : x4_1 < 0
        · rw [if_pos c9] at H
          have c9b0 : decide (x4_1 < 0) = true := decide_eq_true c9
          clear c9
          simp only [Option.some.injEq, Prod.mk.injEq] at H
          obtain ⟨rfl, rfl⟩ := H
          go_wp2
          repeat (go_quiet (fail); try go_wp2)
          go_ret2
          exact ⟨by first | rfl | (simp; done) | (simp [*]; done), by repeat (first | exact Drawn0.refl _ | apply Drawn0.step)⟩
        · rw [if_neg c9] at H
          have c9b0 : decide (x4_1 < 0) = false := decide_eq_false c9
          clear c9
          simp only [Option.some.injEq, Prod.mk.injEq] at H
          obtain ⟨rfl, rfl⟩ := H
          go_wp2
          repeat (go_quiet (fail); try go_wp2)
          go_ret2
          exact ⟨by first | rfl | (simp; done) | (simp [*]; done), by repeat (first | exact Drawn0.refl _ | apply Drawn0.step)⟩

end Go.Proofs.Ytfejlnlknkklmaa.PWearLeast
