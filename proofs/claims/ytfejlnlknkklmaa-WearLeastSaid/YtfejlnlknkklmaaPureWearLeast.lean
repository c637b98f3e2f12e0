/- The program's Least and the reference's go the same way, round by round (at most 100 bands). -/
import Derived.Test.YtfejlnlknkklmaaPWearLeastx2
namespace Go.Proofs.Ytfejlnlknkklmaa.Pure
open Go.RowKit Go.Proofs.Ytfejlnlknkklmaa.PWearLeast Go.Proofs.YtfejlnlknkklmaaW.PrintWords Go.Proofs.YtfejlnlknkklmaaW.PrintLast Go.Proofs.YtfejlnlknkklmaaW.PrintMore
set_option linter.unusedVariables false
set_option linter.unusedSimpArgs false
namespace WearLeastLemmas
def Good (l : List S32) : Prop := ∀ x ∈ l, (Lit.int .i64 x.f0).wf = true ∧ (Lit.int .i64 x.f1).wf = true ∧ (Lit.int .u64 x.f2).wf = true ∧ (Lit.int .u64 x.f3).wf = true
theorem u64_wrap (n : Int) : IntKind.u64.wrap n = n % 18446744073709551616 := by
  simp [IntKind.wrap, IntKind.bits, IntKind.signed]
theorem u64_wf (n : Int) : (Lit.int .u64 n).wf = true ↔ 0 ≤ n ∧ n < 18446744073709551616 := by
  simp [Lit.wf, IntKind.min, IntKind.max, IntKind.bits, IntKind.signed]
  omega
theorem wrap_next {i : Int} {n : Nat} (h0 : 0 ≤ i) (h : i < (n : Int)) (hn : n ≤ 1000000) : wrap64 (i + 1) = i + 1 := by
  unfold wrap64; omega
theorem rd_bound {l : List S32} (hg : ∀ x ∈ l, 0 ≤ x.f3 ∧ x.f3 < 18446744073709551616) (i : Int) : 0 ≤ (rd_T32 l i).f3 ∧ (rd_T32 l i).f3 < 18446744073709551616 := by
  unfold rd_T32
  rw [List.getD_eq_getElem?_getD]
  cases h : l[i.toNat]? with
  | none => simp [z32]
  | some x => exact hg x (List.mem_of_getElem? h)

structure Inv (l : List S32) (b i : Int) : Prop where
  h : (b = -1 ∧ ∀ j : Int, 0 ≤ j → j < i → (rd_T32 l j).f0 ≠ 0) ∨
      (0 ≤ b ∧ b < i ∧ (rd_T32 l b).f0 = 0 ∧ ∀ j : Int, 0 ≤ j → j < i → (rd_T32 l j).f0 = 0 → (rd_T32 l b).f3 < (rd_T32 l j).f3 ∨ ((rd_T32 l b).f3 = (rd_T32 l j).f3 ∧ b ≤ j))
structure Post (l : List S32) (r1 r2 : Int) : Prop where
  h : (r1 = 0 ∧ r2 = 9 ∧ ∀ j : Int, 0 ≤ j → j < l.length → (rd_T32 l j).f0 ≠ 0) ∨
      (r2 = 0 ∧ 0 ≤ r1 ∧ r1 < l.length ∧ (rd_T32 l r1).f0 = 0 ∧ ∀ j : Int, 0 ≤ j → j < l.length → (rd_T32 l j).f0 = 0 → (rd_T32 l r1).f3 < (rd_T32 l j).f3 ∨ ((rd_T32 l r1).f3 = (rd_T32 l j).f3 ∧ r1 ≤ j))
theorem Inv.skip {l : List S32} {b i : Int} (h : Inv l b i) (hu : (rd_T32 l i).f0 ≠ 0) : Inv l b (i + 1) := by
  obtain ⟨h⟩ := h
  refine ⟨?_⟩
  rcases h with ⟨rfl, h⟩ | ⟨h0, h1, h2, h⟩
  · refine .inl ⟨rfl, fun j j0 j1 => ?_⟩
    by_cases e : j = i
    · subst e; exact hu
    · exact h j j0 (by omega)
  · refine .inr ⟨h0, by omega, h2, fun j j0 j1 hj => ?_⟩
    by_cases e : j = i
    · subst e; exact absurd hj hu
    · exact h j j0 (by omega) hj
theorem Inv.first {l : List S32} {b i : Int} (hi : 0 ≤ i) (h : Inv l b i) (hb : b < 0) (hu : (rd_T32 l i).f0 = 0) : Inv l i (i + 1) := by
  obtain ⟨h⟩ := h
  refine ⟨?_⟩
  rcases h with ⟨rfl, h⟩ | ⟨h0, h1, h2, h⟩
  · refine .inr ⟨hi, by omega, hu, fun j j0 j1 hj => ?_⟩
    by_cases e : j = i
    · subst e; exact .inr ⟨rfl, Int.le_refl _⟩
    · exact absurd hj (h j j0 (by omega))
  · omega
theorem Inv.less {l : List S32} {b i : Int} (hi : 0 ≤ i) (h : Inv l b i) (hb : ¬ b < 0) (hu : (rd_T32 l i).f0 = 0) (hl : (rd_T32 l i).f3 < (rd_T32 l b).f3) : Inv l i (i + 1) := by
  obtain ⟨h⟩ := h
  refine ⟨?_⟩
  rcases h with ⟨rfl, h⟩ | ⟨h0, h1, h2, h⟩
  · omega
  · refine .inr ⟨hi, by omega, hu, fun j j0 j1 hj => ?_⟩
    by_cases e : j = i
    · subst e; exact .inr ⟨rfl, Int.le_refl _⟩
    · have := h j j0 (by omega) hj
      left
      omega
theorem Inv.more {l : List S32} {b i : Int} (h : Inv l b i) (hb : ¬ b < 0) (hl : ¬ (rd_T32 l i).f3 < (rd_T32 l b).f3) : Inv l b (i + 1) := by
  obtain ⟨h⟩ := h
  refine ⟨?_⟩
  rcases h with ⟨rfl, h⟩ | ⟨h0, h1, h2, h⟩
  · omega
  · refine .inr ⟨h0, by omega, h2, fun j j0 j1 hj => ?_⟩
    by_cases e : j = i
    · subst e; omega
    · exact h j j0 (by omega) hj
theorem Inv.neg {l : List S32} {b i : Int} (h : Inv l b i) : b < 0 ∨ (0 ≤ b ∧ b < i) := by
  obtain ⟨h⟩ := h
  rcases h with ⟨rfl, _⟩ | ⟨h0, h1, _⟩ <;> omega
theorem Inv.done {l : List S32} {b : Int} (h : Inv l b l.length) : Post l (if b < 0 then 0 else b) (if b < 0 then 9 else 0) := by
  obtain ⟨h⟩ := h
  refine ⟨?_⟩
  rcases h with ⟨rfl, h⟩ | ⟨h0, h1, h2, h⟩
  · exact .inl ⟨rfl, rfl, h⟩
  · rw [if_neg (by omega), if_neg (by omega)]
    exact .inr ⟨rfl, h0, h1, h2, h⟩
theorem least_loop (l : List S32) (hn : l.length ≤ 1000000) (d : Nat) : ∀ (k : Nat) (b i : Int), 0 ≤ i → i ≤ l.length → (l.length : Int) - i = d → d < k → Inv l b i →
    ∃ r1 r2, wear_Least.l0 k l b l l.length i = some (r1, r2) ∧ Post l r1 r2 := by
  induction d with
  | zero =>
    intro k b i h0 h1 hd hk hI
    obtain ⟨k, rfl⟩ : ∃ m, k = m + 1 := ⟨k - 1, by omega⟩
    have hi : i = (l.length : Int) := by omega
    subst hi
    simp only [wear_Least.l0]
    rw [if_neg (by omega)]
    have hd := hI.done
    by_cases hb : b < 0
    · rw [if_pos hb, if_pos hb] at hd
      rw [if_pos hb]
      exact ⟨_, _, rfl, hd⟩
    · rw [if_neg hb, if_neg hb] at hd
      rw [if_neg hb]
      exact ⟨_, _, rfl, hd⟩
  | succ d ih =>
    intro k b i h0 h1 hd hk hI
    obtain ⟨k, rfl⟩ : ∃ m, k = m + 1 := ⟨k - 1, by omega⟩
    have hlt : i < (l.length : Int) := by omega
    simp only [wear_Least.l0]
    rw [if_pos hlt, if_pos h0, if_pos hlt, wrap_next h0 hlt hn]
    by_cases hu : (rd_T32 l i).f0 = 0
    · rw [if_pos hu]
      by_cases hb : b < 0
      · rw [if_pos hb]
        exact ih k i (i + 1) (by omega) (by omega) (by omega) (by omega) (hI.first h0 hb hu)
      · rw [if_neg hb]
        have hbb := hI.neg
        rw [if_pos (by omega), if_pos (by omega)]
        by_cases hl : (rd_T32 l i).f3 < (rd_T32 l b).f3
        · rw [if_pos hl]
          exact ih k i (i + 1) (by omega) (by omega) (by omega) (by omega) (hI.less h0 hb hu hl)
        · rw [if_neg hl]
          exact ih k b (i + 1) (by omega) (by omega) (by omega) (by omega) (hI.more hb hl)
    · rw [if_neg hu]
      exact ih k b (i + 1) (by omega) (by omega) (by omega) (by omega) (hI.skip hu)
theorem least_ev (l : List S32) (hn : l.length ≤ 1000000) : ∃ r1 r2, Post l r1 r2 ∧ ∀ k, l.length < k → wear_Least.f k l = some (r1, r2) := by
  obtain ⟨r1, r2, h, hp⟩ := least_loop l hn l.length (l.length + 1) (-1) 0 (by omega) (by omega) (by omega) (by omega) ⟨.inl ⟨rfl, fun j h0 h1 => by omega⟩⟩
  exact ⟨r1, r2, hp, fun k hk => at_rounds (wear_Least.mono l) (by omega : l.length + 1 ≤ k) h⟩

theorem least_same (l : List S32) : ∀ (k : Nat) (b i : Int), wear_Least.l0 k l b l l.length i = tegularef19_Least.l0 k l b i := by
  intro k
  induction k with
  | zero => intro b i; rfl
  | succ k ih =>
    intro b i
    simp only [wear_Least.l0, tegularef19_Least.l0, ih]
    by_cases h : i < (l.length : Int)
    · simp only [if_pos h]
    · simp only [if_neg h]

theorem awake_ev : ∀ k, 10 ≤ k → tegulalaw19_awake.f k = some true := by
  intro k hk
  exact at_rounds tegulalaw19_awake.mono hk (by decide +kernel)
end WearLeastLemmas
open WearLeastLemmas

theorem WearLeast (l : List S32) (hg : ∀ x ∈ l, (Lit.int .i64 x.f0).wf = true ∧ (Lit.int .i64 x.f1).wf = true ∧ (Lit.int .u64 x.f2).wf = true ∧ (Lit.int .u64 x.f3).wf = true) : ∃ k, tegulalaw19_WearLeast.f k l = some true := by
  by_cases hl : (l.length : Int) > 100
  · refine ⟨11, ?_⟩
    unfold tegulalaw19_WearLeast.f
    rw [awake_ev 11 (by omega)]
    simp only [Option.bind_some, if_true]
    rw [decide_eq_true hl]
    simp only [tegulalaw19_WearLeast.j0]
    rw [awake_ev 10 (by omega)]
    rfl
  · obtain ⟨r1, r2, _, h⟩ := least_ev l (by omega)
    refine ⟨l.length + 12, ?_⟩
    unfold tegulalaw19_WearLeast.f
    rw [awake_ev _ (by omega)]
    simp only [Option.bind_some, if_true]
    rw [decide_eq_false hl]
    simp only [tegulalaw19_WearLeast.j0]
    have e : tegularef19_Least.f (l.length + 11) l = some (r1, r2) := by
      rw [← h (l.length + 11) (by omega)]
      unfold tegularef19_Least.f wear_Least.f
      exact (least_same l _ _ _).symm
    rw [h _ (by omega), e]
    simp
end Go.Proofs.Ytfejlnlknkklmaa.Pure
