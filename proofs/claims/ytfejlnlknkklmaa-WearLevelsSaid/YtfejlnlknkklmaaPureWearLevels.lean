/- Erasing the band that Least returns never brings Spread above the greater of its last value and 1 (1 to 40 bands, all free, wear below 8 at the start; at most 255 erasures). -/
import Derived.Test.YtfejlnlknkklmaaPWearLevelsx2
namespace Go.Proofs.Ytfejlnlknkklmaa.Pure
open Go.RowKit Go.Proofs.Ytfejlnlknkklmaa.PWearLevels Go.Proofs.YtfejlnlknkklmaaW.PrintWords Go.Proofs.YtfejlnlknkklmaaW.PrintLast Go.Proofs.YtfejlnlknkklmaaW.PrintMore
set_option linter.unusedVariables false
set_option linter.unusedSimpArgs false
namespace WearLevelsLemmas
def Good (l : List S32) : Prop := ∀ x ∈ l, (Lit.int .i64 x.f0).wf = true ∧ (Lit.int .i64 x.f1).wf = true ∧ (Lit.int .u64 x.f2).wf = true ∧ (Lit.int .u64 x.f3).wf = true
theorem u64_wrap (n : Int) : IntKind.u64.wrap n = n % 18446744073709551616 := by
  simp [IntKind.wrap, IntKind.bits, IntKind.signed]
theorem u64_wf (n : Int) : (Lit.int .u64 n).wf = true ↔ 0 ≤ n ∧ n < 18446744073709551616 := by
  simp [Lit.wf, IntKind.min, IntKind.max, IntKind.bits, IntKind.signed]
  omega
theorem wrap_next {i : Int} {n : Nat} (h0 : 0 ≤ i) (h : i < (n : Int)) (hn : n ≤ 1000000) : wrap64 (i + 1) = i + 1 := by
  unfold wrap64; omega
theorem rd_bound {l : List S32} (hg : ∀ x ∈ l, 0 ≤ x.f3 ∧ x.f3 < 18446744073709551616) (i : Int) : 0 ≤ (rd_T32 l i).f3 ∧ (rd_T32 l i).f3 < 18446744073709551616 := by
  unfold rd_T32
  rw [List.getD_eq_getElem?_getD]
  cases h : l[i.toNat]? with
  | none => simp [z32]
  | some x => exact hg x (List.mem_of_getElem? h)

structure Inv (l : List S32) (b i : Int) : Prop where
  h : (b = -1 ∧ ∀ j : Int, 0 ≤ j → j < i → (rd_T32 l j).f0 ≠ 0) ∨
      (0 ≤ b ∧ b < i ∧ (rd_T32 l b).f0 = 0 ∧ ∀ j : Int, 0 ≤ j → j < i → (rd_T32 l j).f0 = 0 → (rd_T32 l b).f3 < (rd_T32 l j).f3 ∨ ((rd_T32 l b).f3 = (rd_T32 l j).f3 ∧ b ≤ j))
structure Post (l : List S32) (r1 r2 : Int) : Prop where
  h : (r1 = 0 ∧ r2 = 9 ∧ ∀ j : Int, 0 ≤ j → j < l.length → (rd_T32 l j).f0 ≠ 0) ∨
      (r2 = 0 ∧ 0 ≤ r1 ∧ r1 < l.length ∧ (rd_T32 l r1).f0 = 0 ∧ ∀ j : Int, 0 ≤ j → j < l.length → (rd_T32 l j).f0 = 0 → (rd_T32 l r1).f3 < (rd_T32 l j).f3 ∨ ((rd_T32 l r1).f3 = (rd_T32 l j).f3 ∧ r1 ≤ j))
theorem Inv.skip {l : List S32} {b i : Int} (h : Inv l b i) (hu : (rd_T32 l i).f0 ≠ 0) : Inv l b (i + 1) := by
  obtain ⟨h⟩ := h
  refine ⟨?_⟩
  rcases h with ⟨rfl, h⟩ | ⟨h0, h1, h2, h⟩
  · refine .inl ⟨rfl, fun j j0 j1 => ?_⟩
    by_cases e : j = i
    · subst e; exact hu
    · exact h j j0 (by omega)
  · refine .inr ⟨h0, by omega, h2, fun j j0 j1 hj => ?_⟩
    by_cases e : j = i
    · subst e; exact absurd hj hu
    · exact h j j0 (by omega) hj
theorem Inv.first {l : List S32} {b i : Int} (hi : 0 ≤ i) (h : Inv l b i) (hb : b < 0) (hu : (rd_T32 l i).f0 = 0) : Inv l i (i + 1) := by
  obtain ⟨h⟩ := h
  refine ⟨?_⟩
  rcases h with ⟨rfl, h⟩ | ⟨h0, h1, h2, h⟩
  · refine .inr ⟨hi, by omega, hu, fun j j0 j1 hj => ?_⟩
    by_cases e : j = i
    · subst e; exact .inr ⟨rfl, Int.le_refl _⟩
    · exact absurd hj (h j j0 (by omega))
  · omega
theorem Inv.less {l : List S32} {b i : Int} (hi : 0 ≤ i) (h : Inv l b i) (hb : ¬ b < 0) (hu : (rd_T32 l i).f0 = 0) (hl : (rd_T32 l i).f3 < (rd_T32 l b).f3) : Inv l i (i + 1) := by
  obtain ⟨h⟩ := h
  refine ⟨?_⟩
  rcases h with ⟨rfl, h⟩ | ⟨h0, h1, h2, h⟩
  · omega
  · refine .inr ⟨hi, by omega, hu, fun j j0 j1 hj => ?_⟩
    by_cases e : j = i
    · subst e; exact .inr ⟨rfl, Int.le_refl _⟩
    · have := h j j0 (by omega) hj
      left
      omega
theorem Inv.more {l : List S32} {b i : Int} (h : Inv l b i) (hb : ¬ b < 0) (hl : ¬ (rd_T32 l i).f3 < (rd_T32 l b).f3) : Inv l b (i + 1) := by
  obtain ⟨h⟩ := h
  refine ⟨?_⟩
  rcases h with ⟨rfl, h⟩ | ⟨h0, h1, h2, h⟩
  · omega
  · refine .inr ⟨h0, by omega, h2, fun j j0 j1 hj => ?_⟩
    by_cases e : j = i
    · subst e; omega
    · exact h j j0 (by omega) hj
theorem Inv.neg {l : List S32} {b i : Int} (h : Inv l b i) : b < 0 ∨ (0 ≤ b ∧ b < i) := by
  obtain ⟨h⟩ := h
  rcases h with ⟨rfl, _⟩ | ⟨h0, h1, _⟩ <;> omega
theorem Inv.done {l : List S32} {b : Int} (h : Inv l b l.length) : Post l (if b < 0 then 0 else b) (if b < 0 then 9 else 0) := by
  obtain ⟨h⟩ := h
  refine ⟨?_⟩
  rcases h with ⟨rfl, h⟩ | ⟨h0, h1, h2, h⟩
  · exact .inl ⟨rfl, rfl, h⟩
  · rw [if_neg (by omega), if_neg (by omega)]
    exact .inr ⟨rfl, h0, h1, h2, h⟩
theorem least_loop (l : List S32) (hn : l.length ≤ 1000000) (d : Nat) : ∀ (k : Nat) (b i : Int), 0 ≤ i → i ≤ l.length → (l.length : Int) - i = d → d < k → Inv l b i →
    ∃ r1 r2, wear_Least.l0 k l b l l.length i = some (r1, r2) ∧ Post l r1 r2 := by
  induction d with
  | zero =>
    intro k b i h0 h1 hd hk hI
    obtain ⟨k, rfl⟩ : ∃ m, k = m + 1 := ⟨k - 1, by omega⟩
    have hi : i = (l.length : Int) := by omega
    subst hi
    simp only [wear_Least.l0]
    rw [if_neg (by omega)]
    have hd := hI.done
    by_cases hb : b < 0
    · rw [if_pos hb, if_pos hb] at hd
      rw [if_pos hb]
      exact ⟨_, _, rfl, hd⟩
    · rw [if_neg hb, if_neg hb] at hd
      rw [if_neg hb]
      exact ⟨_, _, rfl, hd⟩
  | succ d ih =>
    intro k b i h0 h1 hd hk hI
    obtain ⟨k, rfl⟩ : ∃ m, k = m + 1 := ⟨k - 1, by omega⟩
    have hlt : i < (l.length : Int) := by omega
    simp only [wear_Least.l0]
    rw [if_pos hlt, if_pos h0, if_pos hlt, wrap_next h0 hlt hn]
    by_cases hu : (rd_T32 l i).f0 = 0
    · rw [if_pos hu]
      by_cases hb : b < 0
      · rw [if_pos hb]
        exact ih k i (i + 1) (by omega) (by omega) (by omega) (by omega) (hI.first h0 hb hu)
      · rw [if_neg hb]
        have hbb := hI.neg
        rw [if_pos (by omega), if_pos (by omega)]
        by_cases hl : (rd_T32 l i).f3 < (rd_T32 l b).f3
        · rw [if_pos hl]
          exact ih k i (i + 1) (by omega) (by omega) (by omega) (by omega) (hI.less h0 hb hu hl)
        · rw [if_neg hl]
          exact ih k b (i + 1) (by omega) (by omega) (by omega) (by omega) (hI.more hb hl)
    · rw [if_neg hu]
      exact ih k b (i + 1) (by omega) (by omega) (by omega) (by omega) (hI.skip hu)
theorem least_ev (l : List S32) (hn : l.length ≤ 1000000) : ∃ r1 r2, Post l r1 r2 ∧ ∀ k, l.length < k → wear_Least.f k l = some (r1, r2) := by
  obtain ⟨r1, r2, h, hp⟩ := least_loop l hn l.length (l.length + 1) (-1) 0 (by omega) (by omega) (by omega) (by omega) ⟨.inl ⟨rfl, fun j h0 h1 => by omega⟩⟩
  exact ⟨r1, r2, hp, fun k hk => at_rounds (wear_Least.mono l) (by omega : l.length + 1 ≤ k) h⟩

structure Span (l : List S32) (n lo hi : Int) : Prop where
  h : (∀ j : Int, 0 ≤ j → j < n → lo ≤ (rd_T32 l j).f3 ∧ (rd_T32 l j).f3 ≤ hi) ∧ (∃ j : Int, 0 ≤ j ∧ j < l.length ∧ (rd_T32 l j).f3 = lo) ∧ (∃ j : Int, 0 ≤ j ∧ j < l.length ∧ (rd_T32 l j).f3 = hi) ∧ lo ≤ hi
theorem Span.next {l : List S32} {i lo hi : Int} (h0 : 0 ≤ i) (h1 : i < l.length) (h : Span l i lo hi) : Span l (i + 1) (mn lo (rd_T32 l i).f3) (mx hi (rd_T32 l i).f3) := by
  obtain ⟨ha, ⟨j1, a0, a1, a2⟩, ⟨j2, b0, b1, b2⟩, hle⟩ := h.h
  refine ⟨fun j j0 j1 => ?_, ?_, ?_, ?_⟩
  · by_cases e : j = i
    · subst e; unfold mn mx; constructor <;> split <;> omega
    · have := ha j j0 (by omega)
      unfold mn mx; constructor <;> split <;> omega
  · unfold mn
    split
    · exact ⟨i, h0, h1, rfl⟩
    · exact ⟨j1, a0, a1, a2⟩
  · unfold mx
    split
    · exact ⟨i, h0, h1, rfl⟩
    · exact ⟨j2, b0, b1, b2⟩
  · unfold mn mx; split <;> split <;> omega
theorem spread_loop (l : List S32) (hn : l.length ≤ 1000000) (d : Nat) : ∀ (k : Nat) (lo hi i : Int), 0 ≤ i → i ≤ l.length → (l.length : Int) - i = d → d < k → Span l i lo hi →
    ∃ a b, wear_Spread.l0 k lo hi l l.length i = some (IntKind.u64.wrap (b - a)) ∧ Span l l.length a b := by
  induction d with
  | zero =>
    intro k lo hi i h0 h1 hd hk hI
    obtain ⟨k, rfl⟩ : ∃ m, k = m + 1 := ⟨k - 1, by omega⟩
    have hi : i = (l.length : Int) := by omega
    subst hi
    simp only [wear_Spread.l0]
    rw [if_neg (by omega)]
    exact ⟨_, _, rfl, hI⟩
  | succ d ih =>
    intro k lo hi i h0 h1 hd hk hI
    obtain ⟨k, rfl⟩ : ∃ m, k = m + 1 := ⟨k - 1, by omega⟩
    have hlt : i < (l.length : Int) := by omega
    simp only [wear_Spread.l0]
    rw [if_pos hlt, if_pos h0, if_pos hlt, wrap_next h0 hlt hn]
    exact ih k _ _ (i + 1) (by omega) (by omega) (by omega) (by omega) (hI.next h0 hlt)
theorem spread_ev (l : List S32) (hn : l.length ≤ 1000000) (hg : ∀ x ∈ l, 0 ≤ x.f3 ∧ x.f3 < 18446744073709551616) (hl : 0 < l.length) :
    ∃ a b, Span l l.length a b ∧ 0 ≤ a ∧ b < 18446744073709551616 ∧ ∀ k, l.length < k → wear_Spread.f k l = some (b - a) := by
  obtain ⟨a, b, h, hp⟩ := spread_loop l hn l.length (l.length + 1) (rd_T32 l 0).f3 (rd_T32 l 0).f3 0 (by omega) (by omega) (by omega) (by omega) ⟨fun j h0 h1 => by omega, ⟨0, by omega, by omega, rfl⟩, ⟨0, by omega, by omega, rfl⟩, Int.le_refl _⟩
  obtain ⟨_, ⟨ja, _, _, ea⟩, ⟨jb, _, _, eb⟩, hle⟩ := hp.h
  have b1 := rd_bound hg ja
  have b2 := rd_bound hg jb
  refine ⟨a, b, hp, by omega, by omega, fun k hk => at_rounds (wear_Spread.mono l) (by omega : l.length + 1 ≤ k) ?_⟩
  unfold wear_Spread.f
  rw [if_neg (by omega), if_pos (by omega), h, u64_wrap]
  congr 1
  omega
theorem spread_some (l : List S32) (hn : l.length ≤ 1000000) : ∃ r, ∀ k, l.length < k → wear_Spread.f k l = some r := by
  by_cases hl : 0 < l.length
  · obtain ⟨a, b, h, hp⟩ := spread_loop l hn l.length (l.length + 1) (rd_T32 l 0).f3 (rd_T32 l 0).f3 0 (by omega) (by omega) (by omega) (by omega) ⟨fun j h0 h1 => by omega, ⟨0, by omega, by omega, rfl⟩, ⟨0, by omega, by omega, rfl⟩, Int.le_refl _⟩
    refine ⟨_, fun k hk => at_rounds (wear_Spread.mono l) (by omega : l.length + 1 ≤ k) (r := IntKind.u64.wrap (b - a)) ?_⟩
    unfold wear_Spread.f
    rw [if_neg (by omega), if_pos (by omega), h]
  · refine ⟨0, fun k hk => ?_⟩
    unfold wear_Spread.f
    rw [if_pos (by omega)]

theorem rd_set (l : List S32) (n : Int) (x : S32) (h0 : 0 ≤ n) (h1 : n < l.length) (j : Int) (j0 : 0 ≤ j) : rd_T32 (l.set n.toNat x) j = if j = n then x else rd_T32 l j := by
  unfold rd_T32
  rw [List.getD_eq_getElem?_getD, List.getD_eq_getElem?_getD, List.getElem?_set]
  by_cases e : j = n
  · subst e
    rw [if_pos rfl, if_pos rfl, if_pos (by omega)]
    rfl
  · rw [if_neg (by omega), if_neg e]
theorem reset_is (l : List S32) (hn : l.length ≤ 1000000) (n : Int) (h0 : 0 ≤ n) (h1 : n < l.length) (hw : 0 ≤ (rd_T32 l n).f3 ∧ (rd_T32 l n).f3 < 18446744073709551615) :
    tegularef16_Reset.f l n = some (l.set n.toNat ⟨0, 0, 0, (rd_T32 l n).f3 + 1⟩, 0) := by
  unfold tegularef16_Reset.f tegularef16_with.f
  rw [if_neg (by omega), if_neg (by omega), if_pos h0, if_pos h1]
  simp only [Option.bind_some, List.nil_append, List.length_nil, Nat.zero_add]
  rw [if_pos (by omega)]
  rw [if_pos h0, if_pos h1, u64_wrap]
  simp only [Option.bind_some]
  rw [show ((rd_T32 l n).f3 + 1) % 18446744073709551616 = (rd_T32 l n).f3 + 1 from by omega]
theorem set_bound {l : List S32} {n : Nat} {x : S32} {B : Int} (hg : ∀ y ∈ l, 0 ≤ y.f3 ∧ y.f3 < B) (hx : 0 ≤ x.f3 ∧ x.f3 < B) : ∀ y ∈ l.set n x, 0 ≤ y.f3 ∧ y.f3 < B := by
  intro y hy
  rcases List.mem_or_eq_of_mem_set hy with h | h
  · exact hg y h
  · subst h; exact hx

structure Levels (l : List S32) (B : Int) : Prop where
  free : ∀ x ∈ l, x.f0 = 0
  wear : ∀ x ∈ l, 0 ≤ x.f3 ∧ x.f3 < B
theorem rd_free {l : List S32} (h : ∀ x ∈ l, x.f0 = 0) (i : Int) : (rd_T32 l i).f0 = 0 := by
  unfold rd_T32
  rw [List.getD_eq_getElem?_getD]
  cases e : l[i.toNat]? with
  | none => rfl
  | some x => exact h x (List.mem_of_getElem? e)
theorem rd_wear {l : List S32} {B : Int} (hB : 0 < B) (hg : ∀ x ∈ l, 0 ≤ x.f3 ∧ x.f3 < B) (i : Int) : 0 ≤ (rd_T32 l i).f3 ∧ (rd_T32 l i).f3 < B := by
  unfold rd_T32
  rw [List.getD_eq_getElem?_getD]
  cases h : l[i.toNat]? with
  | none => exact ⟨Int.le_refl _, hB⟩
  | some x => exact hg x (List.mem_of_getElem? h)
theorem weaken {l : List S32} {B C : Int} (h : B ≤ C) (hg : ∀ x ∈ l, 0 ≤ x.f3 ∧ x.f3 < B) : ∀ x ∈ l, 0 ≤ x.f3 ∧ x.f3 < C := fun x hx => ⟨(hg x hx).1, by have := (hg x hx).2; omega⟩
theorem build_loop (xs : List Int) (hxs : ∀ x ∈ xs, (Lit.int .u8 x).wf = true) (hn : xs.length ≤ 40) (x1 : Int) (d : Nat) : ∀ (k : Nat) (l : List S32) (i : Int), 0 ≤ i → i ≤ xs.length → (xs.length : Int) - i = d → (l.length : Int) = i → Levels l 8 →
    ∃ l', l'.length = xs.length ∧ Levels l' 8 ∧ tegulalaw19_WearLevels.l0 (k + d + 1) xs x1 l i = ((wear_Spread.f k l').bind fun t => tegulalaw19_WearLevels.l1 k x1 l' t 0) := by
  induction d with
  | zero =>
    intro k l i h0 h1 hd hl hL
    refine ⟨l, by omega, hL, ?_⟩
    simp only [Nat.add_zero, tegulalaw19_WearLevels.l0]
    rw [if_neg (by omega)]
  | succ d ih =>
    intro k l i h0 h1 hd hl hL
    have hlt : i < (xs.length : Int) := by omega
    obtain ⟨l', a, b, c⟩ := ih k (l ++ [⟨0, 0, 0, IntKind.u64.wrap (Int.tmod (rd xs i) 8)⟩]) (i + 1) (by omega) (by omega) (by omega) (by simp; omega) ⟨fun x hx => by
        rcases List.mem_append.1 hx with h | h
        · exact hL.free x h
        · simp at h; subst h; rfl, fun x hx => by
        rcases List.mem_append.1 hx with h | h
        · exact hL.wear x h
        · simp only [List.mem_singleton] at h
          subst h
          have hr : 0 ≤ rd xs i := by
            unfold rd
            rw [List.getD_eq_getElem?_getD]
            cases e : xs[i.toNat]? with
            | none => exact Int.le_refl _
            | some y =>
              have := hxs y (List.mem_of_getElem? e)
              simp [Lit.wf, IntKind.min, IntKind.max, IntKind.bits, IntKind.signed] at this
              exact this.1
          rw [u64_wrap, Int.tmod_eq_emod_of_nonneg hr]
          simp only
          omega⟩
    refine ⟨l', a, b, ?_⟩
    rw [← c, show k + (d + 1) + 1 = (k + d + 1) + 1 from by omega]
    conv => lhs; rw [tegulalaw19_WearLevels.l0]
    rw [if_pos hlt, if_pos h0, if_pos (by omega), wrap_next h0 hlt (by omega)]
theorem levels_loop (x1 : Int) (hx0 : 0 ≤ x1) (hx1 : x1 < 256) (d : Nat) : ∀ (k : Nat) (l : List S32) (t i : Int) (B : Int), 0 ≤ i → i ≤ x1 → x1 - i = d → 0 < l.length → l.length ≤ 40 → l.length + 2 * d + 1 < k → Levels l B → B = 8 + i → (∃ a b, Span l l.length a b ∧ t = b - a) →
    tegulalaw19_WearLevels.l1 k x1 l t i = some true := by
  have w1 : wrap64 x1 = x1 := by unfold wrap64; omega
  induction d with
  | zero =>
    intro k l t i B h0 h1 hd hl hl2 hk hL hB ht
    obtain ⟨k, rfl⟩ : ∃ m, k = m + 1 := ⟨k - 1, by omega⟩
    simp only [tegulalaw19_WearLevels.l1]
    rw [w1, if_neg (by omega)]
  | succ d ih =>
    intro k l t i B h0 h1 hd hl hl2 hk hL hB ht
    obtain ⟨k, rfl⟩ : ∃ m, k = m + 2 := ⟨k - 2, by omega⟩
    simp only [tegulalaw19_WearLevels.l1]
    rw [w1, if_pos (by omega)]
    obtain ⟨r1, r2, hp, hle⟩ := least_ev l (by omega)
    rw [hle _ (by omega)]
    simp only [Option.bind_some]
    rcases hp.h with ⟨_, _, hno⟩ | ⟨rfl, p0, p1, p2, hall⟩
    · exact absurd (rd_free hL.free 0) (hno 0 (by omega) (by omega))
    · rw [if_pos rfl, if_neg (by omega), decide_eq_false (by omega)]
      simp only [tegulalaw19_WearLevels.j3]
      rw [if_neg (by simp)]
      have wb := rd_wear (by omega) hL.wear r1
      rw [reset_is l (by omega) r1 p0 p1 (by omega)]
      simp only [Option.bind_some]
      have hL' : Levels (l.set r1.toNat ⟨0, 0, 0, (rd_T32 l r1).f3 + 1⟩) (8 + (i + 1)) := ⟨fun y hy => by
          rcases List.mem_or_eq_of_mem_set hy with h | h
          · exact hL.free y h
          · subst h; rfl, set_bound (weaken (by omega) hL.wear) (by simp only; omega)⟩
      have hlen : (l.set r1.toNat ⟨0, 0, 0, (rd_T32 l r1).f3 + 1⟩).length = l.length := List.length_set
      have hrd := rd_set l r1 ⟨0, 0, 0, (rd_T32 l r1).f3 + 1⟩ (by omega) (by omega)
      generalize l.set r1.toNat ⟨0, 0, 0, (rd_T32 l r1).f3 + 1⟩ = l' at *
      obtain ⟨a', b', s2, sa', sb', hs'⟩ := spread_ev l' (by omega) (weaken (by omega) hL'.wear) (by omega)
      rw [hs' _ (by omega)]
      simp only [Option.bind_some]
      obtain ⟨a, b, s1, rfl⟩ := ht
      obtain ⟨ha, ⟨i1, e0, e1, e2⟩, ⟨i2, q0, q1, q2⟩, hab⟩ := s1.h
      obtain ⟨ha', ⟨j1, u0, u1, u2⟩, ⟨j2, v0, v1, v2⟩, hab'⟩ := s2.h
      have g0 := hall i1 e0 e1 (rd_free hL.free i1)
      have g1 := ha r1 p0 p1
      have key : b' - a' ≤ mx (b - a) 1 := by
        have m : mx (b - a) 1 = b - a ∨ (b - a ≤ 1 ∧ mx (b - a) 1 = 1) := by unfold mx; split <;> omega
        rw [hrd j1 u0] at u2
        rw [hrd j2 v0] at v2
        have c1 := ha j1 u0 (by omega)
        have c2 := ha j2 v0 (by omega)
        have hm : a = (rd_T32 l r1).f3 := by omega
        have hmx : b - a ≤ mx (b - a) 1 ∧ 1 ≤ mx (b - a) 1 := by unfold mx; split <;> omega
        by_cases f1 : j1 = r1
        · rw [if_pos f1] at u2
          simp only at u2
          by_cases f2 : j2 = r1
          · rw [if_pos f2] at v2; simp only at v2; omega
          · rw [if_neg f2] at v2; omega
        · rw [if_neg f1] at u2
          by_cases f2 : j2 = r1
          · rw [if_pos f2] at v2; simp only at v2; omega
          · rw [if_neg f2] at v2; omega
      rw [if_neg (by omega), show wrap64 (i + 1) = i + 1 from by unfold wrap64; omega]
      exact ih k l' (b' - a') (i + 1) (8 + (i + 1)) (by omega) (by omega) (by omega) (by omega) (by omega) (by omega) hL' rfl ⟨a', b', s2, rfl⟩

theorem awake_ev : ∀ k, 10 ≤ k → tegulalaw19_awake.f k = some true := by
  intro k hk
  exact at_rounds tegulalaw19_awake.mono hk (by decide +kernel)
end WearLevelsLemmas
open WearLevelsLemmas

theorem WearLevels : tegulalaw19_WearLevels.Pure := by
  intro xs a1 _ _ hx hw
  have ha : 0 ≤ a1 ∧ a1 < 256 := by
    simp [Lit.wf, IntKind.min, IntKind.max, IntKind.bits, IntKind.signed] at hw
    omega
  have hstop : ∀ k, 10 ≤ k → tegulalaw19_WearLevels.j0 (k + 1) xs a1 true = some true := by
    intro k hk
    simp only [tegulalaw19_WearLevels.j0]
    rw [awake_ev k hk]
    rfl
  by_cases h0 : (xs.length : Int) < 1
  · refine ⟨11, ?_⟩
    unfold tegulalaw19_WearLevels.f
    rw [awake_ev 11 (by omega)]
    simp only [Option.bind_some, if_true]
    rw [if_pos h0]
    exact hstop 10 (by omega)
  by_cases h1 : (xs.length : Int) > 40
  · refine ⟨11, ?_⟩
    unfold tegulalaw19_WearLevels.f
    rw [awake_ev 11 (by omega)]
    simp only [Option.bind_some, if_true]
    rw [if_neg h0, decide_eq_true h1]
    exact hstop 10 (by omega)
  obtain ⟨l, hl, hL, hb⟩ := build_loop xs hx (by omega) a1 xs.length 1000 [] 0 (by omega) (by omega) (by omega) rfl ⟨by simp, by simp⟩
  obtain ⟨a, b, s, sa, sb, hs⟩ := spread_ev l (by omega) (weaken (by omega) hL.wear) (by omega)
  refine ⟨1000 + xs.length + 2, ?_⟩
  unfold tegulalaw19_WearLevels.f
  rw [awake_ev _ (by omega)]
  simp only [Option.bind_some, if_true]
  rw [if_neg h0, decide_eq_false h1]
  simp only [tegulalaw19_WearLevels.j0]
  rw [if_neg (by simp), hb, hs _ (by omega)]
  simp only [Option.bind_some]
  exact levels_loop a1 ha.1 ha.2 a1.toNat 1000 l (b - a) 0 8 (by omega) (by omega) (by omega) (by omega) (by omega) (by omega) hL (by omega) ⟨a, b, s, rfl⟩
end Go.Proofs.Ytfejlnlknkklmaa.Pure
