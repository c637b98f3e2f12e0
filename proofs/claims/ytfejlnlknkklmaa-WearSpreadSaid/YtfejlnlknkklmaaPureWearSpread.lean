/- The program's Spread and Total and the reference's go the same way, round by round (at most 100 bands). -/
import Derived.Test.YtfejlnlknkklmaaPWearSpreadx2
namespace Go.Proofs.Ytfejlnlknkklmaa.Pure
open Go.RowKit Go.Proofs.Ytfejlnlknkklmaa.PWearSpread Go.Proofs.YtfejlnlknkklmaaW.PrintWords Go.Proofs.YtfejlnlknkklmaaW.PrintLast Go.Proofs.YtfejlnlknkklmaaW.PrintMore
set_option linter.unusedVariables false
set_option linter.unusedSimpArgs false
namespace WearSpreadLemmas
def Good (l : List S32) : Prop := ∀ x ∈ l, (Lit.int .i64 x.f0).wf = true ∧ (Lit.int .i64 x.f1).wf = true ∧ (Lit.int .u64 x.f2).wf = true ∧ (Lit.int .u64 x.f3).wf = true
theorem u64_wrap (n : Int) : IntKind.u64.wrap n = n % 18446744073709551616 := by
  simp [IntKind.wrap, IntKind.bits, IntKind.signed]
theorem u64_wf (n : Int) : (Lit.int .u64 n).wf = true ↔ 0 ≤ n ∧ n < 18446744073709551616 := by
  simp [Lit.wf, IntKind.min, IntKind.max, IntKind.bits, IntKind.signed]
  omega
theorem wrap_next {i : Int} {n : Nat} (h0 : 0 ≤ i) (h : i < (n : Int)) (hn : n ≤ 1000000) : wrap64 (i + 1) = i + 1 := by
  unfold wrap64; omega
theorem rd_bound {l : List S32} (hg : ∀ x ∈ l, 0 ≤ x.f3 ∧ x.f3 < 18446744073709551616) (i : Int) : 0 ≤ (rd_T32 l i).f3 ∧ (rd_T32 l i).f3 < 18446744073709551616 := by
  unfold rd_T32
  rw [List.getD_eq_getElem?_getD]
  cases h : l[i.toNat]? with
  | none => simp [z32]
  | some x => exact hg x (List.mem_of_getElem? h)

structure Span (l : List S32) (n lo hi : Int) : Prop where
  h : (∀ j : Int, 0 ≤ j → j < n → lo ≤ (rd_T32 l j).f3 ∧ (rd_T32 l j).f3 ≤ hi) ∧ (∃ j : Int, 0 ≤ j ∧ j < l.length ∧ (rd_T32 l j).f3 = lo) ∧ (∃ j : Int, 0 ≤ j ∧ j < l.length ∧ (rd_T32 l j).f3 = hi) ∧ lo ≤ hi
theorem Span.next {l : List S32} {i lo hi : Int} (h0 : 0 ≤ i) (h1 : i < l.length) (h : Span l i lo hi) : Span l (i + 1) (mn lo (rd_T32 l i).f3) (mx hi (rd_T32 l i).f3) := by
  obtain ⟨ha, ⟨j1, a0, a1, a2⟩, ⟨j2, b0, b1, b2⟩, hle⟩ := h.h
  refine ⟨fun j j0 j1 => ?_, ?_, ?_, ?_⟩
  · by_cases e : j = i
    · subst e; unfold mn mx; constructor <;> split <;> omega
    · have := ha j j0 (by omega)
      unfold mn mx; constructor <;> split <;> omega
  · unfold mn
    split
    · exact ⟨i, h0, h1, rfl⟩
    · exact ⟨j1, a0, a1, a2⟩
  · unfold mx
    split
    · exact ⟨i, h0, h1, rfl⟩
    · exact ⟨j2, b0, b1, b2⟩
  · unfold mn mx; split <;> split <;> omega
theorem spread_loop (l : List S32) (hn : l.length ≤ 1000000) (d : Nat) : ∀ (k : Nat) (lo hi i : Int), 0 ≤ i → i ≤ l.length → (l.length : Int) - i = d → d < k → Span l i lo hi →
    ∃ a b, wear_Spread.l0 k lo hi l l.length i = some (IntKind.u64.wrap (b - a)) ∧ Span l l.length a b := by
  induction d with
  | zero =>
    intro k lo hi i h0 h1 hd hk hI
    obtain ⟨k, rfl⟩ : ∃ m, k = m + 1 := ⟨k - 1, by omega⟩
    have hi : i = (l.length : Int) := by omega
    subst hi
    simp only [wear_Spread.l0]
    rw [if_neg (by omega)]
    exact ⟨_, _, rfl, hI⟩
  | succ d ih =>
    intro k lo hi i h0 h1 hd hk hI
    obtain ⟨k, rfl⟩ : ∃ m, k = m + 1 := ⟨k - 1, by omega⟩
    have hlt : i < (l.length : Int) := by omega
    simp only [wear_Spread.l0]
    rw [if_pos hlt, if_pos h0, if_pos hlt, wrap_next h0 hlt hn]
    exact ih k _ _ (i + 1) (by omega) (by omega) (by omega) (by omega) (hI.next h0 hlt)
theorem spread_ev (l : List S32) (hn : l.length ≤ 1000000) (hg : ∀ x ∈ l, 0 ≤ x.f3 ∧ x.f3 < 18446744073709551616) (hl : 0 < l.length) :
    ∃ a b, Span l l.length a b ∧ 0 ≤ a ∧ b < 18446744073709551616 ∧ ∀ k, l.length < k → wear_Spread.f k l = some (b - a) := by
  obtain ⟨a, b, h, hp⟩ := spread_loop l hn l.length (l.length + 1) (rd_T32 l 0).f3 (rd_T32 l 0).f3 0 (by omega) (by omega) (by omega) (by omega) ⟨fun j h0 h1 => by omega, ⟨0, by omega, by omega, rfl⟩, ⟨0, by omega, by omega, rfl⟩, Int.le_refl _⟩
  obtain ⟨_, ⟨ja, _, _, ea⟩, ⟨jb, _, _, eb⟩, hle⟩ := hp.h
  have b1 := rd_bound hg ja
  have b2 := rd_bound hg jb
  refine ⟨a, b, hp, by omega, by omega, fun k hk => at_rounds (wear_Spread.mono l) (by omega : l.length + 1 ≤ k) ?_⟩
  unfold wear_Spread.f
  rw [if_neg (by omega), if_pos (by omega), h, u64_wrap]
  congr 1
  omega
theorem spread_some (l : List S32) (hn : l.length ≤ 1000000) : ∃ r, ∀ k, l.length < k → wear_Spread.f k l = some r := by
  by_cases hl : 0 < l.length
  · obtain ⟨a, b, h, hp⟩ := spread_loop l hn l.length (l.length + 1) (rd_T32 l 0).f3 (rd_T32 l 0).f3 0 (by omega) (by omega) (by omega) (by omega) ⟨fun j h0 h1 => by omega, ⟨0, by omega, by omega, rfl⟩, ⟨0, by omega, by omega, rfl⟩, Int.le_refl _⟩
    refine ⟨_, fun k hk => at_rounds (wear_Spread.mono l) (by omega : l.length + 1 ≤ k) (r := IntKind.u64.wrap (b - a)) ?_⟩
    unfold wear_Spread.f
    rw [if_neg (by omega), if_pos (by omega), h]
  · refine ⟨0, fun k hk => ?_⟩
    unfold wear_Spread.f
    rw [if_pos (by omega)]

def sum : List S32 → Int
  | [] => 0
  | x :: r => x.f3 + sum r
theorem rd_nat (l : List S32) (i : Nat) (h : i < l.length) : rd_T32 l (i : Int) = l[i] := by
  unfold rd_T32
  rw [Int.toNat_natCast, List.getD_eq_getElem?_getD, List.getElem?_eq_getElem h]
  rfl
theorem total_loop (l : List S32) (hn : l.length ≤ 1000000) (d : Nat) : ∀ (k : Nat) (acc : Int) (i : Nat), i ≤ l.length → l.length - i = d → d < k → 0 ≤ acc → acc < 18446744073709551616 →
    wear_Total.l0 k acc l l.length i = some ((acc + sum (l.drop i)) % 18446744073709551616) := by
  induction d with
  | zero =>
    intro k acc i h1 hd hk a0 a1
    obtain ⟨k, rfl⟩ : ∃ m, k = m + 1 := ⟨k - 1, by omega⟩
    have hi : i = l.length := by omega
    subst hi
    simp only [wear_Total.l0]
    rw [if_neg (by omega), List.drop_length]
    simp only [sum]
    congr 1
    omega
  | succ d ih =>
    intro k acc i h1 hd hk a0 a1
    obtain ⟨k, rfl⟩ : ∃ m, k = m + 1 := ⟨k - 1, by omega⟩
    have hlt : i < l.length := by omega
    simp only [wear_Total.l0]
    rw [if_pos (by omega), if_pos (by omega), if_pos (by omega), wrap_next (by omega) (by omega : (i : Int) < (l.length : Int)) hn, rd_nat l i hlt, u64_wrap]
    rw [show ((i : Int) + 1) = ((i + 1 : Nat) : Int) from by omega, ih k _ (i + 1) (by omega) (by omega) (by omega) (by omega) (by omega), List.drop_eq_getElem_cons hlt]
    simp only [sum]
    congr 1
    omega
theorem total_ev (l : List S32) (hn : l.length ≤ 1000000) : ∀ k, l.length < k → wear_Total.f k l = some (sum l % 18446744073709551616) := by
  intro k hk
  have h := total_loop l hn l.length (l.length + 1) 0 0 (by omega) (by omega) (by omega) (by omega) (by omega)
  refine at_rounds (wear_Total.mono l) (by omega : l.length + 1 ≤ k) ?_
  unfold wear_Total.f
  rw [show ((0 : Nat) : Int) = 0 from rfl] at h
  rw [h]
  simp

theorem spread_same (l : List S32) : ∀ (k : Nat) (a b i : Int), wear_Spread.l0 k a b l l.length i = tegularef19_Spread.l0 k l a b i := by
  intro k
  induction k with
  | zero => intro a b i; rfl
  | succ k ih =>
    intro a b i
    simp only [wear_Spread.l0, tegularef19_Spread.l0, ih]
    by_cases h : i < (l.length : Int)
    · simp only [if_pos h]
    · simp only [if_neg h]
theorem total_same (l : List S32) : ∀ (k : Nat) (a i : Int), wear_Total.l0 k a l l.length i = tegularef19_Total.l0 k l a i := by
  intro k
  induction k with
  | zero => intro a i; rfl
  | succ k ih =>
    intro a i
    simp only [wear_Total.l0, tegularef19_Total.l0, ih]
    by_cases h : i < (l.length : Int)
    · simp only [if_pos h]
    · simp only [if_neg h]

theorem awake_ev : ∀ k, 10 ≤ k → tegulalaw19_awake.f k = some true := by
  intro k hk
  exact at_rounds tegulalaw19_awake.mono hk (by decide +kernel)
end WearSpreadLemmas
open WearSpreadLemmas

theorem WearSpread (l : List S32) (hg : ∀ x ∈ l, (Lit.int .i64 x.f0).wf = true ∧ (Lit.int .i64 x.f1).wf = true ∧ (Lit.int .u64 x.f2).wf = true ∧ (Lit.int .u64 x.f3).wf = true) : ∃ k, tegulalaw19_WearSpread.f k l = some true := by
  by_cases hl : (l.length : Int) > 100
  · refine ⟨11, ?_⟩
    unfold tegulalaw19_WearSpread.f
    rw [awake_ev 11 (by omega)]
    simp only [Option.bind_some, if_true]
    rw [decide_eq_true hl]
    simp only [tegulalaw19_WearSpread.j0]
    rw [awake_ev 10 (by omega)]
    rfl
  · obtain ⟨r, h⟩ := spread_some l (by omega)
    have t := total_ev l (by omega)
    refine ⟨l.length + 12, ?_⟩
    unfold tegulalaw19_WearSpread.f
    rw [awake_ev _ (by omega)]
    simp only [Option.bind_some, if_true]
    rw [decide_eq_false hl]
    simp only [tegulalaw19_WearSpread.j0]
    have e : tegularef19_Spread.f (l.length + 11) l = some r := by
      rw [← h (l.length + 11) (by omega)]
      unfold tegularef19_Spread.f wear_Spread.f
      simp only [spread_same]
    have e2 : tegularef19_Total.f (l.length + 11) l = some (sum l % 18446744073709551616) := by
      rw [← t (l.length + 11) (by omega)]
      unfold tegularef19_Total.f wear_Total.f
      simp only [total_same]
    rw [h _ (by omega), e, t _ (by omega), e2]
    simp
end Go.Proofs.Ytfejlnlknkklmaa.Pure
