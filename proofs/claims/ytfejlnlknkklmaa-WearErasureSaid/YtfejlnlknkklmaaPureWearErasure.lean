/- Erasing a band adds 1 to Total and changes Spread by at most 1 (at most 100 bands). -/
import Derived.Test.YtfejlnlknkklmaaPWearErasurex2
namespace Go.Proofs.Ytfejlnlknkklmaa.Pure
open Go.RowKit Go.Proofs.Ytfejlnlknkklmaa.PWearErasure Go.Proofs.YtfejlnlknkklmaaW.PrintWords Go.Proofs.YtfejlnlknkklmaaW.PrintLast Go.Proofs.YtfejlnlknkklmaaW.PrintMore
set_option linter.unusedVariables false
set_option linter.unusedSimpArgs false
namespace WearErasureLemmas
def Good (l : List S32) : Prop := ∀ x ∈ l, (Lit.int .i64 x.f0).wf = true ∧ (Lit.int .i64 x.f1).wf = true ∧ (Lit.int .u64 x.f2).wf = true ∧ (Lit.int .u64 x.f3).wf = true
theorem u64_wrap (n : Int) : IntKind.u64.wrap n = n % 18446744073709551616 := by
  simp [IntKind.wrap, IntKind.bits, IntKind.signed]
theorem u64_wf (n : Int) : (Lit.int .u64 n).wf = true ↔ 0 ≤ n ∧ n < 18446744073709551616 := by
  simp [Lit.wf, IntKind.min, IntKind.max, IntKind.bits, IntKind.signed]
  omega
theorem wrap_next {i : Int} {n : Nat} (h0 : 0 ≤ i) (h : i < (n : Int)) (hn : n ≤ 1000000) : wrap64 (i + 1) = i + 1 := by
  unfold wrap64; omega
theorem rd_bound {l : List S32} (hg : ∀ x ∈ l, 0 ≤ x.f3 ∧ x.f3 < 18446744073709551616) (i : Int) : 0 ≤ (rd_T32 l i).f3 ∧ (rd_T32 l i).f3 < 18446744073709551616 := by
  unfold rd_T32
  rw [List.getD_eq_getElem?_getD]
  cases h : l[i.toNat]? with
  | none => simp [z32]
  | some x => exact hg x (List.mem_of_getElem? h)

structure Span (l : List S32) (n lo hi : Int) : Prop where
  h : (∀ j : Int, 0 ≤ j → j < n → lo ≤ (rd_T32 l j).f3 ∧ (rd_T32 l j).f3 ≤ hi) ∧ (∃ j : Int, 0 ≤ j ∧ j < l.length ∧ (rd_T32 l j).f3 = lo) ∧ (∃ j : Int, 0 ≤ j ∧ j < l.length ∧ (rd_T32 l j).f3 = hi) ∧ lo ≤ hi
theorem Span.next {l : List S32} {i lo hi : Int} (h0 : 0 ≤ i) (h1 : i < l.length) (h : Span l i lo hi) : Span l (i + 1) (mn lo (rd_T32 l i).f3) (mx hi (rd_T32 l i).f3) := by
  obtain ⟨ha, ⟨j1, a0, a1, a2⟩, ⟨j2, b0, b1, b2⟩, hle⟩ := h.h
  refine ⟨fun j j0 j1 => ?_, ?_, ?_, ?_⟩
  · by_cases e : j = i
    · subst e; unfold mn mx; constructor <;> split <;> omega
    · have := ha j j0 (by omega)
      unfold mn mx; constructor <;> split <;> omega
  · unfold mn
    split
    · exact ⟨i, h0, h1, rfl⟩
    · exact ⟨j1, a0, a1, a2⟩
  · unfold mx
    split
    · exact ⟨i, h0, h1, rfl⟩
    · exact ⟨j2, b0, b1, b2⟩
  · unfold mn mx; split <;> split <;> omega
theorem spread_loop (l : List S32) (hn : l.length ≤ 1000000) (d : Nat) : ∀ (k : Nat) (lo hi i : Int), 0 ≤ i → i ≤ l.length → (l.length : Int) - i = d → d < k → Span l i lo hi →
    ∃ a b, wear_Spread.l0 k lo hi l l.length i = some (IntKind.u64.wrap (b - a)) ∧ Span l l.length a b := by
  induction d with
  | zero =>
    intro k lo hi i h0 h1 hd hk hI
    obtain ⟨k, rfl⟩ : ∃ m, k = m + 1 := ⟨k - 1, by omega⟩
    have hi : i = (l.length : Int) := by omega
    subst hi
    simp only [wear_Spread.l0]
    rw [if_neg (by omega)]
    exact ⟨_, _, rfl, hI⟩
  | succ d ih =>
    intro k lo hi i h0 h1 hd hk hI
    obtain ⟨k, rfl⟩ : ∃ m, k = m + 1 := ⟨k - 1, by omega⟩
    have hlt : i < (l.length : Int) := by omega
    simp only [wear_Spread.l0]
    rw [if_pos hlt, if_pos h0, if_pos hlt, wrap_next h0 hlt hn]
    exact ih k _ _ (i + 1) (by omega) (by omega) (by omega) (by omega) (hI.next h0 hlt)
theorem spread_ev (l : List S32) (hn : l.length ≤ 1000000) (hg : ∀ x ∈ l, 0 ≤ x.f3 ∧ x.f3 < 18446744073709551616) (hl : 0 < l.length) :
    ∃ a b, Span l l.length a b ∧ 0 ≤ a ∧ b < 18446744073709551616 ∧ ∀ k, l.length < k → wear_Spread.f k l = some (b - a) := by
  obtain ⟨a, b, h, hp⟩ := spread_loop l hn l.length (l.length + 1) (rd_T32 l 0).f3 (rd_T32 l 0).f3 0 (by omega) (by omega) (by omega) (by omega) ⟨fun j h0 h1 => by omega, ⟨0, by omega, by omega, rfl⟩, ⟨0, by omega, by omega, rfl⟩, Int.le_refl _⟩
  obtain ⟨_, ⟨ja, _, _, ea⟩, ⟨jb, _, _, eb⟩, hle⟩ := hp.h
  have b1 := rd_bound hg ja
  have b2 := rd_bound hg jb
  refine ⟨a, b, hp, by omega, by omega, fun k hk => at_rounds (wear_Spread.mono l) (by omega : l.length + 1 ≤ k) ?_⟩
  unfold wear_Spread.f
  rw [if_neg (by omega), if_pos (by omega), h, u64_wrap]
  congr 1
  omega
theorem spread_some (l : List S32) (hn : l.length ≤ 1000000) : ∃ r, ∀ k, l.length < k → wear_Spread.f k l = some r := by
  by_cases hl : 0 < l.length
  · obtain ⟨a, b, h, hp⟩ := spread_loop l hn l.length (l.length + 1) (rd_T32 l 0).f3 (rd_T32 l 0).f3 0 (by omega) (by omega) (by omega) (by omega) ⟨fun j h0 h1 => by omega, ⟨0, by omega, by omega, rfl⟩, ⟨0, by omega, by omega, rfl⟩, Int.le_refl _⟩
    refine ⟨_, fun k hk => at_rounds (wear_Spread.mono l) (by omega : l.length + 1 ≤ k) (r := IntKind.u64.wrap (b - a)) ?_⟩
    unfold wear_Spread.f
    rw [if_neg (by omega), if_pos (by omega), h]
  · refine ⟨0, fun k hk => ?_⟩
    unfold wear_Spread.f
    rw [if_pos (by omega)]

def sum : List S32 → Int
  | [] => 0
  | x :: r => x.f3 + sum r
theorem rd_nat (l : List S32) (i : Nat) (h : i < l.length) : rd_T32 l (i : Int) = l[i] := by
  unfold rd_T32
  rw [Int.toNat_natCast, List.getD_eq_getElem?_getD, List.getElem?_eq_getElem h]
  rfl
theorem total_loop (l : List S32) (hn : l.length ≤ 1000000) (d : Nat) : ∀ (k : Nat) (acc : Int) (i : Nat), i ≤ l.length → l.length - i = d → d < k → 0 ≤ acc → acc < 18446744073709551616 →
    wear_Total.l0 k acc l l.length i = some ((acc + sum (l.drop i)) % 18446744073709551616) := by
  induction d with
  | zero =>
    intro k acc i h1 hd hk a0 a1
    obtain ⟨k, rfl⟩ : ∃ m, k = m + 1 := ⟨k - 1, by omega⟩
    have hi : i = l.length := by omega
    subst hi
    simp only [wear_Total.l0]
    rw [if_neg (by omega), List.drop_length]
    simp only [sum]
    congr 1
    omega
  | succ d ih =>
    intro k acc i h1 hd hk a0 a1
    obtain ⟨k, rfl⟩ : ∃ m, k = m + 1 := ⟨k - 1, by omega⟩
    have hlt : i < l.length := by omega
    simp only [wear_Total.l0]
    rw [if_pos (by omega), if_pos (by omega), if_pos (by omega), wrap_next (by omega) (by omega : (i : Int) < (l.length : Int)) hn, rd_nat l i hlt, u64_wrap]
    rw [show ((i : Int) + 1) = ((i + 1 : Nat) : Int) from by omega, ih k _ (i + 1) (by omega) (by omega) (by omega) (by omega) (by omega), List.drop_eq_getElem_cons hlt]
    simp only [sum]
    congr 1
    omega
theorem total_ev (l : List S32) (hn : l.length ≤ 1000000) : ∀ k, l.length < k → wear_Total.f k l = some (sum l % 18446744073709551616) := by
  intro k hk
  have h := total_loop l hn l.length (l.length + 1) 0 0 (by omega) (by omega) (by omega) (by omega) (by omega)
  refine at_rounds (wear_Total.mono l) (by omega : l.length + 1 ≤ k) ?_
  unfold wear_Total.f
  rw [show ((0 : Nat) : Int) = 0 from rfl] at h
  rw [h]
  simp

theorem rd_set (l : List S32) (n : Int) (x : S32) (h0 : 0 ≤ n) (h1 : n < l.length) (j : Int) (j0 : 0 ≤ j) : rd_T32 (l.set n.toNat x) j = if j = n then x else rd_T32 l j := by
  unfold rd_T32
  rw [List.getD_eq_getElem?_getD, List.getD_eq_getElem?_getD, List.getElem?_set]
  by_cases e : j = n
  · subst e
    rw [if_pos rfl, if_pos rfl, if_pos (by omega)]
    rfl
  · rw [if_neg (by omega), if_neg e]
theorem reset_is (l : List S32) (hn : l.length ≤ 1000000) (n : Int) (h0 : 0 ≤ n) (h1 : n < l.length) (hw : 0 ≤ (rd_T32 l n).f3 ∧ (rd_T32 l n).f3 < 18446744073709551615) :
    tegularef16_Reset.f l n = some (l.set n.toNat ⟨0, 0, 0, (rd_T32 l n).f3 + 1⟩, 0) := by
  unfold tegularef16_Reset.f tegularef16_with.f
  rw [if_neg (by omega), if_neg (by omega), if_pos h0, if_pos h1]
  simp only [Option.bind_some, List.nil_append, List.length_nil, Nat.zero_add]
  rw [if_pos (by omega)]
  rw [if_pos h0, if_pos h1, u64_wrap]
  simp only [Option.bind_some]
  rw [show ((rd_T32 l n).f3 + 1) % 18446744073709551616 = (rd_T32 l n).f3 + 1 from by omega]
theorem set_bound {l : List S32} {n : Nat} {x : S32} {B : Int} (hg : ∀ y ∈ l, 0 ≤ y.f3 ∧ y.f3 < B) (hx : 0 ≤ x.f3 ∧ x.f3 < B) : ∀ y ∈ l.set n x, 0 ≤ y.f3 ∧ y.f3 < B := by
  intro y hy
  rcases List.mem_or_eq_of_mem_set hy with h | h
  · exact hg y h
  · subst h; exact hx

theorem sum_set (l : List S32) : ∀ (n : Nat) (h : n < l.length) (x : S32), sum (l.set n x) = sum l - (l[n]).f3 + x.f3 := by
  induction l with
  | nil => intro n h; simp at h
  | cons a r ih =>
    intro n h x
    cases n with
    | zero => simp only [List.set_cons_zero, sum, List.getElem_cons_zero]; omega
    | succ n =>
      simp only [List.set_cons_succ, sum, List.getElem_cons_succ]
      rw [ih n (by simpa using h) x]
      omega

theorem awake_ev : ∀ k, 10 ≤ k → tegulalaw19_awake.f k = some true := by
  intro k hk
  exact at_rounds tegulalaw19_awake.mono hk (by decide +kernel)
end WearErasureLemmas
open WearErasureLemmas

theorem WearErasure (l : List S32) (a1 : Int) (hg : ∀ x ∈ l, (Lit.int .i64 x.f0).wf = true ∧ (Lit.int .i64 x.f1).wf = true ∧ (Lit.int .u64 x.f2).wf = true ∧ (Lit.int .u64 x.f3).wf = true) (hw : (Lit.int .i64 a1).wf = true) : ∃ k, tegulalaw19_WearErasure.f k l a1 = some true := by
  have hb : ∀ x ∈ l, 0 ≤ x.f3 ∧ x.f3 < 18446744073709551616 := fun x hx => (u64_wf x.f3).1 (hg x hx).2.2.2
  have hstop : ∀ k, 10 ≤ k → tegulalaw19_WearErasure.j0 (k + 1) l a1 true = some true := by
    intro k hk
    simp only [tegulalaw19_WearErasure.j0]
    rw [awake_ev k hk]
    rfl
  by_cases hl : (l.length : Int) > 100
  · refine ⟨11, ?_⟩
    unfold tegulalaw19_WearErasure.f
    rw [awake_ev 11 (by omega)]
    simp only [Option.bind_some, if_true]
    rw [if_pos hl]
    exact hstop 10 (by omega)
  by_cases h0 : a1 < 0
  · refine ⟨11, ?_⟩
    unfold tegulalaw19_WearErasure.f
    rw [awake_ev 11 (by omega)]
    simp only [Option.bind_some, if_true]
    rw [if_neg hl, if_pos h0]
    exact hstop 10 (by omega)
  by_cases h1 : a1 ≥ (l.length : Int)
  · refine ⟨11, ?_⟩
    unfold tegulalaw19_WearErasure.f
    rw [awake_ev 11 (by omega)]
    simp only [Option.bind_some, if_true]
    rw [if_neg hl, if_neg h0, if_pos h1]
    exact hstop 10 (by omega)
  by_cases hmax : (rd_T32 l a1).f3 = 18446744073709551615
  · refine ⟨11, ?_⟩
    unfold tegulalaw19_WearErasure.f
    rw [awake_ev 11 (by omega)]
    simp only [Option.bind_some, if_true]
    rw [if_neg hl, if_neg h0, if_neg h1, if_pos (by omega), if_pos (by omega), beq_iff_eq.2 hmax]
    exact hstop 10 (by omega)
  have wb := rd_bound hb a1
  have hr := reset_is l (by omega) a1 (by omega) (by omega) (by omega)
  have hb' : ∀ x ∈ l.set a1.toNat ⟨0, 0, 0, (rd_T32 l a1).f3 + 1⟩, 0 ≤ x.f3 ∧ x.f3 < 18446744073709551616 := set_bound hb (by simp only; omega)
  have hlen : (l.set a1.toNat ⟨0, 0, 0, (rd_T32 l a1).f3 + 1⟩).length = l.length := List.length_set
  have hrd := rd_set l a1 ⟨0, 0, 0, (rd_T32 l a1).f3 + 1⟩ (by omega) (by omega)
  have hsum : sum (l.set a1.toNat ⟨0, 0, 0, (rd_T32 l a1).f3 + 1⟩) = sum l + 1 := by
    have e := rd_nat l a1.toNat (by omega)
    rw [Int.toNat_of_nonneg (by omega)] at e
    rw [sum_set l a1.toNat (by omega), ← e]
    simp only
    omega
  generalize l.set a1.toNat ⟨0, 0, 0, (rd_T32 l a1).f3 + 1⟩ = l' at *
  obtain ⟨a, b, s1, sa, sb, hs⟩ := spread_ev l (by omega) hb (by omega)
  obtain ⟨a', b', s2, sa', sb', hs'⟩ := spread_ev l' (by omega) hb' (by omega)
  have ht := total_ev l (by omega)
  have ht' := total_ev l' (by omega)
  obtain ⟨ha, ⟨i1, p0, p1, p2⟩, ⟨i2, q0, q1, q2⟩, hab⟩ := s1.h
  obtain ⟨ha', ⟨j1, u0, u1, u2⟩, ⟨j2, v0, v1, v2⟩, hab'⟩ := s2.h
  have key : (a' = a ∨ a' = a + 1) ∧ (b' = b ∨ b' = b + 1) := by
    rw [hlen] at u1 v1
    have g1 := ha j1 u0 u1
    have g2 := ha j2 v0 v1
    have g3 := ha' i1 p0 (by omega)
    have g4 := ha' i2 q0 (by omega)
    rw [hrd j1 u0] at u2
    rw [hrd j2 v0] at v2
    rw [hrd i1 p0] at g3
    rw [hrd i2 q0] at g4
    have g5 := ha a1 (by omega) (by omega)
    have g6 := ha' a1 (by omega) (by omega)
    rw [hrd a1 (by omega), if_pos rfl] at g6
    simp only at g6
    constructor
    · by_cases e1 : j1 = a1
      · subst e1
        rw [if_pos rfl] at u2
        simp only at u2
        by_cases e2 : i1 = j1
        · subst e2; omega
        · rw [if_neg e2] at g3; omega
      · rw [if_neg e1] at u2
        by_cases e2 : i1 = a1
        · subst e2; omega
        · rw [if_neg e2] at g3; omega
    · by_cases e1 : j2 = a1
      · subst e1
        rw [if_pos rfl] at v2
        simp only at v2
        by_cases e2 : i2 = j2
        · subst e2; omega
        · rw [if_neg e2] at g4; omega
      · rw [if_neg e1] at v2
        by_cases e2 : i2 = a1
        · subst e2; omega
        · rw [if_neg e2] at g4; omega
  refine ⟨l.length + 12, ?_⟩
  unfold tegulalaw19_WearErasure.f
  rw [awake_ev _ (by omega)]
  simp only [Option.bind_some, if_true]
  rw [if_neg hl, if_neg h0, if_neg h1, if_pos (by omega), if_pos (by omega), beq_eq_false_iff_ne.2 hmax]
  simp only [tegulalaw19_WearErasure.j0]
  rw [if_neg (by simp), hr]
  simp only [Option.bind_some]
  rw [hs _ (by omega), hs' _ (by omega), ht' _ (by omega), ht _ (by omega)]
  simp only [Option.bind_some]
  rw [hsum, u64_wrap, u64_wrap, u64_wrap, if_pos (by omega)]
  by_cases c1 : b - a = b' - a'
  · rw [if_pos c1]
  · rw [if_neg c1]
    by_cases c2 : b - a = (b' - a' + 1) % 18446744073709551616
    · rw [if_pos c2]
    · rw [if_neg c2]
      congr 1
      rw [beq_iff_eq]
      omega
end Go.Proofs.Ytfejlnlknkklmaa.Pure
