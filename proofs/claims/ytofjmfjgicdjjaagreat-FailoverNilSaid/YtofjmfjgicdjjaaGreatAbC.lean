/- The abstract machine, part 9: operations that make nothing and change nothing (slicing, maps, lengths, literals). -/
import Derived.Test.YtofjmfjgicdjjaaGreatAbB
import Derived.Laws.StructEq
import Derived.DeepKeys
import Derived.DeepKeys3
set_option linter.unusedVariables false
set_option linter.unusedSimpArgs false
namespace Go.Proofs.YtofjmfjgicdjjaaGreat.Ab
open Go
section
variable {P : Program} {E : Env} {w : World} {μ : Mu} {OkC : Cx} {pd : Nat → Prop} {h : AHeap}
variable {ρ : Operand → Option AT} {σ : Operand → Value} (hρ : Reads μ ρ σ)

include hρ in
theorem boundA_sound {x : Operand} {dflt top n : Nat} {code : BoundsCode} {d : Nat} (htop : top ≤ d) (e : boundA ρ (some x) dflt top = some n) : n ≤ top ∧ (Instr.sliceBound (σ x) d code).run P w = .ok n w := by
  simp only [boundA] at e
  split at e <;> try (cases e; done)
  rename_i m hm
  obtain ⟨k, hk⟩ := asNat_some hm
  cases hb : Nat.ble m top <;> rw [hb] at e <;> simp only [] at e <;> try (cases e; done)
  injection e with e
  subst e
  have hle := ble_true hb
  have hv : σ x = .int k (m : Int) := hρ x _ hk
  refine ⟨hle, ?_⟩
  unfold Instr.sliceBound
  simp only [hv, asIntOf, Sem.run_bind, Sem.run_pure, Result.andThen_ok]
  rw [if_pos (by omega)]
  rfl
include hρ in
/-- The bounds of a slice expression; the true capacity d may be greater than the known one where no third index stands. -/
theorem boundsA_sound {isSlice : Bool} {len cap d : Nat} {lo hi mx : Option Operand} {b : Bnd} (hcap : cap ≤ d) (hlen : len ≤ cap) (e : boundsA ρ len cap lo hi mx = some b) :
    b.l ≤ b.h ∧ b.h ≤ b.m ∧ b.m ≤ cap ∧ (mx = none → b.m = cap) ∧ (Instr.sliceBounds isSlice len d (lo.map σ) (hi.map σ) (mx.map σ)).run P w = .ok (b.l, b.h, if mx.isSome then b.m else d) w := by
  unfold boundsA at e
  split at e <;> try (cases e; done)
  rename_i m hm
  split at e <;> try (cases e; done)
  rename_i hh hhe
  split at e <;> try (cases e; done)
  rename_i l hl
  injection e with e
  subst e
  cases mx with
  | none =>
    simp only [boundA] at hm
    injection hm with hm
    subst hm
    simp only [] at hhe
    cases hi with
    | none =>
      simp only [boundA] at hhe
      injection hhe with hhe
      subst hhe
      cases lo with
      | none =>
        simp only [boundA] at hl
        injection hl with hl
        subst hl
        refine ⟨Nat.zero_le _, hlen, Nat.le_refl _, fun _ => rfl, ?_⟩
        simp [Instr.sliceBounds]
      | some x =>
        obtain ⟨h1, h2⟩ := boundA_sound (P := P) (w := w) (code := .sliceB) hρ (Nat.le_refl _) hl
        refine ⟨h1, hlen, Nat.le_refl _, fun _ => rfl, ?_⟩
        simp [Instr.sliceBounds, h2]
    | some y =>
      have hy1 := boundA_sound (P := P) (w := w) (code := .sliceAcap) hρ hcap hhe
      have hy2 := boundA_sound (P := P) (w := w) (code := .sliceAlen) hρ hcap hhe
      cases lo with
      | none =>
        simp only [boundA] at hl
        injection hl with hl
        subst hl
        refine ⟨Nat.zero_le _, hy1.1, Nat.le_refl _, fun _ => rfl, ?_⟩
        cases isSlice <;> simp [Instr.sliceBounds, hy1.2, hy2.2]
      | some x =>
        obtain ⟨h1, h2⟩ := boundA_sound (P := P) (w := w) (code := .sliceB) hρ (Nat.le_refl _) hl
        refine ⟨h1, hy1.1, Nat.le_refl _, fun _ => rfl, ?_⟩
        cases isSlice <;> simp [Instr.sliceBounds, h2, hy1.2, hy2.2]
  | some z =>
    have hz1 := boundA_sound (P := P) (w := w) (code := .slice3Acap) hρ hcap hm
    have hz2 := boundA_sound (P := P) (w := w) (code := .slice3Alen) hρ hcap hm
    simp only [] at hhe
    cases hi with
    | none => cases hhe
    | some y =>
      simp only [] at hhe
      have hy := boundA_sound (P := P) (w := w) (code := .slice3B) hρ (Nat.le_refl _) hhe
      cases lo with
      | none =>
        simp only [boundA] at hl
        injection hl with hl
        subst hl
        refine ⟨Nat.zero_le _, hy.1, hz1.1, (fun h => by cases h), ?_⟩
        cases isSlice <;> simp [Instr.sliceBounds, hz1.2, hz2.2, hy.2]
      | some x =>
        obtain ⟨h1, h2⟩ := boundA_sound (P := P) (w := w) (code := .slice3C) hρ (Nat.le_refl _) hl
        refine ⟨h1, hy.1, hz1.1, (fun h => by cases h), ?_⟩
        cases isSlice <;> simp [Instr.sliceBounds, hz1.2, hz2.2, hy.2, h2]

theorem beqN {a b : Nat} (h : Nat.beq a b = true) : a = b := Nat.eq_of_beq_eq_true h
theorem beqN_self (a : Nat) : Nat.beq a a = true := by rw [Nat.beq_eq]
theorem mkSl_some {b o s op : Nat} {x : Bnd} {a : AT} (e : mkSl b o s x op = some a) : a = .v (.one (.sl b (if x.m = x.l then o else o + x.l * s) (x.h - x.l) (x.m - x.l) op)) := by
  unfold mkSl at e
  rw [forceN_eq, forceN_eq, forceN_eq] at e
  injection e with e
  subst e
  congr 3
  by_cases hc : x.m = x.l
  · rw [if_pos hc, hc, beqN_self]
  · rw [if_neg hc]
    cases hb : Nat.beq x.m x.l
    · rfl
    · exact absurd (beqN hb) hc
/-- What the model's slice expression makes of a slice. -/
theorem run_slice_slice {t el : TypeId} {s : Nat} {ad : Option Addr} {len d l hh m : Nat} {lo hi mx : Option Value} (hu : P.underlying t = some (.slice el)) (hs : (sizeOf el).run P w = .ok s w)
    (hb : (Instr.sliceBounds true len d lo hi mx).run P w = .ok (l, hh, m) w) :
    (Instr.sliceAt t (.slice ad len d) lo hi mx).run P w = .ok (.slice (if m = l then ad else ad.map (·.add (l * s))) (hh - l) (m - l)) w := by
  unfold Instr.sliceAt
  simp only [Sem.run_bind, run_underlying hu, Result.andThen_ok]
  unfold Instr.slice
  simp only [Sem.run_bind, run_underlying hu, Result.andThen_ok, hb, hs, Sem.run_pure]
include hρ in
theorem vSlice_sound (hE : EnvOk P E) {t : TypeId} {x : Operand} {lo hi mx : Option Operand} {a : AT} (e : vSlice E ρ t x lo hi mx = some a) :
    ∃ u, (Instr.sliceAt t (σ x) (lo.map σ) (hi.map σ) (mx.map σ)).run P w = .ok u w ∧ RT μ a u := by
  unfold vSlice at e
  split at e <;> try (cases e; done)
  rename_i i hi'
  have ti := hE.tys t i hi'
  split at e <;> try (cases e; done)
  · rename_i n el hd
    have hu : P.underlying t = some (.array n el) := by rw [ti.under, hd]
    split at e <;> try (cases e; done)
    rename_i b o hx
    obtain ⟨c, K, h1, hv⟩ : ∃ c K, μ b = some (c, K) ∧ σ x = .pointer (some ⟨c, o, none⟩) := hρ x _ hx
    split at e <;> try (cases e; done)
    rename_i bd hbd
    split at e <;> try (cases e; done)
    rename_i te hte
    obtain ⟨k1, k2, k3, k4, k5⟩ := boundsA_sound (P := P) (w := w) (isSlice := false) hρ (Nat.le_refl n) (Nat.le_refl n) hbd
    obtain rfl := mkSl_some e
    refine ⟨.slice (some ⟨c, if bd.m = bd.l then o else o + bd.l * te.size, none⟩) (bd.h - bd.l) (bd.m - bd.l), ?_, c, K, _, h1, rfl, by omega, Nat.le_refl _, fun _ => rfl, fun h => by cases h⟩
    have hm : (if mx.isSome = true then bd.m else n) = bd.m := by
      cases mx with
      | none => simp [k4 rfl]
      | some _ => rfl
    rw [hm] at k5
    unfold Instr.sliceAt
    simp only [Sem.run_bind, run_underlying hu, Result.andThen_ok, hv, Instr.sureAddr, Sem.run_pure, k5, (hE.tys el te hte).run_size, addr_add]
    by_cases hc : bd.m = bd.l
    · rw [if_pos hc, if_pos hc]
    · rw [if_neg hc, if_neg hc]
  · rename_i el hd
    have hu : P.underlying t = some (.slice el) := by rw [ti.under, hd]
    split at e <;> try (cases e; done)
    rename_i te hte
    have hs := (hE.tys el te hte).run_size (w := w)
    split at e <;> try (cases e; done)
    rename_i a1 hx
    split at e <;> try (cases e; done)
    · rename_i b o len cap opn
      obtain ⟨c, K, cap', h1, hv, h2, h3, h4, h5⟩ : R1 μ (.sl b o len cap opn) (σ x) := hρ x _ hx
      split at e <;> try (cases e; done)
      rename_i bd hbd
      obtain ⟨k1, k2, k3, k4, k5⟩ := boundsA_sound (P := P) (w := w) (isSlice := true) hρ h3 h2 hbd
      rw [hv]
      have hrun := run_slice_slice (ad := some ⟨c, o, none⟩) hu hs k5
      refine ⟨_, hrun, ?_⟩
      clear hrun
      -- the closed case, and that with a third index
      have closed : ∀ cp : Nat, (if mx.isSome = true then bd.m else cap') = bd.m → a = .v (.one (.sl b (if bd.m = bd.l then o else o + bd.l * te.size) (bd.h - bd.l) (bd.m - bd.l) 0)) →
          RT μ a (.slice (if (if mx.isSome = true then bd.m else cap') = bd.l then some ⟨c, o, none⟩ else (some ⟨c, o, none⟩ : Option Addr).map (·.add (bd.l * te.size))) (bd.h - bd.l) ((if mx.isSome = true then bd.m else cap') - bd.l)) := by
        intro cp hm ha
        subst ha
        rw [hm]
        refine ⟨c, K, bd.m - bd.l, h1, ?_, by omega, Nat.le_refl _, fun _ => rfl, fun h => by cases h⟩
        by_cases hc : bd.m = bd.l
        · rw [if_pos hc, if_pos hc]
        · rw [if_neg hc, if_neg hc]; simp [addr_add]
      unfold reslice at e
      cases opn with
      | zero =>
        simp only [] at e
        refine closed 0 ?_ (mkSl_some e)
        cases mx with
        | none => simp only [Option.isSome_none, Bool.false_eq_true, if_false]; rw [k4 rfl, h4 rfl]
        | some _ => rfl
      | succ op =>
        simp only [] at e
        cases mx with
        | some z => exact closed 0 rfl (mkSl_some (by simpa [isSome] using e))
        | none =>
          simp only [isSome, Option.isSome_none, Bool.false_eq_true, if_false] at e ⊢
          have hmc := k4 rfl
          have h5' := h5 (by omega)
          cases hb : Nat.beq bd.m bd.l <;> rw [hb] at e <;> simp only [] at e
          · have hne : bd.m ≠ bd.l := fun h => by rw [h, beqN_self] at hb; cases hb
            cases hos : Nat.beq (op + 1) te.size <;> rw [hos] at e <;> simp only [] at e <;> try (cases e; done)
            have hos' := beqN hos
            obtain rfl := mkSl_some e
            have hbl : bd.l < bd.m := by omega
            rw [if_neg (by omega : ¬ cap' = bd.l), if_neg hne]
            simp only [Option.map_some, addr_add]
            refine ⟨c, K, cap' - bd.l, h1, rfl, by omega, by omega, (fun h => absurd h (Nat.succ_ne_zero _)), fun _ => ?_⟩
            rw [← hos', Nat.add_assoc, ← Nat.add_mul, Nat.add_sub_of_le (by omega)]
            exact h5'
          · have heq := beqN hb
            cases hl0 : bd.l with
            | zero =>
              rw [hl0] at e
              simp only [] at e
              injection e with e
              subst e
              have hh0 : bd.h = 0 := by omega
              simp only [hh0, Nat.sub_zero, Nat.zero_mul]
              refine ⟨c, K, cap', h1, ?_, Nat.le_refl _, Nat.zero_le _, (fun h => absurd h (Nat.succ_ne_zero _)), fun _ => h5'⟩
              split
              · rfl
              · simp [addr_add]
            | succ l' =>
              rw [hl0] at e
              simp only [] at e
              injection e with e
              subst e
              have hh0 : bd.h - (l' + 1) = 0 := by omega
              rw [hh0]
              by_cases hc : cap' = l' + 1
              · rw [if_pos hc]; exact ⟨_, _, rfl⟩
              · rw [if_neg hc]; exact ⟨_, _, rfl⟩
    · have hv : σ x = .slice none 0 0 := hρ x _ hx
      split at e <;> try (cases e; done)
      rename_i bd hbd
      injection e with e
      subst e
      obtain ⟨k1, k2, k3, k4, k5⟩ := boundsA_sound (P := P) (w := w) (isSlice := true) hρ (Nat.le_refl 0) (Nat.le_refl 0) hbd
      have hm : (if mx.isSome = true then bd.m else 0) = 0 := by split <;> omega
      rw [hm] at k5
      have e1 : bd.l = 0 := by omega
      have e2 : bd.h = 0 := by omega
      rw [e1, e2] at k5
      refine ⟨_, ?_, rfl⟩
      rw [hv]
      unfold Instr.sliceAt
      simp only [Sem.run_bind, run_underlying hu, Result.andThen_ok]
      unfold Instr.slice
      simp only [Sem.run_bind, run_underlying hu, Result.andThen_ok, k5]
      simp [hs]
    · obtain ⟨ad, cap', hv⟩ : ∃ x' cap', σ x = .slice (some x') 0 cap' := hρ x _ hx
      split at e <;> try (cases e; done)
      rename_i bd hbd
      injection e with e
      subst e
      obtain ⟨k1, k2, k3, k4, k5⟩ := boundsA_sound (P := P) (w := w) (isSlice := true) (d := cap') hρ (Nat.zero_le _) (Nat.le_refl 0) hbd
      have e1 : bd.l = 0 := by omega
      have e2 : bd.h = 0 := by omega
      rw [e1, e2] at k5
      rw [hv]
      have hrun := run_slice_slice (ad := some ad) hu hs k5
      refine ⟨_, hrun, ad, (if mx.isSome = true then bd.m else cap') - 0, ?_⟩
      simp only [Nat.zero_mul, Nat.sub_self]
      have hadd : (some ad : Option Addr).map (·.add 0) = some ad := by simp [Addr.add]
      rw [hadd, ite_self]

theorem findNow_sound {k : IntKind} {n : Int} : ∀ {es : List (Int × AV × Nat)} {ms : List MapEntry} {i : Nat}, REs μ k es ms →
    ∃ r, Instr.findNow (.int k) (.int k n) ms i = some r ∧ (match findA n es with | some v => ∃ j u, r = some (j, u) ∧ RV μ v u | none => r = none)
  | [], [], i, _ => ⟨none, rfl, rfl⟩
  | [], _ :: _, i, h => by cases h
  | _ :: _, [], i, h => by cases h
  | (j, v, b) :: es, m :: ms, i, ⟨⟨h1, h2, h3⟩, h4⟩ => by
    simp only [Instr.findNow, findA, h1, Instr.sameNow, if_true, eqI_eq]
    cases hb : n == j
    · simp only []
      exact findNow_sound h4
    · exact ⟨_, rfl, _, _, rfl, h2⟩
theorem run_checkKey_int {b : Bool} {n : Nat} {kt : TypeId} {k : IntKind} {v : Value} (hu : P.underlying kt = some (.int k)) (hv : ∃ x, v = .int k x) : (Instr.checkKey b (n + 1) kt v).run P w = .ok () w := by
  obtain ⟨x, rfl⟩ := hv
  simp only [Instr.checkKey, Sem.run_bind, run_underlying hu, Result.andThen_ok]
  rfl
theorem lookR_sound {ok : Bool} {v : AV} {u : Value} {b : Bool} {a : AT} (hv : RV μ v u) (e : lookR ok v b = some a) : RT μ a (if ok then .tuple #[u, .bool b] else u) := by
  cases ok <;> simp only [lookR] at e <;> injection e with e <;> subst e
  · exact hv
  · exact ⟨[u, .bool b], rfl, hv, rfl, trivial⟩
theorem vLookup_sound (hE : EnvOk P E) (hr : Rel OkC μ pd h w) {t : TypeId} {x i : Option AT} {v u0 : Value} {ok : Bool} {a : AT} (hx : ∀ b, x = some b → RT μ b v) (hi : ∀ b, i = some b → RT μ b u0) (e : vLookup E h t x i ok = some a) :
    ∃ u, (Instr.lookup t v u0 ok).run P w = .ok u w ∧ RT μ a u := by
  unfold vLookup at e
  split at e <;> try (cases e; done)
  rename_i ti0 ht
  have ti := hE.tys t ti0 ht
  split at e <;> try (cases e; done)
  rename_i kt el hd
  split at e <;> try (cases e; done)
  rename_i ik hk
  split at e <;> try (cases e; done)
  rename_i k hkd
  split at e <;> try (cases e; done)
  rename_i k' n
  have hu0 : u0 = .int k' n := hi _ rfl
  cases hs : sameK k k' <;> rw [hs] at e <;> simp only [] at e <;> try (cases e; done)
  obtain rfl := sameK_eq hs
  subst hu0
  split at e <;> try (cases e; done)
  rename_i r
  obtain ⟨c, K, h1, rfl⟩ : ∃ c K, μ r = some (c, K) ∧ v = .map (some c) := hx _ rfl
  split at e <;> try (cases e; done)
  rename_i ko es clock hget
  obtain ⟨c', K', ob, g1, g2, ens, rfl, g3⟩ := hr.obj r _ hget (hr.nopd h1)
  rw [h1] at g1
  obtain ⟨rfl, rfl⟩ : c = c' ∧ K = K' := by simpa using g1
  have hu : P.underlying t = some (.map kt el) := by rw [ti.under, hd]
  have huk : P.underlying kt = some (.int k) := by rw [(hE.tys kt ik hk).under, hkd]
  cases hs2 : sameK k ko <;> rw [hs2] at e <;> simp only [] at e <;> try (cases e; done)
  obtain rfl := sameK_eq hs2
  obtain ⟨r0, f1, f2⟩ := findNow_sound (n := n) (i := 0) g3
  have hgo : (getObj c).run P w = .ok (.map ens clock) w := by simp [getObj, Sem.run, g2]
  have hck : (Instr.checkKey ens.isEmpty 10000 kt (.int k n)).run P w = .ok () w := run_checkKey_int huk ⟨n, rfl⟩
  have hfk : (Instr.findKey kt (.int k n) ens.toList).run P w = .ok r0 w := by
    unfold Instr.findKey
    simp only [Sem.run_bind, run_underlying huk, Result.andThen_ok, f1, Sem.run_pure]
  have hmain : ∀ vv bb, (match r0 with | some (_, x) => (pure (x, true) : Sem (Value × Bool)) | none => do pure (← zeroValue el, false)).run P w = .ok (vv, bb) w →
      (Instr.lookup t (.map (some c)) (.int k n) ok).run P w = .ok (if ok then .tuple #[vv, .bool bb] else vv) w := by
    intro vv bb hm
    unfold Instr.lookup
    simp only [Sem.run_bind, run_underlying hu, Result.andThen_ok, hgo, Sem.run_pure, hck, hfk]
    cases r0 with
    | none =>
      simp only [Sem.run_bind, Sem.run_pure] at hm ⊢
      cases hz : (zeroValue el).run P w with
      | ok z w1 =>
        rw [hz] at hm
        simp only [Result.andThen_ok] at hm ⊢
        injection hm with hm1 hm2
        injection hm1 with hm3 hm4
        subst hm3 hm4 hm2
        rfl
      | halt x w1 => rw [hz] at hm; cases hm
    | some q =>
      obtain ⟨q1, q2⟩ := q
      simp only [Sem.run_pure] at hm ⊢
      injection hm with hm1 hm2
      injection hm1 with hm3 hm4
      subst hm3 hm4
      rfl
  split at e
  · rename_i av hav
    rw [hav] at f2
    obtain ⟨j, u, rfl, hu2⟩ := f2
    exact ⟨_, hmain u true rfl, lookR_sound hu2 e⟩
  · rename_i hav
    rw [hav] at f2
    simp only [] at f2
    subst f2
    split at e <;> try (cases e; done)
    rename_i te hte
    split at e <;> try (cases e; done)
    rename_i z hz
    obtain ⟨zv, z1, z2⟩ := (hE.tys el te hte).run_zero (w := w) hz
    exact ⟨_, hmain zv false (by simp only [Sem.run_bind, z2, Result.andThen_ok, Sem.run_pure]), lookR_sound (z1 μ) e⟩

theorem REs.length {k : IntKind} : ∀ {es : List (Int × AV × Nat)} {ms : List MapEntry}, REs μ k es ms → es.length = ms.length
  | [], [], _ => rfl
  | [], _ :: _, h => by cases h
  | _ :: _, [], h => by cases h
  | (_, _, _) :: _, _ :: _, ⟨_, h⟩ => by simp [REs.length h]
theorem list1 {α : Type} {l : Array α} {x : α} (e : l.toList = [x]) : l = #[x] := by apply Array.ext'; simpa using e
include hρ in
theorem vLen_sound (hE : EnvOk P E) (hr : Rel OkC μ pd h w) {args : Array Operand} {ts : Array TypeId} {rt : TypeId} {a : AT} (e : vLen E h ρ args.toList ts.toList = some a) :
    ∃ u, (Builtin.len_ ts rt (args.map σ)).run P w = .ok u w ∧ RT μ a u := by
  unfold vLen at e
  split at e <;> try (cases e; done)
  rename_i x hargs
  split at e <;> try (cases e; done)
  rename_i t ts' hts
  split at e <;> try (cases e; done)
  rename_i i hi
  have ti := hE.tys t i hi
  split at e <;> try (cases e; done)
  rename_i av hx
  have ht0 : ts[0]? = some t := by rw [← Array.getElem?_toList, hts]; rfl
  have ha0 : (args.map σ)[0]? = some (σ x) := by rw [list1 hargs]; simp
  have hv : RV μ av (σ x) := hρ x _ hx
  unfold Builtin.len_
  simp only [ht0, ha0, Sem.run_bind, ti.run_under, Result.andThen_ok]
  unfold lenV at e
  split at e <;> try (cases e; done)
  · rename_i el hd
    rw [hd]
    unfold lenS at e
    split at e <;> try (cases e; done)
    rename_i a1
    split at e <;> try (cases e; done)
    · injection e with e; subst e
      obtain ⟨c, K, cap', _, hs, _⟩ := hv
      rw [hs]; exact ⟨_, rfl, rfl⟩
    · injection e with e; subst e
      have hs : σ x = .slice none 0 0 := hv
      rw [hs]; exact ⟨_, rfl, rfl⟩
    · injection e with e; subst e
      obtain ⟨ad, cap', hs⟩ := hv
      rw [hs]; exact ⟨_, rfl, rfl⟩
  · rename_i kt el hd
    rw [hd]
    unfold lenM at e
    split at e <;> try (cases e; done)
    rename_i a1
    split at e <;> try (cases e; done)
    · injection e with e; subst e
      have hs : σ x = .map none := hv
      rw [hs]; exact ⟨_, rfl, rfl⟩
    · rename_i r
      obtain ⟨c, K, h1, hs⟩ := hv
      split at e <;> try (cases e; done)
      rename_i ko es clock hget
      obtain ⟨c', K', ob, g1, g2, ens, rfl, g3⟩ := hr.obj r _ hget (hr.nopd h1)
      rw [h1] at g1
      obtain ⟨rfl, rfl⟩ : c = c' ∧ K = K' := by simpa using g1
      obtain rfl := retI_some e
      have hgo : (getObj c).run P w = .ok (.map ens clock) w := by simp [getObj, Sem.run, g2]
      rw [hs]
      refine ⟨.int .i64 ens.size, ?_, ?_⟩
      · simp only [Sem.run_bind, hgo, Result.andThen_ok]
        rfl
      · have := g3.length
        rw [lenL_eq, this]
        simp [RT, RV, R1]
  · rename_i hd
    rw [hd]
    unfold lenStr at e
    split at e <;> try (cases e; done)
    rename_i a1
    split at e <;> try (cases e; done)
    obtain rfl := retI_some e
    rename_i s
    have hs : σ x = .string s := hv
    rw [hs]; exact ⟨_, rfl, rfl⟩
  · rename_i n el hd
    rw [hd]
    injection e with e; subst e
    exact ⟨_, rfl, rfl⟩
  · rename_i ar hd
    rw [hd]
    split at e <;> try (cases e; done)
    rename_i ia hia
    split at e <;> try (cases e; done)
    rename_i n el hda
    injection e with e; subst e
    refine ⟨goInt n, ?_, rfl⟩
    have := (hE.tys ar ia hia).run_under (w := w)
    rw [hda] at this
    simp only [Sem.run_bind, this, Result.andThen_ok]
    rfl
include hρ in
theorem vCap_sound (hE : EnvOk P E) {args : Array Operand} {ts : Array TypeId} {rt : TypeId} {a : AT} (e : vCap E ρ args.toList ts.toList = some a) :
    ∃ u, (Builtin.cap_ ts rt (args.map σ)).run P w = .ok u w ∧ RT μ a u := by
  unfold vCap at e
  split at e <;> try (cases e; done)
  rename_i x hargs
  split at e <;> try (cases e; done)
  rename_i t ts' hts
  split at e <;> try (cases e; done)
  rename_i i hi
  have ti := hE.tys t i hi
  split at e <;> try (cases e; done)
  rename_i el hd
  split at e <;> try (cases e; done)
  rename_i av hx
  have ht0 : ts[0]? = some t := by rw [← Array.getElem?_toList, hts]; rfl
  have ha0 : (args.map σ)[0]? = some (σ x) := by rw [list1 hargs]; simp
  have hv : R1 μ av (σ x) := hρ x _ hx
  unfold Builtin.cap_
  simp only [ht0, ha0, Sem.run_bind, ti.run_under, Result.andThen_ok, hd]
  unfold capV at e
  split at e <;> try (cases e; done)
  · split at e <;> try (cases e; done)
    injection e with e; subst e
    obtain ⟨c, K, cap', _, hs, h2, h3, h4, _⟩ := hv
    rw [hs, h4 rfl]; exact ⟨_, rfl, rfl⟩
  · injection e with e; subst e
    have hs : σ x = .slice none 0 0 := hv
    rw [hs]; exact ⟨_, rfl, rfl⟩
theorem pick2_min (a b : Int) : pick2 false a b = if b < a then b else a := by
  unfold pick2; simp only [ltI_eq]; by_cases h : b < a <;> simp [h]
theorem pick2_max (a b : Int) : pick2 true a b = if a < b then b else a := by
  unfold pick2; simp only [ltI_eq]; by_cases h : a < b <;> simp [h]
include hρ in
theorem minmax_fold {isMax : Bool} {k : IntKind} : ∀ {l : List Operand} {x : Int} {a : AT}, minmaxFrom isMax k ρ x l = some a →
    ∃ u, ((l.map σ).foldlM (if isMax then Builtin.max2 else Builtin.min2) (.int k x)).run P w = .ok u w ∧ RT μ a u
  | [], x, a, e => by
    simp only [minmaxFrom] at e
    injection e with e; subst e
    exact ⟨_, rfl, rfl⟩
  | y :: l, x, a, e => by
    simp only [minmaxFrom] at e
    split at e <;> try (cases e; done)
    rename_i j b hy
    rw [forceI_eq] at e
    have hv : σ y = .int j b := hρ y _ hy
    obtain ⟨u, h1, h2⟩ := minmax_fold e
    refine ⟨u, ?_, h2⟩
    simp only [List.map_cons, List.foldlM_cons, hv, Sem.run_bind]
    cases isMax
    · rw [pick2_min] at h1
      simp only [Bool.false_eq_true, if_false, Builtin.min2, Sem.run_pure, Result.andThen_ok] at h1 ⊢
      exact h1
    · rw [pick2_max] at h1
      simp only [if_true, Builtin.max2, Sem.run_pure, Result.andThen_ok] at h1 ⊢
      exact h1
include hρ in
theorem vMinMax_sound {isMax : Bool} {args : Array Operand} {ts : Array TypeId} {rt : TypeId} {a : AT} (e : vMinMax isMax ρ args.toList = some a) :
    ∃ u, ((if isMax then Builtin.max_ ts rt (args.map σ) else Builtin.min_ ts rt (args.map σ))).run P w = .ok u w ∧ RT μ a u := by
  unfold vMinMax at e
  split at e <;> try (cases e; done)
  rename_i x l hargs
  split at e <;> try (cases e; done)
  rename_i k b hx
  have hv : σ x = .int k b := hρ x _ hx
  obtain ⟨u, h1, h2⟩ := minmax_fold (P := P) (w := w) hρ e
  refine ⟨u, ?_, h2⟩
  have hm : (args.map σ).toList = .int k b :: l.map σ := by simp [hargs, hv]
  cases isMax
  · simp only [Bool.false_eq_true, if_false] at h1 ⊢
    unfold Builtin.min_
    rw [hm]
    exact h1
  · simp only [if_true] at h1 ⊢
    unfold Builtin.max_
    rw [hm]
    exact h1
end
end Go.Proofs.YtofjmfjgicdjjaaGreat.Ab
/- The abstract machine, part 10: literals, choices, map entries. -/
set_option linter.unusedVariables false
set_option linter.unusedSimpArgs false
namespace Go.Proofs.YtofjmfjgicdjjaaGreat.Ab
open Go
section
variable {P : Program} {E : Env} {w : World} {μ : Mu} {OkC : Cx} {pd : Nat → Prop} {h : AHeap}
variable {ρ : Operand → Option AT} {σ : Operand → Value} (hρ : Reads μ ρ σ)

include hρ in
theorem vPick_sound {c x y : Operand} {a : AT} (e : vPick ρ c x y = some a) :
    ∃ u, (do pure (if ← asBool (σ c) then σ x else σ y) : Sem Value).run P w = .ok u w ∧ RT μ a u := by
  unfold vPick at e
  split at e <;> try (cases e; done)
  rename_i t hc
  have hv : σ c = .bool t := hρ c _ hc
  rw [hv]
  cases t <;> simp only [] at e
  · exact ⟨σ y, rfl, hρ y _ e⟩
  · exact ⟨σ x, rfl, hρ x _ e⟩

theorem RL.of_get {μ : Mu} : ∀ {l : List A1} {m : List Value}, l.length = m.length → (∀ (i : Nat) (a : A1), l[i]? = some a → ∃ v, m[i]? = some v ∧ R1 μ a v) → RL μ l m
  | [], [], _, _ => trivial
  | [], _ :: _, h, _ => by simp at h
  | _ :: _, [], h, _ => by simp at h
  | a :: l, v :: m, h, hg => by
    obtain ⟨u, h1, h2⟩ := hg 0 a rfl
    simp at h1
    subst h1
    exact ⟨h2, RL.of_get (by simpa using h) fun i b hi => by simpa using hg (i + 1) b (by simpa using hi)⟩
theorem overlay_some : ∀ {l : List A1} {off : Nat} {xs r : List A1}, overlay l off xs = some r →
    r.length = l.length ∧ (xs ≠ [] → off + xs.length ≤ l.length) ∧ ∀ i : Nat, r[i]? = if off ≤ i ∧ i < off + xs.length then xs[i - off]? else l[i]?
  | [], off, xs, r, e => by
    cases xs with
    | nil => simp [overlay] at e; subst e; exact ⟨rfl, fun h => absurd rfl h, fun i => by rw [if_neg (by simp)]⟩
    | cons x xs => simp [overlay] at e
  | a :: l, 0, [], r, e => by
    simp [overlay] at e; subst e
    exact ⟨rfl, fun h => absurd rfl h, fun i => by rw [if_neg (by simp)]⟩
  | a :: l, 0, x :: xs, r, e => by
    simp only [overlay] at e
    split at e <;> try (cases e; done)
    rename_i q hq
    injection e with e; subst e
    obtain ⟨h1, h2, h3⟩ := overlay_some hq
    refine ⟨by simp [h1], fun _ => ?_, fun i => ?_⟩
    · cases xs with
      | nil => simp
      | cons y ys => have := h2 (by simp); simp at this ⊢; omega
    · cases i with
      | zero => simp
      | succ i =>
        simp only [List.getElem?_cons_succ, h3 i, Nat.zero_le, true_and, Nat.zero_add, List.length_cons, Nat.sub_zero, Nat.add_lt_add_iff_right]
  | a :: l, off + 1, xs, r, e => by
    simp only [overlay] at e
    split at e <;> try (cases e; done)
    rename_i q hq
    injection e with e; subst e
    obtain ⟨h1, h2, h3⟩ := overlay_some hq
    refine ⟨by simp [h1], fun hne => by have := h2 hne; simp; omega, fun i => ?_⟩
    cases i with
    | zero => rw [if_neg (by omega)]; rfl
    | succ i =>
      simp only [List.getElem?_cons_succ, h3 i]
      by_cases hc : off ≤ i ∧ i < off + xs.length
      · rw [if_pos hc, if_pos (by omega)]; congr 1; omega
      · rw [if_neg hc, if_neg (by omega)]
theorem fold_set : ∀ (xs : List Value) (j off : Nat) (cells : Array Value),
    ((xs.zipIdx j).foldl (fun cs p => cs.setIfInBounds (off + p.2) p.1) cells).size = cells.size ∧
    (off + j + xs.length ≤ cells.size → ∀ i : Nat, ((xs.zipIdx j).foldl (fun cs p => cs.setIfInBounds (off + p.2) p.1) cells)[i]? = if off + j ≤ i ∧ i < off + j + xs.length then xs[i - (off + j)]? else cells[i]?)
  | [], j, off, cells => ⟨rfl, fun _ i => by rw [if_neg (by simp)]; rfl⟩
  | x :: xs, j, off, cells => by
    obtain ⟨h1, h2⟩ := fold_set xs (j + 1) off (cells.setIfInBounds (off + j) x)
    simp only [List.zipIdx_cons, List.foldl_cons]
    refine ⟨by rw [h1]; simp, fun hs i => ?_⟩
    rw [h2 (by rw [Array.size_setIfInBounds]; simp at hs; omega) i]
    simp only [List.length_cons] at hs ⊢
    by_cases c : i = off + j
    · subst c
      rw [if_neg (by omega), if_pos (by omega)]
      have : off + j < cells.size := by omega
      simp [this]
    · by_cases c2 : off + (j + 1) ≤ i ∧ i < off + (j + 1) + xs.length
      · rw [if_pos c2, if_pos (by omega)]
        rw [show i - (off + j) = (i - (off + (j + 1))) + 1 from by omega]
        simp
      · rw [if_neg c2, if_neg (by omega), Array.getElem?_setIfInBounds_ne (by omega)]
include hρ in
theorem fillA_sound {place : Nat → Option (Nat × Nat)} {place' : Nat → Option (Nat × Nat)} (hp : ∀ i x, place i = some x → place' i = some x) :
    ∀ {parts : List (Nat × Operand)} {l r : List A1} {cells : Array Value}, RL μ l cells.toList → fillA place ρ parts l = some r →
      ∃ out, Instr.fill place' cells (parts.map fun p => (p.1, σ p.2)) = some out ∧ RL μ r out.toList
  | [], l, r, cells, hl, e => by
    simp only [fillA] at e
    injection e with e; subst e
    exact ⟨cells, rfl, hl⟩
  | (i, x) :: rest, l, r, cells, hl, e => by
    simp only [fillA] at e
    split at e <;> try (cases e; done)
    rename_i a hx
    split at e <;> try (cases e; done)
    rename_i off size hpl
    split at e <;> try (cases e; done)
    rename_i s'
    cases hb : Nat.beq (lenL a.cells) (Nat.succ s') <;> rw [hb] at e <;> simp only [] at e <;> try (cases e; done)
    split at e <;> try (cases e; done)
    rename_i l' hov
    have hsz := beqN hb
    rw [lenL_eq] at hsz
    have hv : RV μ a (σ x) := hρ x _ hx
    have hc := hv.cells
    have hcl := hc.length
    have hll := hl.length
    obtain ⟨o1, o2, o3⟩ := overlay_some hov
    have hne : a.cells ≠ [] := fun h => by rw [h] at hsz; simp at hsz
    have hfit : off + (σ x).cells.size ≤ cells.size := by have := o2 hne; simp at hcl hll; omega
    obtain ⟨f1, f2⟩ := fold_set (σ x).cells.toList 0 off cells
    have hz : ((σ x).cells.zipIdx.foldl (fun cs (x : Value × Nat) => cs.setIfInBounds (off + x.2) x.1) cells) = (((σ x).cells.toList.zipIdx 0).foldl (fun cs p => cs.setIfInBounds (off + p.2) p.1) cells) := by
      rw [← Array.foldl_toList]
      simp
    have f3 := f2 (by simpa using hfit)
    rw [← hz] at f1 f3
    have hnew : RL μ l' ((σ x).cells.zipIdx.foldl (fun cs (x : Value × Nat) => cs.setIfInBounds (off + x.2) x.1) cells).toList := by
      refine RL.of_get (by rw [o1, hll]; simpa using f1.symm) fun i b hi => ?_
      rw [o3 i] at hi
      have f4 := f3 i
      rw [← Array.getElem?_toList] at f4
      by_cases cnd : off ≤ i ∧ i < off + a.cells.length
      · rw [if_pos cnd] at hi
        obtain ⟨u, p1, p2⟩ := hc.get _ _ hi
        refine ⟨u, ?_, p2⟩
        rw [f4, if_pos (by simp at hcl ⊢; omega)]
        exact p1
      · rw [if_neg cnd] at hi
        obtain ⟨u, p1, p2⟩ := hl.get _ _ hi
        refine ⟨u, ?_, p2⟩
        rw [f4, if_neg (by simp at hcl ⊢; omega)]
        simpa using p1
    obtain ⟨out, g1, g2⟩ := fillA_sound hp hnew e
    refine ⟨out, ?_, g2⟩
    simp only [List.map_cons, Instr.fill, hp _ _ hpl]
    rw [if_neg (by
      simp only [Bool.or_eq_true, decide_eq_true_eq, bne_iff_ne, ne_eq, not_or, Decidable.not_not]
      simp at hcl
      omega)]
    exact g1
theorem aggR_some {r : Option (List A1)} {a : AT} (e : aggR r = some a) : ∃ l, r = some l ∧ a = .v (.agg l) := by
  cases r with
  | none => cases e
  | some l => simp only [aggR] at e; injection e with e; exact ⟨l, rfl, e.symm⟩
theorem places_total {P : Program} : ∀ (l : List Field), (∀ f ∈ l, ∃ inf, P.info? f.type = some inf) → ∃ places, l.mapM (fun f => (P.info? f.type).map fun i => (f.offset, i.size)) = some places ∧
    ∀ (i : Nat) (f : Field), l[i]? = some f → places[i]? = some (f.offset, P.cellsOf f.type)
  | [], _ => ⟨[], rfl, fun i f hi => by simp at hi⟩
  | f :: l, h => by
    obtain ⟨inf, h1⟩ := h f (by simp)
    obtain ⟨ps, h2, h3⟩ := places_total l (fun g hg => h g (by simp [hg]))
    refine ⟨(f.offset, inf.size) :: ps, by simp [List.mapM_cons, h1, h2], fun i g hi => ?_⟩
    cases i with
    | zero => simp at hi; subst hi; simp [Program.cellsOf, h1]
    | succ i => simpa using h3 i g (by simpa using hi)
include hρ in
theorem vBuild_sound (hE : EnvOk P E) {t : TypeId} {parts : Array (Nat × Operand)} {a : AT} (e : vBuild E ρ t parts = some a) :
    ∃ u, (Instr.build t (parts.map fun p => (p.1, σ p.2))).run P w = .ok u w ∧ RT μ a u := by
  unfold vBuild at e
  split at e <;> try (cases e; done)
  rename_i i hi
  have ti := hE.tys t i hi
  split at e <;> try (cases e; done)
  rename_i z hz
  obtain ⟨inf, i1, i2, i3⟩ := ti.info
  obtain ⟨zv, z1, z2⟩ := i3 z hz
  have hzc := (z2 μ).cells
  split at e <;> try (cases e; done)
  · rename_i fs hd
    obtain ⟨l, hl, rfl⟩ := aggR_some e
    have hu : P.underlying t = some (.struct fs) := by rw [ti.under, hd]
    obtain ⟨places, p1, p2⟩ := places_total fs.toList (ti.fields fs hd)
    obtain ⟨out, o1, o2⟩ := fillA_sound (place' := (places.toArray[·]?)) hρ (fun j x hj => by
      unfold placeS at hj
      split at hj <;> try (cases hj; done)
      rename_i f hf
      split at hj <;> try (cases hj; done)
      rename_i tf htf
      injection hj with hj
      subst hj
      have := p2 j f (fieldL_get hf)
      rw [(hE.tys _ tf htf).cellsOf] at this
      simpa using this) hzc hl
    refine ⟨.agg out, ?_, out.toList, rfl, o2⟩
    refine run_build w t _ out ?_
    unfold Program.built
    rw [i1, hu]
    simp only [z1, p1]
    rw [← o1]
    simp
  · rename_i n el hd
    have hu : P.underlying t = some (.array n el) := by rw [ti.under, hd]
    split at e <;> try (cases e; done)
    rename_i ie hie
    obtain ⟨l, hl, rfl⟩ := aggR_some e
    obtain ⟨einf, e1, e2, _⟩ := (hE.tys el ie hie).info
    obtain ⟨out, o1, o2⟩ := fillA_sound (place' := fun j => some (j * ie.size, ie.size)) hρ (fun j x hj => by
      simp only [placeA] at hj
      exact hj) hzc hl
    refine ⟨.agg out, ?_, out.toList, rfl, o2⟩
    refine run_build w t _ out ?_
    unfold Program.built
    rw [i1, hu]
    simp only [z1, e1, e2]
    rw [← o1]
    simp

theorem findBorn_sound {k : IntKind} {s : Nat} : ∀ {es : List (Int × AV × Nat)} {ms : List MapEntry} {j : Int} {v : AV}, REs μ k es ms → findBorn s es = some (j, v) →
    ∃ m, ms.find? (·.born == s) = some m ∧ m.key = .int k j ∧ RV μ v m.val
  | [], _, j, v, _, e => by simp [findBorn] at e
  | _ :: _, [], _, _, h, _ => by cases h
  | (j0, v0, b) :: es, m :: ms, j, v, ⟨⟨h1, h2, h3⟩, h4⟩, e => by
    simp only [findBorn] at e
    cases hb : Nat.beq b s <;> rw [hb] at e <;> simp only [] at e
    · have hne : (m.born == s) = false := by
        rw [h3, beq_eq_false_iff_ne]
        intro hh
        rw [hh, beqN_self] at hb
        cases hb
      simp only [List.find?_cons, hne]
      exact findBorn_sound h4 e
    · injection e with e
      injection e with e1 e2
      subst e1 e2
      have hbs := beqN hb
      refine ⟨m, ?_, h1, h2⟩
      simp [List.find?_cons, h3, hbs]
theorem vEntry_sound (hr : Rel OkC μ pd h w) {x : Option AT} {v : Value} {a : AT} (hx : ∀ b, x = some b → RT μ b v) (e : vEntry h x = some a) :
    ∃ u, (Instr.entry v).run P w = .ok u w ∧ RT μ a u := by
  unfold vEntry at e
  split at e <;> try (cases e; done)
  rename_i b o
  obtain ⟨c, K, h1, rfl⟩ := hx _ rfl
  split at e <;> try (cases e; done)
  split at e <;> try (cases e; done)
  rename_i m since seen last hget
  split at e <;> try (cases e; done)
  rename_i mm
  split at e <;> try (cases e; done)
  rename_i s seen'
  split at e <;> try (cases e; done)
  rename_i k es clock hget2
  cases hc : Nat.beq clock last <;> rw [hc] at e <;> simp only [] at e <;> try (cases e; done)
  have hcl := beqN hc
  obtain ⟨c', K', ob, g1, g2, m', rfl, g4⟩ := hr.obj b _ hget (hr.nopd h1)
  rw [h1] at g1
  obtain ⟨rfl, rfl⟩ : c = c' ∧ K = K' := by simpa using g1
  obtain ⟨cm, Km, f1, rfl⟩ := g4
  obtain ⟨c2, K2, ob2, q1, q2, ens, rfl, q4⟩ := hr.obj mm _ hget2 (hr.nopd f1)
  rw [f1] at q1
  obtain ⟨rfl, rfl⟩ : cm = c2 ∧ Km = K2 := by simpa using q1
  cases hfb : findBorn s es with
  | none => rw [hfb] at e; cases e
  | some jv =>
    obtain ⟨j, av⟩ := jv
    rw [hfb] at e
    simp only [entryR] at e
    injection e with e
    subst e
    obtain ⟨me, b1, b2, b3⟩ := findBorn_sound q4 hfb
    refine ⟨.tuple #[me.key, me.val], ?_, [me.key, me.val], rfl, ?_⟩
    · have hg1 : (getObj c).run P w = .ok (.mapIter (some cm) since (s :: seen').reverse.toArray last) w := by simp [getObj, Sem.run, g2]
      have hg2 : (getObj cm).run P w = .ok (.map ens clock) w := by simp [getObj, Sem.run, q2]
      have hback : (s :: seen').reverse.toArray.back? = some s := by simp
      have hfind : ens.find? (fun e => e.born == s) = some me := by rw [← b1]; simp
      have hne : (clock != last) = false := by simp [hcl]
      unfold Instr.entry
      simp only [Sem.run_bind, hg1, Result.andThen_ok, hback, hg2, hne, Bool.false_eq_true, if_false, hfind, Sem.run_pure]
    · exact ⟨b2, b3, trivial⟩
end
end Go.Proofs.YtofjmfjgicdjjaaGreat.Ab
/- The abstract machine, part 11: '=='. -/
set_option linter.unusedVariables false
set_option linter.unusedSimpArgs false
namespace Go.Proofs.YtofjmfjgicdjjaaGreat.Ab
open Go

/-! ### Values that are whole numbers and bools all through -/
def FlatFs (P : Program) (R : TypeId → List LK → Prop) : List Field → Nat → List LK → Prop
  | [], _, ks => ks = []
  | f :: l, off, ks => f.name ≠ "_" ∧ f.offset = off ∧ ∃ kf kr, P.cellsOf f.type = kf.length ∧ R f.type kf ∧ FlatFs P R l (off + kf.length) kr ∧ ks = kf ++ kr
def FlatT (P : Program) : Nat → TypeId → List LK → Prop
  | 0, _, _ => False
  | d + 1, t, ks => (∃ k, P.underlying t = some (.int k) ∧ ks = [.i k]) ∨ (P.underlying t = some .bool ∧ ks = [.b]) ∨
      (∃ n e ke, P.underlying t = some (.array n e) ∧ P.cellsOf e = ke.length ∧ FlatT P d e ke ∧ ks = (List.replicate n ke).flatten) ∨
      (∃ fs, P.underlying t = some (.struct fs) ∧ P.stoodInHeld t = false ∧ FlatFs P (FlatT P d) fs.toList 0 ks)
def MK : List LK → List Value → Prop
  | [], [] => True
  | .i k :: ks, v :: vs => (∃ n, v = .int k n) ∧ MK ks vs
  | .b :: ks, v :: vs => (∃ n, v = .bool n) ∧ MK ks vs
  | _, _ => False
theorem MK.length : ∀ {ks : List LK} {vs : List Value}, MK ks vs → ks.length = vs.length
  | [], [], _ => rfl
  | [], _ :: _, h => by cases h
  | .i _ :: _, [], h => by cases h
  | .b :: _, [], h => by cases h
  | .i k :: ks, v :: vs, ⟨_, h⟩ => by simp [MK.length h]
  | .b :: ks, v :: vs, ⟨_, h⟩ => by simp [MK.length h]
theorem MK.split : ∀ {ks ks' : List LK} {vs : List Value}, MK (ks ++ ks') vs → MK ks (vs.take ks.length) ∧ MK ks' (vs.drop ks.length)
  | [], ks', vs, h => ⟨by simp [MK], by simpa using h⟩
  | .i k :: ks, ks', [], h => by cases h
  | .b :: ks, ks', [], h => by cases h
  | .i k :: ks, ks', v :: vs, ⟨h1, h2⟩ => by obtain ⟨a, b⟩ := MK.split h2; exact ⟨⟨h1, by simpa using a⟩, by simpa using b⟩
  | .b :: ks, ks', v :: vs, ⟨h1, h2⟩ => by obtain ⟨a, b⟩ := MK.split h2; exact ⟨⟨h1, by simpa using a⟩, by simpa using b⟩
/-- A value of type t with these cells. -/
def PV (P : Program) (t : TypeId) (vs : List Value) (v : Value) : Prop :=
  ∃ d, P.underlying t = some d ∧ if isAggD d = true then v = .agg vs.toArray else vs = [v]
section
variable {P : Program}
theorem flat_desc {d : Nat} {t : TypeId} {ks : List LK} (h : FlatT P d t ks) : ∃ ds, P.underlying t = some ds := by
  cases d with
  | zero => cases h
  | succ d =>
    rcases h with ⟨k, h, _⟩ | ⟨h, _⟩ | ⟨n, e, ke, h, _⟩ | ⟨fs, h, _⟩ <;> exact ⟨_, h⟩
theorem run_part_flat {w : World} {d : Nat} {t : TypeId} {kf : List LK} {vs : List Value} {off : Nat} (h : FlatT P d t kf) (hc : P.cellsOf t = kf.length) (hm : MK kf ((vs.drop off).take kf.length)) :
    ∃ v, (part t vs.toArray off).run P w = .ok v w ∧ PV P t ((vs.drop off).take kf.length) v := by
  obtain ⟨ds, hu⟩ := flat_desc h
  obtain ⟨inf, hi⟩ := info_of_underlying hu
  have hagg : (isAgg t).run P w = .ok (isAggD ds) w := by
    unfold isAgg
    simp only [Sem.run_bind, run_underlying hu, Result.andThen_ok]
    cases ds <;> rfl
  unfold part
  simp only [Sem.run_bind, hagg, Result.andThen_ok]
  cases hd : isAggD ds
  · have h1 : kf.length = 1 := by
      cases d with
      | zero => cases h
      | succ d =>
        rcases h with ⟨k, h, rfl⟩ | ⟨h, rfl⟩ | ⟨n, e, ke, h, _⟩ | ⟨fs, h, _⟩
        · rfl
        · rfl
        · rw [hu] at h; injection h with h; subst h; cases hd
        · rw [hu] at h; injection h with h; subst h; cases hd
    have hl := hm.length
    rw [h1] at hl hm ⊢
    cases hdr : vs.drop off with
    | nil => rw [hdr] at hl; simp at hl
    | cons v r =>
      have hg : vs[off]? = some v := by
        have := congrArg (fun l => l[0]?) hdr
        simpa using this
      refine ⟨v, ?_, ds, hu, ?_⟩
      · have : vs.toArray[off]? = some v := by simpa using hg
        simp only [Bool.false_eq_true, if_false, this]
        rfl
      · rw [hd]; simp
  · refine ⟨.agg ((vs.drop off).take kf.length).toArray, ?_, ds, hu, by rw [hd]; simp⟩
    simp only [if_true, Sem.run_bind, run_sizeOf w hi, Result.andThen_ok, Sem.run_pure, hc]
    congr 2
    apply Array.ext'
    simp [List.take_drop, Nat.add_comm]
theorem append_eq_iff {α : Type} {a b c d : List α} (h : a.length = c.length) : a ++ b = c ++ d ↔ a = c ∧ b = d := by
  constructor
  · intro e; exact List.append_inj e h
  · rintro ⟨rfl, rfl⟩; rfl
def EqF (P : Program) (dd : Nat) (t : TypeId) (ks : List LK) : Prop :=
  ∀ (w : World) (xs ys : List Value) (x y : Value), MK ks xs → MK ks ys → PV P t xs x → PV P t ys y → ∃ r : Bool, (Op.equalIn dd t x y).run P w = .ok r w ∧ (r = true ↔ xs = ys)
theorem eqFields_flat {dd d : Nat} {vx vy : List Value} (ih : ∀ t ks, FlatT P d t ks → EqF P dd t ks) : ∀ (l : List Field) (off : Nat) (ks : List LK) (w : World), FlatFs P (FlatT P d) l off ks →
    MK ks (vx.drop off) → MK ks (vy.drop off) → ∃ r : Bool, (Op.eqFields dd vx.toArray vy.toArray l).run P w = .ok r w ∧ (r = true ↔ vx.drop off = vy.drop off)
  | [], off, ks, w, h, hx, hy => by
    subst h
    refine ⟨true, rfl, ?_⟩
    have h1 := hx.length
    have h2 := hy.length
    simp only [List.length_nil] at h1 h2
    rw [List.eq_nil_of_length_eq_zero h1.symm, List.eq_nil_of_length_eq_zero h2.symm]
    simp
  | f :: l, off, ks, w, ⟨hn, ho, kf, kr, hc, hf, hr, he⟩, hx, hy => by
    subst he
    subst ho
    obtain ⟨hx1, hx2⟩ := hx.split
    obtain ⟨hy1, hy2⟩ := hy.split
    obtain ⟨a, a1, a2⟩ := run_part_flat (w := w) hf hc hx1
    obtain ⟨b, b1, b2⟩ := run_part_flat (w := w) hf hc hy1
    obtain ⟨r, r1, r2⟩ := ih _ _ hf w _ _ a b hx1 hy1 a2 b2
    rw [List.drop_drop] at hx2 hy2
    obtain ⟨q, q1, q2⟩ := eqFields_flat ih l _ kr w hr hx2 hy2
    simp only [Op.eqFields, hn, ne_eq, not_false_eq_true, if_true, Sem.run_bind, a1, b1, r1, Result.andThen_ok]
    have hsplit : vx.drop f.offset = vy.drop f.offset ↔ (vx.drop f.offset).take kf.length = (vy.drop f.offset).take kf.length ∧ vx.drop (f.offset + kf.length) = vy.drop (f.offset + kf.length) := by
      have e1 : vx.drop f.offset = (vx.drop f.offset).take kf.length ++ vx.drop (f.offset + kf.length) := by rw [← List.drop_drop, List.take_append_drop]
      have e2 : vy.drop f.offset = (vy.drop f.offset).take kf.length ++ vy.drop (f.offset + kf.length) := by rw [← List.drop_drop, List.take_append_drop]
      constructor
      · intro e; rw [← List.drop_drop, ← List.drop_drop, e]; exact ⟨rfl, rfl⟩
      · rintro ⟨p, q⟩; rw [e1, e2, p, q]
    cases r
    · exact ⟨false, rfl, by simp; intro e; exact absurd (r2.2 (hsplit.1 e).1) (by simp)⟩
    · refine ⟨q, by simpa using q1, ?_⟩
      rw [q2, hsplit]
      exact ⟨fun e => ⟨r2.1 rfl, e⟩, fun e => e.2⟩
theorem eqItems_flat {dd d : Nat} {e : TypeId} {ke : List LK} {vx vy : List Value} (hf : FlatT P d e ke) (hc : P.cellsOf e = ke.length) (ih : EqF P dd e ke) : ∀ (n i : Nat) (w : World),
    MK (List.replicate n ke).flatten (vx.drop (i * ke.length)) → MK (List.replicate n ke).flatten (vy.drop (i * ke.length)) →
    ∃ r : Bool, (Op.eqItems dd e ke.length vx.toArray vy.toArray (List.range' i n)).run P w = .ok r w ∧ (r = true ↔ vx.drop (i * ke.length) = vy.drop (i * ke.length))
  | 0, i, w, hx, hy => by
    refine ⟨true, rfl, ?_⟩
    have h1 := hx.length
    have h2 := hy.length
    simp only [List.replicate_zero, List.flatten_nil, List.length_nil] at h1 h2
    rw [List.eq_nil_of_length_eq_zero h1.symm, List.eq_nil_of_length_eq_zero h2.symm]
    simp
  | n + 1, i, w, hx, hy => by
    simp only [List.replicate_succ, List.flatten_cons] at hx hy
    obtain ⟨hx1, hx2⟩ := hx.split
    obtain ⟨hy1, hy2⟩ := hy.split
    obtain ⟨a, a1, a2⟩ := run_part_flat (w := w) hf hc hx1
    obtain ⟨b, b1, b2⟩ := run_part_flat (w := w) hf hc hy1
    obtain ⟨r, r1, r2⟩ := ih w _ _ a b hx1 hy1 a2 b2
    rw [List.drop_drop, ← Nat.succ_mul] at hx2 hy2
    obtain ⟨q, q1, q2⟩ := eqItems_flat hf hc ih n (i + 1) w hx2 hy2
    simp only [List.range'_succ, Op.eqItems, Sem.run_bind, a1, b1, r1, Result.andThen_ok]
    have hsplit : vx.drop (i * ke.length) = vy.drop (i * ke.length) ↔ (vx.drop (i * ke.length)).take ke.length = (vy.drop (i * ke.length)).take ke.length ∧ vx.drop ((i + 1) * ke.length) = vy.drop ((i + 1) * ke.length) := by
      have e1 : vx.drop (i * ke.length) = (vx.drop (i * ke.length)).take ke.length ++ vx.drop ((i + 1) * ke.length) := by rw [Nat.succ_mul, ← List.drop_drop, List.take_append_drop]
      have e2 : vy.drop (i * ke.length) = (vy.drop (i * ke.length)).take ke.length ++ vy.drop ((i + 1) * ke.length) := by rw [Nat.succ_mul, ← List.drop_drop, List.take_append_drop]
      constructor
      · intro e; rw [Nat.succ_mul, ← List.drop_drop, ← List.drop_drop, e]; exact ⟨rfl, rfl⟩
      · rintro ⟨p, q⟩; rw [e1, e2, p, q]
    cases r
    · exact ⟨false, rfl, by simp; intro e; exact absurd (r2.2 (hsplit.1 e).1) (by simp)⟩
    · refine ⟨q, by simpa using q1, ?_⟩
      rw [q2, hsplit]
      exact ⟨fun e => ⟨r2.1 rfl, e⟩, fun e => e.2⟩
theorem eq_flat : ∀ (d : Nat) (t : TypeId) (ks : List LK), FlatT P d t ks → ∀ dd, d ≤ dd → EqF P dd t ks
  | 0, _, _, h, _, _ => by cases h
  | d + 1, t, ks, h, dd, hd => by
    obtain ⟨dd, rfl⟩ : ∃ m, dd = m + 1 := ⟨dd - 1, by omega⟩
    intro w xs ys x y hx hy ⟨dx, ux, px⟩ ⟨dy, uy, py⟩
    rcases h with ⟨k, hu, rfl⟩ | ⟨hu, rfl⟩ | ⟨n, e, ke, hu, hc, hf, rfl⟩ | ⟨fs, hu, hs, hf⟩
    · rw [hu] at ux uy
      injection ux with ux; injection uy with uy
      subst ux uy
      simp only [isAggD, Bool.false_eq_true, if_false] at px py
      subst px py
      obtain ⟨⟨a, rfl⟩, _⟩ := hx
      obtain ⟨⟨b, rfl⟩, _⟩ := hy
      exact ⟨a == b, run_equalIn_int w dd t k k a b hu, by simp⟩
    · rw [hu] at ux uy
      injection ux with ux; injection uy with uy
      subst ux uy
      simp only [isAggD, Bool.false_eq_true, if_false] at px py
      subst px py
      obtain ⟨⟨a, rfl⟩, _⟩ := hx
      obtain ⟨⟨b, rfl⟩, _⟩ := hy
      exact ⟨a == b, run_equalIn_bool w dd t a b hu, by simp⟩
    · rw [hu] at ux uy
      injection ux with ux; injection uy with uy
      subst ux uy
      simp only [isAggD, if_true] at px py
      subst px py
      obtain ⟨de, hde⟩ := flat_desc hf
      obtain ⟨inf, hi⟩ := info_of_underlying hde
      have := eqItems_flat (vx := xs) (vy := ys) hf hc (eq_flat d e ke hf dd (by omega)) n 0 w (by simpa using hx) (by simpa using hy)
      simp only [Nat.zero_mul, List.drop_zero] at this
      rw [run_equalIn_array w dd _ _ hu hi, hc, List.range_eq_range']
      exact this
    · rw [hu] at ux uy
      injection ux with ux; injection uy with uy
      subst ux uy
      simp only [isAggD, if_true] at px py
      subst px py
      have hfs : P.fieldsOf t = fs := by simp [Program.fieldsOf, hu]
      have := eqFields_flat (vx := xs) (vy := ys) (fun t ks ht => eq_flat d t ks ht dd (by omega)) fs.toList 0 ks w hf (by simpa using hx) (by simpa using hy)
      simp only [List.drop_zero] at this
      rw [run_equalIn_struct w dd t _ _ (by rw [hfs]; exact hu) hs, hfs]
      exact this
end
end Go.Proofs.YtofjmfjgicdjjaaGreat.Ab
/- The abstract machine, part 12: '==' of anything; and all operations that make nothing and change nothing, at once. -/
set_option linter.unusedVariables false
set_option linter.unusedSimpArgs false
namespace Go.Proofs.YtofjmfjgicdjjaaGreat.Ab
open Go

/-- What is known of the types' cells. -/
structure FlatOk (P : Program) (E : Env) : Prop where
  flat : ∀ t i, E.tys.get t = some i → i.flat ≠ [] → ∃ d, d ≤ 16 ∧ FlatT P d t i.flat
  agg : ∀ t i, E.tys.get t = some i → i.flat ≠ [] → isAggD i.desc = true
  deep : 16 ≤ P.depth

section
variable {P : Program} {E : Env} {w : World} {μ : Mu} {OkC : Cx} {pd : Nat → Prop} {h : AHeap}

theorem guard_flat : ∀ (d : Nat) (t : TypeId) (ks : List LK), FlatT P d t ks → ∀ D, d ≤ D → P.eqGuardType D t = false
  | 0, _, _, h, _, _ => by cases h
  | d + 1, t, ks, h, D, hD => by
    obtain ⟨D, rfl⟩ : ∃ m, D = m + 1 := ⟨D - 1, by omega⟩
    rcases h with ⟨k, hu, rfl⟩ | ⟨hu, rfl⟩ | ⟨n, e, ke, hu, hc, hf, rfl⟩ | ⟨fs, hu, hs, hf⟩
    · simp [Program.eqGuardType, hu]
    · simp [Program.eqGuardType, hu]
    · simp only [Program.eqGuardType, hu]
      exact guard_flat d e ke hf D (by omega)
    · simp only [Program.eqGuardType, hu]
      have go : ∀ (l : List Field) (off : Nat) (ks : List LK), FlatFs P (FlatT P d) l off ks → ∀ f ∈ l, P.eqGuardType D f.type = false := by
        intro l
        induction l with
        | nil => intro off ks _ f hf; simp at hf
        | cons g l ih =>
          rintro off ks ⟨hn, ho, kf, kr, hc, hf, hr, he⟩ f hmem
          rcases List.mem_cons.1 hmem with rfl | hm
          · exact guard_flat d _ kf hf D (by omega)
          · exact ih _ _ hr f hm
      rw [← Bool.not_eq_true, Array.any_eq_true']
      rintro ⟨f, hmem, hf2⟩
      rw [go fs.toList 0 ks hf f (by simpa using hmem)] at hf2
      simp at hf2
theorem isNil_of {f : A1 → Option Bool} {x y : A1} {r : Bool} (e : eqNil f x y = some r) : (f x = some true ∧ f y = some r) ∨ (f x = some false ∧ f y = some true ∧ r = false) := by
  unfold eqNil at e
  split at e
  · rename_i hx; exact .inl ⟨hx, e⟩
  · rename_i hx
    split at e <;> try (cases e; done)
    rename_i hy
    injection e with e
    exact .inr ⟨hx, hy, e.symm⟩
  · cases e
theorem live_cells {b o : Nat} (e : live h b o = true) : ∃ t n el, h.t.get b = some (.cells t n el) ∧ o < n := by
  unfold live at e
  split at e <;> try (cases e; done)
  rename_i t n el hg
  exact ⟨t, n, el, hg, ble_true e⟩
theorem run_sameAddr (hr : Rel OkC μ pd h w) {b o c p : Nat} {cb Kb cc Kc : Nat} (hb : μ b = some (cb, Kb)) (hc : μ c = some (cc, Kc)) (l1 : live h b o = true) (l2 : live h c p = true) :
    (sameAddr ⟨cb, o, none⟩ ⟨cc, p, none⟩).run P w = .ok (Nat.beq b c && Nat.beq o p) w := by
  obtain ⟨t1, n1, e1, g1, q1⟩ := live_cells l1
  obtain ⟨t2, n2, e2, g2, q2⟩ := live_cells l2
  obtain ⟨c1, K1, ob1, f1, f2, ca1, ec1, rfl, f4, f5, f6⟩ := hr.obj b _ g1 (hr.nopd hb)
  obtain ⟨c2, K2, ob2, d1, d2, ca2, ec2, rfl, d4, d5, d6⟩ := hr.obj c _ g2 (hr.nopd hc)
  rw [hb] at f1
  rw [hc] at d1
  obtain ⟨rfl, rfl⟩ : cb = c1 ∧ Kb = K1 := by simpa using f1
  obtain ⟨rfl, rfl⟩ : cc = c2 ∧ Kc = K2 := by simpa using d1
  by_cases hbc : b = c
  · subst hbc
    rw [hb] at hc
    obtain ⟨rfl, rfl⟩ : cb = cc ∧ Kb = Kc := by simpa using hc
    rw [beqN_self, Bool.true_and]
    unfold sameAddr
    simp only [beq_self_eq_true, if_true, Sem.run_pure]
    congr 1
    rw [Bool.eq_iff_iff, beq_iff_eq, Nat.beq_eq]
    constructor
    · intro e; injection e
    · intro e; rw [e]
  · have hne : cb ≠ cc := by
      rintro rfl
      exact hbc (hr.inj b c cb Kb Kc ⟨_, g1, by simp⟩ ⟨_, g2, by simp⟩ hb hc)
    have hbf : Nat.beq b c = false := by
      cases e : Nat.beq b c
      · rfl
      · exact absurd (beqN e) hbc
    rw [hbf, Bool.false_and]
    have hneb : (cb == cc) = false := by simp [hne]
    have fz1 : ∀ q, w.frozen? ⟨cb, q, none⟩ = false := by intro q; simp [World.frozen?, f2]
    have fz2 : ∀ q, w.frozen? ⟨cc, q, none⟩ = false := by intro q; simp [World.frozen?, d2]
    have sh1 : w.shape? cb = some (ec1, ca1.size) := by simp [World.shape?, f2]
    have sh2 : w.shape? cc = some (ec2, ca2.size) := by simp [World.shape?, d2]
    unfold sameAddr
    simp [hneb, fz1, fz2, noView, viewAt, sh1, sh2, mayBeOne, stringish]
theorem eqPtr_sound (hE : EnvOk P E) (hr : Rel OkC μ pd h w) {el : TypeId} {x y : A1} {u v : Value} {r : Bool} {t : TypeId} (hu : P.underlying t = some (.pointer el)) (hx : R1 μ x u) (hy : R1 μ y v) (e : eqPtr E h el x y = some r) (dd : Nat) :
    (Op.equalIn (dd + 1) t u v).run P w = .ok r w := by
  unfold eqPtr at e
  split at e <;> try (cases e; done)
  rename_i i hi
  have ti := hE.tys el i hi
  split at e <;> try (cases e; done)
  rename_i sz hsz
  unfold eqPtr0 at e
  split at e <;> try (cases e; done)
  · have hx' : u = .pointer none := hx
    subst hx'
    split at e <;> try (cases e; done)
    · have hy' : v = .pointer none := hy
      subst hy'
      injection e with e; subst e
      simp [Op.equalIn, run_underlying hu]
    · obtain ⟨c, K, _, rfl⟩ := hy
      injection e with e; subst e
      simp [Op.equalIn, run_underlying hu]
  · obtain ⟨c, K, h1, rfl⟩ := hx
    split at e <;> try (cases e; done)
    · have hy' : v = .pointer none := hy
      subst hy'
      injection e with e; subst e
      simp [Op.equalIn, run_underlying hu]
    · obtain ⟨c2, K2, h2, rfl⟩ := hy
      rename_i b o c' p
      split at e <;> try (cases e; done)
      rename_i l1
      split at e <;> try (cases e; done)
      rename_i l2
      injection e with e; subst e
      have hsa := run_sameAddr (P := P) hr h1 h2 l1 l2
      have hss := ti.run_size (w := w)
      rw [hsz] at hss
      simp only [Op.equalIn, Sem.run_bind, run_underlying hu, Result.andThen_ok, hss]
      simpa using hsa
theorem eqOne_sound (hE : EnvOk P E) (hr : Rel OkC μ pd h w) {d : TypeDesc} {x y : A1} {u v : Value} {r : Bool} {t : TypeId} (hu : P.underlying t = some d) (hx : R1 μ x u) (hy : R1 μ y v) (e : eqOne E h d x y = some r) (dd : Nat) :
    (Op.equalIn (dd + 1) t u v).run P w = .ok r w := by
  unfold eqOne at e
  split at e <;> try (cases e; done)
  · split at e <;> try (cases e; done)
    split at e <;> try (cases e; done)
    have hx' : u = _ := hx
    have hy' : v = _ := hy
    subst hx' hy'
    injection e with e; subst e
    exact run_equalIn_bool w dd t _ _ hu
  · exact eqPtr_sound hE hr hu hx hy e dd
  · have key : ∀ {a : A1} {z : Value} {q : Bool}, R1 μ a z → isNilS a = some q → (q = true ∧ z = .slice none 0 0) ∨ (q = false ∧ ∃ ad l c, z = .slice (some ad) l c) := by
      intro a z q ha hq
      cases a <;> simp only [isNilS] at hq <;> try (cases hq; done)
      · injection hq with hq; exact .inl ⟨hq.symm, ha⟩
      · injection hq with hq; obtain ⟨c, K, cap', _, rfl, _⟩ := ha; exact .inr ⟨hq.symm, _, _, _, rfl⟩
      · injection hq with hq; obtain ⟨ad, c, rfl⟩ := ha; exact .inr ⟨hq.symm, _, _, _, rfl⟩
    rcases isNil_of e with ⟨hx1, hy1⟩ | ⟨hx1, hy1, rfl⟩
    · rcases key hx hx1 with ⟨_, rfl⟩ | ⟨hh, _⟩
      · rcases key hy hy1 with ⟨rfl, rfl⟩ | ⟨rfl, ad, l, c, rfl⟩ <;> simp [Op.equalIn, run_underlying hu]
      · cases hh
    · rcases key hx hx1 with ⟨hh, _⟩ | ⟨_, ad, l, c, rfl⟩
      · cases hh
      · rcases key hy hy1 with ⟨_, rfl⟩ | ⟨hh, _⟩
        · simp [Op.equalIn, run_underlying hu]
        · cases hh
  · have key : ∀ {a : A1} {z : Value} {q : Bool}, R1 μ a z → isNilM a = some q → (q = true ∧ z = .map none) ∨ (q = false ∧ ∃ m, z = .map (some m)) := by
      intro a z q ha hq
      cases a <;> simp only [isNilM] at hq <;> try (cases hq; done)
      · injection hq with hq; exact .inl ⟨hq.symm, ha⟩
      · injection hq with hq; obtain ⟨c, K, _, rfl⟩ := ha; exact .inr ⟨hq.symm, _, rfl⟩
    rcases isNil_of e with ⟨hx1, hy1⟩ | ⟨hx1, hy1, rfl⟩
    · rcases key hx hx1 with ⟨_, rfl⟩ | ⟨hh, _⟩
      · rcases key hy hy1 with ⟨rfl, rfl⟩ | ⟨rfl, m, rfl⟩ <;> simp [Op.equalIn, run_underlying hu]
      · cases hh
    · rcases key hx hx1 with ⟨hh, _⟩ | ⟨_, m, rfl⟩
      · cases hh
      · rcases key hy hy1 with ⟨_, rfl⟩ | ⟨hh, _⟩
        · simp [Op.equalIn, run_underlying hu]
        · cases hh
  · have key : ∀ {a : A1} {z : Value} {q : Bool}, R1 μ a z → isNilF a = some q → (q = true ∧ z = .nilFunc) ∨ (q = false ∧ ∃ f a b, z = .func f a b) := by
      intro a z q ha hq
      cases a <;> simp only [isNilF] at hq <;> try (cases hq; done)
      · injection hq with hq; exact .inl ⟨hq.symm, ha⟩
      · injection hq with hq; obtain ⟨ps, qs, rfl, _⟩ := ha; exact .inr ⟨hq.symm, _, _, _, rfl⟩
    rcases isNil_of e with ⟨hx1, hy1⟩ | ⟨hx1, hy1, rfl⟩
    · rcases key hx hx1 with ⟨_, rfl⟩ | ⟨hh, _⟩
      · rcases key hy hy1 with ⟨rfl, rfl⟩ | ⟨rfl, f, a, b, rfl⟩ <;> simp [Op.equalIn, run_underlying hu]
      · cases hh
    · rcases key hx hx1 with ⟨hh, _⟩ | ⟨_, f, a, b, rfl⟩
      · cases hh
      · rcases key hy hy1 with ⟨_, rfl⟩ | ⟨hh, _⟩
        · simp [Op.equalIn, run_underlying hu]
        · cases hh
theorem eqCells_sound : ∀ {ks : List LK} {l m : List A1} {xs ys : List Value} {r : Bool}, RL μ l xs → RL μ m ys → eqCells ks l m = some r → MK ks xs ∧ MK ks ys ∧ (r = true ↔ xs = ys)
  | [], l, m, xs, ys, r, hx, hy, e => by
    cases l <;> simp only [eqCells] at e <;> try (cases e; done)
    cases m <;> simp only [] at e <;> try (cases e; done)
    injection e with e; subst e
    cases xs with
    | nil =>
      cases ys with
      | nil => exact ⟨trivial, trivial, by simp⟩
      | cons _ _ => cases hy
    | cons _ _ => cases hx
  | q :: ks, l, m, xs, ys, r, hx, hy, e => by
    cases l <;> simp only [eqCells] at e <;> try (cases e; done)
    rename_i a l
    cases m <;> simp only [] at e <;> try (cases e; done)
    rename_i b m
    cases xs with
    | nil => cases hx
    | cons u xs =>
      cases ys with
      | nil => cases hy
      | cons v ys =>
        obtain ⟨hu, hxs⟩ := hx
        obtain ⟨hv, hys⟩ := hy
        cases hq : eqCells ks l m with
        | none => rw [hq] at e; cases e
        | some r' =>
          rw [hq] at e
          obtain ⟨i1, i2, i3⟩ := eqCells_sound hxs hys hq
          cases q with
          | i k =>
            simp only [] at e
            cases a <;> simp only [] at e <;> try (cases e; done)
            rename_i k1 x
            cases b <;> simp only [] at e <;> try (cases e; done)
            rename_i k2 y
            cases hk1 : sameK k k1 <;> rw [hk1] at e <;> simp only [] at e <;> try (cases e; done)
            cases hk2 : sameK k k2 <;> rw [hk2] at e <;> simp only [] at e <;> try (cases e; done)
            obtain rfl := sameK_eq hk1
            obtain rfl := sameK_eq hk2
            have hu' : u = .int k x := hu
            have hv' : v = .int k y := hv
            subst hu' hv'
            injection e with e; subst e
            refine ⟨⟨⟨x, rfl⟩, i1⟩, ⟨⟨y, rfl⟩, i2⟩, ?_⟩
            rw [eqI_eq, Bool.and_eq_true, beq_iff_eq, i3]
            constructor
            · rintro ⟨rfl, rfl⟩; rfl
            · intro e; injection e with e1 e2; injection e1 with _ e1; exact ⟨e1, e2⟩
          | b =>
            simp only [] at e
            cases a <;> simp only [] at e <;> try (cases e; done)
            rename_i x
            cases b <;> simp only [] at e <;> try (cases e; done)
            rename_i y
            have hu' : u = .bool x := hu
            have hv' : v = .bool y := hv
            subst hu' hv'
            injection e with e; subst e
            refine ⟨⟨⟨x, rfl⟩, i1⟩, ⟨⟨y, rfl⟩, i2⟩, ?_⟩
            rw [Bool.and_eq_true, beq_iff_eq, i3]
            constructor
            · rintro ⟨rfl, rfl⟩; rfl
            · intro e; injection e with e1 e2; injection e1 with e1; exact ⟨e1, e2⟩
/-- The kinds of one cell's values. -/
theorem R1.kinds {a : A1} {v : Value} (hr : R1 μ a v) : (∃ b, v = .bool b) ∨ (∃ k n, v = .int k n ∧ a = .int k n) ∨ (∃ p, v = .pointer p) ∨ (∃ x l c, v = .slice x l c) ∨ (∃ m, v = .map m) ∨ v = .nilFunc ∨ (∃ f p q, v = .func f p q) ∨ (∃ s, v = .string s ∧ a = .str s) := by
  cases a <;> simp only [R1] at hr
  case bool b => exact .inl ⟨b, hr⟩
  case int k n => exact .inr (.inl ⟨k, n, hr, rfl⟩)
  case nilp => exact .inr (.inr (.inl ⟨_, hr⟩))
  case ptr b o => obtain ⟨c, K, _, e⟩ := hr; exact .inr (.inr (.inl ⟨_, e⟩))
  case nils => exact .inr (.inr (.inr (.inl ⟨_, _, _, hr⟩)))
  case sl b o len cap op => obtain ⟨c, K, cap', _, e, _⟩ := hr; exact .inr (.inr (.inr (.inl ⟨_, _, _, e⟩)))
  case nilm => exact .inr (.inr (.inr (.inr (.inl ⟨_, hr⟩))))
  case map r => obtain ⟨c, K, _, e⟩ := hr; exact .inr (.inr (.inr (.inr (.inl ⟨_, e⟩))))
  case nilf => exact .inr (.inr (.inr (.inr (.inr (.inl hr)))))
  case fn f p q => obtain ⟨ps, qs, e, _⟩ := hr; exact .inr (.inr (.inr (.inr (.inr (.inr (.inl ⟨_, _, _, e⟩))))))
  case yld l => obtain ⟨c, K, _, e⟩ := hr; exact .inr (.inr (.inr (.inr (.inr (.inr (.inl ⟨_, _, _, e⟩))))))
  case str s => exact .inr (.inr (.inr (.inr (.inr (.inr (.inr ⟨s, hr, rfl⟩))))))
  case emp => obtain ⟨x, c, e⟩ := hr; exact .inr (.inr (.inr (.inl ⟨_, _, _, e⟩)))
theorem eqOne_str {d : TypeDesc} {s : ByteArray} {y : A1} : eqOne E h d (.str s) y = none := by
  cases d <;> simp only [eqOne]
  case pointer el => unfold eqPtr; split <;> first | rfl | (split <;> rfl)
  case slice el => rfl
  case map k el => rfl
  case func a b c => rfl
theorem run_guard_one {a : A1} {t : TypeId} {op : BinOp} {p q : Operand} {u v : Value} (hx : R1 μ a u) : (eqGuard op t p q u v).run P w = .ok () w := by
  unfold eqGuard
  rcases hx.kinds with ⟨_, rfl⟩ | ⟨_, _, rfl, _⟩ | ⟨_, rfl⟩ | ⟨_, _, _, rfl⟩ | ⟨_, rfl⟩ | rfl | ⟨_, _, _, rfl⟩ | ⟨_, rfl, _⟩ <;> cases op <;> cases v <;> rfl
theorem eqAny_sound (hE : EnvOk P E) (hF : FlatOk P E) (hr : Rel OkC μ pd h w) {t : TypeId} {x y : AV} {u v : Value} {r : Bool} {p q : Operand} {op : BinOp} (hx : RV μ x u) (hy : RV μ y v) (e : eqAny E h t x y = some r) :
    (eqGuard op t p q u v).run P w = .ok () w ∧ (Op.equal t u v).run P w = .ok r w := by
  unfold eqAny at e
  split at e <;> try (cases e; done)
  rename_i i hi
  have ti := hE.tys t i hi
  split at e
  · rename_i a
    split at e <;> try (cases e; done)
    rename_i b
    exact ⟨run_guard_one hx, eqOne_sound hE hr ti.under hx hy e 9999⟩
  · rename_i xs
    split at e <;> try (cases e; done)
    rename_i ys
    split at e <;> try (cases e; done)
    rename_i q0 ks0 hfl
    obtain ⟨vs, rfl, h1⟩ := hx
    obtain ⟨us, rfl, h2⟩ := hy
    obtain ⟨d, hd, hft⟩ := hF.flat t i hi (by rw [hfl]; simp)
    obtain ⟨m1, m2, m3⟩ := eqCells_sound h1 h2 e
    have hg := guard_flat d t _ hft P.depth (by have := hF.deep; omega)
    have hdesc := hF.agg t i hi (by rw [hfl]; simp)
    obtain ⟨r', e1, e2⟩ := eq_flat d t _ hft 10000 (by omega) w vs us (.agg vs.toArray) (.agg us.toArray) m1 m2 ⟨i.desc, ti.under, by rw [hdesc]; simp⟩ ⟨i.desc, ti.under, by rw [hdesc]; simp⟩
    refine ⟨?_, ?_⟩
    · unfold eqGuard
      cases op <;> simp [hg]
    · have : r' = r := by rw [Bool.eq_iff_iff, e2, m3]
      rw [← this]
      exact e1
theorem vBin_sound (hE : EnvOk P E) (hF : FlatOk P E) (hr : Rel OkC μ pd h w) {op : BinOp} {t : TypeId} {x y : Option AT} {u v : Value} {a : AT} {p q : Operand} (hx : ∀ b, x = some b → RT μ b u) (hy : ∀ b, y = some b → RT μ b v) (e : vBin E h op t x y = some a) :
    ∃ z, (do eqGuard op t p q u v; binOp op t u v : Sem Value).run P w = .ok z w ∧ RT μ a z := by
  unfold vBin at e
  split at e <;> try (cases e; done)
  rename_i xv
  split at e <;> try (cases e; done)
  rename_i yv
  have hu : RV μ xv u := hx _ rfl
  have hv : RV μ yv v := hy _ rfl
  split at e
  · rename_i k n
    split at e <;> try (cases e; done)
    rename_i j m
    have hu' : u = .int k n := hu
    have hv' : v = .int j m := hv
    subst hu' hv'
    obtain ⟨z, z1, z2⟩ := run_binInt (P := P) (w := w) (μ := μ) (t := t) e
    refine ⟨z, ?_, z2⟩
    have hg : (eqGuard op t p q (.int k n) (.int j m)).run P w = .ok () w := run_guard_one (a := .int k n) (μ := μ) rfl
    simp only [Sem.run_bind, hg, Result.andThen_ok, z1]
  · rename_i hni
    unfold binOther at e
    have heq : ∀ r, eqAny E h t xv yv = some r → binOp .eql t u v = (do pure (.bool (← Op.equal t u v))) ∧ binOp .neq t u v = (do pure (.bool (!(← Op.equal t u v)))) := by
      intro r hq
      cases xv with
      | agg cs => obtain ⟨vs, rfl, _⟩ := hu; cases v <;> exact ⟨rfl, rfl⟩
      | one a1 =>
        rcases R1.kinds hu with ⟨_, rfl⟩ | ⟨k, n, rfl, rfl⟩ | ⟨_, rfl⟩ | ⟨_, _, _, rfl⟩ | ⟨_, rfl⟩ | rfl | ⟨_, _, _, rfl⟩ | ⟨s, rfl, rfl⟩
        · cases v <;> exact ⟨rfl, rfl⟩
        · exact absurd rfl (hni k n)
        · cases v <;> exact ⟨rfl, rfl⟩
        · cases v <;> exact ⟨rfl, rfl⟩
        · cases v <;> exact ⟨rfl, rfl⟩
        · cases v <;> exact ⟨rfl, rfl⟩
        · cases v <;> exact ⟨rfl, rfl⟩
        · unfold eqAny at hq
          split at hq <;> try (cases hq; done)
          simp only [] at hq
          split at hq <;> try (cases hq; done)
          rw [eqOne_str] at hq
          cases hq
    have key : ∀ {neg : Bool} {op : BinOp}, (op = .eql ∧ neg = false ∨ op = .neq ∧ neg = true) → retEq neg (eqAny E h t xv yv) = some a → ∃ z, (do eqGuard op t p q u v; binOp op t u v : Sem Value).run P w = .ok z w ∧ RT μ a z := by
      intro neg op hop e
      cases hq : eqAny E h t xv yv with
      | none => rw [hq] at e; cases e
      | some r =>
        rw [hq] at e
        obtain ⟨g1, g2⟩ := eqAny_sound (op := op) (p := p) (q := q) hE hF hr hu hv hq
        obtain ⟨b1, b2⟩ := heq r hq
        rcases hop with ⟨rfl, rfl⟩ | ⟨rfl, rfl⟩
        · obtain rfl := retB_some e
          refine ⟨.bool r, ?_, rfl⟩
          simp only [Sem.run_bind, g1, Result.andThen_ok, b1, g2, Sem.run_pure]
        · obtain rfl := retB_some e
          refine ⟨.bool (!r), ?_, rfl⟩
          simp only [Sem.run_bind, g1, Result.andThen_ok, b2, g2, Sem.run_pure]
    split at e <;> try (cases e; done)
    · exact key (.inl ⟨rfl, rfl⟩) e
    · exact key (.inr ⟨rfl, rfl⟩) e

/-- All operations that make nothing and change nothing. -/
theorem val_sound (hE : EnvOk P E) (hF : FlatOk P E) (hr : Rel OkC μ pd h w) {ρ : Operand → Option AT} {σ : Operand → Value} (hρ : Reads μ ρ σ) {o : Oper} {a : AT} (e : opRes E h ρ o.op = .val (some a)) :
    ∃ u, (execOp σ o).run P w = .ok (.value u) w ∧ RT μ a u := by
  have fin : ∀ {s : Sem Value}, (∃ u, s.run P w = .ok u w ∧ RT μ a u) → ∃ u, (do pure (Next.value (← s)) : Sem Next).run P w = .ok (.value u) w ∧ RT μ a u := by
    rintro s ⟨u, h1, h2⟩
    exact ⟨u, by simp only [Sem.run_bind, h1, Result.andThen_ok, Sem.run_pure], h2⟩
  have rd : ∀ x b, ρ x = some b → RT μ b (σ x) := hρ
  unfold execOp
  cases hop : o.op <;> rw [hop] at e <;> simp only [opRes] at e <;> try (cases e; done)
  case move x => injection e with e; exact ⟨_, rfl, hρ _ _ e⟩
  case assign x => injection e with e; exact ⟨_, rfl, hρ _ _ e⟩
  case pick c x y =>
    injection e with e
    have := vPick_sound (P := P) (w := w) hρ e
    simpa using fin this
  case build t parts => injection e with e; exact fin (vBuild_sound hρ hE e)
  case load t x => injection e with e; exact fin (vLoad_sound hE hr (rd x) e)
  case nilCheck x =>
    injection e with e
    rcases vNil_sound (rd x) e with ⟨h1, ad, h2⟩ | ⟨h1, f, p, q, h2⟩
    · exact ⟨σ x, by simp only [h2]; rfl, h1⟩
    · exact ⟨σ x, by simp only [h2]; rfl, h1⟩
  case binOp op t x y yt => injection e with e; exact fin (vBin_sound hE hF hr (rd x) (rd y) e)
  case unOp op t x => injection e with e; exact fin (vUn_sound (rd x) e)
  case convert src dst x => injection e with e; exact fin (vConv_sound hE (rd x) e)
  case sliceToArrayPointer arr x => injection e with e; exact fin (vArrPtr_sound hE (rd x) e)
  case makeFunc fn p q => injection e with e; exact fin (vFn_sound hρ e)
  case slice t x lo hi mx => injection e with e; exact fin (vSlice_sound hρ hE e)
  case fieldAddr s x f => injection e with e; exact fin (vFieldAddr_sound hE (rd x) e)
  case field t x f => injection e with e; exact fin (vField_sound hE (rd x) e)
  case indexAddr t x i => injection e with e; exact fin (vIndexAddr_sound hE (rd x) (rd i) e)
  case index t x i => injection e with e; exact fin (vIndex_sound hE (rd x) (rd i) e)
  case lookup t x i ok => injection e with e; exact fin (vLookup_sound hE hr (rd x) (rd i) e)
  case extract t i => injection e with e; exact fin (vExtract_sound (rd t) e)
  case entry it => injection e with e; exact fin (vEntry_sound hr (rd it) e)
  case makeMap t r => cases r <;> cases e
  case call c =>
    obtain ⟨callee, args, ats⟩ := c
    cases callee <;> simp only [] at e <;> try (cases e; done)
    rename_i b
    cases b <;> simp only [] at e <;> try (cases e; done)
    case cap =>
      injection e with e
      obtain ⟨u, h1, h2⟩ := vCap_sound (P := P) (w := w) (rt := o.type) hρ hE e
      exact ⟨u, by simp [resolve, invoke, builtin, h1], h2⟩
    case len =>
      injection e with e
      obtain ⟨u, h1, h2⟩ := vLen_sound (rt := o.type) hρ hE hr e
      exact ⟨u, by simp [resolve, invoke, builtin, h1], h2⟩
    case max =>
      injection e with e
      obtain ⟨u, h1, h2⟩ := vMinMax_sound (P := P) (w := w) (ts := ats) (rt := o.type) (isMax := true) hρ e
      exact ⟨u, by simp [resolve, invoke, builtin]; simp at h1; simp [h1], h2⟩
    case min =>
      injection e with e
      obtain ⟨u, h1, h2⟩ := vMinMax_sound (P := P) (w := w) (ts := ats) (rt := o.type) (isMax := false) hρ e
      exact ⟨u, by simp [resolve, invoke, builtin]; simp at h1; simp [h1], h2⟩
end
end Go.Proofs.YtofjmfjgicdjjaaGreat.Ab
