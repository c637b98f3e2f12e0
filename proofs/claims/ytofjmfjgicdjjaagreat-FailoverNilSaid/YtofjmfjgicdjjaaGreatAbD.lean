/- The abstract machine, part 13: operations that make an object. -/
import Derived.Test.YtofjmfjgicdjjaaGreatAbC
set_option linter.unusedVariables false
set_option linter.unusedSimpArgs false
namespace Go.Proofs.YtofjmfjgicdjjaaGreat.Ab
open Go
section
variable {P : Program} {E : Env} {w : World} {μ : Mu} {OkC : Cx} {pd : Nat → Prop} {h : AHeap}
variable {ρ : Operand → Option AT} {σ : Operand → Value} (hρ : Reads μ ρ σ)

theorem appendL_eq : ∀ (l r : List A1), appendL l r = l ++ r
  | [], r => rfl
  | a :: l, r => by simp [appendL, appendL_eq l r]
theorem cellsObj_eq {R : Type} (l : List A1) (e : TypeId) (k : AObj → R) : cellsObj l e k = k (.cells (BT.fromL l 0 .e) l.length e) := by
  unfold cellsObj
  rw [BT.fromK_eq, forceN_eq, lenL_eq]
theorem cells_made (OkC : Cx) {l : List A1} {vs : List Value} (e : TypeId) (hr : RL μ l vs) : RObj OkC μ (.cells (BT.fromL l 0 .e) l.length e) (.cells vs.toArray e (0, 0)) vs.length := by
  refine ⟨vs.toArray, e, rfl, by simp, by rw [hr.length]; exact Nat.le_refl _, fun i a hi => ?_⟩
  have := BT.get_from _ _ _ hi
  obtain ⟨v, h1, h2⟩ := hr.get _ _ this
  exact ⟨v, by simpa using h1, h2⟩
theorem allInt_eq {k : IntKind} {n : Int} : ∀ {l : List A1}, allInt k n l = true → ∀ (i : Nat), i < l.length → l[i]? = some (.int k n)
  | [], _, i, hi => by simp at hi
  | a :: l, h, i, hi => by
    simp only [allInt] at h
    split at h <;> try (cases h; done)
    rename_i j m
    split at h <;> try (cases h; done)
    rename_i hk
    split at h <;> try (cases h; done)
    rename_i hm
    rw [eqI_eq, beq_iff_eq] at hm
    have hk := sameK_eq hk
    subst hk hm
    cases i with
    | zero => rfl
    | succ i => simpa using allInt_eq h i (by simpa using hi)
theorem uniform_some {l : List A1} {v : A1} (h : uniform l = some v) : ∃ k n q, l = .int k n :: q ∧ allInt k n q = true ∧ v = .int k n := by
  cases l with
  | nil => cases h
  | cons b q =>
    cases b <;> try (cases h; done)
    rename_i k n
    cases hall : allInt k n q with
    | false =>
      have h : (match allInt k n q with | true => some (A1.int k n) | false => none) = some v := h
      rw [hall] at h
      cases h
    | true =>
      have h : (match allInt k n q with | true => some (A1.int k n) | false => none) = some v := h
      rw [hall] at h
      injection h with h
      exact ⟨k, n, q, rfl, hall, h.symm⟩
theorem zeroObj_made {l : List A1} {e : TypeId} {r : AObj × Made} (h : zeroObj l e = some r) : ∃ t, r = (.cells t l.length e, .ptr) ∧ ∀ i a, t.get i = some a → l[i]? = some a := by
  unfold zeroObj at h
  split at h
  · rename_i hle
    have hle := ble_true hle
    rw [lenL_eq] at hle
    split at h
    · rename_i v hv
      rw [forceN_eq, lenL_eq] at h
      injection h with h
      subst h
      refine ⟨_, rfl, fun i a ha => ?_⟩
      obtain ⟨h1, h2⟩ := BT.get_fill _ _ _ _ hle ha
      subst h1
      obtain ⟨k, n, q, rfl, hall, rfl⟩ := uniform_some hv
      exact allInt_eq (l := A1.int k n :: q) (k := k) (n := n) (by
        simp only [allInt]
        have e1 : sameK k k = true := by cases k <;> rfl
        have e2 : eqI n n = true := by rw [eqI_eq]; exact beq_self_eq_true n
        rw [e1, e2]
        exact hall) i h2
    · rw [cellsObj_eq] at h
      injection h with h
      subst h
      exact ⟨_, rfl, fun i a ha => BT.get_from _ _ _ ha⟩
  · rw [cellsObj_eq] at h
    injection h with h
    subst h
    exact ⟨_, rfl, fun i a ha => BT.get_from _ _ _ ha⟩
/-- What a made object's value is, once its block has a place. -/
def MadeOk (P : Program) (OkC : Cx) (μ : Mu) (w : World) (r : AObj × Made) (s : Sem Value) : Prop :=
  ∃ v ob K, s.run P w = .ok v (w.alloc ob) ∧ RObj OkC μ r.1 ob K ∧ ∀ (ν : Mu) (b : Nat), ν b = some (w.heap.size, K) → RT ν (r.2.at_ b) v
theorem mAlloc_sound (hE : EnvOk P E) {t : TypeId} {r : AObj × Made} (e : mAlloc E t = some r) : MadeOk P OkC μ w r (Instr.alloc t true (.tuple #[])) := by
  unfold mAlloc at e
  split at e <;> try (cases e; done)
  rename_i i hi
  have ti := hE.tys t i hi
  split at e <;> try (cases e; done)
  rename_i z hz
  obtain ⟨tr, rfl, htr⟩ := zeroObj_made e
  obtain ⟨zv, z1, z2⟩ := ti.run_zero (w := w) hz
  refine ⟨.pointer (some ⟨w.heap.size, 0, none⟩), .cells zv.cells t (0, 0), zv.cells.toList.length, ?_, ?_, fun ν b hb => ⟨_, _, hb, rfl⟩⟩
  · unfold Instr.alloc
    simp only [Sem.run_bind, z2, Result.andThen_ok]
    rfl
  · have hrl := (z1 μ).cells
    refine ⟨zv.cells, t, rfl, by simp, by rw [hrl.length]; exact Nat.le_refl _, fun i a hi => ?_⟩
    obtain ⟨v, h1, h2⟩ := hrl.get _ _ (htr i a hi)
    exact ⟨v, by simpa using h1, h2⟩
theorem mBox_sound {t : TypeId} {x : Option AT} {v : Value} {r : AObj × Made} (hx : ∀ b, x = some b → RT μ b v) (e : mBox t x = some r) : MadeOk P OkC μ w r (Instr.box t v) := by
  unfold mBox at e
  split at e <;> try (cases e; done)
  rename_i a
  rw [cellsObj_eq] at e
  injection e with e
  subst e
  have hv : RV μ a v := hx _ rfl
  exact ⟨.pointer (some ⟨w.heap.size, 0, none⟩), .cells v.cells t (0, 0), v.cells.toList.length, rfl, cells_made OkC t hv.cells, fun ν b hb => ⟨_, _, hb, rfl⟩⟩
theorem mMakeMap_sound {t : TypeId} {r : AObj × Made} (e : mMakeMap E t = some r) : MadeOk P OkC μ w r (Instr.makeMap t none) := by
  have : ∃ k, r = (.map k [] 0, .map) := by
    unfold mMakeMap at e
    split at e <;> try (cases e; done)
    split at e <;> try (cases e; done)
    split at e <;> try (cases e; done)
    split at e <;> injection e with e <;> exact ⟨_, e.symm⟩
  obtain ⟨k, rfl⟩ := this
  exact ⟨.map (some w.heap.size), .map #[] 0, 0, rfl, ⟨#[], rfl, trivial⟩, fun ν b hb => ⟨_, _, hb, rfl⟩⟩
theorem zerosA_length (z : List A1) : ∀ n, (zerosA z n).length = n * z.length
  | 0 => by simp [zerosA]
  | n + 1 => by simp [zerosA, appendL_eq, zerosA_length z n, Nat.succ_mul]; omega
theorem zerosA_get (z : List A1) : ∀ (n i : Nat), i < n * z.length → (zerosA z n)[i]? = z[i % z.length]?
  | 0, i, h => by simp at h
  | n + 1, i, h => by
    simp only [zerosA, appendL_eq]
    rcases Nat.lt_or_ge i z.length with c | c
    · rw [List.getElem?_append_left c, Nat.mod_eq_of_lt c]
    · rw [List.getElem?_append_right c, zerosA_get z n _ (by rw [Nat.succ_mul] at h; omega)]
      congr 1
      conv => rhs; rw [← Nat.sub_add_cancel c]
      rw [Nat.add_mod_right]
theorem zeros_rel {z : List A1} {zc : Array Value} (hz : RL μ z zc.toList) {n : Nat} : RL μ (zerosA z n) ((Array.range (n * z.length)).map (zc[· % zc.size]!)).toList := by
  have hl := hz.length
  have hl' : z.length = zc.size := by simpa using hl
  refine RL.of_get (by rw [zerosA_length]; simp) fun i a hi => ?_
  have hlt : i < n * z.length := by have := (List.getElem?_eq_some_iff.1 hi).1; rwa [zerosA_length] at this
  rw [zerosA_get z n i hlt] at hi
  obtain ⟨v, h1, h2⟩ := hz.get _ _ hi
  refine ⟨v, ?_, h2⟩
  rw [Array.getElem?_toList, Array.getElem?_map, Array.getElem?_range]
  rw [if_pos hlt]
  simp only [Option.map_some]
  congr 1
  rw [← hl']
  have h3 : zc[i % z.length]? = some v := by simpa using h1
  rw [getElem!_def, h3]
theorem range0 (f : Nat → Value) : (Array.range 0).map f = #[] := by simp
theorem mMakeSlice_sound (hE : EnvOk P E) {t : TypeId} {x y : Option AT} {u v : Value} {r : AObj × Made} (hx : ∀ b, x = some b → RT μ b u) (hy : ∀ b, y = some b → RT μ b v) (e : mMakeSlice E t x y = some r) :
    MadeOk P OkC μ w r (Instr.makeSlice t u v) := by
  unfold mMakeSlice at e
  split at e <;> try (cases e; done)
  rename_i i hi
  have ti := hE.tys t i hi
  split at e <;> try (cases e; done)
  rename_i el hd
  have hu : P.underlying t = some (.slice el) := by rw [ti.under, hd]
  split at e <;> try (cases e; done)
  rename_i l hl
  split at e <;> try (cases e; done)
  rename_i c hc
  obtain ⟨k1, rfl⟩ := asNat_some hl
  obtain ⟨k2, rfl⟩ := asNat_some hc
  have hu' : u = .int k1 (l : Int) := hx _ rfl
  have hv' : v = .int k2 (c : Int) := hy _ rfl
  subst hu' hv'
  cases hb1 : Nat.ble l c <;> rw [hb1] at e <;> simp only [] at e <;> try (cases e; done)
  cases hb2 : Nat.ble c 65536 <;> rw [hb2] at e <;> simp only [] at e <;> try (cases e; done)
  have hlc := ble_true hb1
  have hc6 := ble_true hb2
  split at e <;> try (cases e; done)
  rename_i ie hie
  have te := hE.tys el ie hie
  split at e <;> try (cases e; done)
  rename_i z hz
  cases hb3 : Nat.beq (lenL z.cells) ie.size <;> rw [hb3] at e <;> simp only [] at e <;> try (cases e; done)
  have hsz := beqN hb3
  rw [lenL_eq] at hsz
  rw [cellsObj_eq] at e
  injection e with e
  subst e
  obtain ⟨inf, i1, i2, i3⟩ := te.info
  obtain ⟨zv, z1, z2⟩ := te.run_zero (w := w) hz
  have hbytes := te.bytes inf i1
  have hzr := zeros_rel (μ := μ) (z1 μ).cells (n := c)
  refine ⟨.slice (some ⟨w.heap.size, 0, none⟩) l c, .cells ((Array.range (c * z.cells.length)).map (zv.cells[· % zv.cells.size]!)) el (0, 0), _, ?_, cells_made OkC el hzr, fun ν b hb => ⟨_, _, c, hb, rfl, hlc, Nat.le_refl _, fun _ => rfl, fun h => by cases h⟩⟩
  have w1 : IntKind.i64.wrap (l : Int) = l := wrap_i64 _ (by omega) (by omega)
  have w2 : IntKind.i64.wrap (c : Int) = c := wrap_i64 _ (by omega) (by omega)
  have htl : ∀ n : Nat, n ≤ 65536 → (decide ((n : Int) < 0) || decide ((inf.bytes : Int) * n > 2 ^ 48)) = false := by
    intro n hn
    have : inf.bytes * n ≤ 1048576 * 65536 := Nat.mul_le_mul hbytes hn
    rw [Bool.or_eq_false_iff, decide_eq_false_iff_not, decide_eq_false_iff_not]
    refine ⟨by omega, ?_⟩
    have h3 : ((2 : Int) ^ 48) = 281474976710656 := by decide
    rw [h3]
    have h4 : (inf.bytes : Int) * n = ((inf.bytes * n : Nat) : Int) := (Int.natCast_mul _ _).symm
    rw [h4]
    generalize inf.bytes * n = q at this
    omega
  unfold Instr.makeSlice
  simp only [Sem.run_bind, run_underlying hu, Result.andThen_ok, asInt, asIntOf, Sem.run_pure, run_typeInfo w i1, w1, w2, htl c hc6]
  have hcond : ¬ (false || decide ((l : Int) < 0) || decide ((l : Int) > (c : Int))) = true := by
    simp; omega
  rw [if_neg (by simpa using hcond)]
  simp only [Sem.run_bind, run_askRoom, Result.andThen_ok, te.run_size, Int.toNat_natCast]
  by_cases hn : c * ie.size = 0
  · rw [if_pos hn]
    simp only [Sem.run_pure, Result.andThen_ok, newRow, Sem.run_bind, run_newObj]
    rw [hn, hsz, hn, range0, range0]
    rfl
  · rw [if_neg hn]
    simp only [Sem.run_bind, z2, Sem.run_pure, Result.andThen_ok, newRow, run_newObj]
    rw [hsz]
    rfl
include hρ in
theorem mBuildSlice_sound (hE : EnvOk P E) {t : TypeId} {len : Nat} {parts : Array (Nat × Operand)} {r : AObj × Made} (e : mBuildSlice E ρ t len parts = some r) :
    MadeOk P OkC μ w r (Instr.buildSlice t len (parts.map fun p => (p.1, σ p.2))) := by
  unfold mBuildSlice at e
  split at e <;> try (cases e; done)
  rename_i i hi
  have ti := hE.tys t i hi
  split at e <;> try (cases e; done)
  rename_i el hd
  have hu : P.underlying t = some (.slice el) := by rw [ti.under, hd]
  split at e <;> try (cases e; done)
  rename_i ie hie
  have te := hE.tys el ie hie
  split at e <;> try (cases e; done)
  rename_i z hz
  cases hb1 : Nat.ble (Nat.mul len ie.size) 65536 <;> rw [hb1] at e <;> simp only [] at e <;> try (cases e; done)
  have hsm : len * ie.size ≤ 65536 := ble_true hb1
  cases hb3 : Nat.beq (lenL z.cells) ie.size <;> rw [hb3] at e <;> simp only [] at e <;> try (cases e; done)
  have hsz := beqN hb3
  rw [lenL_eq] at hsz
  split at e <;> try (cases e; done)
  rename_i l hl
  rw [cellsObj_eq] at e
  injection e with e
  subst e
  obtain ⟨zv, z1, z2⟩ := te.run_zero (w := w) hz
  have hzr := zeros_rel (μ := μ) (z1 μ).cells (n := len)
  obtain ⟨out, o1, o2⟩ := fillA_sound (place' := fun j => some (j * ie.size, ie.size)) hρ (fun j x hj => by simp only [placeA] at hj; exact hj) hzr hl
  refine ⟨.slice (some ⟨w.heap.size, 0, none⟩) len len, .cells out el (0, 0), _, ?_, by have := cells_made OkC el o2; simpa using this, fun ν b hb => ⟨_, _, len, hb, rfl, Nat.le_refl _, Nat.le_refl _, fun _ => rfl, fun h => by cases h⟩⟩
  have hparts : (parts.map fun p => (p.1, σ p.2)).toList = parts.toList.map fun p => (p.1, σ p.2) := by simp
  unfold Instr.buildSlice
  simp only [Sem.run_bind, run_underlying hu, Result.andThen_ok, te.run_size]
  rw [if_neg (by omega)]
  rw [hsz] at o1
  by_cases hn : len * ie.size = 0
  · rw [if_pos hn]
    have h0 : ((Array.range (len * ie.size)).map (fun x => zv.cells[x % zv.cells.size]!)) = ((Array.range (len * ie.size)).map (fun x => (#[] : Array Value)[x % (#[] : Array Value).size]!)) := by rw [hn, range0, range0]
    rw [h0] at o1
    simp only [Sem.run_pure, Sem.run_bind, Result.andThen_ok, hparts, o1, newRow, run_newObj]
    rfl
  · rw [if_neg hn]
    simp only [Sem.run_bind, z2, Sem.run_pure, Result.andThen_ok, hparts, o1, newRow, run_newObj]
    rfl

/-- All operations that make an object. -/
theorem made_sound (hE : EnvOk P E) {o : Oper} {r : AObj × Made} (hρ : Reads μ ρ σ) (e : opRes E h ρ o.op = .made (some r)) :
    ∃ v ob K, (execOp σ o).run P w = .ok (.value v) (w.alloc ob) ∧ RObj OkC μ r.1 ob K ∧ ∀ (ν : Mu) (b : Nat), ν b = some (w.heap.size, K) → RT ν (r.2.at_ b) v := by
  have fin : ∀ {s : Sem Value}, MadeOk P OkC μ w r s → ∃ v ob K, (do pure (Next.value (← s)) : Sem Next).run P w = .ok (.value v) (w.alloc ob) ∧ RObj OkC μ r.1 ob K ∧ ∀ (ν : Mu) (b : Nat), ν b = some (w.heap.size, K) → RT ν (r.2.at_ b) v := by
    rintro s ⟨v, ob, K, h1, h2, h3⟩
    exact ⟨v, ob, K, by simp only [Sem.run_bind, h1, Result.andThen_ok, Sem.run_pure], h2, h3⟩
  have rd : ∀ x b, ρ x = some b → RT μ b (σ x) := hρ
  unfold execOp
  cases hop : o.op <;> rw [hop] at e <;> simp only [opRes] at e <;> try (cases e; done)
  case alloc t => injection e with e; exact fin (mAlloc_sound hE e)
  case box t x => injection e with e; exact fin (mBox_sound (rd x) e)
  case buildSlice t len parts => injection e with e; exact fin (mBuildSlice_sound hρ hE e)
  case makeSlice t l c => injection e with e; exact fin (mMakeSlice_sound hE (rd l) (rd c) e)
  case makeMap t rr =>
    cases rr with
    | none => injection e with e; exact fin (mMakeMap_sound e)
    | some x => cases e
  case call c =>
    obtain ⟨callee, args, ats⟩ := c
    cases callee <;> simp only [] at e <;> try (cases e; done)
    rename_i b
    cases b <;> simp only [] at e <;> cases e
end
end Go.Proofs.YtofjmfjgicdjjaaGreat.Ab
/- The abstract machine, part 14: operations that change memory (stores, appends, copies). -/
set_option linter.unusedVariables false
set_option linter.unusedSimpArgs false
namespace Go.Proofs.YtofjmfjgicdjjaaGreat.Ab
open Go
/-- What an operation yields to its slot. -/
def NextVal (nx : Next) (v : Value) : Prop := nx = .value v ∨ (nx = .skip ∧ v = undef)
section
variable {P : Program} {E : Env} {w : World} {μ : Mu} {OkC : Cx} {pd : Nat → Prop} {h : AHeap}
variable {ρ : Operand → Option AT} {σ : Operand → Value} (hρ : Reads μ ρ σ)

theorem storeIn_inv : ∀ {l : List A1} {t : BT A1} {o i : Nat} {a : A1}, (storeIn t o l).get i = some a → (o ≤ i ∧ i < o + l.length ∧ l[i - o]? = some a) ∨ ((i < o ∨ o + l.length ≤ i) ∧ t.get i = some a)
  | [], t, o, i, a, e => .inr ⟨by simp; omega, e⟩
  | x :: l, t, o, i, a, e => by
    simp only [storeIn] at e
    rcases storeIn_inv e with ⟨h1, h2, h3⟩ | ⟨h1, h2⟩
    · refine .inl ⟨by omega, by simp; omega, ?_⟩
      rw [show i - o = (i - Nat.succ o) + 1 from by omega]
      simpa using h3
    · rcases BT.get_put_inv _ _ _ _ _ h2 with ⟨rfl, rfl⟩ | ⟨hne, h2⟩
      · exact .inl ⟨Nat.le_refl _, by simp, by simp⟩
      · refine .inr ⟨?_, h2⟩
        simp only [List.length_cons]
        omega
theorem setRow_other {w : World} {g i : Nat} (cs : Array Value) (hi : i ≠ g) : (w.setRow g cs).heap[i]? = w.heap[i]? := by
  unfold World.setRow
  simp [Array.getElem?_modify, Ne.symm hi]
theorem setRow_size {w : World} {g : Nat} (cs : Array Value) : (w.setRow g cs).heap.size = w.heap.size := by
  simp [World.setRow]
theorem row_get {cur : Array Value} {vs : List Value} {o : Nat} (hfit : o + vs.length ≤ cur.size) (i : Nat) :
    ((cur.toList.take o ++ vs ++ cur.toList.drop (o + vs.length)).toArray)[i]? = if o ≤ i ∧ i < o + vs.length then vs[i - o]? else cur[i]? := by
  have hl : (cur.toList.take o).length = o := by simp; omega
  simp only [List.getElem?_toArray]
  by_cases h1 : i < o
  · rw [if_neg (by omega), List.append_assoc, List.getElem?_append_left (by omega)]
    simp [h1]
  · by_cases h2 : i < o + vs.length
    · rw [if_pos (by omega), List.append_assoc, List.getElem?_append_right (by omega), hl, List.getElem?_append_left (by omega)]
    · rw [if_neg (by omega), List.getElem?_append_right (by simp; omega)]
      simp only [List.length_append, hl, List.getElem?_drop, Array.getElem?_toList]
      congr 1
      omega
theorem row_size {cur : Array Value} {vs : List Value} {o : Nat} (hfit : o + vs.length ≤ cur.size) : (cur.toList.take o ++ vs ++ cur.toList.drop (o + vs.length)).toArray.size = cur.size := by
  simp
  omega
theorem storeA_some {R : Type} {b o : Nat} {l : List A1} {k : AHeap → Option R} {r : R} (e : storeA h b o l k = some r) :
    ∃ t n el, h.t.get b = some (.cells t n el) ∧ o + l.length ≤ n ∧ k ⟨h.t.put b (.cells (storeIn t o l) n el), h.next⟩ = some r := by
  unfold storeA at e
  split at e <;> try (cases e; done)
  rename_i t n el hg
  cases hb : Nat.ble (Nat.add o (lenL l)) n <;> rw [hb] at e <;> simp only [] at e <;> try (cases e; done)
  have := ble_true hb
  rw [lenL_eq] at this
  rw [storeInK_eq, BT.putK_eq] at e
  exact ⟨t, n, el, hg, this, e⟩
theorem store_cells (hr : Rel OkC μ pd h w) {b o c K n : Nat} {l : List A1} {vs : List Value} {t : BT A1} {el : TypeId} (hμ : μ b = some (c, K)) (hg : h.t.get b = some (.cells t n el)) (hn : o + l.length ≤ n) (hl : RL μ l vs) :
    ∃ w', (storeCells ⟨c, o, none⟩ vs).run P w = .ok () w' ∧ Rel OkC μ pd ⟨h.t.put b (.cells (storeIn t o l) n el), h.next⟩ w' ∧ Ext μ pd h μ ⟨h.t.put b (.cells (storeIn t o l) n el), h.next⟩ := by
  obtain ⟨c1, K1, ob, f1, f2, ca, ec, rfl, f4, f5, f6⟩ := hr.obj b _ hg (hr.nopd hμ)
  rw [hμ] at f1
  obtain ⟨rfl, rfl⟩ : c = c1 ∧ K = K1 := by simpa using f1
  have hlen := hl.length
  have hfit : o + vs.length ≤ ca.size := by omega
  have hrun := run_storeCells_at P c o ec vs 0 ca w f2 (by simpa using hfit) hl.all_one
  simp only [Nat.add_zero] at hrun
  refine ⟨_, hrun, ?_⟩
  refine hr.set hg (by simp) hμ (setRow_size _) (setRow_heap w c ca _ ec _ f2) (fun i hi => setRow_other _ hi) ?_ ⟨rfl, rfl, rfl⟩
  refine ⟨_, ec, rfl, by rw [row_size hfit]; exact f4, f5, fun i a hi => ?_⟩
  rw [row_get hfit]
  rcases storeIn_inv hi with ⟨q1, q2, q3⟩ | ⟨q1, q2⟩
  · rw [if_pos (by omega)]
    exact hl.get _ _ q3
  · rw [if_neg (by omega)]
    exact f6 i a q2
/-- What an effect does. -/
def EffOk (P : Program) (OkC : Cx) (μ : Mu) (pd : Nat → Prop) (h : AHeap) (w : World) (r : VH) (s : Sem Next) : Prop :=
  ∃ nx v w' μ', s.run P w = .ok nx w' ∧ NextVal nx v ∧ RT μ' r.a v ∧ Rel OkC μ' pd r.h w' ∧ Ext μ pd h μ' r.h
theorem EffOk.of_value {r : VH} {s : Sem Value} (hs : ∃ v w' μ', s.run P w = .ok v w' ∧ RT μ' r.a v ∧ Rel OkC μ' pd r.h w' ∧ Ext μ pd h μ' r.h) : EffOk P OkC μ pd h w r (do pure (.value (← s))) := by
  obtain ⟨v, w', μ', h1, h2, h3, h4⟩ := hs
  exact ⟨_, v, w', μ', by simp only [Sem.run_bind, h1, Result.andThen_ok, Sem.run_pure], .inl rfl, h2, h3, h4⟩
theorem EffOk.of_unit {hh : AHeap} {s : Sem Unit} (hs : ∃ w' μ', s.run P w = .ok () w' ∧ Rel OkC μ' pd hh w' ∧ Ext μ pd h μ' hh) : EffOk P OkC μ pd h w ⟨.tup [], hh⟩ (do s; pure .skip) := by
  obtain ⟨w', μ', h1, h3, h4⟩ := hs
  exact ⟨_, undef, w', μ', by simp only [Sem.run_bind, h1, Result.andThen_ok, Sem.run_pure], .inr ⟨rfl, rfl⟩, ⟨[], rfl, trivial⟩, h3, h4⟩
theorem eStore_sound (hE : EnvOk P E) (hr : Rel OkC μ pd h w) {t : TypeId} {x y : Option AT} {u v : Value} {r : VH} (hx : ∀ b, x = some b → RT μ b u) (hy : ∀ b, y = some b → RT μ b v) (e : eStore E h t x y = some r) :
    EffOk P OkC μ pd h w r (do Instr.storeAt t u v; pure .skip) := by
  unfold eStore at e
  split at e <;> try (cases e; done)
  rename_i b o
  obtain ⟨c, K, h1, rfl⟩ := hx _ rfl
  split at e <;> try (cases e; done)
  rename_i av
  have hv : RV μ av v := hy _ rfl
  split at e <;> try (cases e; done)
  rename_i i hi
  have ti := hE.tys t i hi
  cases hb : Nat.beq (lenL av.cells) i.size <;> rw [hb] at e <;> simp only [] at e <;> try (cases e; done)
  have hsz := beqN hb
  rw [lenL_eq] at hsz
  obtain ⟨ct, n, el, g1, g2, g3⟩ := storeA_some e
  injection g3 with g3
  subst g3
  obtain ⟨w', s1, s2, s3⟩ := store_cells (P := P) hr h1 g1 g2 hv.cells
  refine EffOk.of_unit ⟨w', μ, ?_, s2, s3⟩
  have hcl := hv.cells.length
  unfold Instr.storeAt storeVar
  simp only [Sem.run_bind, Instr.sureAddr, Sem.run_pure, Result.andThen_ok, ti.run_size]
  rw [if_neg (by simp at hcl; omega)]
  exact s1

theorem firstCells_sound (hr : Rel OkC μ pd h w) {a : A1} {v : Value} {s n : Nat} {l : List A1} (ha : R1 μ a v) (e : cellsOfSlice h s n a = some l) :
    ∃ vs : List Value, (Builtin.firstCells s n v).run P w = .ok vs.toArray w ∧ RL μ l vs ∧ l.length = n * s := by
  unfold cellsOfSlice at e
  split at e <;> try (cases e; done)
  · rename_i b o len cap op
    obtain ⟨c, K, cap', h1, rfl, _⟩ := ha
    split at e <;> try (cases e; done)
    rename_i t m el hg
    obtain ⟨c1, K1, ob, f1, f2, ca, ec, rfl, f4, f5, f6⟩ := hr.obj b _ hg (hr.nopd h1)
    rw [h1] at f1
    obtain ⟨rfl, rfl⟩ : c = c1 ∧ K = K1 := by simpa using f1
    obtain ⟨g1, g2⟩ := loadFrom_list e
    obtain ⟨vs, k1, k2, k3, _⟩ := cells_list f2 l o (fun j a hj => f6 _ a (g2 j a hj))
    have hlc := run_loadCells_at (P := P) vs k3
    rw [k2, g1] at hlc
    exact ⟨vs, hlc, k1, g1⟩
  · have hv : v = .slice none 0 0 := ha
    subst hv
    split at e <;> try (cases e; done)
    injection e with e; subst e
    exact ⟨[], rfl, trivial, by simp⟩
  · obtain ⟨ad, c, rfl⟩ := ha
    split at e <;> try (cases e; done)
    injection e with e; subst e
    refine ⟨[], ?_, trivial, by simp⟩
    simp only [Builtin.firstCells, Nat.zero_mul]
    rfl
theorem lenOfA_sound {a : A1} {v : Value} {n : Nat} (ha : R1 μ a v) (e : lenOfA a = some n) : (Builtin.lenOf v).run P w = .ok n w := by
  unfold lenOfA at e
  split at e <;> try (cases e; done)
  · injection e with e; subst e
    have hv : v = .slice none 0 0 := ha
    subst hv; rfl
  · injection e with e; subst e
    obtain ⟨ad, c, rfl⟩ := ha; rfl
  · injection e with e; subst e
    obtain ⟨c, K, cap', _, rfl, _⟩ := ha; rfl
theorem growBy_le (need : Nat) : ∀ (r c : Nat), c ≤ 2 * need + 1000 → Builtin.growBy need r c ≤ 2 * need + 1000
  | 0, c, h => h
  | r + 1, c, h => by
    simp only [Builtin.growBy]
    split
    · exact h
    · exact growBy_le need r _ (by omega)
theorem nextcap_le {need c : Nat} (h : c < need) : Builtin.nextslicecap need c ≤ 2 * need + 1000 := by
  unfold Builtin.nextslicecap
  split
  · omega
  · split
    · omega
    · exact growBy_le _ _ _ (by omega)
end
end Go.Proofs.YtofjmfjgicdjjaaGreat.Ab
/- The abstract machine, part 15: append and copy. -/
set_option linter.unusedVariables false
set_option linter.unusedSimpArgs false
namespace Go.Proofs.YtofjmfjgicdjjaaGreat.Ab
open Go
section
variable {P : Program} {E : Env} {w : World} {μ : Mu} {OkC : Cx} {pd : Nat → Prop} {h : AHeap}
variable {ρ : Operand → Option AT} {σ : Operand → Value} (hρ : Reads μ ρ σ)

/-- A new row: the known cells, and spare ones behind. -/
theorem row_made (OkC : Cx) {l : List A1} {vs rest : List Value} (e e' : TypeId) (hr : RL μ l vs) : RObj OkC μ (.cells (BT.fromL l 0 .e) l.length e) (.cells (vs ++ rest).toArray e' (0, 0)) (vs ++ rest).length := by
  refine ⟨_, e', rfl, by simp, by rw [hr.length]; simp, fun i a hi => ?_⟩
  have := BT.get_from _ _ _ hi
  obtain ⟨v, h1, h2⟩ := hr.get _ _ this
  refine ⟨v, ?_, h2⟩
  have hlt : i < vs.length := (List.getElem?_eq_some_iff.1 h1).1
  simp only [List.getElem?_toArray]
  rw [List.getElem?_append_left hlt]
  exact h1
theorem zeroFits_some {i : TI} (e : zeroFits i = true) : ∃ z, i.zero = some z ∧ z.cells.length = i.size := by
  unfold zeroFits at e
  split at e <;> try (cases e; done)
  rename_i z hz
  have := beqN e
  rw [lenL_eq] at this
  exact ⟨z, hz, this⟩
/-- What append does where the capacity does not suffice: a new row of a capacity that the tape tells. -/
theorem run_append_more (hE : EnvOk P E) {ts : Array TypeId} {rt t t' el el' : TypeId} {ie : TI} {z : AV} {xv : Value} {base : Option Addr} {len cap n : Nat} {old new : List Value}
    (ht : ts[0]? = some t) (ht' : ts[1]? = some t') (hu : P.underlying t = some (.slice el)) (hu' : P.underlying t' = some (.slice el')) (hie : E.tys.get el = some ie) (hz : ie.zero = some z) (hzl : z.cells.length = ie.size)
    (hln : (Builtin.lenOf xv).run P w = .ok n w) (hnew : (Builtin.firstCells ie.size n xv).run P w.drew = .ok new.toArray w.drew)
    (hold : (Builtin.firstCells ie.size len (.slice base len cap)).run P w.drew = .ok old.toArray w.drew) (hneed : cap < len + n) (hbig : len + n ≤ 65536) :
    ∃ newCap rest, len + n ≤ newCap ∧ rest.length = (newCap - (len + n)) * ie.size ∧
      (Builtin.append_ ts rt #[.slice base len cap, xv]).run P w = .ok (.slice (some ⟨w.heap.size, 0, none⟩) (len + n) newCap) (w.drew.alloc (.cells (old ++ new ++ rest).toArray el)) := by
  have te := hE.tys el ie hie
  obtain ⟨inf, i1, i2, i3⟩ := te.info
  obtain ⟨zv, i4, i5⟩ := i3 z hz
  have hbytes := te.bytes inf i1
  have hzc := (i5 (fun _ => none)).cells.length
  have hzs : zv.cells.size = ie.size := by rw [← hzl, hzc]; simp
  refine ⟨grownCap w (len + n) cap el, (Builtin.zeroCells zv.cells (grownCap w (len + n) cap el - (len + n))).toList, ?_, ?_, ?_⟩
  · simp only [grownCap, Question.cut]; omega
  · rw [Array.length_toList, size_zeroCells, hzs]
  · have hn : ¬ (len + n ≤ cap) := by omega
    have h63' : ¬ (9223372036854775807 < ((len : Int) + (n : Int))) := by omega
    have h48' : ¬ (281474976710656 < Builtin.nextslicecap (len + n) cap * inf.bytes) := by
      have hnc := nextcap_le hneed
      have : Builtin.nextslicecap (len + n) cap * inf.bytes ≤ 132072 * 1048576 := Nat.mul_le_mul (by omega) hbytes
      generalize Builtin.nextslicecap (len + n) cap * inf.bytes = m at this
      omega
    rw [← i2] at hnew hold
    simp [Builtin.append_, ht, ht', run_underlying hu, run_underlying hu', sizeOf, typeInfo, zeroValue, i1, i4, hln, hn, h63', h48', Question.forced, hnew, hold, newRow, grownCap]
    congr 2
    apply Array.ext'
    simp [List.append_assoc]
/-- Where it suffices. -/
theorem run_append_in (hE : EnvOk P E) {ts : Array TypeId} {rt t t' el el' : TypeId} {ie : TI} {xv : Value} {base : Option Addr} {len cap n : Nat} {new : List Value} {w' : World}
    (ht : ts[0]? = some t) (ht' : ts[1]? = some t') (hu : P.underlying t = some (.slice el)) (hu' : P.underlying t' = some (.slice el')) (hie : E.tys.get el = some ie)
    (hln : (Builtin.lenOf xv).run P w = .ok n w) (hnew : (Builtin.firstCells ie.size n xv).run P w = .ok new.toArray w) (hroom : len + n ≤ cap)
    (hst : ∀ a, base = some a → (storeCells (a.add (len * ie.size)) new).run P w = .ok () w') (hno : base = none → w' = w) :
    (Builtin.append_ ts rt #[.slice base len cap, xv]).run P w = .ok (.slice base (len + n) cap) w' := by
  have te := hE.tys el ie hie
  obtain ⟨inf, i1, i2, i3⟩ := te.info
  rw [← i2] at hnew hst
  cases base with
  | none =>
    have := hno rfl
    subst this
    simp [Builtin.append_, ht, ht', run_underlying hu, run_underlying hu', sizeOf, typeInfo, i1, hln, hroom, hnew]
  | some a =>
    have := hst a rfl
    simp [Builtin.append_, ht, ht', run_underlying hu, run_underlying hu', sizeOf, typeInfo, i1, hln, hroom, hnew, this]

theorem Rel.drew (hr : Rel OkC μ pd h w) : Rel OkC μ pd h w.drew := hr.heap_eq rfl ⟨rfl, rfl, rfl⟩
/-- A new row behind. -/
theorem newSl_sound {w' : World} (hr : Rel OkC μ pd h w) {l : List A1} {vs rest : List Value} {el el' : TypeId} {n s newCap : Nat} {r : VH} (hl : RL μ l vs) (hs : 0 < s) (hvs : vs.length = n * s) (hc : n ≤ newCap) (hrest : rest.length = (newCap - n) * s) (hw : w'.heap = w.heap) (hq : Calm w w')
    (e : newSl h l el n s = some r) :
    ∃ μ', RT μ' r.a (.slice (some ⟨w.heap.size, 0, none⟩) n newCap) ∧ Rel OkC μ' pd r.h (w'.alloc (.cells (vs ++ rest).toArray el')) ∧ Ext μ pd h μ' r.h ∧ μ' h.next = some (w.heap.size, (vs ++ rest).length) := by
  unfold newSl at e
  rw [cellsObj_eq] at e
  unfold allocA at e
  rw [BT.putK_eq, forceN_eq] at e
  injection e with e
  subst e
  have hro := row_made OkC el el' (rest := rest) hl
  obtain ⟨q1, q2⟩ := hr.alloc (w' := w'.alloc (.cells (vs ++ rest).toArray el')) (by simp [hw]) (by simp [World.alloc, hw]) (fun i hi => by simp [World.alloc, hw, Array.getElem?_push, Nat.ne_of_lt hi]) hro hq
  refine ⟨_, ?_, q1, q2, Mu.put_same _ _ _ _⟩
  refine ⟨w.heap.size, (vs ++ rest).length, newCap, Mu.put_same _ _ _ _, rfl, Nat.le_refl _, hc, fun h0 => by omega, fun _ => ?_⟩
  rw [List.length_append, hvs, hrest, ← Nat.add_mul]
  rw [show n + (newCap - n) = newCap from by omega]
  omega
/-- The same, and the old block is gone. -/
theorem growSl_sound {w' : World} (hr : Rel OkC μ pd h w) {l : List A1} {vs rest : List Value} {el el' : TypeId} {b c K n s newCap : Nat} {r : VH} (hl : RL μ l vs) (hs : 0 < s) (hvs : vs.length = n * s) (hc : n ≤ newCap) (hrest : rest.length = (newCap - n) * s) (hw : w'.heap = w.heap) (hq : Calm w w')
    (hb : μ b = some (c, K)) (e : growSl h b l el n s = some r) :
    ∃ μ', RT μ' r.a (.slice (some ⟨w.heap.size, 0, none⟩) n newCap) ∧ Rel OkC μ' pd r.h (w'.alloc (.cells (vs ++ rest).toArray el')) ∧ Ext μ pd h μ' r.h := by
  unfold growSl at e
  rw [cellsObj_eq] at e
  unfold allocA setObjA at e
  simp only [BT.putK_eq, forceN_eq] at e
  injection e with e
  subst e
  have e2 : newSl h l el n s = some ⟨.v (.one (.sl h.next 0 n n s)), ⟨h.t.put h.next (.cells (BT.fromL l 0 .e) l.length el), Nat.succ h.next⟩⟩ := by
    unfold newSl allocA
    rw [cellsObj_eq, BT.putK_eq, forceN_eq]
  obtain ⟨μ', q1, q2, q3, q4⟩ := newSl_sound (el' := el') hr hl hs hvs hc hrest hw hq e2
  obtain ⟨q5, q6⟩ := q2.kill (q3.le _ _ hb)
  exact ⟨μ', q1, q5, q3.trans q6⟩
/-- In place, behind what is known: the block goes on under another number. -/
theorem growIn_sound (hr : Rel OkC μ pd h w) {old new : List A1} {news : List Value} {el : TypeId} {t : BT A1} {m : Nat} {elt : TypeId} {b c K len n s cap' : Nat} {r : VH} (hs : 0 < s)
    (hg : h.t.get b = some (.cells t m elt)) (hold : loadFrom t 0 (len * s) = some old) (hnew : RL μ new news) (hnl : new.length = n * s) (hroom : len + n ≤ cap') (hK : cap' * s ≤ K)
    (hb : μ b = some (c, K)) (e : growSl h b (appendL old new) el (len + n) s = some r) :
    ∃ w' μ', (storeCells ⟨c, len * s, none⟩ news).run P w = .ok () w' ∧ RT μ' r.a (.slice (some ⟨c, 0, none⟩) (len + n) cap') ∧ Rel OkC μ' pd r.h w' ∧ Ext μ pd h μ' r.h := by
  unfold growSl at e
  rw [cellsObj_eq, appendL_eq] at e
  unfold allocA setObjA at e
  simp only [BT.putK_eq, forceN_eq] at e
  injection e with e
  subst e
  obtain ⟨c1, K1, ob, f1, f2, ca, ec, rfl, f4, f5, f6⟩ := hr.obj b _ hg (hr.nopd hb)
  rw [hb] at f1
  obtain ⟨rfl, rfl⟩ : c = c1 ∧ K = K1 := by simpa using f1
  have hlen := hnew.length
  have hm : len * s + n * s ≤ K := by
    rw [← Nat.add_mul]
    exact Nat.le_trans (Nat.mul_le_mul_right _ hroom) hK
  have hfit : len * s + news.length ≤ ca.size := by omega
  have hrun := run_storeCells_at P c (len * s) ec news 0 ca w f2 (by simpa using hfit) hnew.all_one
  simp only [Nat.add_zero] at hrun
  have hf := hr.fresh (Nat.le_refl h.next)
  have hle : μ.le (μ.put h.next c K) := Mu.le_put hf
  have hbn : b < h.next := (hr.bnd b c K hb).1
  obtain ⟨o1, o2⟩ := loadFrom_list hold
  have hcell : RObj OkC (μ.put h.next c K) (.cells (BT.fromL (old ++ new) 0 .e) (old ++ new).length el) (.cells (ca.toList.take (len * s) ++ news ++ ca.toList.drop (len * s + news.length)).toArray ec (0, 0)) K := by
    refine ⟨_, ec, rfl, by rw [row_size hfit]; exact f4, by rw [List.length_append, o1, hnl]; exact hm, fun i a hi => ?_⟩
    have hi' := BT.get_from _ _ _ hi
    rw [row_get hfit]
    by_cases c1 : i < old.length
    · rw [List.getElem?_append_left c1] at hi'
      have := o2 i a hi'
      rw [Nat.zero_add] at this
      obtain ⟨v, p, q⟩ := f6 i a this
      rw [if_neg (by omega)]
      exact ⟨v, p, q.mono hle⟩
    · rw [List.getElem?_append_right (by omega)] at hi'
      obtain ⟨v, p, q⟩ := hnew.get _ _ hi'
      have : i - old.length < news.length := (List.getElem?_eq_some_iff.1 p).1
      rw [if_pos (by omega)]
      rw [o1] at p
      exact ⟨v, p, q.mono hle⟩
  have live_of : ∀ i, Live ⟨(h.t.put h.next (.cells (BT.fromL (old ++ new) 0 .e) (old ++ new).length el)).put b .dead, Nat.succ h.next⟩ i → i ≠ h.next → Live h i ∧ i ≠ b := by
    rintro i ⟨x, hx, hd⟩ hne
    rcases BT.get_put_inv _ _ _ _ _ hx with ⟨rfl, rfl⟩ | ⟨hnb, hx⟩
    · exact absurd rfl hd
    · rcases BT.get_put_inv _ _ _ _ _ hx with ⟨rfl, _⟩ | ⟨_, hx⟩
      · exact absurd rfl hne
      · exact ⟨⟨x, hx, hd⟩, hnb⟩
  have hlb : Live h b := ⟨_, hg, by simp⟩
  refine ⟨_, μ.put h.next c K, hrun, ?_, ⟨fun b1 x hx hp => ?_, fun b1 b2 c1 K1 K2 h1 h2 h3 h4 => ?_, fun b1 c1 K1 h3 => ?_, fun b1 hp => ?_, hr.base.trans ⟨rfl, rfl, rfl, by rw [setRow_size]; exact Nat.le_refl _, fun k hk => setRow_other _ (fun e => hk (by rw [e]; exact hr.low b c K hlb hb))⟩, by rw [setRow_size]; exact hr.hB, fun b1 c1 K1 hlv h3 => ?_⟩, hle, fun b1 hp => SubAt.of_eq ?_, Nat.le_succ _⟩
  · exact ⟨c, K, cap', Mu.put_same _ _ _ _, rfl, Nat.le_refl _, hroom, fun h0 => by omega, fun _ => by omega⟩
  · rcases BT.get_put_inv _ _ _ _ _ hx with ⟨rfl, rfl⟩ | ⟨hnb, hx⟩
    · have hc := (hr.bnd b1 c K hb).2
      refine ⟨c, K, _, hle _ _ hb, setRow_heap w c ca _ ec _ f2, trivial⟩
    · rcases BT.get_put_inv _ _ _ _ _ hx with ⟨rfl, rfl⟩ | ⟨hne, hx⟩
      · exact ⟨c, K, _, Mu.put_same _ _ _ _, setRow_heap w c ca _ ec _ f2, hcell⟩
      · obtain ⟨c1, K1, ob1, p, q, s1⟩ := hr.obj b1 x hx hp
        by_cases e : c1 = c
        · subst e
          by_cases ed : x = .dead
          · subst ed; exact ⟨c1, K1, _, hle _ _ p, setRow_heap w c1 ca _ ec _ f2, trivial⟩
          · exact absurd (hr.inj b1 b c1 K1 K ⟨x, hx, ed⟩ hlb p hb) hnb
        · exact ⟨c1, K1, ob1, hle _ _ p, by rw [setRow_other _ e]; exact q, s1.mono OkC hle⟩
  · by_cases e : b1 = h.next
    · by_cases e' : b2 = h.next
      · rw [e, e']
      · obtain ⟨l2, n2⟩ := live_of b2 h2 e'
        rw [e, Mu.put_same] at h3
        rw [Mu.put_ne _ _ _ e'] at h4
        simp only [Option.some.injEq, Prod.mk.injEq] at h3
        obtain ⟨rfl, _⟩ := h3
        exact absurd (hr.inj b2 b c K2 K l2 hlb h4 hb) n2
    · obtain ⟨l1, n1⟩ := live_of b1 h1 e
      by_cases e' : b2 = h.next
      · rw [e', Mu.put_same] at h4
        rw [Mu.put_ne _ _ _ e] at h3
        simp only [Option.some.injEq, Prod.mk.injEq] at h4
        obtain ⟨rfl, _⟩ := h4
        exact absurd (hr.inj b1 b c K1 K l1 hlb h3 hb) n1
      · obtain ⟨l2, n2⟩ := live_of b2 h2 e'
        rw [Mu.put_ne _ _ _ e] at h3
        rw [Mu.put_ne _ _ _ e'] at h4
        exact hr.inj b1 b2 c1 K1 K2 l1 l2 h3 h4
  · rw [setRow_size]
    by_cases e : b1 = h.next
    · rw [e, Mu.put_same] at h3
      simp only [Option.some.injEq, Prod.mk.injEq] at h3
      have := (hr.bnd b c K hb).2
      exact ⟨by show b1 < h.next + 1; omega, by omega⟩
    · rw [Mu.put_ne _ _ _ e] at h3
      have := hr.bnd b1 c1 K1 h3
      exact ⟨by show b1 < h.next + 1; omega, this.2⟩
  · have := hr.pdn b1 hp
    refine ⟨?_, by show b1 < h.next + 1; omega⟩
    rw [Mu.put_ne _ _ _ (by omega)]
    exact this.1
  · by_cases e : b1 = h.next
    · rw [e, Mu.put_same] at h3
      simp only [Option.some.injEq, Prod.mk.injEq] at h3
      have := hr.low b c K hlb hb
      rw [← h3.1]
      exact this
    · rw [Mu.put_ne _ _ _ e] at h3
      exact hr.low b1 c1 K1 (live_of b1 hlv e).1 h3
  · have := hr.pdn b1 hp
    show ((h.t.put h.next _).put b .dead).get b1 = h.t.get b1
    rw [BT.get_put_ne _ _ _ _ (by rintro rfl; exact hr.nopd hb hp)]
    exact BT.get_put_ne _ _ _ _ (by omega)
end
end Go.Proofs.YtofjmfjgicdjjaaGreat.Ab
/- The abstract machine, part 16: append and copy, all ways. -/
set_option linter.unusedVariables false
set_option linter.unusedSimpArgs false
namespace Go.Proofs.YtofjmfjgicdjjaaGreat.Ab
open Go
section
variable {P : Program} {E : Env} {w : World} {μ : Mu} {OkC : Cx} {pd : Nat → Prop} {h : AHeap}
variable {ρ : Operand → Option AT} {σ : Operand → Value} (hρ : Reads μ ρ σ)

/-- What an operation that yields a value does. -/
def ValOk (P : Program) (OkC : Cx) (μ : Mu) (pd : Nat → Prop) (h : AHeap) (w : World) (r : VH) (s : Sem Value) : Prop :=
  ∃ v w' μ', s.run P w = .ok v w' ∧ RT μ' r.a v ∧ Rel OkC μ' pd r.h w' ∧ Ext μ pd h μ' r.h
theorem firstCells_zero (s : Nat) {a : A1} {v : Value} (ha : R1 μ a v) {n : Nat} (e : lenOfA a = some n) : (Builtin.firstCells s 0 v).run P w = .ok #[] w := by
  unfold lenOfA at e
  split at e <;> try (cases e; done)
  · have hv : v = .slice none 0 0 := ha
    subst hv
    simp [Builtin.firstCells]
  · obtain ⟨ad, c, rfl⟩ := ha
    simp only [Builtin.firstCells, Nat.zero_mul]
    rfl
  · obtain ⟨c, K, cap', _, rfl, _⟩ := ha
    simp only [Builtin.firstCells, Nat.zero_mul]
    rfl
theorem appendA_sound (hE : EnvOk P E) (hr : Rel OkC μ pd h w) {ts : Array TypeId} {rt t t' : TypeId} (ht : ts[0]? = some t) (ht' : ts[1]? = some t') (hsl : isSliceT E t' = true)
    {x y : A1} {u v : Value} (hx : R1 μ x u) (hy : R1 μ y v) {r : VH} (e : appendA E h t x y = some r) : ValOk P OkC μ pd h w r (Builtin.append_ ts rt #[u, v]) := by
  obtain ⟨el', hu'⟩ : ∃ el', P.underlying t' = some (.slice el') := by
    unfold isSliceT at hsl
    split at hsl <;> try (cases hsl; done)
    rename_i i hi
    split at hsl <;> try (cases hsl; done)
    rename_i el' hd
    have := (hE.tys t' i hi).under
    rw [hd] at this
    exact ⟨el', this⟩
  unfold appendA at e
  split at e <;> try (cases e; done)
  rename_i i hi
  split at e <;> try (cases e; done)
  rename_i el hd
  have hu := (hE.tys t i hi).under
  rw [hd] at hu
  split at e <;> try (cases e; done)
  rename_i ie hie
  split at e <;> try (cases e; done)
  rename_i s' hs'
  split at e <;> try (cases e; done)
  rename_i hz0
  obtain ⟨z, hz, hzl⟩ := zeroFits_some hz0
  split at e <;> try (cases e; done)
  rename_i n hn
  split at e <;> try (cases e; done)
  rename_i new hnew
  have hsp : 0 < ie.size := by omega
  rw [show Nat.succ s' = ie.size from hs'.symm] at e hnew
  have hln := lenOfA_sound (P := P) (w := w) hy hn
  obtain ⟨nvs, hnr, hnl, hnlen⟩ := firstCells_sound (P := P) hr hy hnew
  obtain ⟨nvs', hnr', hnl', _⟩ := firstCells_sound (P := P) hr.drew hy hnew
  have hnv : nvs.length = n * ie.size := by rw [← hnl.length]; exact hnlen
  have hnv' : nvs'.length = n * ie.size := by rw [← hnl'.length]; exact hnlen
  split at e
  · rename_i b o len cap opn
    rw [forceN_eq] at e
    obtain ⟨c, K, cap', hμ, rfl, g1, g2, g3, g4⟩ := hx
    unfold appendS at e
    split at e
    · rename_i hroom
      have hroom := ble_true hroom
      obtain ⟨ct, m, elt, q1, q2, q3⟩ := storeA_some e
      injection q3 with q3
      subst q3
      obtain ⟨w', s1, s2, s3⟩ := store_cells (P := P) hr hμ q1 q2 hnl
      refine ⟨_, w', μ, run_append_in (base := some ⟨c, o, none⟩) hE ht ht' hu hu' hie hln hnr (show len + n ≤ cap' from by have : len + n ≤ cap := hroom; omega) (fun a ha => ?_) (fun hb => by cases hb), ?_, s2, s3⟩
      · injection ha with ha
        subst ha
        rw [Addr.add_lit]
        exact s1
      · exact ⟨c, K, cap', hμ, rfl, hroom, g2, g3, g4⟩
    · rename_i hroom
      have hroom := ble_false hroom
      split at e <;> try (cases e; done)
      rename_i hbig
      have hbig := ble_true hbig
      split at e <;> try (cases e; done)
      rename_i old hold
      have hx : R1 μ (.sl b o len cap opn) (.slice (some ⟨c, o, none⟩) len cap') := ⟨c, K, cap', hμ, rfl, g1, g2, g3, g4⟩
      obtain ⟨ovs', hor', hol', holen⟩ := firstCells_sound (P := P) hr.drew hx hold
      have hov' : ovs'.length = len * ie.size := by rw [← hol'.length]; exact holen
      have hcells : (ovs' ++ nvs').length = (len + n) * ie.size := by rw [List.length_append, hov', hnv', Nat.add_mul]
      rw [appendL_eq] at e
      split at e
      · -- a capacity that is known
        have hcap : cap' = cap := g3 rfl
        subst hcap
        obtain ⟨newCap, rest, a1, a2, a3⟩ := run_append_more (rt := rt) hE ht ht' hu hu' hie hz hzl hln hnr' hor' hroom hbig
        obtain ⟨μ', b1, b2, b3, _⟩ := newSl_sound (el' := el) hr (hol'.append hnl') hsp hcells a1 a2 (w' := w.drew) rfl ⟨rfl, rfl, rfl⟩ e
        exact ⟨_, _, μ', a3, b1, b2, b3⟩
      · rename_i opn'
        split at e <;> try (cases e; done)
        rename_i ho
        have ho := beqN ho
        subst ho
        split at e <;> try (cases e; done)
        rename_i hop
        have hop := beqN hop
        by_cases hroom' : len + n ≤ cap'
        · -- in place
          simp only [cellsOfSlice] at hold
          split at hold <;> try (cases hold; done)
          rename_i ct m elt hg
          have hK := g4 (by omega)
          rw [hop] at hK
          obtain ⟨w', μ', a1, a2, a3, a4⟩ := growIn_sound (P := P) hr hsp hg hold hnl hnlen hroom' (by omega) hμ (by rw [appendL_eq]; exact e)
          refine ⟨_, w', μ', run_append_in (base := some ⟨c, 0, none⟩) hE ht ht' hu hu' hie hln hnr hroom' (fun a ha => ?_) (fun hb => by cases hb), a2, a3, a4⟩
          injection ha with ha
          subst ha
          rw [Addr.add_lit, Nat.zero_add]
          exact a1
        · obtain ⟨newCap, rest, a1, a2, a3⟩ := run_append_more (rt := rt) hE ht ht' hu hu' hie hz hzl hln hnr' hor' (by omega) hbig
          obtain ⟨μ', b1, b2, b3⟩ := growSl_sound (el' := el) hr (hol'.append hnl') hsp hcells a1 a2 (w' := w.drew) rfl ⟨rfl, rfl, rfl⟩ hμ e
          exact ⟨_, _, μ', a3, b1, b2, b3⟩
  · have hv : u = .slice none 0 0 := hx
    subst hv
    split at e
    · injection e with e
      subst e
      obtain rfl : nvs = [] := by cases nvs with | nil => rfl | cons a l => simp at hnv
      exact ⟨_, w, μ, run_append_in (w' := w) (base := none) hE ht ht' hu hu' hie hln hnr (Nat.le_refl _) (fun a ha => by cases ha) (fun _ => rfl), rfl, hr, Ext.refl _ _ _⟩
    · split at e <;> try (cases e; done)
      rename_i n' _ hbig
      have hbig := ble_true hbig
      obtain ⟨newCap, rest, a1, a2, a3⟩ := run_append_more (base := none) (len := 0) (cap := 0) (old := []) (rt := rt) hE ht ht' hu hu' hie hz hzl hln hnr' (run_firstCells_none _ _ _ _ _) (by omega) (by omega)
      rw [Nat.zero_add] at a1 a2 a3
      obtain ⟨μ', b1, b2, b3, _⟩ := newSl_sound (el' := el) hr hnl' hsp hnv' a1 a2 (w' := w.drew) rfl ⟨rfl, rfl, rfl⟩ e
      exact ⟨_, _, μ', a3, b1, b2, b3⟩
  · obtain ⟨ad, cap', rfl⟩ := hx
    split at e <;> try (cases e; done)
    injection e with e
    subst e
    obtain rfl : nvs = [] := by cases nvs with | nil => rfl | cons a l => simp at hnv
    exact ⟨_, w, μ, run_append_in (w' := w) (base := some ad) hE ht ht' hu hu' hie hln hnr (Nat.zero_le _) (fun a ha => rfl) (fun hb => by cases hb), ⟨ad, cap', rfl⟩, hr, Ext.refl _ _ _⟩
  · cases e
theorem copyA_sound (hE : EnvOk P E) (hr : Rel OkC μ pd h w) {ts : Array TypeId} {rt t : TypeId} (ht : ts[0]? = some t)
    {x y : A1} {u v : Value} (hx : R1 μ x u) (hy : R1 μ y v) {r : VH} (e : copyA E h t x y = some r) : ValOk P OkC μ pd h w r (Builtin.copy_ ts rt #[u, v]) := by
  unfold copyA at e
  split at e <;> try (cases e; done)
  rename_i i hi
  split at e <;> try (cases e; done)
  rename_i el hd
  have hu := (hE.tys t i hi).under
  rw [hd] at hu
  split at e <;> try (cases e; done)
  rename_i ie hie
  have te := hE.tys el ie hie
  obtain ⟨inf, i1, i2, i3⟩ := te.info
  split at e <;> try (cases e; done)
  rename_i n hn
  have hln := lenOfA_sound (P := P) (w := w) hy hn
  split at e
  · rename_i b o len cap opn
    obtain ⟨c, K, cap', hμ, rfl, g1, g2, g3, g4⟩ := hx
    rw [minN_eq] at e
    split at e <;> try (cases e; done)
    rename_i new hnew
    obtain ⟨nvs, hnr, hnl, hnlen⟩ := firstCells_sound (P := P) hr hy hnew
    obtain ⟨ct, m, elt, q1, q2, q3⟩ := storeA_some e
    rw [forceN_eq] at q3
    injection q3 with q3
    subst q3
    obtain ⟨w', s1, s2, s3⟩ := store_cells (P := P) hr hμ q1 q2 hnl
    rw [← i2] at hnr
    refine ⟨goInt (min n len : Nat), w', μ, ?_, rfl, s2, s3⟩
    have hmin : Nat.min n len = min n len := rfl
    simp [Builtin.copy_, ht, run_underlying hu, sizeOf, typeInfo, i1, hln, hmin, hnr, s1]
  · have hv : u = .slice none 0 0 := hx
    subst hv
    injection e with e
    subst e
    refine ⟨goInt (0 : Nat), w, μ, ?_, rfl, hr, Ext.refl _ _ _⟩
    have hz := firstCells_zero (P := P) (w := w) inf.size hy hn
    have hmin : Nat.min n 0 = 0 := Nat.min_zero n
    simp [Builtin.copy_, ht, run_underlying hu, sizeOf, typeInfo, i1, hln, hmin, hz]
  · cases e
end
end Go.Proofs.YtofjmfjgicdjjaaGreat.Ab
/- The abstract machine, part 17: maps laid anew, and iterators. -/
set_option linter.unusedVariables false
set_option linter.unusedSimpArgs false
namespace Go.Proofs.YtofjmfjgicdjjaaGreat.Ab
open Go
section
variable {P : Program} {E : Env} {w : World} {μ : Mu} {OkC : Cx} {pd : Nat → Prop} {h : AHeap}

/-- No row of cells. -/
def notRow : Obj → Bool
  | .cells .. => false
  | _ => true
theorem run_setObj {r : Nat} {o o' : Obj} (h0 : w.heap[r]? = some o) (hn : notRow o = true) : (setObj r o').run P w = .ok () { w with heap := w.heap.setIfInBounds r o' } := by
  simp only [setObj, Sem.run, h0]
  cases o <;> first | rfl | (simp [notRow] at hn)
theorem run_getObj {r : Nat} {o : Obj} (h0 : w.heap[r]? = some o) (hn : notRow o = true) : (getObj r).run P w = .ok o w := by
  simp only [getObj, Sem.run, h0]
  cases o <;> first | rfl | (simp [notRow] at hn)
/-- An object that is no row is laid anew on both sides. -/
theorem set_sound (hr : Rel OkC μ pd h w) {b c K : Nat} {o o' : AObj} {ob ob' : Obj} (hg : h.t.get b = some o) (hd : o ≠ .dead) (hμ : μ b = some (c, K)) (hw : w.heap[c]? = some ob) (hn : notRow ob = true) (ho : RObj OkC μ o' ob' K) :
    (setObj c ob').run P w = .ok () { w with heap := w.heap.setIfInBounds c ob' } ∧ Rel OkC μ pd ⟨h.t.put b o', h.next⟩ { w with heap := w.heap.setIfInBounds c ob' } ∧ Ext μ pd h μ ⟨h.t.put b o', h.next⟩ := by
  have hc := (hr.bnd b c K hμ).2
  obtain ⟨p, q⟩ := hr.set (w' := { w with heap := w.heap.setIfInBounds c ob' }) hg hd hμ (by simp) (by simp [hc]) (fun i hi => by simp [Array.getElem?_setIfInBounds_ne (Ne.symm hi)]) ho ⟨rfl, rfl, rfl⟩
  exact ⟨run_setObj hw hn, p, q⟩

theorem modify_cons_zero {α : Type} (a : α) (l : List α) (f : α → α) : (a :: l).modify 0 f = f a :: l := by simp
theorem modify_cons_succ {α : Type} (a : α) (l : List α) (i : Nat) (f : α → α) : (a :: l).modify (i + 1) f = a :: l.modify i f := by simp
theorem updA_sound {k : IntKind} {n : Int} {av : AV} {v : Value} (hv : RV μ av v) : ∀ {es : List (Int × AV × Nat)} {ms : List MapEntry} (i : Nat), REs μ k es ms →
    match updA n av es with
    | some es' => ∃ j u e, Instr.findNow (.int k) (.int k n) ms i = some (some (i + j, u)) ∧ ms[j]? = some e ∧ e.key = .int k n ∧ REs μ k es' (ms.modify j fun e => { e with key := .int k n, val := v })
    | none => Instr.findNow (.int k) (.int k n) ms i = some none
  | [], [], i, _ => rfl
  | [], _ :: _, i, h => by cases h
  | _ :: _, [], i, h => by cases h
  | (j, x, b) :: es, m :: ms, i, ⟨⟨h1, h2, h3⟩, h4⟩ => by
    simp only [updA, eqI_eq, Instr.findNow, h1, Instr.sameNow, if_true]
    cases hb : n == j
    · simp only []
      have ih := updA_sound (n := n) hv (i + 1) h4
      cases hu : updA n av es with
      | none =>
        rw [hu] at ih
        exact ih
      | some es' =>
        rw [hu] at ih
        obtain ⟨j', u, e, p, q, s, t⟩ := ih
        refine ⟨j' + 1, u, e, by rw [p]; congr 3; omega, by simpa using q, s, ?_⟩
        rw [modify_cons_succ]
        exact ⟨⟨h1, h2, h3⟩, t⟩
    · have hj : n = j := by simpa using hb
      subst hj
      simp only []
      refine ⟨0, m.val, m, rfl, rfl, h1, ?_⟩
      rw [modify_cons_zero]
      exact ⟨⟨rfl, hv, h3⟩, h4⟩
theorem REs.snoc {k : IntKind} {n : Int} {av : AV} {v : Value} {b : Nat} (hv : RV μ av v) : ∀ {es : List (Int × AV × Nat)} {ms : List MapEntry}, REs μ k es ms → REs μ k (snocM (n, av, b) es) (ms ++ [{ key := .int k n, val := v, born := b }])
  | [], [], _ => ⟨⟨rfl, hv, rfl⟩, trivial⟩
  | [], _ :: _, h => by cases h
  | _ :: _, [], h => by cases h
  | (j, x, b') :: es, m :: ms, ⟨h1, h4⟩ => ⟨h1, REs.snoc hv h4⟩
theorem sameBits_int (k : IntKind) (n : Int) (f : Nat) : Instr.sameBits (f + 1) (.int k n) (.int k n) = true := by
  simp [Instr.sameBits]
theorem eMapUpd_sound (hE : EnvOk P E) (hr : Rel OkC μ pd h w) {t : TypeId} {m k x : Option AT} {vm vk vx : Value} {r : VH} (hm : ∀ b, m = some b → RT μ b vm) (hk : ∀ b, k = some b → RT μ b vk) (hx : ∀ b, x = some b → RT μ b vx) (e : eMapUpd E h t m k x = some r) :
    EffOk P OkC μ pd h w r (do Instr.mapUpdate t vm vk vx; pure .skip) := by
  unfold eMapUpd at e
  split at e <;> try (cases e; done)
  rename_i ti0 ht
  have ti := hE.tys t ti0 ht
  split at e <;> try (cases e; done)
  rename_i kt el hd
  split at e <;> try (cases e; done)
  rename_i ik hik
  split at e <;> try (cases e; done)
  rename_i kk hkd
  split at e <;> try (cases e; done)
  rename_i mr
  obtain ⟨c, K, h1, rfl⟩ : ∃ c K, μ mr = some (c, K) ∧ vm = .map (some c) := hm _ rfl
  split at e <;> try (cases e; done)
  rename_i ko es clock hget
  obtain ⟨c', K', ob, g1, g2, ens, rfl, g3⟩ := hr.obj mr _ hget (hr.nopd h1)
  rw [h1] at g1
  obtain ⟨rfl, rfl⟩ : c = c' ∧ K = K' := by simpa using g1
  split at e <;> try (cases e; done)
  rename_i kk' n
  have hvk : vk = .int kk' n := hk _ rfl
  subst hvk
  cases hs : sameK kk kk' <;> rw [hs] at e <;> simp only [] at e <;> try (cases e; done)
  obtain rfl := sameK_eq hs
  cases hs2 : sameK kk ko <;> rw [hs2] at e <;> simp only [] at e <;> try (cases e; done)
  obtain rfl := sameK_eq hs2
  split at e <;> try (cases e; done)
  rename_i av
  have hv : RV μ av vx := hx _ rfl
  have hu : P.underlying t = some (.map kt el) := by rw [ti.under, hd]
  have huk : P.underlying kt = some (.int kk) := by rw [(hE.tys kt ik hik).under, hkd]
  have hgo : (getObj c).run P w = .ok (.map ens clock) w := run_getObj g2 rfl
  have hck : (Instr.checkKey false 10000 kt (.int kk n)).run P w = .ok () w := run_checkKey_int huk ⟨n, rfl⟩
  have hs := updA_sound hv (n := n) 0 g3
  cases hup : updA n av es with
  | some es' =>
    rw [hup] at hs e
    simp only [] at e
    obtain ⟨j, u, en, p, q, s, g⟩ := hs
    rw [Nat.zero_add] at p
    have hfk : (Instr.findKey kt (.int kk n) ens.toList).run P w = .ok (some (j, u)) w := by
      unfold Instr.findKey
      simp only [Sem.run_bind, run_underlying huk, Result.andThen_ok, p, Sem.run_pure]
    unfold setObjA at e
    rw [BT.putK_eq] at e
    injection e with e
    subst e
    obtain ⟨s1, s2, s3⟩ := set_sound (P := P) (o' := .map kk es' clock) (ob' := .map (ens.modify j fun e => { e with key := .int kk n, val := vx }) clock) hr hget (by simp) h1 g2 rfl ⟨_, rfl, by simpa using g⟩
    refine EffOk.of_unit ⟨_, μ, ?_, s2, s3⟩
    have hkey : ((ens[j]?).map (·.key)).getD (.int kk n) = .int kk n := by
      have : ens[j]? = some en := by simpa using q
      rw [this]; simp [s]
    have hsb : Instr.sameBits 10000 (.int kk n) (.int kk n) = true := sameBits_int kk n 9999
    unfold Instr.mapUpdate
    simp only [Sem.run_bind, run_underlying hu, Result.andThen_ok, hgo, hck, hfk, Instr.keyThatStays, hkey, hsb, if_true, Sem.run_pure]
    exact s1
  | none =>
    rw [hup] at hs e
    simp only [] at e
    have hfk : (Instr.findKey kt (.int kk n) ens.toList).run P w = .ok none w := by
      unfold Instr.findKey
      simp only [] at hs
      simp only [Sem.run_bind, run_underlying huk, Result.andThen_ok, hs, Sem.run_pure]
    rw [forceN_eq] at e
    unfold setObjA at e
    rw [BT.putK_eq] at e
    injection e with e
    subst e
    obtain ⟨s1, s2, s3⟩ := set_sound (P := P) (o' := .map kk (snocM (n, av, clock) es) (Nat.succ clock)) (ob' := .map (ens.push { key := .int kk n, val := vx, born := clock }) (clock + 1)) hr hget (by simp) h1 g2 rfl ⟨_, rfl, by simpa using g3.snoc hv⟩
    refine EffOk.of_unit ⟨_, μ, ?_, s2, s3⟩
    unfold Instr.mapUpdate
    simp only [Sem.run_bind, run_underlying hu, Result.andThen_ok, hgo, hck, hfk, Sem.run_pure]
    exact s1
theorem alloc_sound (hr : Rel OkC μ pd h w) {o : AObj} {ob : Obj} {K : Nat} (ho : RObj OkC μ o ob K) :
    Rel OkC (μ.put h.next w.heap.size K) pd ⟨h.t.put h.next o, h.next + 1⟩ (w.alloc ob) ∧ Ext μ pd h (μ.put h.next w.heap.size K) ⟨h.t.put h.next o, h.next + 1⟩ :=
  have hh : (w.alloc ob).heap = w.heap.push ob := rfl
  hr.alloc (by rw [hh]; simp) (by rw [hh]; simp) (fun i hi => by rw [hh]; simp [Array.getElem?_push, Nat.ne_of_lt hi]) ho ⟨rfl, rfl, rfl⟩
theorem eRange_sound (hE : EnvOk P E) (hr : Rel OkC μ pd h w) {t : TypeId} {x : Option AT} {v : Value} {r : VH} (hx : ∀ b, x = some b → RT μ b v) (e : eRange E h t x = some r) : ValOk P OkC μ pd h w r (Instr.range t v) := by
  unfold eRange at e
  split at e <;> try (cases e; done)
  rename_i ti0 ht
  have ti := hE.tys t ti0 ht
  split at e <;> try (cases e; done)
  rename_i kt el hd
  have hu : P.underlying t = some (.map kt el) := by rw [ti.under, hd]
  split at e <;> try (cases e; done)
  rename_i a
  split at e <;> try (cases e; done)
  · have hv : v = .map none := hx _ rfl
    subst hv
    unfold allocA at e
    rw [BT.putK_eq, forceN_eq] at e
    injection e with e
    subst e
    obtain ⟨s1, s2⟩ := alloc_sound (o := .iter none 0 [] 0) (ob := .mapIter none 0 #[] 0) (K := 0) hr ⟨none, rfl, rfl⟩
    refine ⟨_, _, _, ?_, ⟨_, _, Mu.put_same _ _ _ _, rfl⟩, s1, s2⟩
    unfold Instr.range
    simp only [Sem.run_bind, run_underlying hu, Result.andThen_ok, Sem.run_pure]
    rfl
  · rename_i m
    obtain ⟨c, K, h1, rfl⟩ : ∃ c K, μ m = some (c, K) ∧ v = .map (some c) := hx _ rfl
    split at e <;> try (cases e; done)
    rename_i ko es clock hget
    obtain ⟨c', K', ob, g1, g2, ens, rfl, g3⟩ := hr.obj m _ hget (hr.nopd h1)
    rw [h1] at g1
    obtain ⟨rfl, rfl⟩ : c = c' ∧ K = K' := by simpa using g1
    unfold allocA at e
    rw [BT.putK_eq, forceN_eq] at e
    injection e with e
    subst e
    obtain ⟨s1, s2⟩ := alloc_sound (o := .iter (some m) clock [] clock) (ob := .mapIter (some c) clock #[] clock) (K := 0) hr ⟨some c, rfl, c, K, h1, rfl⟩
    refine ⟨_, _, _, ?_, ⟨_, _, Mu.put_same _ _ _ _, rfl⟩, s1, s2⟩
    unfold Instr.range
    simp only [Sem.run_bind, run_underlying hu, Result.andThen_ok, Sem.run_pure, run_getObj g2 rfl]
    rfl
theorem forced_one : (Question.mapNext 1).forced = true := rfl
theorem nextA_sound (hr : Rel OkC μ pd h w) {b c K : Nat} {m m' : Option Nat} {since : Nat} {seen : List Nat} {last : Nat} {r : VH} {ty : TypeId} (hμ : μ b = some (c, K)) (hg : h.t.get b = some (.iter m since seen last)) (hw : w.heap[c]? = some (.mapIter m' since seen.reverse.toArray last)) (hm : RM μ m m')
    (e : nextA h b m since seen last = some r) : ValOk P OkC μ pd h w r (Instr.next (.pointer (some ⟨c, 0, none⟩)) false ty) := by
  have hgo := run_getObj (P := P) hw rfl
  have over : RT μ (.tup [.one (.bool false)]) (.tuple #[.bool false]) := ⟨[.bool false], rfl, rfl, trivial⟩
  unfold nextA at e
  cases m with
  | none =>
    have hm' : m' = none := hm
    subst hm'
    simp only [] at e
    injection e with e
    subst e
    refine ⟨_, w, μ, ?_, over, hr, Ext.refl _ _ _⟩
    simp [Instr.next, hgo]
  | some mm =>
    obtain ⟨d, K2, hd, rfl⟩ := hm
    simp only [] at e
    split at e <;> try (cases e; done)
    rename_i k es clock hget
    obtain ⟨c', K', ob, g1, g2, ens, rfl, g3⟩ := hr.obj mm _ hget (hr.nopd hd)
    rw [hd] at g1
    obtain ⟨rfl, rfl⟩ : d = c' ∧ K2 = K' := by simpa using g1
    have hgm := run_getObj (P := P) g2 rfl
    split at e
    · injection e with e
      subst e
      have he : ens = #[] := by
        cases hl : ens.toList with
        | nil => simpa using hl
        | cons a l => rw [hl] at g3; cases g3
      subst he
      refine ⟨_, w, μ, ?_, over, hr, Ext.refl _ _ _⟩
      simp [Instr.next, hgo, hgm, forced_one]
    · rename_i x rr
      split at e <;> try (cases e; done)
      obtain ⟨j, av, born⟩ := x
      simp only [] at e
      split at e <;> try (cases e; done)
      rename_i hb
      have hb : born < since := ble_true hb
      obtain ⟨en, he⟩ : ∃ en, ens.toList = [en] := by
        cases hl : ens.toList with
        | nil => rw [hl] at g3; cases g3
        | cons a l =>
          cases l with
          | nil => exact ⟨a, rfl⟩
          | cons a' l' => rw [hl] at g3; exact absurd g3.2 (by simp [REs])
      have he' : ens = #[en] := by apply Array.ext'; simpa using he
      subst he'
      obtain ⟨⟨k1, k2, k3⟩, _⟩ := g3
      subst k3
      split at e
      · unfold setObjA at e
        rw [BT.putK_eq] at e
        injection e with e
        subst e
        obtain ⟨s1, s2, s3⟩ := set_sound (P := P) (o' := .iter (some mm) since [en.born] clock) (ob' := .mapIter (some d) since #[en.born] clock) hr hg (by simp) hμ hw rfl ⟨some d, rfl, d, K2, hd, rfl⟩
        refine ⟨.tuple #[.bool true, en.key, en.val], _, μ, ?_, ⟨[.bool true, en.key, en.val], rfl, rfl, k1, k2, trivial⟩, s2, s3⟩
        have hnb : ¬ since ≤ en.born := by omega
        simp [Instr.next, hgo, hgm, hb, hnb, forced_one, s1]
      · rename_i s q
        split at e <;> try (cases e; done)
        cases hsb : Nat.beq s en.born <;> rw [hsb] at e <;> simp only [] at e <;> try (cases e; done)
        have hsb := beqN hsb
        subst hsb
        split at e <;> try (cases e; done)
        rename_i hl
        have hl : en.born < last := ble_true hl
        injection e with e
        subst e
        refine ⟨_, w, μ, ?_, over, hr, Ext.refl _ _ _⟩
        have hnl : ¬ last ≤ en.born := by omega
        simp [Instr.next, hgo, hgm, hnl, forced_one]
theorem eNext_sound (hr : Rel OkC μ pd h w) {it : Option AT} {v : Value} {s : Bool} {ty : TypeId} {r : VH} (hi : ∀ b, it = some b → RT μ b v) (e : eNext h it s = some r) : ValOk P OkC μ pd h w r (Instr.next v s ty) := by
  unfold eNext at e
  split at e <;> try (cases e; done)
  split at e <;> try (cases e; done)
  rename_i b o
  obtain ⟨c, K, h1, rfl⟩ := hi _ rfl
  split at e <;> try (cases e; done)
  split at e <;> try (cases e; done)
  rename_i m since seen last hg
  obtain ⟨c', K', ob, g1, g2, m', rfl, g3⟩ := hr.obj b _ hg (hr.nopd h1)
  rw [h1] at g1
  obtain ⟨rfl, rfl⟩ : c = c' ∧ K = K' := by simpa using g1
  exact nextA_sound hr h1 hg g2 g3 e
end
end Go.Proofs.YtofjmfjgicdjjaaGreat.Ab
