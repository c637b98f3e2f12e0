/- The abstract machine, part 47: a call that has been worked out over a few blocks, in place of the call. -/
import Derived.Test.YtofjmfjgicdjjaaGreatAbI
import Derived.Test.YtofjmfjgicdjjaaGreatAbJ
set_option linter.unusedVariables false
set_option linter.unusedSimpArgs false
namespace Go.Proofs.YtofjmfjgicdjjaaGreat.Ab
open Go
noncomputable section
structure Blk where
  b : Nat
  l : List A1
  e : TypeId
def blkObj (x : Blk) : AObj := .cells (BT.fromL x.l 0 .e) x.l.length x.e
def putAll : List Blk → BT AObj → BT AObj
  | [], t => t
  | x :: L, t => putAll L (t.put x.b (blkObj x))
/-- The same, worked out as they are laid. -/
def putAllK {R : Type} (L : List Blk) : BT AObj → (BT AObj → R) → R :=
  @List.rec Blk (fun _ => BT AObj → (BT AObj → R) → R) (fun t k => k t) (fun x _ ih => fun t k => @Blk.rec (fun _ => R) (fun b l e => BT.fromK l 0 .e fun c => forceN (lenL l) fun n => t.putS b (.cells c n e) fun t' => ih t' k) x) L
theorem putAllK_eq {R : Type} (k : BT AObj → R) : ∀ (L : List Blk) (t : BT AObj), putAllK L t k = k (putAll L t) := by
  intro L
  induction L with
  | nil => intro t; rfl
  | cons x L ih =>
    intro t
    obtain ⟨b, l, e⟩ := x
    show (BT.fromK l 0 .e fun c => forceN (lenL l) fun n => t.putS b (.cells c n e) fun t' => putAllK L t' k) = _
    rw [BT.fromK_eq, forceN_eq, BT.putS_eq, ih, lenL_eq]
    rfl
/-- n whole numbers below w, laid in N, the first lowest; r behind them. -/
def nums (k : IntKind) (w n : Nat) : Nat → List A1 → List A1 :=
  Nat.rec (motive := fun _ => Nat → List A1 → List A1) (fun _ r => r) (fun _ ih => fun N r => forceN (Nat.mod N w) fun d => .int k (.ofNat d) :: forceN (Nat.div N w) fun N' => ih N' r) n
def subCells (t : BT A1) : List A1 → Nat → Bool
  | [], _ => true
  | a :: l, i => match t.get i with
    | some x => match same1 a x with
      | true => subCells t l (Nat.succ i)
      | false => false
    | none => false
def subBlk (h : AHeap) (x : Blk) : Bool :=
  match h.t.get x.b with
  | some (.cells c n _) => match Nat.beq n (lenL x.l) with
    | true => subCells c x.l 0
    | false => false
  | _ => false
def subH (h : AHeap) : List Blk → Bool
  | [] => true
  | x :: L => match subBlk h x with
    | true => subH h L
    | false => false
theorem subCells_all {t : BT A1} : ∀ {l : List A1} {o : Nat}, subCells t l o = true → ∀ i a, l[i]? = some a → t.get (o + i) = some a
  | [], o, _, i, a, h => by simp at h
  | b :: l, o, e, i, a, h => by
    simp only [subCells] at e
    split at e <;> try (cases e; done)
    rename_i x hx
    split at e <;> try (cases e; done)
    rename_i hs
    have hs := same1_eq hs
    subst hs
    cases i with
    | zero => simp at h; subst h; exact hx
    | succ i =>
      have := subCells_all e i a (by simpa using h)
      rw [show o + (i + 1) = Nat.succ o + i from by omega]
      exact this
theorem subBlk_sub {h : AHeap} {x : Blk} (e : subBlk h x = true) : ∃ o', h.t.get x.b = some o' ∧ SubObj (blkObj x) o' := by
  unfold subBlk at e
  split at e <;> try (cases e; done)
  rename_i c n el hg
  split at e <;> try (cases e; done)
  rename_i hn
  have hn := beqN hn
  rw [lenL_eq] at hn
  subst hn
  refine ⟨_, hg, .inr ⟨_, _, _, _, _, rfl, rfl, fun i a hi => ?_⟩⟩
  have := subCells_all e i a (BT.get_from _ _ _ hi)
  rwa [Nat.zero_add] at this
theorem subH_all {h : AHeap} : ∀ {L : List Blk}, subH h L = true → ∀ x ∈ L, subBlk h x = true
  | [], _, x, hx => by cases hx
  | y :: L, e, x, hx => by
    simp only [subH] at e
    split at e <;> try (cases e; done)
    rename_i h1
    rcases List.mem_cons.1 hx with rfl | hx
    · exact h1
    · exact subH_all e x hx
theorem putAll_get : ∀ {L : List Blk} {t : BT AObj} {b : Nat} {o : AObj}, (putAll L t).get b = some o → (∃ x ∈ L, x.b = b ∧ o = blkObj x) ∨ ((∀ x ∈ L, x.b ≠ b) ∧ t.get b = some o)
  | [], t, b, o, h => .inr ⟨fun x hx => (by cases hx), h⟩
  | y :: L, t, b, o, h => by
    rcases putAll_get (L := L) h with ⟨x, hx, h1, h2⟩ | ⟨h1, h2⟩
    · exact .inl ⟨x, List.mem_cons_of_mem _ hx, h1, h2⟩
    · rcases BT.get_put_inv _ _ _ _ _ h2 with ⟨h3, h4⟩ | ⟨h3, h4⟩
      · exact .inl ⟨y, List.mem_cons_self, h3.symm, h4⟩
      · refine .inr ⟨fun x hx => ?_, h4⟩
        rcases List.mem_cons.1 hx with rfl | hx
        · exact fun e => h3 e.symm
        · exact h1 x hx
def memB (L : List Blk) (b : Nat) : Bool :=
  match L with
  | [] => false
  | x :: L => match Nat.beq x.b b with
    | true => true
    | false => memB L b
theorem memB_mem : ∀ {L : List Blk} {b : Nat}, memB L b = true → ∃ x ∈ L, x.b = b
  | [], b, h => by cases h
  | x :: L, b, h => by
    simp only [memB] at h
    split at h
    · rename_i h1
      exact ⟨x, List.mem_cons_self, beqN h1⟩
    · obtain ⟨y, h1, h2⟩ := memB_mem h
      exact ⟨y, List.mem_cons_of_mem _ h1, h2⟩
def allIn (L1 : List Blk) : List Blk → Bool
  | [] => true
  | x :: L => match memB L1 x.b with
    | true => allIn L1 L
    | false => false
theorem allIn_all {L1 : List Blk} : ∀ {L : List Blk}, allIn L1 L = true → ∀ x ∈ L, ∃ y ∈ L1, y.b = x.b
  | [], _, x, hx => by cases hx
  | y :: L, e, x, hx => by
    simp only [allIn] at e
    split at e <;> try (cases e; done)
    rename_i h1
    rcases List.mem_cons.1 hx with rfl | hx
    · exact memB_mem h1
    · exact allIn_all e x hx
def sameArgs : List AT → List AT → Bool
  | [], [] => true
  | a :: l, b :: m => match sameT a b with
    | true => sameArgs l m
    | false => false
  | _, _ => false
theorem sameArgs_eq : ∀ {l m : List AT}, sameArgs l m = true → l = m
  | [], [], _ => rfl
  | [], _ :: _, h => by cases h
  | _ :: _, [], h => by cases h
  | a :: l, b :: m, h => by
    simp only [sameArgs] at h
    split at h <;> try (cases h; done)
    rename_i h1
    rw [sameT_eq h1, sameArgs_eq h]
/-- One call, worked out. -/
structure Stub where
  args : List AT
  next0 : Nat
  L0 : List Blk
  v : AT
  next1 : Nat
  L1 : List Blk
def Stub.h0 (s : Stub) : AHeap := ⟨putAll s.L0 .e, s.next0⟩
/-- What the piece's run must come to. -/
def Stub.good (s : Stub) (r : CR) : Bool :=
  match r with
  | some ⟨v, h⟩ => match sameT v s.v with
    | true => match Nat.beq h.next s.next1 with
      | true => match subH h s.L1 with
        | true => allIn s.L1 s.L0
        | false => false
      | false => false
    | false => false
  | none => false
def Stub.use (s : Stub) (args : List AT) (h : AHeap) : CR :=
  match Nat.beq h.next s.next0 with
  | true => match sameArgs args s.args with
    | true => match subH h s.L0 with
      | true => putAllK s.L1 h.t fun t => forceN s.next1 fun n => some ⟨s.v, ⟨t, n⟩⟩
      | false => none
    | false => none
  | false => none
theorem Stub.sound {P : Program} {s : Stub} {f : FuncId} {r0 : CR} (hg : s.good r0 = true)
    (hp : ∀ q, r0 = some q → ∀ (mine : Nat → Prop) (w0 : World) μ pd w avs, Rel ⟨okCode, mine, w0⟩ μ pd s.h0 w → RTs μ s.args avs → CallsA P ⟨okCode, mine, w0⟩ μ pd s.h0 w q f avs.toArray)
    {args : List AT} {h : AHeap} {r : VH} (e : s.use args h = some r) {mine : Nat → Prop} {w0 : World} {μ : Mu} {pd : Nat → Prop} {w : World} {avs : List Value} (hr : Rel ⟨okCode, mine, w0⟩ μ pd h w) (ha : RTs μ args avs) :
    CallsA P ⟨okCode, mine, w0⟩ μ pd h w r f avs.toArray := by
  unfold Stub.use at e
  split at e <;> try (cases e; done)
  rename_i hn
  have hn := beqN hn
  split at e <;> try (cases e; done)
  rename_i hargs
  have hargs := sameArgs_eq hargs
  subst hargs
  split at e <;> try (cases e; done)
  rename_i hsub
  rw [putAllK_eq, forceN_eq] at e
  injection e with e
  subst e
  unfold Stub.good at hg
  split at hg <;> try (cases hg; done)
  rename_i v h1
  split at hg <;> try (cases hg; done)
  rename_i hv
  have hv := sameT_eq hv
  split at hg <;> try (cases hg; done)
  rename_i hn1
  have hn1 := beqN hn1
  split at hg <;> try (cases hg; done)
  rename_i hs1
  rw [← hv]
  refine frame_calls hr (h0 := s.h0) (h1 := h1) ⟨hn.symm, hn1.symm, fun b o ho => ?_, fun b o ho => ?_⟩ fun mine' hr0 => hp _ rfl mine' w μ pd w avs hr0 ha
  · rcases putAll_get ho with ⟨x, hx, rfl, rfl⟩ | ⟨_, ho⟩
    · exact subBlk_sub (subH_all hsub x hx)
    · rw [BT.get_e] at ho
      cases ho
  · rcases putAll_get ho with ⟨x, hx, rfl, rfl⟩ | ⟨hnot, ho⟩
    · exact .inl (subBlk_sub (subH_all hs1 x hx))
    · refine .inr ⟨?_, ho⟩
      cases hc : s.h0.t.get b with
      | none => rfl
      | some o0 =>
        rcases putAll_get hc with ⟨x, hx, hxb, _⟩ | ⟨_, hc⟩
        · obtain ⟨y, hy, hyb⟩ := allIn_all hg x hx
          exact absurd (hyb.trans hxb) (hnot y hy)
        · rw [BT.get_e] at hc
          cases hc
end
end Go.Proofs.YtofjmfjgicdjjaaGreat.Ab
/- The abstract machine, part 48: the checksum and worked-out calls, all in place of calls. -/
set_option linter.unusedVariables false
set_option linter.unusedSimpArgs false
namespace Go.Proofs.YtofjmfjgicdjjaaGreat.Ab
open Go Go.Proofs
noncomputable section
abbrev Tab := List (FuncId × Stub)
def tabUse : Tab → FuncId → List AT → AHeap → CR
  | [], _, _, _ => none
  | (g, s) :: L, f, args, h => match Nat.beq g f with
    | true => match s.use args h with
      | some r => some r
      | none => tabUse L f args h
    | false => tabUse L f args h
def tabHas : Tab → FuncId → Bool
  | [], _ => false
  | (g, _) :: L, f => match Nat.beq g f with
    | true => true
    | false => tabHas L f
def tabOvr (L : Tab) (f : FuncId) : Option (List AT → AHeap → CR) :=
  match Nat.beq f 191 with
  | true => some crcC
  | false => match tabHas L f with
    | true => some (tabUse L f)
    | false => none
/-- A stub that is true of the program. -/
structure StubOk (g : FuncId) (s : Stub) : Prop where
  fn : ∃ fn, Tryz.prog.funcs[g]? = some fn ∧ (fn.name == "runtime.NumGoroutine") = false ∧ fn.body.isSome = true
  calls : ∀ (B : Nat → Prop) (w0 : World) args h r, s.use args h = some r → ∀ μ pd w avs, Rel ⟨okCode, B, w0⟩ μ pd h w → RTs μ args avs → CallsA Tryz.prog ⟨okCode, B, w0⟩ μ pd h w r g avs.toArray
theorem tabOvr_ok : ∀ {L : Tab}, (∀ x ∈ L, StubOk x.1 x.2) → OvrOk Tryz.prog (tabOvr L) := by
  intro L hL
  have hfn : ∀ {L : Tab}, (∀ x ∈ L, StubOk x.1 x.2) → ∀ f, tabHas L f = true → ∃ fn, Tryz.prog.funcs[f]? = some fn ∧ (fn.name == "runtime.NumGoroutine") = false ∧ fn.body.isSome = true := by
    intro L
    induction L with
    | nil => intro _ f h; cases h
    | cons x L ih =>
      intro hL f h
      obtain ⟨g, s⟩ := x
      simp only [tabHas] at h
      split at h
      · rename_i hb
        have hb := beqN hb
        subst hb
        exact (hL (g, s) List.mem_cons_self).fn
      · exact ih (fun x hx => hL x (List.mem_cons_of_mem _ hx)) f h
  have huse : ∀ {L : Tab}, (∀ x ∈ L, StubOk x.1 x.2) → ∀ f (B : Nat → Prop) (w0 : World) args h r, tabUse L f args h = some r → ∀ μ pd w avs, Rel ⟨okCode, B, w0⟩ μ pd h w → RTs μ args avs → CallsA Tryz.prog ⟨okCode, B, w0⟩ μ pd h w r f avs.toArray := by
    intro L
    induction L with
    | nil => intro _ f B w0 args h r e; cases e
    | cons x L ih =>
      intro hL f B w0 args h r e
      obtain ⟨g, s⟩ := x
      simp only [tabUse] at e
      split at e
      · rename_i hb
        have hb := beqN hb
        subst hb
        split at e
        · rename_i q hq
          injection e with e
          subst e
          exact (hL (g, s) List.mem_cons_self).calls B w0 args h _ hq
        · exact ih (fun x hx => hL x (List.mem_cons_of_mem _ hx)) g B w0 args h r e
      · exact ih (fun x hx => hL x (List.mem_cons_of_mem _ hx)) f B w0 args h r e
  refine ⟨fun f nat h => ?_, fun B w0 f nat h args hp r hv μ pd w avs hr ha => ?_⟩
  · cases hf : Nat.beq f 191 with
    | true => exact crcOvr_ok.fn f crcC (by unfold crcOvr; rw [hf])
    | false =>
      unfold tabOvr at h
      rw [hf] at h
      cases ht : tabHas L f with
      | true => exact hfn hL f ht
      | false => rw [ht] at h; cases h
  · unfold tabOvr at h
    cases hf : Nat.beq f 191 with
    | true =>
      rw [hf] at h
      injection h with h
      subst h
      exact crcOvr_ok.calls B w0 f crcC (by unfold crcOvr; rw [hf]) args hp r hv μ pd w avs hr ha
    | false =>
      rw [hf] at h
      cases ht : tabHas L f with
      | false => rw [ht] at h; cases h
      | true =>
        rw [ht] at h
        injection h with h
        subst h
        exact huse hL f B w0 args hp r hv μ pd w avs hr ha
/-- A piece: its run over its own blocks, with the pieces inside it. -/
def pieceRun (L : Tab) (f : FuncId) (s : Stub) : Option Unit :=
  envK Tryz.prog (fun _ => true) (tabOvr L) fun E => putAllK s.L0 .e fun t => forceN s.next0 fun n => Bool.rec (motive := fun _ => Option Unit) none (some ()) (s.good (acall E (execF E 100000) f s.args ⟨t, n⟩))
def okU (r : Option Unit) : Bool := Option.rec (motive := fun _ => Bool) false (fun _ => true) r
theorem piece_ok {L : Tab} (hL : ∀ x ∈ L, StubOk x.1 x.2) {f : FuncId} {s : Stub} (hfn : ∃ fn, Tryz.prog.funcs[f]? = some fn ∧ (fn.name == "runtime.NumGoroutine") = false ∧ fn.body.isSome = true) (e : okU (pieceRun L f s) = true) : StubOk f s := by
  refine ⟨hfn, fun B w0 args h r hu μ pd w avs hr ha => ?_⟩
  cases hp : pieceRun L f s with
  | none => rw [hp] at e; cases e
  | some u =>
    obtain ⟨E, h1, h2⟩ := envK_callsA mixed (tabOvr_ok hL) (okAll_fn all_ok) hp
    rw [putAllK_eq, forceN_eq] at h1
    have h1 : (Bool.rec (motive := fun _ => Option Unit) none (some ()) (s.good (acall E (execF E 100000) f s.args s.h0)) : Option Unit) = some u := h1
    cases hg : s.good (acall E (execF E 100000) f s.args s.h0) with
    | false => rw [hg] at h1; cases h1
    | true =>
      refine Stub.sound hg (fun q hq mine w0 μ pd w avs hr ha => ?_) hu hr ha
      rw [execF_eq] at hq
      exact h2 100000 f s.args s.h0 q hq mine w0 μ pd w avs hr ha
end
end Go.Proofs.YtofjmfjgicdjjaaGreat.Ab
/- The abstract machine, part 49: short words in which a piece's blocks are written; pieces put together. -/
set_option linter.unusedVariables false
set_option linter.unusedSimpArgs false
namespace Go.Proofs.YtofjmfjgicdjjaaGreat.Ab
open Go Go.Proofs
noncomputable section
/-! ### Cells ahead of a list -/
def ni (n N : Nat) (r : List A1) : List A1 := nums .i64 18446744073709551616 n N r
def nu (n N : Nat) (r : List A1) : List A1 := nums .u64 18446744073709551616 n N r
def nb (n N : Nat) (r : List A1) : List A1 := nums .u8 256 n N r
def i1 (n : Nat) (r : List A1) : List A1 := .int .i64 (.ofNat n) :: r
def u1 (n : Nat) (r : List A1) : List A1 := .int .u64 (.ofNat n) :: r
def bt (r : List A1) : List A1 := .bool true :: r
def bf (r : List A1) : List A1 := .bool false :: r
def zp (r : List A1) : List A1 := .nilp :: r
def zs (r : List A1) : List A1 := .nils :: r
def p0 (b : Nat) (r : List A1) : List A1 := .ptr b 0 :: r
def pt (b o : Nat) (r : List A1) : List A1 := .ptr b o :: r
def s0 (b n q : Nat) (r : List A1) : List A1 := .sl b 0 n n q :: r
def sl (b o n c q : Nat) (r : List A1) : List A1 := .sl b o n c q :: r
def cn (a : A1) (r : List A1) : List A1 := a :: r
/-- The pattern n times. -/
def rp (n : Nat) (f : List A1 → List A1) (r : List A1) : List A1 := Nat.rec (motive := fun _ => List A1) r (fun _ ih => f ih) n
end
/-! ### Tables -/
theorem tab_nil : ∀ x ∈ ([] : Tab), StubOk x.1 x.2 := fun x hx => by cases hx
theorem tab_cons {f : FuncId} {s : Stub} {L : Tab} (h : StubOk f s) (hL : ∀ x ∈ L, StubOk x.1 x.2) : ∀ x ∈ ((f, s) :: L : Tab), StubOk x.1 x.2 := by
  intro x hx
  rcases List.mem_cons.1 hx with rfl | hx
  · exact h
  · exact hL x hx
theorem fn_ok {g : FuncId} {fn : Func} (h : Tryz.prog.funcs[g]? = some fn) (h1 : ((fn.name == "runtime.NumGoroutine") = false ∧ fn.body.isSome = true)) : ∃ fn, Tryz.prog.funcs[g]? = some fn ∧ (fn.name == "runtime.NumGoroutine") = false ∧ fn.body.isSome = true := ⟨fn, h, h1⟩
/-- A whole run that returns true, with the pieces in place of calls. -/
noncomputable def wholeRun (L : Tab) (f : FuncId) : Option Unit := envK Tryz.prog (fun _ => true) (tabOvr L) fun E => isTrueK (acall E (execF E 100000) f [] ⟨.e, 0⟩)
theorem whole_wakes {L : Tab} (hL : ∀ x ∈ L, StubOk x.1 x.2) {f : FuncId} (e : okU (wholeRun L f) = true) : Wakes f := by
  cases hp : wholeRun L f with
  | none => rw [hp] at e; cases e
  | some u =>
    unfold wholeRun at hp
    refine wakes_of (fuel := 100000) (tabOvr_ok hL) all_ok (f := f) ?_
    have : (fun E => isTrueK (acall E (execF E 100000) f [] ⟨.e, 0⟩)) = fun E => isTrueK (acall E (exec E 100000) f [] ⟨.e, 0⟩) := by
      funext E
      rw [execF_eq]
    rw [← this]
    exact hp
end Go.Proofs.YtofjmfjgicdjjaaGreat.Ab
/- The abstract machine, part 50: a function of one int whose run, behind a run that is known, returns true. -/
set_option linter.unusedVariables false
set_option linter.unusedSimpArgs false
namespace Go.Proofs.YtofjmfjgicdjjaaGreat.Ab
open Go Go.Proofs
def i64A (n : Int) : List AT := [.v (.one (.int .i64 n))]
noncomputable def intRun (g f : FuncId) (n : Int) : Option Unit := envK Tryz.prog (fun _ => true) (wakeOvr g) fun E => isTrueK (acall E (execF E 100000) f (i64A n) ⟨.e, 0⟩)
/-- The same for 0 to k - 1. -/
noncomputable def belowRun (E : Env) (f : FuncId) (k : Nat) : Bool :=
  Nat.rec (motive := fun _ => Bool) true (fun n ih => Option.rec (motive := fun _ => Bool) false (fun _ => ih) (isTrueK (acall E (execF E 100000) f (i64A (.ofNat n)) ⟨.e, 0⟩))) k
noncomputable def intsRun (g f : FuncId) (k : Nat) : Option Unit := envK Tryz.prog (fun _ => true) (wakeOvr g) fun E => Bool.rec (motive := fun _ => Option Unit) none (some ()) (belowRun E f k)
abbrev AnswersTrue (f : FuncId) (n : Int) : Prop := ∀ w, Calls Tryz.prog f #[.int .i64 n] w fun e w' => e = .returned (.bool true) ∧ RowKit.Below w.heap.size w w'
theorem answers_of {ovr : FuncId → Option (List AT → AHeap → CR)} {E : Env} {f : FuncId} {n : Int}
    (h2 : ∀ fuel f args v, acall E (exec E fuel) f args ⟨.e, 0⟩ = some v → ∀ w avs, RTs (fun _ => none) args avs → Calls Tryz.prog f avs.toArray w fun ex w' => ∃ u μ', ex = .returned u ∧ RT μ' v.a u ∧ RowKit.Below w.heap.size w w')
    (h1 : isTrueK (acall E (execF E 100000) f (i64A n) ⟨.e, 0⟩) = some ()) : AnswersTrue f n := by
  intro w
  rw [execF_eq] at h1
  obtain ⟨h, h3⟩ := isTrueK_some h1
  refine (h2 100000 f _ _ h3 w [.int .i64 n] (by simp [i64A, RTs, RT, RV, R1])).mono fun ex w' ⟨u, μ', h4, h5, h6⟩ => ⟨?_, h6⟩
  have h5 : u = .bool true := h5
  rw [h4, h5]
theorem int_answers {g f : FuncId} (hw : Wakes g) (hf : ∃ fn, Tryz.prog.funcs[g]? = some fn ∧ (fn.name == "runtime.NumGoroutine") = false ∧ fn.body.isSome = true) {n : Int} (e : okU (intRun g f n) = true) : AnswersTrue f n := by
  cases hp : intRun g f n with
  | none => rw [hp] at e; cases e
  | some u =>
    obtain ⟨E, h1, h2⟩ := envK_calls mixed (wakeOvr_ok hw hf) (okAll_fn all_ok) hp
    exact answers_of (ovr := wakeOvr g) h2 h1
theorem below_answers {E : Env} {f : FuncId} : ∀ {k : Nat}, belowRun E f k = true → ∀ n, n < k → isTrueK (acall E (execF E 100000) f (i64A (.ofNat n)) ⟨.e, 0⟩) = some ()
  | 0, _, n, h => absurd h (Nat.not_lt_zero _)
  | k + 1, e, n, h => by
    have e : (Option.rec (motive := fun _ => Bool) false (fun _ => belowRun E f k) (isTrueK (acall E (execF E 100000) f (i64A (.ofNat k)) ⟨.e, 0⟩)) : Bool) = true := e
    cases hk : isTrueK (acall E (execF E 100000) f (i64A (.ofNat k)) ⟨.e, 0⟩) with
    | none => rw [hk] at e; cases e
    | some u =>
      rw [hk] at e
      by_cases c : n = k
      · subst c; exact hk
      · exact below_answers e n (by omega)
theorem ints_answer {g f : FuncId} (hw : Wakes g) (hf : ∃ fn, Tryz.prog.funcs[g]? = some fn ∧ (fn.name == "runtime.NumGoroutine") = false ∧ fn.body.isSome = true) {k : Nat} (e : okU (intsRun g f k) = true) : ∀ n, n < k → AnswersTrue f (.ofNat n) := by
  cases hp : intsRun g f k with
  | none => rw [hp] at e; cases e
  | some u =>
    obtain ⟨E, h1, h2⟩ := envK_calls mixed (wakeOvr_ok hw hf) (okAll_fn all_ok) hp
    intro n hn
    refine answers_of (ovr := wakeOvr g) h2 (below_answers (k := k) ?_ n hn)
    cases hb : belowRun E f k with
    | true => rfl
    | false => rw [hb] at h1; cases h1
end Go.Proofs.YtofjmfjgicdjjaaGreat.Ab
