/- The abstract machine, part 24: an operation looks at its own operands alone; what it yields stays as memory grows. -/
import Derived.Test.YtofjmfjgicdjjaaGreatAbE
import Derived.Orders
set_option linter.unusedVariables false
set_option linter.unusedSimpArgs false
namespace Go.Proofs.YtofjmfjgicdjjaaGreat.Ab
open Go
def optO (x : Option Operand) : List Operand := match x with | none => [] | some x => [x]
def sndsO : List (Nat × Operand) → List Operand
  | [] => []
  | (_, x) :: l => x :: sndsO l
def opsOf (op : Op) : List Operand :=
  match op with
  | .move x => [x]
  | .assign x => [x]
  | .nilCheck x => [x]
  | .pick c a b => [c, a, b]
  | .build _ parts => sndsO parts.toList
  | .buildSlice _ _ parts => sndsO parts.toList
  | .load _ a => [a]
  | .store _ a x => [a, x]
  | .binOp _ _ x y _ => [x, y]
  | .unOp _ _ x => [x]
  | .convert _ _ x => [x]
  | .sliceToArrayPointer _ x => [x]
  | .makeFunc _ a b => a.toList ++ b.toList
  | .slice _ x lo hi mx => x :: (optO lo ++ (optO hi ++ optO mx))
  | .fieldAddr _ x _ => [x]
  | .field _ x _ => [x]
  | .indexAddr _ x i => [x, i]
  | .index _ x i => [x, i]
  | .lookup _ x i _ => [x, i]
  | .extract x _ => [x]
  | .box _ x => [x]
  | .makeSlice _ l c => [l, c]
  | .mapUpdate _ m k x => [m, k, x]
  | .range _ x => [x]
  | .next it _ => [it]
  | .entry it => [it]
  | .call c => match c.callee with
    | .value f => f :: c.args.toList
    | _ => c.args.toList
  | _ => []
section
variable {E : Env} {ρ ρ' : Operand → Option AT}
theorem fillA_congr (place : Nat → Option (Nat × Nat)) : ∀ (parts : List (Nat × Operand)) (l : List A1), (∀ x ∈ sndsO parts, ρ x = ρ' x) → fillA place ρ parts l = fillA place ρ' parts l
  | [], l, h => rfl
  | (i, x) :: parts, l, h => by
    have h1 := h x (by simp [sndsO])
    have h2 : ∀ l, fillA place ρ parts l = fillA place ρ' parts l := fun l => fillA_congr place parts l (fun y hy => h y (by simp [sndsO, hy]))
    simp only [fillA, h1, h2]
theorem ptrsOf_congr : ∀ (l : List Operand), (∀ x ∈ l, ρ x = ρ' x) → ptrsOf ρ l = ptrsOf ρ' l
  | [], h => rfl
  | x :: l, h => by
    have h1 := h x (by simp)
    have h2 := ptrsOf_congr l (fun y hy => h y (by simp [hy]))
    simp only [ptrsOf, h1, h2]
theorem argsOf_congr : ∀ (l : List Operand), (∀ x ∈ l, ρ x = ρ' x) → argsOf ρ l = argsOf ρ' l
  | [], h => rfl
  | x :: l, h => by
    have h1 := h x (by simp)
    have h2 := argsOf_congr l (fun y hy => h y (by simp [hy]))
    simp only [argsOf, h1, h2]
theorem minmaxFrom_congr (isMax : Bool) (k : IntKind) : ∀ (l : List Operand) (a : Int), (∀ x ∈ l, ρ x = ρ' x) → minmaxFrom isMax k ρ a l = minmaxFrom isMax k ρ' a l
  | [], a, h => rfl
  | x :: l, a, h => by
    have h1 := h x (by simp)
    have h2 : ∀ a, minmaxFrom isMax k ρ a l = minmaxFrom isMax k ρ' a l := fun a => minmaxFrom_congr isMax k l a (fun y hy => h y (by simp [hy]))
    simp only [minmaxFrom, h1, h2]
theorem boundA_congr (x : Option Operand) (d t : Nat) (h : ∀ y ∈ optO x, ρ y = ρ' y) : boundA ρ x d t = boundA ρ' x d t := by
  cases x with
  | none => rfl
  | some x => simp only [boundA, h x (by simp [optO])]
theorem boundsA_congr (len cap : Nat) (lo hi mx : Option Operand) (h : ∀ y ∈ optO lo ++ (optO hi ++ optO mx), ρ y = ρ' y) : boundsA ρ len cap lo hi mx = boundsA ρ' len cap lo hi mx := by
  have h1 : ∀ d t, boundA ρ lo d t = boundA ρ' lo d t := fun d t => boundA_congr lo d t (fun y hy => h y (by simp [hy]))
  have h2 : ∀ d t, boundA ρ hi d t = boundA ρ' hi d t := fun d t => boundA_congr hi d t (fun y hy => h y (by simp [hy]))
  have h3 : ∀ d t, boundA ρ mx d t = boundA ρ' mx d t := fun d t => boundA_congr mx d t (fun y hy => h y (by simp [hy]))
  simp only [boundsA, h1, h2, h3]
theorem opRes_congr (hp : AHeap) (op : Op) (h : ∀ x ∈ opsOf op, ρ x = ρ' x) : opRes E hp ρ op = opRes E hp ρ' op := by
  cases op <;> simp only [opRes] <;> try rfl
  case move x => rw [h x (by simp [opsOf])]
  case assign x => rw [h x (by simp [opsOf])]
  case pick c a b => rw [vPick, vPick, h c (by simp [opsOf]), h a (by simp [opsOf]), h b (by simp [opsOf])]
  case box e x => rw [h x (by simp [opsOf])]
  case build t parts =>
    have : ∀ place l, fillA place ρ parts.toList l = fillA place ρ' parts.toList l := fun place l => fillA_congr place _ l (fun x hx => h x (by simpa [opsOf] using hx))
    simp only [vBuild, this]
  case buildSlice t len parts =>
    have : ∀ place l, fillA place ρ parts.toList l = fillA place ρ' parts.toList l := fun place l => fillA_congr place _ l (fun x hx => h x (by simpa [opsOf] using hx))
    simp only [mBuildSlice, this]
  case load t a => rw [h a (by simp [opsOf])]
  case nilCheck x => rw [h x (by simp [opsOf])]
  case binOp op t x y _ => rw [h x (by simp [opsOf]), h y (by simp [opsOf])]
  case unOp op _ x => rw [h x (by simp [opsOf])]
  case convert s d x => rw [h x (by simp [opsOf])]
  case sliceToArrayPointer a x => rw [h x (by simp [opsOf])]
  case makeFunc fn a b =>
    have h1 := ptrsOf_congr a.toList (fun x hx => h x (by simp only [opsOf]; exact List.mem_append_left _ hx))
    have h2 := ptrsOf_congr b.toList (fun x hx => h x (by simp only [opsOf]; exact List.mem_append_right _ hx))
    simp only [vFn, h1, h2]
  case slice t x lo hi mx =>
    have h1 := h x (by simp [opsOf])
    have h2 : ∀ len cap, boundsA ρ len cap lo hi mx = boundsA ρ' len cap lo hi mx := fun len cap => boundsA_congr len cap lo hi mx (fun y hy => h y (by simp only [opsOf]; exact List.mem_cons_of_mem _ hy))
    simp only [vSlice, h1, h2]
  case fieldAddr s x f => rw [h x (by simp [opsOf])]
  case field t x f => rw [h x (by simp [opsOf])]
  case indexAddr t x i => rw [h x (by simp [opsOf]), h i (by simp [opsOf])]
  case index t x i => rw [h x (by simp [opsOf]), h i (by simp [opsOf])]
  case lookup t x i ok => rw [h x (by simp [opsOf]), h i (by simp [opsOf])]
  case extract x i => rw [h x (by simp [opsOf])]
  case makeSlice t l c => rw [h l (by simp [opsOf]), h c (by simp [opsOf])]
  case entry it => rw [h it (by simp [opsOf])]
  case call c =>
    obtain ⟨callee, args, ats⟩ := c
    cases callee <;> simp only [] <;> try rfl
    rename_i b
    have ha : ∀ x ∈ args.toList, ρ x = ρ' x := fun x hx => h x (by simpa [opsOf] using hx)
    cases b <;> simp only [] <;> try rfl
    · unfold vCap
      cases hl : args.toList with
      | nil => rfl
      | cons x l => cases l with
        | nil => simp only [ha x (by rw [hl]; simp)]
        | cons => rfl
    · unfold vLen
      cases hl : args.toList with
      | nil => rfl
      | cons x l => cases l with
        | nil => simp only [ha x (by rw [hl]; simp)]
        | cons => rfl
    · unfold vMinMax
      cases hl : args.toList with
      | nil => rfl
      | cons x l =>
        have h2 : ∀ k a, minmaxFrom true k ρ a l = minmaxFrom true k ρ' a l := fun k a => minmaxFrom_congr true k l a (fun y hy => ha y (by rw [hl]; simp [hy]))
        simp only [ha x (by rw [hl]; simp), h2]
    · unfold vMinMax
      cases hl : args.toList with
      | nil => rfl
      | cons x l =>
        have h2 : ∀ k a, minmaxFrom false k ρ a l = minmaxFrom false k ρ' a l := fun k a => minmaxFrom_congr false k l a (fun y hy => ha y (by rw [hl]; simp [hy]))
        simp only [ha x (by rw [hl]; simp), h2]
theorem effOp_congr (rec : Rec) (hp : AHeap) (op : Op) (h : ∀ x ∈ opsOf op, ρ x = ρ' x) : effOp E rec hp ρ op = effOp E rec hp ρ' op := by
  cases op <;> simp only [effOp] <;> try rfl
  case store t a x => rw [h a (by simp [opsOf]), h x (by simp [opsOf])]
  case mapUpdate t m k x => rw [h m (by simp [opsOf]), h k (by simp [opsOf]), h x (by simp [opsOf])]
  case range t x => rw [h x (by simp [opsOf])]
  case next it s => rw [h it (by simp [opsOf])]
  case call c =>
    obtain ⟨callee, args, ats⟩ := c
    cases callee <;> simp only [] <;> try rfl
    case value f =>
      have hf := h f (by simp [opsOf])
      have ha := argsOf_congr args.toList (fun x hx => h x (by simp only [opsOf]; exact List.mem_cons_of_mem _ hx))
      rw [hf, ha]
    rename_i b
    have ha : ∀ x ∈ args.toList, ρ x = ρ' x := fun x hx => h x (by simpa [opsOf] using hx)
    cases b <;> simp only [] <;> try rfl
    · unfold eAppend
      cases hl : args.toList with
      | nil => rfl
      | cons x l => cases l with
        | nil => rfl
        | cons y l => cases l with
          | nil => simp only [ha x (by rw [hl]; simp), ha y (by rw [hl]; simp)]
          | cons => rfl
    · unfold eCopy
      cases hl : args.toList with
      | nil => rfl
      | cons x l => cases l with
        | nil => rfl
        | cons y l => cases l with
          | nil => simp only [ha x (by rw [hl]; simp), ha y (by rw [hl]; simp)]
          | cons => rfl
end

/-! ### Memory that has grown -/
def Grown (h h' : AHeap) : Prop := ∀ b o, h.t.get b = some o → h'.t.get b = some o
section
variable {E : Env} {ρ : Operand → Option AT} {h h' : AHeap} (hg : Grown h h')
include hg
theorem live_grown {b o : Nat} (e : live h b o = true) : live h' b o = true := by
  unfold live at e ⊢
  split at e <;> try (cases e; done)
  rename_i c n t he
  rw [hg _ _ he]
  exact e
theorem eqPtr0_grown {x y : A1} {r : Bool} (e : eqPtr0 h x y = some r) : eqPtr0 h' x y = some r := by
  unfold eqPtr0 at e ⊢
  cases x <;> simp only [] at e ⊢ <;> try (cases e; done)
  · exact e
  · cases y <;> simp only [] at e ⊢ <;> try (cases e; done)
    · exact e
    · split at e <;> try (cases e; done)
      rename_i h1
      split at e <;> try (cases e; done)
      rename_i h2
      rw [live_grown hg h1, live_grown hg h2]
      exact e
theorem eqOne_grown {d : TypeDesc} {x y : A1} {r : Bool} (e : eqOne E h d x y = some r) : eqOne E h' d x y = some r := by
  unfold eqOne at e ⊢
  split at e <;> try (cases e; done)
  · exact e
  · unfold eqPtr at e ⊢
    split at e <;> try (cases e; done)
    rename_i i hi
    split at e <;> try (cases e; done)
    exact eqPtr0_grown hg e
  · exact e
  · exact e
  · exact e
theorem eqAny_grown {t : TypeId} {x y : AV} {r : Bool} (e : eqAny E h t x y = some r) : eqAny E h' t x y = some r := by
  unfold eqAny at e ⊢
  split at e <;> try (cases e; done)
  rename_i i hi
  cases x <;> simp only [] at e ⊢
  · cases y <;> simp only [] at e ⊢ <;> try (cases e; done)
    exact eqOne_grown hg e
  · exact e
omit hg in
theorem retEq_grown {neg : Bool} {x y : Option Bool} {a : AT} (hxy : ∀ r, x = some r → y = some r) (e : retEq neg x = some a) : retEq neg y = some a := by
  cases x with
  | none => cases e
  | some r => rw [hxy r rfl]; exact e
theorem loadVarA_grown {t : TypeId} {b o : Nat} {v : AV} (e : loadVarA E h t b o = some v) : loadVarA E h' t b o = some v := by
  unfold loadVarA at e ⊢
  split at e <;> try (cases e; done)
  rename_i c n el he
  rw [hg _ _ he]
  exact e
/-- What an operation yields stays as memory grows. -/
theorem opRes_grown {op : Op} {a : AT} (e : opRes E h ρ op = .val (some a)) : opRes E h' ρ op = .val (some a) := by
  have inj : ∀ {x : Option AT}, Res.val x = .val (some a) → x = some a := fun h => by injection h
  cases op <;> simp only [opRes] at e ⊢ <;> try (first | exact e | (cases e; done))
  case load t x =>
    have e := inj e
    unfold vLoad at e ⊢
    split at e <;> try (cases e; done)
    rename_i b o hx
    split at e <;> try (cases e; done)
    rename_i v hv
    simp only [loadVarA_grown hg hv]
    exact congrArg Res.val e
  case binOp op t x y _ =>
    have e := inj e
    refine congrArg Res.val ?_
    have bo : ∀ {x y : AV}, binOther E h op t x y = some a → binOther E h' op t x y = some a := by
      intro x y e
      unfold binOther at e ⊢
      split at e <;> try (cases e; done)
      · exact retEq_grown (fun r hr => eqAny_grown hg hr) e
      · exact retEq_grown (fun r hr => eqAny_grown hg hr) e
    generalize ρ x = rx at e ⊢
    generalize ρ y = ry at e ⊢
    unfold vBin at e ⊢
    cases rx with
    | none => cases e
    | some xa => cases xa with
      | tup l => cases e
      | v xv => cases ry with
        | none => cases e
        | some ya => cases ya with
          | tup l => cases e
          | v yv => cases xv with
            | agg l => exact bo e
            | one x1 => cases x1 <;> first | exact bo e | exact e
  case lookup t x i ok =>
    have e := inj e
    refine congrArg Res.val ?_
    unfold vLookup at e ⊢
    split at e <;> try (cases e; done)
    split at e <;> try (cases e; done)
    split at e <;> try (cases e; done)
    split at e <;> try (cases e; done)
    split at e <;> try (cases e; done)
    split at e <;> try (cases e; done)
    split at e <;> try (cases e; done)
    split at e <;> try (cases e; done)
    rename_i he
    simp only [hg _ _ he]
    exact e
  case entry it =>
    have e := inj e
    refine congrArg Res.val ?_
    unfold vEntry at e ⊢
    split at e <;> try (cases e; done)
    split at e <;> try (cases e; done)
    split at e <;> try (cases e; done)
    rename_i he
    simp only [hg _ _ he]
    split at e <;> try (cases e; done)
    split at e <;> try (cases e; done)
    split at e <;> try (cases e; done)
    rename_i he
    simp only [hg _ _ he]
    exact e
  case call c =>
    obtain ⟨callee, args, ats⟩ := c
    cases callee <;> simp only [] at e ⊢ <;> try (first | exact e | (cases e; done))
    rename_i b
    cases b <;> simp only [] at e ⊢ <;> try (first | exact e | (cases e; done))
    have e := inj e
    refine congrArg Res.val ?_
    unfold vLen at e ⊢
    split at e <;> try (cases e; done)
    split at e <;> try (cases e; done)
    split at e <;> try (cases e; done)
    split at e <;> try (cases e; done)
    rename_i i _ av _
    unfold lenV at e ⊢
    split at e <;> try (first | exact e | (cases e; done))
    unfold lenM at e ⊢
    split at e <;> try (cases e; done)
    split at e <;> try (first | exact e | (cases e; done))
    split at e <;> try (cases e; done)
    rename_i he
    simp only [hg _ _ he]
    exact e
end
end Go.Proofs.YtofjmfjgicdjjaaGreat.Ab
/- The abstract machine, part 25: what is asked of a region whose order is drawn. -/
set_option linter.unusedVariables false
set_option linter.unusedSimpArgs false
namespace Go.Proofs.YtofjmfjgicdjjaaGreat.Ab
open Go
def tmpL : List Operand → List Tmp
  | [] => []
  | x :: l => match x with
    | .tmp t => t :: tmpL l
    | _ => tmpL l
def guardT (all : List Oper) (g : Option (Nat × Bool)) : List Tmp :=
  match g with
  | none => []
  | some (j, _) => match nthO all j with
    | some o => match o.dst with
      | some d => [d]
      | none => []
    | none => []
def readsA (all : List Oper) (o : Oper) : List Tmp := guardT all o.guard ++ tmpL (opsOf o.op)
def memT (t : Nat) : List Tmp → Bool
  | [] => false
  | u :: l => match Nat.beq t u with
    | true => true
    | false => memT t l
/-- May x stand beside y? -/
def pairOk (rs : List Tmp) (x y : Dr) : Bool :=
  match x.o.dst with
  | none => true
  | some d => match (match memT d rs with
      | true => match Nat.ble (Nat.succ x.i) y.i with
        | true => bitOf y.b x.i
        | false => bitOf x.b y.i
      | false => true) with
    | false => false
    | true => match y.o.dst with
      | none => true
      | some e => match Nat.beq d e with
        | false => true
        | true => Nat.beq x.i y.i
def effPair (x y : Dr) : Bool :=
  match isEffOp x.o.op with
  | false => true
  | true => match Nat.ble (Nat.succ x.i) y.i with
    | true => bitOf y.b x.i
    | false => true
def pairsOk (y : Dr) (rs : List Tmp) : List Dr → Bool
  | [] => true
  | x :: l => match pairOk rs x y with
    | true => pairsOk y rs l
    | false => false
def effsOk (y : Dr) : List Dr → Bool
  | [] => true
  | x :: l => match effPair x y with
    | true => effsOk y l
    | false => false
def eachOk (all : List Oper) (its : List Dr) : List Dr → Bool
  | [] => true
  | y :: l => match pairsOk y (readsA all y.o) its with
    | false => false
    | true => match (match isEffOp y.o.op with
        | true => effsOk y its
        | false => true) with
      | true => eachOk all its l
      | false => false
def edgesOk (j : Nat) : List Edge → Bool
  | [] => true
  | e :: l => match (match Region.binds .any e with
      | true => Nat.ble (Nat.succ e.on) j
      | false => true) with
    | true => edgesOk j l
    | false => false
def edgesAll : List Oper → Nat → Bool
  | [], _ => true
  | o :: l, j => match edgesOk j o.after.toList with
    | true => forceN (Nat.succ j) fun j' => edgesAll l j'
    | false => false
def staticL (all : List Oper) : Bool :=
  match edgesAll all 0 with
  | true => match itemsFrom all 0 [] with
    | its => eachOk all its its
  | false => false
def regionStatic (ops : Array Oper) : Bool := staticL ops.toList
def okCode : Code → Bool
  | .seq a b => match okCode a with
    | true => okCode b
    | false => false
  | .cond _ a b => match okCode a with
    | true => okCode b
    | false => false
  | .block _ b => okCode b
  | .loop b => okCode b
  | .scope b => okCode b
  | .rangeFunc _ _ a b => match okCode a with
    | true => okCode b
    | false => false
  | .region _ ops draw => match draw with
    | true => regionStatic ops
    | false => true
  | _ => true
end Go.Proofs.YtofjmfjgicdjjaaGreat.Ab
/- The abstract machine, part 26: what the bits of a drawn region say. -/
set_option linter.unusedVariables false
set_option linter.unusedSimpArgs false
namespace Go.Proofs.YtofjmfjgicdjjaaGreat.Ab
open Go
theorem bitOf_eq (m i : Nat) : bitOf m i = m.testBit i := by
  rw [Nat.testBit_eq_decide_div_mod_eq]
  unfold bitOf
  show Nat.beq (m / 2 ^ i % 2) 1 = _
  by_cases h : m / 2 ^ i % 2 = 1
  · rw [h]; rfl
  · have h0 : m / 2 ^ i % 2 = 0 := by omega
    rw [h0]; rfl
theorem bitOf_zero (i : Nat) : bitOf 0 i = false := by rw [bitOf_eq]; simp
theorem beforeBits_spec (look : Nat → Nat) : ∀ (es : List Edge) (s y : Nat), bitOf (beforeBits look es s) y = true ↔ bitOf s y = true ∨ ∃ e ∈ es, Region.binds .any e = true ∧ (y = e.on ∨ bitOf (look e.on) y = true)
  | [], s, y => by simp [beforeBits]
  | e :: es, s, y => by
    simp only [beforeBits]
    cases hb : Region.binds .any e with
    | false =>
      simp only []
      rw [beforeBits_spec look es s y]
      simp [hb]
    | true =>
      simp only [forceN_eq]
      rw [beforeBits_spec look es _ y]
      have : bitOf (Nat.lor (Nat.lor s (Nat.pow 2 e.on)) (look e.on)) y = true ↔ bitOf s y = true ∨ y = e.on ∨ bitOf (look e.on) y = true := by
        rw [bitOf_eq, bitOf_eq, bitOf_eq]
        show ((s ||| 2 ^ e.on) ||| look e.on).testBit y = true ↔ _
        rw [Nat.testBit_or, Nat.testBit_or, Nat.testBit_two_pow]
        simp only [Bool.or_eq_true, decide_eq_true_eq]
        constructor
        · rintro ((h | h) | h)
          · exact .inl h
          · exact .inr (.inl h.symm)
          · exact .inr (.inr h)
        · rintro (h | h | h)
          · exact .inl (.inl h)
          · exact .inl (.inr h.symm)
          · exact .inr h
      rw [this]
      simp only [List.mem_cons, exists_eq_or_imp, hb, true_and]
      constructor
      · rintro ((h | h) | h)
        · exact .inl h
        · exact .inr (.inl h)
        · exact .inr (.inr h)
      · rintro (h | h | h)
        · exact .inl (.inl h)
        · exact .inl (.inr h)
        · exact .inr h
theorem bitsAt_spec : ∀ (l : List Dr) (i y : Nat), (l.map (·.i)).Nodup → (bitOf (bitsAt l i) y = true ↔ ∃ d ∈ l, d.i = i ∧ bitOf d.b y = true)
  | [], i, y, _ => by simp [bitsAt, bitOf_zero]
  | d :: l, i, y, hn => by
    simp only [bitsAt]
    rw [List.map_cons, List.nodup_cons] at hn
    cases hb : Nat.beq d.i i with
    | true =>
      have hi := beqN hb
      simp only []
      constructor
      · intro h; exact ⟨d, by simp, hi, h⟩
      · rintro ⟨d', hd', h1, h2⟩
        rcases List.mem_cons.1 hd' with rfl | hd'
        · exact h2
        · exact absurd (List.mem_map.2 ⟨d', hd', by rw [h1, hi]⟩) hn.1
    | false =>
      simp only []
      rw [bitsAt_spec l i y hn.2]
      constructor
      · rintro ⟨d', h0, h1, h2⟩; exact ⟨d', List.mem_cons_of_mem _ h0, h1, h2⟩
      · rintro ⟨d', hd', h1, h2⟩
        rcases List.mem_cons.1 hd' with rfl | hd'
        · rw [h1, Nat.beq_refl] at hb; cases hb
        · exact ⟨d', hd', h1, h2⟩
/-- What the list of items says of the operations. -/
structure ItemsOk (all : List Oper) (its : List Dr) (j : Nat) : Prop where
  ids : its.map (·.i) = (List.range j).reverse
  op : ∀ d ∈ its, all[d.i]? = some d.o
  bits : ∀ d ∈ its, ∀ y, bitOf d.b y = true ↔ ∃ e ∈ d.o.after.toList, Region.binds .any e = true ∧ (y = e.on ∨ ∃ d' ∈ its, d'.i = e.on ∧ bitOf d'.b y = true)
  small : ∀ d ∈ its, ∀ e ∈ d.o.after.toList, Region.binds .any e = true → e.on < d.i
theorem ItemsOk.nodup {all : List Oper} {its : List Dr} {j : Nat} (h : ItemsOk all its j) : (its.map (·.i)).Nodup := by
  rw [h.ids]
  exact List.pairwise_reverse.2 (List.Pairwise.imp (fun h => Ne.symm h) List.nodup_range)
theorem ItemsOk.lt {all : List Oper} {its : List Dr} {j : Nat} (h : ItemsOk all its j) {d : Dr} (hd : d ∈ its) : d.i < j := by
  have : d.i ∈ its.map (·.i) := List.mem_map.2 ⟨d, hd, rfl⟩
  rw [h.ids] at this
  simpa using this
theorem edgesOk_spec {j : Nat} : ∀ {es : List Edge}, edgesOk j es = true → ∀ e ∈ es, Region.binds .any e = true → e.on < j
  | [], _, e, he, _ => by cases he
  | x :: es, h, e, he, hb => by
    simp only [edgesOk] at h
    split at h <;> try (cases h; done)
    rename_i h1
    rcases List.mem_cons.1 he with rfl | he
    · rw [hb] at h1
      exact ble_true h1
    · exact edgesOk_spec h e he hb
theorem itemsFrom_ok {all : List Oper} : ∀ (l : List Oper) (j : Nat) (acc : List Dr), all.drop j = l → edgesAll l j = true → ItemsOk all acc j → ItemsOk all (itemsFrom l j acc) (j + l.length)
  | [], j, acc, _, _, h => h
  | o :: l, j, acc, hl, he, h => by
    simp only [itemsFrom, forceN_eq]
    simp only [edgesAll] at he
    split at he <;> try (cases he; done)
    rename_i hej
    rw [forceN_eq] at he
    have hsm := edgesOk_spec hej
    have ho : all[j]? = some o := by
      have : (all.drop j)[0]? = some o := by rw [hl]; rfl
      simpa using this
    have hl' : all.drop (j + 1) = l := by
      have : (all.drop j).drop 1 = l := by rw [hl]; rfl
      rw [List.drop_drop] at this
      exact this
    have hnew : ItemsOk all (⟨j, o, beforeBits (bitsAt acc) o.after.toList 0⟩ :: acc) (j + 1) := by
      have hmem : ∀ {x y : Nat}, x < j → ((∃ d' ∈ acc, d'.i = x ∧ bitOf d'.b y = true) ↔ ∃ d' ∈ (⟨j, o, beforeBits (bitsAt acc) o.after.toList 0⟩ :: acc : List Dr), d'.i = x ∧ bitOf d'.b y = true) := by
        intro x y hx
        constructor
        · rintro ⟨d', h0, h1, h2⟩; exact ⟨d', List.mem_cons_of_mem _ h0, h1, h2⟩
        · rintro ⟨d', h0, h1, h2⟩
          rcases List.mem_cons.1 h0 with rfl | h0
          · simp only [] at h1; omega
          · exact ⟨d', h0, h1, h2⟩
      refine ⟨?_, fun d hd => ?_, fun d hd y => ?_, fun d hd e hee hb => ?_⟩
      · rw [List.map_cons, h.ids, List.range_succ, List.reverse_append]
        rfl
      · rcases List.mem_cons.1 hd with rfl | hd
        · exact ho
        · exact h.op d hd
      · rcases List.mem_cons.1 hd with rfl | hd
        · rw [beforeBits_spec]
          simp only [bitOf_zero, Bool.false_eq_true, false_or]
          constructor
          · rintro ⟨e, h1, h2, h3⟩
            refine ⟨e, h1, h2, h3.imp id fun h3 => ?_⟩
            rw [bitsAt_spec _ _ _ h.nodup] at h3
            exact (hmem (hsm e h1 h2)).1 h3
          · rintro ⟨e, h1, h2, h3⟩
            refine ⟨e, h1, h2, h3.imp id fun h3 => ?_⟩
            rw [bitsAt_spec _ _ _ h.nodup]
            exact (hmem (hsm e h1 h2)).2 h3
        · rw [h.bits d hd y]
          have hlt := h.lt hd
          constructor
          · rintro ⟨e, h1, h2, h3⟩
            exact ⟨e, h1, h2, h3.imp id (hmem (by have := h.small d hd e h1 h2; omega)).1⟩
          · rintro ⟨e, h1, h2, h3⟩
            exact ⟨e, h1, h2, h3.imp id (hmem (by have := h.small d hd e h1 h2; omega)).2⟩
      · rcases List.mem_cons.1 hd with rfl | hd
        · exact hsm e hee hb
        · exact h.small d hd e hee hb
    have := itemsFrom_ok l (j + 1) _ hl' he hnew
    rw [List.length_cons, show j + (l.length + 1) = j + 1 + l.length from by omega]
    exact this
theorem ItemsOk.bit_lt {all : List Oper} {its : List Dr} {n : Nat} (h : ItemsOk all its n) : ∀ (k : Nat) {d : Dr}, d.i ≤ k → d ∈ its → ∀ {y : Nat}, bitOf d.b y = true → y < d.i := by
  intro k
  induction k with
  | zero =>
    intro d hk hd y hy
    obtain ⟨e, h1, h2, _⟩ := (h.bits d hd y).1 hy
    have := h.small d hd e h1 h2
    omega
  | succ k ih =>
    intro d hk hd y hy
    obtain ⟨e, h1, h2, h3⟩ := (h.bits d hd y).1 hy
    have := h.small d hd e h1 h2
    rcases h3 with rfl | ⟨d', h4, h5, h6⟩
    · exact this
    · have := ih (by omega) h4 h6
      omega
theorem ItemsOk.trans {all : List Oper} {its : List Dr} {n : Nat} (h : ItemsOk all its n) : ∀ (k : Nat) {d d' : Dr}, d.i ≤ k → d ∈ its → d' ∈ its → bitOf d.b d'.i = true → ∀ {z : Nat}, bitOf d'.b z = true → bitOf d.b z = true := by
  intro k
  induction k with
  | zero =>
    intro d d' hk hd hd' hb z hz
    have := h.bit_lt 0 hk hd hb
    omega
  | succ k ih =>
    intro d d' hk hd hd' hb z hz
    obtain ⟨e, h1, h2, h3⟩ := (h.bits d hd _).1 hb
    have hs := h.small d hd e h1 h2
    refine (h.bits d hd z).2 ⟨e, h1, h2, .inr ?_⟩
    rcases h3 with h3 | ⟨x, h4, h5, h6⟩
    · exact ⟨d', hd', h3, hz⟩
    · exact ⟨x, h4, h5, ih (by omega) h4 hd' h6 hz⟩
theorem ItemsOk.uniq {all : List Oper} {its : List Dr} {n : Nat} (h : ItemsOk all its n) {d d' : Dr} (hd : d ∈ its) (hd' : d' ∈ its) (e : d.i = d'.i) : d = d' := by
  have hn := h.nodup
  clear h
  induction its with
  | nil => cases hd
  | cons x l ih =>
    rw [List.map_cons, List.nodup_cons] at hn
    rcases List.mem_cons.1 hd with h1 | h1
    · rcases List.mem_cons.1 hd' with h2 | h2
      · rw [h1, h2]
      · subst h1
        exact absurd (List.mem_map.2 ⟨d', h2, e.symm⟩) hn.1
    · rcases List.mem_cons.1 hd' with h2 | h2
      · subst h2
        exact absurd (List.mem_map.2 ⟨d, h1, e⟩) hn.1
      · exact ih h1 h2 hn.2
theorem ItemsOk.find {all : List Oper} {its : List Dr} {n i : Nat} (h : ItemsOk all its n) (hi : i < n) : ∃ d ∈ its, d.i = i := by
  have : i ∈ its.map (·.i) := by rw [h.ids]; simpa using hi
  obtain ⟨d, h1, h2⟩ := List.mem_map.1 this
  exact ⟨d, h1, h2⟩
end Go.Proofs.YtofjmfjgicdjjaaGreat.Ab
/- The abstract machine, part 27: the orders in which a drawn region may be run. -/
set_option linter.unusedVariables false
set_option linter.unusedSimpArgs false
namespace Go.Proofs.YtofjmfjgicdjjaaGreat.Ab
open Go
/-- Nothing that must come before a place comes at it or behind. -/
def Sched (its : List Dr) : List Nat → Prop
  | [] => True
  | i :: π => (∀ d ∈ its, d.i = i → ∀ j ∈ i :: π, bitOf d.b j = false) ∧ Sched its π
def unl (listed : Array Bool) (n : Nat) : List Nat := (List.range n).filter fun i => !listed.getD i true
theorem mem_unl {listed : Array Bool} {n i : Nat} : i ∈ unl listed n ↔ i < n ∧ listed.getD i true = false := by
  unfold unl
  rw [List.mem_filter, List.mem_range]
  simp
theorem least (p : Nat → Prop) : ∀ (k : Nat), (∃ i, i ≤ k ∧ p i) → ∃ i, p i ∧ ∀ j, j < i → ¬ p j := by
  intro k
  induction k with
  | zero => rintro ⟨i, h1, h2⟩; exact ⟨i, h2, fun j hj => by omega⟩
  | succ k ih =>
    rintro ⟨i, h1, h2⟩
    by_cases h : ∃ i, i ≤ k ∧ p i
    · exact ih h
    · by_cases hi : i ≤ k
      · exact absurd ⟨i, hi, h2⟩ h
      · refine ⟨i, h2, fun j hj hp => h ⟨j, by omega, hp⟩⟩
theorem getD_both {listed : Array Bool} {i : Nat} (hi : i < listed.size) : listed.getD i true = listed.getD i false := by simp [hi]
theorem linearise_sched {ops : Array Oper} {its : List Dr} (hI : ItemsOk ops.toList its ops.size) : ∀ (fuel t : Nat) (listed : Array Bool), listed.size = ops.size →
    (∀ d ∈ its, listed.getD d.i false = true → ∀ y, bitOf d.b y = true → listed.getD y false = true) → (unl listed ops.size).length ≤ fuel →
    Sched its (Region.linearise.go .any ops fuel t listed []) ∧ (Region.linearise.go .any ops fuel t listed []).Nodup ∧ ∀ i, i ∈ Region.linearise.go .any ops fuel t listed [] ↔ i ∈ unl listed ops.size := by
  intro fuel
  induction fuel with
  | zero =>
    intro t listed hs hcl hf
    have : unl listed ops.size = [] := List.length_eq_zero_iff.1 (by omega)
    rw [this]
    simp [Region.linearise.go, Sched]
  | succ fuel ih =>
    intro t listed hs hcl hf
    simp only [Region.linearise.go]
    change Sched its (match (Region.ready .any ops listed)[t % (Region.ready .any ops listed).length]? with
      | some i => Region.linearise.go .any ops fuel (t / (Region.ready .any ops listed).length) (listed.setIfInBounds i true) [i]
      | none => [].reverse) ∧ (match (Region.ready .any ops listed)[t % (Region.ready .any ops listed).length]? with
      | some i => Region.linearise.go .any ops fuel (t / (Region.ready .any ops listed).length) (listed.setIfInBounds i true) [i]
      | none => [].reverse).Nodup ∧ ∀ i, i ∈ (match (Region.ready .any ops listed)[t % (Region.ready .any ops listed).length]? with
      | some i => Region.linearise.go .any ops fuel (t / (Region.ready .any ops listed).length) (listed.setIfInBounds i true) [i]
      | none => [].reverse) ↔ i ∈ unl listed ops.size
    cases hi : (Region.ready .any ops listed)[t % (Region.ready .any ops listed).length]? with
    | none =>
      have hnil : Region.ready .any ops listed = [] := by
        cases hr : Region.ready .any ops listed with
        | nil => rfl
        | cons x xs =>
          rw [hr] at hi
          have hlt : t % (x :: xs).length < (x :: xs).length := Nat.mod_lt _ (by simp)
          rw [List.getElem?_eq_none_iff] at hi
          omega
      have hun : ∀ i, ¬ i ∈ unl listed ops.size := by
        intro i hi
        have hex : ∃ i, i ≤ i ∧ i ∈ unl listed ops.size := ⟨i, Nat.le_refl _, hi⟩
        obtain ⟨m, h1, h2⟩ := least (fun i => i ∈ unl listed ops.size) i ⟨i, Nat.le_refl _, hi⟩
        obtain ⟨hm, hml⟩ := mem_unl.1 h1
        have hmem : m ∈ Region.ready .any ops listed := by
          refine mem_ready.2 ⟨hml, ops[m], by simp [hm], fun e he hb => ?_⟩
          obtain ⟨d, hd, hdi⟩ := hI.find hm
          have hdo := hI.op d hd
          rw [hdi] at hdo
          have hdo' : ops[m] = d.o := by simpa [hm] using hdo
          have hlt := hI.small d hd e (by rw [← hdo']; simpa using he) hb
          have hno := h2 e.on (by omega)
          have : ¬ (e.on < ops.size ∧ listed.getD e.on true = false) := fun h => hno (mem_unl.2 h)
          have hlt2 : e.on < ops.size := by omega
          rw [← getD_both (by omega)]
          cases hx : listed.getD e.on true with
          | true => rfl
          | false => exact absurd ⟨hlt2, hx⟩ this
        rw [hnil] at hmem
        cases hmem
      refine ⟨trivial, List.nodup_nil, fun i => ⟨fun h => (by cases h), fun h => absurd h (hun i)⟩⟩
    | some i =>
      simp only []
      rw [linearise_go_acc, List.reverse_singleton, List.singleton_append]
      obtain ⟨hil, o, ho, hed⟩ := mem_ready.1 (List.mem_of_getElem? hi)
      have hin : i < ops.size := (Array.getElem?_eq_some_iff.1 ho).1
      have hs' : (listed.setIfInBounds i true).size = ops.size := by simpa using hs
      -- all that must come before i has been listed
      have hbits : ∀ d ∈ its, d.i = i → ∀ y, bitOf d.b y = true → listed.getD y false = true := by
        intro d hd hdi y hy
        obtain ⟨e, h1, h2, h3⟩ := (hI.bits d hd y).1 hy
        have hdo := hI.op d hd
        rw [hdi] at hdo
        have hdo' : d.o = o := by
          have h0 : ops[i]? = some d.o := by simpa using hdo
          rw [ho] at h0
          injection h0 with h0
          exact h0.symm
        have hl := hed e (by rw [← hdo']; simpa using h1) h2
        rcases h3 with rfl | ⟨d', h4, h5, h6⟩
        · exact hl
        · exact hcl d' h4 (by rw [h5]; exact hl) y h6
      have hcl' : ∀ d ∈ its, (listed.setIfInBounds i true).getD d.i false = true → ∀ y, bitOf d.b y = true → (listed.setIfInBounds i true).getD y false = true := by
        intro d hd hl y hy
        by_cases hdi : d.i = i
        · exact getD_set_true (hbits d hd hdi y hy)
        · rw [getD_set_ne false (Ne.symm hdi)] at hl
          exact getD_set_true (hcl d hd hl y hy)
      have hun : ∀ j, j ∈ unl (listed.setIfInBounds i true) ops.size ↔ j ∈ unl listed ops.size ∧ j ≠ i := by
        intro j
        rw [mem_unl, mem_unl]
        by_cases hj : j = i
        · subst hj
          simp [hs, hin]
        · rw [getD_set_ne true (Ne.symm hj)]
          simp [hj]
      have hiu : i ∈ unl listed ops.size := mem_unl.2 ⟨hin, hil⟩
      have hlen : (unl (listed.setIfInBounds i true) ops.size).length < (unl listed ops.size).length := by
        have heq : unl (listed.setIfInBounds i true) ops.size = (unl listed ops.size).filter (fun j => decide (j ≠ i)) := by
          unfold unl
          rw [List.filter_filter]
          refine List.filter_congr fun j hj => ?_
          have hj : j < ops.size := List.mem_range.1 hj
          by_cases hji : j = i
          · subst hji; simp [hs, hin]
          · rw [getD_set_ne true (Ne.symm hji)]; simp [hji]
        rw [heq]
        exact List.length_filter_lt_length_iff_exists.2 ⟨i, hiu, by simp⟩
      obtain ⟨h1, h2, h3⟩ := ih (t / (Region.ready .any ops listed).length) (listed.setIfInBounds i true) hs' hcl' (by omega)
      refine ⟨⟨fun d hd hdi j hj => ?_, h1⟩, ?_, fun j => ?_⟩
      · cases hb : bitOf d.b j with
        | false => rfl
        | true =>
          have hl := hbits d hd hdi j hb
          rcases List.mem_cons.1 hj with rfl | hj
          · rw [getD_both (by omega)] at hil
            rw [hl] at hil; cases hil
          · have := (hun j).1 ((h3 j).1 hj)
            have h5 := (mem_unl.1 this.1).2
            have h6 := (mem_unl.1 this.1).1
            rw [getD_both (by omega), hl] at h5
            cases h5
      · refine List.nodup_cons.2 ⟨fun hm => ?_, h2⟩
        exact ((hun i).1 ((h3 i).1 hm)).2 rfl
      · rw [List.mem_cons, h3 j, hun j]
        constructor
        · rintro (rfl | ⟨h, _⟩)
          · exact hiu
          · exact h
        · intro h
          by_cases hj : j = i
          · exact .inl hj
          · exact .inr ⟨h, hj⟩
theorem linearise_all {ops : Array Oper} {its : List Dr} (hI : ItemsOk ops.toList its ops.size) (t : Nat) :
    Sched its (Region.linearise .any ops t) ∧ (Region.linearise .any ops t).Nodup ∧ ∀ i, i ∈ Region.linearise .any ops t ↔ i < ops.size := by
  have hun : ∀ i, i ∈ unl (Array.replicate ops.size false) ops.size ↔ i < ops.size := by
    intro i
    rw [mem_unl]
    constructor
    · exact fun h => h.1
    · intro h; exact ⟨h, by simp [h]⟩
  have hlen : (unl (Array.replicate ops.size false) ops.size).length ≤ ops.size := by
    unfold unl
    exact Nat.le_trans (List.length_filter_le _ _) (by simp)
  obtain ⟨h1, h2, h3⟩ := linearise_sched hI ops.size t (Array.replicate ops.size false) (by simp) (fun d hd hl => by
    by_cases hx : d.i < ops.size
    · simp [hx] at hl
    · simp [hx] at hl) hlen
  exact ⟨h1, h2, fun i => (h3 i).trans (hun i)⟩
end Go.Proofs.YtofjmfjgicdjjaaGreat.Ab
/- The abstract machine, part 28: what the static check says; blocks that memory does not have yet; an operation's own slots. -/
set_option linter.unusedVariables false
set_option linter.unusedSimpArgs false
namespace Go.Proofs.YtofjmfjgicdjjaaGreat.Ab
open Go
theorem memT_mem {t : Nat} : ∀ {l : List Tmp}, memT t l = true ↔ t ∈ l
  | [] => by simp [memT]
  | u :: l => by
    simp only [memT]
    cases h : Nat.beq t u with
    | true => have := beqN h; simp [this]
    | false =>
      have hne : t ≠ u := by rintro rfl; rw [Nat.beq_refl] at h; cases h
      simp only []
      rw [memT_mem]
      simp [hne]
theorem pairOk_dst {rs : List Tmp} {x y : Dr} {d : Tmp} (h : pairOk rs x y = true) (hx : x.o.dst = some d) (hy : y.o.dst = some d) : x.i = y.i := by
  unfold pairOk at h
  rw [hx] at h
  simp only [] at h
  split at h <;> try (cases h; done)
  rw [hy] at h
  simp only [Nat.beq_refl] at h
  exact beqN h
theorem pairOk_read {rs : List Tmp} {x y : Dr} {d : Tmp} (h : pairOk rs x y = true) (hx : x.o.dst = some d) (hr : d ∈ rs) : (x.i < y.i ∧ bitOf y.b x.i = true) ∨ (y.i ≤ x.i ∧ bitOf x.b y.i = true) := by
  unfold pairOk at h
  rw [hx] at h
  simp only [memT_mem.2 hr] at h
  cases hb : Nat.ble (Nat.succ x.i) y.i with
  | true =>
    rw [hb] at h
    simp only [] at h
    refine .inl ⟨ble_true hb, ?_⟩
    cases h1 : bitOf y.b x.i with
    | true => rfl
    | false => rw [h1] at h; cases h
  | false =>
    rw [hb] at h
    simp only [] at h
    refine .inr ⟨by have : y.i < x.i + 1 := ble_false hb; omega, ?_⟩
    cases h1 : bitOf x.b y.i with
    | true => rfl
    | false => rw [h1] at h; cases h
theorem pairsOk_all {y : Dr} {rs : List Tmp} : ∀ {l : List Dr}, pairsOk y rs l = true → ∀ x ∈ l, pairOk rs x y = true
  | [], _, x, hx => by cases hx
  | z :: l, h, x, hx => by
    simp only [pairsOk] at h
    split at h <;> try (cases h; done)
    rename_i h1
    rcases List.mem_cons.1 hx with rfl | hx
    · exact h1
    · exact pairsOk_all h x hx
theorem effsOk_all {y : Dr} : ∀ {l : List Dr}, effsOk y l = true → ∀ x ∈ l, effPair x y = true
  | [], _, x, hx => by cases hx
  | z :: l, h, x, hx => by
    simp only [effsOk] at h
    split at h <;> try (cases h; done)
    rename_i h1
    rcases List.mem_cons.1 hx with rfl | hx
    · exact h1
    · exact effsOk_all h x hx
theorem eachOk_all {all : List Oper} {its : List Dr} : ∀ {l : List Dr}, eachOk all its l = true → ∀ y ∈ l, pairsOk y (readsA all y.o) its = true ∧ (isEffOp y.o.op = true → effsOk y its = true)
  | [], _, y, hy => by cases hy
  | z :: l, h, y, hy => by
    simp only [eachOk] at h
    split at h <;> try (cases h; done)
    rename_i h1
    split at h <;> try (cases h; done)
    rename_i h2
    rcases List.mem_cons.1 hy with rfl | hy
    · refine ⟨h1, fun he => ?_⟩
      rw [he] at h2
      exact h2
    · exact eachOk_all h y hy
/-- The static check, as facts. -/
structure Static (all : List Oper) (its : List Dr) : Prop where
  ok : ItemsOk all its all.length
  dst : ∀ x ∈ its, ∀ y ∈ its, ∀ d, x.o.dst = some d → y.o.dst = some d → x.i = y.i
  read : ∀ x ∈ its, ∀ y ∈ its, ∀ d, x.o.dst = some d → d ∈ readsA all y.o → (x.i < y.i ∧ bitOf y.b x.i = true) ∨ (y.i ≤ x.i ∧ bitOf x.b y.i = true)
  eff : ∀ x ∈ its, ∀ y ∈ its, isEffOp x.o.op = true → isEffOp y.o.op = true → x.i < y.i → bitOf y.b x.i = true
theorem staticL_sound {all : List Oper} (h : staticL all = true) : Static all (itemsFrom all 0 []) := by
  unfold staticL at h
  split at h <;> try (cases h; done)
  rename_i he
  have hall := eachOk_all h
  have hI : ItemsOk all (itemsFrom all 0 []) (0 + all.length) := itemsFrom_ok all 0 [] rfl he ⟨rfl, fun d hd => (by cases hd), fun d hd => (by cases hd), fun d hd => (by cases hd)⟩
  rw [Nat.zero_add] at hI
  refine ⟨hI, fun x hx y hy d h1 h2 => pairOk_dst (pairsOk_all (hall y hy).1 x hx) h1 h2, fun x hx y hy d h1 h2 => pairOk_read (pairsOk_all (hall y hy).1 x hx) h1 h2, fun x hx y hy h1 h2 hlt => ?_⟩
  have := effsOk_all ((hall y hy).2 h2) x hx
  unfold effPair at this
  rw [h1] at this
  have hb : Nat.ble (Nat.succ x.i) y.i = true := Nat.ble_eq_true_of_le hlt
  rw [hb] at this
  exact this

section
variable {P : Program} {E : Env} {w : World} {μ : Mu} {OkC : Cx} {pd : Nat → Prop} {h : AHeap}
theorem Rel.pd_iff {pd' : Nat → Prop} (r : Rel OkC μ pd h w) (hp : ∀ b, pd b ↔ pd' b) : Rel OkC μ pd' h w := by
  have : pd = pd' := funext fun b => propext (hp b)
  rw [← this]
  exact r
/-- The abstract heap has a block more. -/
theorem Rel.ahead (r : Rel OkC μ pd h w) (o : AObj) : Rel OkC μ (fun b => pd b ∨ b = h.next) ⟨h.t.put h.next o, h.next + 1⟩ w := by
  have hf := r.fresh (Nat.le_refl h.next)
  have live_of : ∀ b c K, μ b = some (c, K) → Live ⟨h.t.put h.next o, h.next + 1⟩ b → Live h b := by
    rintro b c K hb ⟨x, hx, hd⟩
    rcases BT.get_put_inv _ _ _ _ _ hx with ⟨rfl, _⟩ | ⟨_, hx⟩
    · rw [hf] at hb; cases hb
    · exact ⟨x, hx, hd⟩
  refine ⟨fun b x hx hp => ?_, fun b b' c K K' h1 h2 h3 h4 => r.inj b b' c K K' (live_of _ _ _ h3 h1) (live_of _ _ _ h4 h2) h3 h4, fun b c K h3 => ?_, fun b hp => ?_, r.base, r.hB, fun b c K hl h3 => r.low b c K (live_of b c K h3 hl) h3⟩
  · rcases BT.get_put_inv _ _ _ _ _ hx with ⟨rfl, _⟩ | ⟨_, hx⟩
    · exact absurd (.inr rfl) hp
    · exact r.obj b x hx (fun h => hp (.inl h))
  · have := r.bnd b c K h3
    exact ⟨by show b < h.next + 1; omega, this.2⟩
  · rcases hp with hp | rfl
    · have := r.pdn b hp
      exact ⟨this.1, by show b < h.next + 1; omega⟩
    · exact ⟨hf, by show h.next < h.next + 1; omega⟩
/-- Memory has it too. -/
theorem Rel.land (r : Rel OkC μ pd h w) {bk : Nat} {o : AObj} {ob : Obj} {K : Nat} (hp : pd bk) (hg : ∀ x, h.t.get bk = some x → SubObj x o) (ho : RObj OkC μ o ob K) :
    Rel OkC (μ.put bk w.heap.size K) (fun b => pd b ∧ b ≠ bk) h (w.alloc ob) ∧ μ.le (μ.put bk w.heap.size K) := by
  obtain ⟨hf, hlt⟩ := r.pdn bk hp
  have hle : μ.le (μ.put bk w.heap.size K) := Mu.le_put hf
  have hh : (w.alloc ob).heap = w.heap.push ob := rfl
  have hgB := r.hB
  refine ⟨⟨fun b x hx hnp => ?_, fun b b' c K1 K2 h1 h2 h3 h4 => ?_, fun b c K1 h3 => ?_, fun b hpb => ?_, r.base.trans ⟨rfl, rfl, rfl, by rw [hh]; simp, fun k hk => (by rw [hh, Array.getElem?_push_lt (Nat.lt_of_not_le fun c => hk (hgB k c))]; simp [Nat.lt_of_not_le fun c => hk (hgB k c)])⟩, fun c hc => hgB c (by rw [hh, Array.size_push] at hc; omega), fun b c K1 hlv h3 => ?_⟩, hle⟩
  · by_cases e : b = bk
    · subst e
      have hx := hg _ hx
      exact ⟨_, _, _, Mu.put_same _ _ _ _, by rw [hh]; simp, (ho.mono OkC hle).sub OkC hx⟩
    · obtain ⟨c, K1, ob1, p, q, s⟩ := r.obj b x hx (fun hb => hnp ⟨hb, e⟩)
      have := (r.bnd b c K1 p).2
      exact ⟨c, K1, ob1, hle _ _ p, by rw [hh]; simp [Array.getElem?_push, Nat.ne_of_lt this]; simpa using q, s.mono OkC hle⟩
  · by_cases e : b = bk
    · by_cases e' : b' = bk
      · rw [e, e']
      · rw [e, Mu.put_same] at h3
        rw [Mu.put_ne _ _ _ e'] at h4
        have := (r.bnd b' c K2 h4).2
        simp only [Option.some.injEq, Prod.mk.injEq] at h3
        omega
    · by_cases e' : b' = bk
      · rw [e', Mu.put_same] at h4
        rw [Mu.put_ne _ _ _ e] at h3
        have := (r.bnd b c K1 h3).2
        simp only [Option.some.injEq, Prod.mk.injEq] at h4
        omega
      · rw [Mu.put_ne _ _ _ e] at h3
        rw [Mu.put_ne _ _ _ e'] at h4
        exact r.inj b b' c K1 K2 h1 h2 h3 h4
  · rw [hh, Array.size_push]
    by_cases e : b = bk
    · rw [e, Mu.put_same] at h3
      simp only [Option.some.injEq, Prod.mk.injEq] at h3
      exact ⟨by omega, by omega⟩
    · rw [Mu.put_ne _ _ _ e] at h3
      have := r.bnd b c K1 h3
      exact ⟨this.1, by omega⟩
  · rw [Mu.put_ne _ _ _ hpb.2]
    exact r.pdn b hpb.1
  · by_cases e : b = bk
    · rw [e, Mu.put_same] at h3
      simp only [Option.some.injEq, Prod.mk.injEq] at h3
      exact hgB c (by omega)
    · rw [Mu.put_ne _ _ _ e] at h3
      exact r.low b c K1 hlv h3

/-! ### An operation's own slots -/
noncomputable def opndR (R : List Tmp) (T : BT AT) (x : Operand) : Option AT :=
  match x with
  | .tmp t => if t ∈ R then T.get t else none
  | x => opnd T x
def SlotOk (μ : Mu) (T : BT AT) (tm : Array Value) (t : Tmp) : Prop := ∀ x, T.get t = some x → ∃ v, tm[t]? = some v ∧ RT μ x v
theorem opndR_reads {R : List Tmp} {T : BT AT} {a : Act} (ht : ∀ t ∈ R, SlotOk μ T a.tmps t) : Reads μ (opndR R T) a.eval := by
  intro x b e
  cases x with
  | tmp t =>
    simp only [opndR] at e
    split at e
    · rename_i hm
      obtain ⟨v, h1, h2⟩ := ht t hm b e
      have : a.tmps.getD t undef = v := by simp [h1]
      show RT μ b (a.tmps.getD t undef)
      rw [this]
      exact h2
    · cases e
  | const v => exact ofConst_sound e
  | func f =>
    simp only [opndR, opnd] at e
    injection e with e
    subst e
    exact ⟨[], [], rfl, trivial, trivial⟩
  | global g => cases e
theorem mem_tmpL {t : Tmp} : ∀ {l : List Operand}, Operand.tmp t ∈ l → t ∈ tmpL l
  | [], h => by cases h
  | x :: l, h => by
    simp only [tmpL]
    rcases List.mem_cons.1 h with h1 | h1
    · subst h1
      exact List.mem_cons_self
    · have ih := mem_tmpL h1
      clear h
      cases x <;> first | exact List.mem_cons_of_mem _ ih | exact ih
theorem opndR_eq {R : List Tmp} {T : BT AT} {op : Op} (hR : ∀ t ∈ tmpL (opsOf op), t ∈ R) : ∀ x ∈ opsOf op, opnd T x = opndR R T x := by
  intro x hx
  cases x with
  | tmp t => simp only [opndR, opnd]; rw [if_pos (hR t (mem_tmpL hx))]
  | const v => rfl
  | func f => rfl
  | global g => rfl
theorem wantedA_slot {T : BT AT} {tm : Array Value} {ops : Array Oper} {o : Oper} {b : Bool} (ht : ∀ t ∈ guardT ops.toList o.guard, SlotOk μ T tm t) (e : wantedA ops.toList T o.guard = some b) : Region.wanted o (yielded ops tm) = b := by
  unfold wantedA at e
  unfold Region.wanted
  split at e
  · rename_i hg
    rw [hg]
    injection e
  · rename_i j want hg
    rw [hg] at ht ⊢
    simp only [guardT] at ht ⊢
    split at e <;> try (cases e; done)
    rename_i o' ho2
    rw [ho2] at ht
    have ho' : ops[j]? = some o' := by rw [nthO_eq] at ho2; simpa using ho2
    split at e <;> try (cases e; done)
    rename_i d hd
    simp only [hd] at ht
    have ht := ht d (by simp)
    have hy : ∀ v, tm[d]? = some v → yielded ops tm j = (match v with | .bool b => some b | _ => none) := by
      intro v hv
      simp [yielded, ho', hd, hv]
      cases v <;> rfl
    split at e <;> try (cases e; done)
    · rename_i t hT
      obtain ⟨v, h1, h2⟩ := ht _ hT
      have h2 : v = .bool t := h2
      subst h2
      rw [hy _ h1]
      cases t <;> cases want <;> simp at e <;> subst e <;> rfl
    · rename_i hT
      obtain ⟨v, h1, vs, h2, h3⟩ := ht _ hT
      subst h2
      have e : false = b := by simpa using e
      subst e
      rw [hy _ h1]
      rfl
end
end Go.Proofs.YtofjmfjgicdjjaaGreat.Ab
/- The abstract machine, part 29: what stands while a drawn region is run: the abstract run is ahead, the machine lags. -/
set_option linter.unusedVariables false
set_option linter.unusedSimpArgs false
namespace Go.Proofs.YtofjmfjgicdjjaaGreat.Ab
open Go
inductive LagK where
  | val
  | made (ob : AObj) (m : Made) (bk : Nat)
  | skip
/-- An operation that the abstract run has made and the machine has not: its slots when it was made, what it yielded. -/
structure Lag where
  d : Dr
  T : BT AT
  a : AT
  k : LagK
def Lag.blk (l : Lag) : Option Nat :=
  match l.k with
  | .made _ _ b => some b
  | _ => none
section
variable (all : List Oper) (its : List Dr) (E : Env) (n : Nat)
def LagOk (h : AHeap) (past : List Past) (T : BT AT) (l : Lag) : Prop :=
  l.d ∈ its ∧ (∀ t, l.d.o.dst = some t → (∀ x, T.get t = some x → x = l.a) ∧ t < n) ∧
    match l.k with
    | .val => wantedA all l.T l.d.o.guard = some true ∧ opRes E h (opnd l.T) l.d.o.op = .val (some l.a) ∧ ⟨l.d, l.T, l.a⟩ ∈ past
    | .made ob m bk => wantedA all l.T l.d.o.guard = some true ∧ (∀ h', opRes E h' (opnd l.T) l.d.o.op = .made (some (ob, m))) ∧ l.a = m.at_ bk ∧ ∀ x, h.t.get bk = some x → SubObj x ob
    | .skip => wantedA all l.T l.d.o.guard = some false ∧ l.a = .tup []
variable (OkC : Cx) (pd0 : Nat → Prop)
structure Inv (L : Lag → Prop) (todo : List Dr) (T : BT AT) (h : AHeap) (past : List Past) (μ : Mu) (w : World) (a : Act) (π : List Nat) : Prop where
  rel : Rel OkC μ (fun b => pd0 b ∨ ∃ l, L l ∧ l.blk = some b) h w
  slots : ∀ t, (∀ l, L l → l.d.o.dst ≠ some t) → SlotOk μ T a.tmps t
  lag : ∀ l, L l → LagOk all its E n h past T l
  one : ∀ l l', L l → L l' → l.d.i = l'.d.i → l = l'
  blks : ∀ l l' b, L l → L l' → l.blk = some b → l'.blk = some b → l = l'
  own0 : ∀ l b, L l → l.blk = some b → ¬ pd0 b
  prov : ∀ l z, L l → L z → ∀ t ∈ readsA all l.d.o, z.d.o.dst = some t → bitOf l.d.b z.d.i = true → ∀ x, l.T.get t = some x → x = z.a
  own : ∀ l, L l → ∀ t ∈ readsA all l.d.o, (∀ z, L z → z.d.o.dst = some t → bitOf l.d.b z.d.i = false) → SlotOk μ l.T a.tmps t
  early : ∀ l, L l → ∀ x ∈ todo, bitOf l.d.b x.i = false ∧ l.d.i ≠ x.i
  size : a.tmps.size = n
  todoIn : ∀ x ∈ todo, x ∈ its
  rem : ∀ i, i ∈ π ↔ (∃ l, L l ∧ l.d.i = i) ∨ ∃ x ∈ todo, x.i = i
end
section
variable {all : List Oper} {its : List Dr} {E : Env} {n : Nat} {OkC : Cx} {pd0 : Nat → Prop}
theorem opRes_made_any {h h' : AHeap} {ρ : Operand → Option AT} {op : Op} {r : MR} (e : opRes E h ρ op = .made r) : opRes E h' ρ op = .made r := by
  cases op <;> simp only [opRes] at e ⊢ <;> try (first | exact e | (cases e; done))
  case call c =>
    obtain ⟨callee, args, ats⟩ := c
    cases callee <;> simp only [] at e ⊢ <;> try (first | exact e | (cases e; done))
    rename_i b
    cases b <;> simp only [] at e ⊢ <;> first | exact e | cases e

theorem put_other {a : Act} {dst : Option Tmp} {v : Value} {t : Tmp} (h : dst ≠ some t) : (a.put dst v).tmps[t]? = a.tmps[t]? := by
  cases dst with
  | none => rfl
  | some d =>
    have : d ≠ t := fun e => h (by rw [e])
    show (a.tmps.setIfInBounds d v)[t]? = _
    rw [Array.getElem?_setIfInBounds_ne this]
theorem put_same {a : Act} {v : Value} {t : Tmp} (h : t < a.tmps.size) : (a.put (some t) v).tmps[t]? = some v := by
  show (a.tmps.setIfInBounds t v)[t]? = some v
  simp [h]
theorem put_size {a : Act} {dst : Option Tmp} {v : Value} : (a.put dst v).tmps.size = a.tmps.size := by
  cases dst <;> simp [Act.put]
theorem put_defers {a : Act} {dst : Option Tmp} {v : Value} : (a.put dst v).defers = a.defers := by
  cases dst <;> rfl
theorem SlotOk.mono {μ μ' : Mu} (hle : μ.le μ') {T : BT AT} {tm : Array Value} {t : Tmp} (h : SlotOk μ T tm t) : SlotOk μ' T tm t :=
  fun x hx => let ⟨v, h1, h2⟩ := h x hx; ⟨v, h1, h2.mono hle⟩
theorem Inv.landed (hS : Static all its) {L : Lag → Prop} {todo : List Dr} {T : BT AT} {h : AHeap} {past : List Past} {μ : Mu} {w : World} {a : Act} {i : Nat} {π : List Nat} {l0 : Lag} (inv : Inv all its E n OkC pd0 L todo T h past μ w a (i :: π))
    (hs : ∀ d ∈ its, d.i = i → ∀ j ∈ i :: π, bitOf d.b j = false) (hnd : i ∉ π) (hl : L l0) (hi : l0.d.i = i) {μ' : Mu} {w' : World} {v : Value} (hle : μ.le μ') (hr : Rel OkC μ' (fun b => pd0 b ∨ ∃ l, (L l ∧ l.d.i ≠ i) ∧ l.blk = some b) h w') (hv : RT μ' l0.a v) :
    Inv all its E n OkC pd0 (fun l => L l ∧ l.d.i ≠ i) todo T h past μ' w' (a.put l0.d.o.dst v) π := by
  have hl0 := inv.lag l0 hl
  have hinrem : ∀ l, L l → l.d.i ∈ i :: π := fun l h => (inv.rem l.d.i).2 (.inl ⟨l, h, rfl⟩)
  refine ⟨hr, fun t ht => ?_, fun l h => inv.lag l h.1, fun l l' h1 h2 => inv.one l l' h1.1 h2.1, fun l l' b h1 h2 => inv.blks l l' b h1.1 h2.1, fun l b h1 => inv.own0 l b h1.1, fun l z h1 h2 => inv.prov l z h1.1 h2.1, fun l h1 t ht hz => ?_, fun l h1 => inv.early l h1.1, by rw [put_size]; exact inv.size, inv.todoIn, fun j => ?_⟩
  · by_cases hd : l0.d.o.dst = some t
    · intro x hx
      obtain ⟨h1, h2⟩ := hl0.2.1 t hd
      have hx := h1 _ hx
      subst hx
      rw [hd]
      exact ⟨v, put_same (by rw [inv.size]; exact h2), hv⟩
    · intro x hx
      rw [put_other hd]
      refine (inv.slots t fun l h => ?_).mono hle x hx
      by_cases e : l.d.i = i
      · have := inv.one l l0 h hl (by rw [e, hi])
        rw [this]; exact hd
      · exact ht l ⟨h, e⟩
  · by_cases hd : l0.d.o.dst = some t
    · rcases hS.read l0.d hl0.1 l.d (inv.lag l h1.1).1 t hd ht with ⟨_, hb⟩ | ⟨_, hb⟩
      · have hp := inv.prov l l0 h1.1 hl t ht hd hb
        intro x hx
        have hx := hp _ hx
        subst hx
        rw [hd]
        exact ⟨v, put_same (by rw [inv.size]; exact (hl0.2.1 t hd).2), hv⟩
      · rw [hs l0.d hl0.1 hi l.d.i (hinrem l h1.1)] at hb
        cases hb
    · intro x hx
      rw [put_other hd]
      refine (inv.own l h1.1 t ht fun z hz' hzd => ?_).mono hle x hx
      by_cases e : z.d.i = i
      · have := inv.one z l0 hz' hl (by rw [e, hi])
        rw [this] at hzd
        exact absurd hzd hd
      · exact hz z ⟨hz', e⟩ hzd
  · have hrem := inv.rem j
    rw [List.mem_cons] at hrem
    constructor
    · intro hj
      have hne : j ≠ i := by rintro rfl; exact hnd hj
      rcases hrem.1 (.inr hj) with ⟨l, h1, h2⟩ | h
      · exact .inl ⟨l, ⟨h1, by rw [h2]; exact hne⟩, h2⟩
      · exact .inr h
    · rintro (⟨l, ⟨h1, h2⟩, h3⟩ | ⟨x, h1, h2⟩)
      · rcases hrem.2 (.inl ⟨l, h1, h3⟩) with rfl | h
        · exact absurd h3 h2
        · exact h
      · rcases hrem.2 (.inr ⟨x, h1, h2⟩) with rfl | h
        · exact absurd (hi.trans h2.symm) (inv.early l0 hl x h1).2
        · exact h
end
end Go.Proofs.YtofjmfjgicdjjaaGreat.Ab
/- The abstract machine, part 30: the machine makes an operation that the abstract run has made before. -/
set_option linter.unusedVariables false
set_option linter.unusedSimpArgs false
namespace Go.Proofs.YtofjmfjgicdjjaaGreat.Ab
open Go
section
variable {P : Program} {ops : Array Oper} {its : List Dr} {E : Env} {n : Nat} {OkC : Cx} {pd0 : Nat → Prop}
theorem Inv.ready {L : Lag → Prop} {todo : List Dr} {T : BT AT} {h : AHeap} {past : List Past} {μ : Mu} {w : World} {a : Act} {i : Nat} {π : List Nat} {l0 : Lag} (inv : Inv ops.toList its E n OkC pd0 L todo T h past μ w a (i :: π))
    (hs : ∀ d ∈ its, d.i = i → ∀ j ∈ i :: π, bitOf d.b j = false) (hl : L l0) (hi : l0.d.i = i) : ∀ t ∈ readsA ops.toList l0.d.o, SlotOk μ l0.T a.tmps t :=
  fun t ht => inv.own l0 hl t ht fun z hz _ => hs l0.d (inv.lag l0 hl).1 hi z.d.i ((inv.rem z.d.i).2 (.inl ⟨z, hz, rfl⟩))
theorem Inv.land (hE : EnvOk P E) (hF : FlatOk P E) (hS : Static ops.toList its) {L : Lag → Prop} {todo : List Dr} {T : BT AT} {h : AHeap} {past : List Past} {μ : Mu} {w : World} {a : Act} {i : Nat} {π : List Nat} {l0 : Lag} (inv : Inv ops.toList its E n OkC pd0 L todo T h past μ w a (i :: π))
    (hs : ∀ d ∈ its, d.i = i → ∀ j ∈ i :: π, bitOf d.b j = false) (hnd : i ∉ π) (hl : L l0) (hi : l0.d.i = i) :
    ∃ μ' w' a', Inv ops.toList its E n OkC pd0 (fun l => L l ∧ l.d.i ≠ i) todo T h past μ' w' a' π ∧ μ.le μ' ∧ a'.defers = a.defers ∧
      ∀ (b : Frame) (k : List Item) (cs : List Frame), step P (lone (b.atR a (.inRegion ops (i :: π) :: k)) cs w) = .next (lone (b.atR a' (.inRegion ops π :: k)) cs w') := by
  have hready := inv.ready hs hl hi
  obtain ⟨hmem, hdst, hk⟩ := inv.lag l0 hl
  have ho : ops[i]? = some l0.d.o := by
    have := hS.ok.op l0.d hmem
    rw [hi] at this
    simpa using this
  have hguard : ∀ t ∈ guardT ops.toList l0.d.o.guard, SlotOk μ l0.T a.tmps t := fun t ht => hready t (List.mem_append_left _ ht)
  have hReads : Reads μ (opndR (readsA ops.toList l0.d.o) l0.T) a.eval := opndR_reads hready
  have heq : ∀ x ∈ opsOf l0.d.o.op, opnd l0.T x = opndR (readsA ops.toList l0.d.o) l0.T x := opndR_eq fun t ht => List.mem_append_right _ ht
  have hbind : (ops[i]?).bind (·.dst) = l0.d.o.dst := by rw [ho]; rfl
  have nodefer : ∀ {hh r}, opRes E hh (opnd l0.T) l0.d.o.op = r → r ≠ .eff → ∀ c, l0.d.o.op ≠ .defer c := by
    intro hh r e1 e2 c hc
    rw [hc] at e1
    exact e2 e1.symm
  -- those who stay pending
  have hpd : ∀ b, (pd0 b ∨ ∃ l, (L l ∧ l.d.i ≠ i) ∧ l.blk = some b) ↔ ((pd0 b ∨ ∃ l, L l ∧ l.blk = some b) ∧ l0.blk ≠ some b) := by
    intro b
    constructor
    · rintro (h1 | ⟨l, ⟨h1, h2⟩, h3⟩)
      · exact ⟨.inl h1, fun h2 => inv.own0 l0 b hl h2 h1⟩
      · refine ⟨.inr ⟨l, h1, h3⟩, fun h4 => h2 ?_⟩
        rw [inv.blks l l0 b h1 hl h3 h4]
        exact hi
    · rintro ⟨h1 | ⟨l, h1, h3⟩, h2⟩
      · exact .inl h1
      · refine .inr ⟨l, ⟨h1, fun h4 => ?_⟩, h3⟩
        rw [inv.one l l0 h1 hl (by rw [h4, hi])] at h3
        exact h2 h3
  cases hkk : l0.k with
  | val =>
    rw [hkk] at hk
    obtain ⟨hw, hres, _⟩ := hk
    have hw := wantedA_slot hguard hw
    have hres' : opRes E h (opndR (readsA ops.toList l0.d.o) l0.T) l0.d.o.op = .val (some l0.a) := by rw [← opRes_congr h l0.d.o.op heq]; exact hres
    obtain ⟨u, h1, h2⟩ := val_sound (P := P) hE hF inv.rel hReads hres'
    have hno : l0.blk = none := by simp [Lag.blk, hkk]
    refine ⟨μ, w, a.put l0.d.o.dst u, inv.landed hS hs hnd hl hi (Mu.le_refl _) (inv.rel.pd_iff fun b => ?_) h2, Mu.le_refl _, put_defers, fun b k cs => stepR_op_next ho hw (nodefer hres (by simp)) h1 (.inl rfl)⟩
    rw [hpd b, hno]
    simp
  | made ob m bk =>
    rw [hkk] at hk
    obtain ⟨hw, hres, ha, hget⟩ := hk
    have hw := wantedA_slot hguard hw
    have hres' : opRes E h (opndR (readsA ops.toList l0.d.o) l0.T) l0.d.o.op = .made (some (ob, m)) := by rw [← opRes_congr h l0.d.o.op heq]; exact hres h
    obtain ⟨u, obj, K, h1, h2, h3⟩ := made_sound (P := P) (OkC := OkC) (w := w) hE hReads hres'
    have hblk : l0.blk = some bk := by simp [Lag.blk, hkk]
    obtain ⟨r1, r2⟩ := inv.rel.land (bk := bk) (o := ob) (.inr ⟨l0, hl, hblk⟩) hget h2
    have hv := h3 (μ.put bk w.heap.size K) bk (Mu.put_same _ _ _ _)
    rw [← ha] at hv
    refine ⟨_, _, a.put l0.d.o.dst u, inv.landed hS hs hnd hl hi r2 (r1.pd_iff fun b => ?_) hv, r2, put_defers, fun b k cs => stepR_op_next ho hw (nodefer (hres h) (by simp)) h1 (.inl rfl)⟩
    rw [hpd b, hblk]
    simp [Ne, eq_comm]
  | skip =>
    rw [hkk] at hk
    obtain ⟨hw, ha⟩ := hk
    have hw := wantedA_slot hguard hw
    have hno : l0.blk = none := by simp [Lag.blk, hkk]
    refine ⟨μ, w, a.put l0.d.o.dst undef, inv.landed hS hs hnd hl hi (Mu.le_refl _) (inv.rel.pd_iff fun b => ?_) (by rw [ha]; exact RT.undef), Mu.le_refl _, put_defers, fun b k cs => ?_⟩
    · rw [hpd b, hno]
      simp
    · rw [← hbind]
      exact stepR_op_skip (by simp [ho, hw])
end
end Go.Proofs.YtofjmfjgicdjjaaGreat.Ab
