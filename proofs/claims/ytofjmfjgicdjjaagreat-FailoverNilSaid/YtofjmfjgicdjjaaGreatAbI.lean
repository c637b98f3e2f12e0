/- The abstract machine, part 43: the evaluator once more, so laid that the kernel copies little. -/
import Derived.Test.YtofjmfjgicdjjaaGreatAbH
set_option linter.unusedVariables false
set_option linter.unusedSimpArgs false
namespace Go.Proofs.YtofjmfjgicdjjaaGreat.Ab
open Go
noncomputable section
abbrev KA := AT → Option TH
abbrev KO := AT → AHeap → Option TH
def bindA (x : Option AT) (k : KA) : Option TH := Option.rec (motive := fun _ => Option TH) none k x
def valK (x : Option AT) (h : AHeap) (k : KO) : Option TH := Option.rec (motive := fun _ => Option TH) none (fun a => k a h) x
def vhK (x : VH) : KO → Option TH := @VH.rec (fun _ => KO → Option TH) (fun a h => fun k => k a h) x
def crK (x : CR) (k : KO) : Option TH := Option.rec (motive := fun _ => Option TH) none (fun a => vhK a k) x
theorem valK_eq (x : Option AT) (h : AHeap) (k : KO) : valK x h k = crK (valR h x) k := by cases x <;> rfl
theorem bindA_eq (x : Option AT) (h : AHeap) (k : KO) : bindA x (fun a => k a h) = crK (valR h x) k := by cases x <;> rfl
def opndF (x : Operand) : BT AT → KA → Option TH :=
  @Operand.rec (fun _ => BT AT → KA → Option TH) (fun t => fun T k => bindA (T.get t) k) (fun v => fun T k => bindA (ofConst v) k) (fun g => fun T k => none) (fun f => fun T k => k (.v (.one (.fn f [] [])))) x
theorem opndF_eq (x : Operand) (T : BT AT) (k : KA) : opndF x T k = bindA (opnd T x) k := by cases x <;> rfl
/-! ### What one cell is -/
def a1Bool (a : A1) : (Bool → Option TH) → Option TH → Option TH :=
  @A1.rec (fun _ => (Bool → Option TH) → Option TH → Option TH) (fun b => fun k z => k b) (fun _ _ => fun k z => z) (fun k z => z) (fun _ _ => fun k z => z) (fun k z => z) (fun _ _ _ _ _ => fun k z => z) (fun k z => z) (fun _ => fun k z => z) (fun k z => z) (fun _ _ _ => fun k z => z) (fun _ => fun k z => z) (fun _ => fun k z => z) (fun k z => z) a
def a1Int (a : A1) : (IntKind → Int → Option TH) → Option TH → Option TH :=
  @A1.rec (fun _ => (IntKind → Int → Option TH) → Option TH → Option TH) (fun _ => fun k z => z) (fun i n => fun k z => k i n) (fun k z => z) (fun _ _ => fun k z => z) (fun k z => z) (fun _ _ _ _ _ => fun k z => z) (fun k z => z) (fun _ => fun k z => z) (fun k z => z) (fun _ _ _ => fun k z => z) (fun _ => fun k z => z) (fun _ => fun k z => z) (fun k z => z) a
def a1Ptr (a : A1) : (Nat → Nat → Option TH) → Option TH → Option TH :=
  @A1.rec (fun _ => (Nat → Nat → Option TH) → Option TH → Option TH) (fun _ => fun k z => z) (fun _ _ => fun k z => z) (fun k z => z) (fun b o => fun k z => k b o) (fun k z => z) (fun _ _ _ _ _ => fun k z => z) (fun k z => z) (fun _ => fun k z => z) (fun k z => z) (fun _ _ _ => fun k z => z) (fun _ => fun k z => z) (fun _ => fun k z => z) (fun k z => z) a
def avOne (a : AV) : (A1 → Option TH) → Option TH → Option TH := @AV.rec (fun _ => (A1 → Option TH) → Option TH → Option TH) (fun a => fun k z => k a) (fun _ => fun k z => z) a
def atOne (a : AT) : (A1 → Option TH) → Option TH → Option TH := @AT.rec (fun _ => (A1 → Option TH) → Option TH → Option TH) (fun a => fun k z => avOne a k z) (fun _ => fun k z => z) a
def optOne (a : Option AT) (k : A1 → Option TH) (z : Option TH) : Option TH := Option.rec (motive := fun _ => Option TH) z (fun a => atOne a k z) a
theorem optOne_eq (a : Option AT) (k : A1 → Option TH) (z : Option TH) : optOne a k z = (match a with | some (.v (.one a)) => k a | _ => z) := by
  cases a with
  | none => rfl
  | some a => cases a with
    | tup => rfl
    | v a => cases a <;> rfl
def pickF (c a b : Operand) (T : BT AT) (k : KA) : Option TH :=
  optOne (opnd T c) (fun x => a1Bool x (fun t => Bool.rec (motive := fun _ => Option TH) (opndF b T k) (opndF a T k) t) none) none
theorem pickF_eq (c a b : Operand) (T : BT AT) (k : KA) : pickF c a b T k = bindA (vPick (opnd T) c a b) k := by
  unfold pickF vPick
  rw [optOne_eq]
  cases opnd T c with
  | none => rfl
  | some x => cases x with
    | tup => rfl
    | v x => cases x with
      | agg => rfl
      | one x => cases x <;> try rfl
                 rename_i t
                 cases t
                 · exact opndF_eq _ _ _
                 · exact opndF_eq _ _ _
/-! ### Whole numbers -/
def intNat (n : Int) : (Nat → Option AT) → Option AT → Option AT := @Int.rec (fun _ => (Nat → Option AT) → Option AT → Option AT) (fun a => fun k z => k a) (fun _ => fun k z => z) n
def forceF (n : Nat) (k : Nat → Option AT) : Option AT := Nat.rec (motive := fun _ => Option AT) (k 0) (fun m _ => k (Nat.succ m)) n
theorem forceF_eq (n : Nat) (k : Nat → Option AT) : forceF n k = k n := by cases n <;> rfl
def isI64 (k : IntKind) : Bool := @IntKind.rec (fun _ => Bool) false false false true false false false false k
def isU64 (k : IntKind) : Bool := @IntKind.rec (fun _ => Bool) false false false false false false false true k
def ifB (c : Bool) (x y : Option AT) : Option AT := Bool.rec (motive := fun _ => Option AT) y x c
def i64R (n : Nat) : Option AT := some (.v (.one (.int .i64 (.ofNat n))))
def blR (b : Bool) : Option AT := Bool.rec (motive := fun _ => Option AT) (some (.v (.one (.bool false)))) (some (.v (.one (.bool true)))) b
def addF (k j : IntKind) (x y : Int) : Option AT :=
  ifB (isI64 k) (ifB (isI64 j) (intNat x (fun a => intNat y (fun b => forceF (Nat.add a b) fun s => ifB (Nat.ble 9223372036854775808 s) (binInt .add k j x y) (i64R s)) (binInt .add k j x y)) (binInt .add k j x y)) (binInt .add k j x y)) (binInt .add k j x y)
def cmpF (op : BinOp) (f : Nat → Nat → Bool) (k j : IntKind) (x y : Int) : Option AT :=
  ifB (isI64 k) (ifB (isI64 j) (intNat x (fun a => intNat y (fun b => blR (f a b)) (binInt op k j x y)) (binInt op k j x y)) (binInt op k j x y)) (binInt op k j x y)
def ltF (a b : Nat) : Bool := Nat.ble (Nat.succ a) b
def notB (b : Bool) : Bool := Bool.rec (motive := fun _ => Bool) true false b
def bin2 (op : BinOp) : IntKind → IntKind → Int → Int → Option AT :=
  @BinOp.rec (fun _ => IntKind → IntKind → Int → Int → Option AT) (fun k j x y => addF k j x y) (fun k j x y => binInt .sub k j x y) (fun k j x y => binInt .mul k j x y) (fun k j x y => binInt .quo k j x y) (fun k j x y => binInt .rem k j x y)
    (fun k j x y => whenK k j (bitsF Nat.land k x y)) (fun k j x y => whenK k j (bitsF Nat.lor k x y)) (fun k j x y => whenK k j (bitsF Nat.xor k x y)) (fun k j x y => shlF k x y) (fun k j x y => shrF k x y) (fun k j x y => none)
    (fun k j x y => cmpF .eql Nat.beq k j x y) (fun k j x y => cmpF .neq (fun a b => notB (Nat.beq a b)) k j x y) (fun k j x y => cmpF .lss ltF k j x y) (fun k j x y => cmpF .leq (fun a b => notB (ltF b a)) k j x y) (fun k j x y => cmpF .gtr (fun a b => ltF b a) k j x y) (fun k j x y => cmpF .geq (fun a b => notB (ltF a b)) k j x y) op
theorem addF_eq (k j : IntKind) (x y : Int) : addF k j x y = binInt .add k j x y := by
  unfold addF
  cases k <;> try rfl
  cases j <;> try rfl
  cases x <;> try rfl
  cases y <;> try rfl
  rename_i a b
  show forceF (Nat.add a b) (fun s => ifB (Nat.ble 9223372036854775808 s) (binInt .add .i64 .i64 (.ofNat a) (.ofNat b)) (i64R s)) = _
  rw [forceF_eq]
  cases hb : Nat.ble 9223372036854775808 (Nat.add a b)
  · show i64R (Nat.add a b) = retI .i64 (wrapF .i64 (.ofNat (Nat.add a b)))
    have : wrapF .i64 (.ofNat (Nat.add a b)) = .ofNat (Nat.add a b) := by
      show (match Nat.ble 9223372036854775808 (Nat.add a b) with | false => _ | true => _) = _
      rw [hb]
    rw [this, retI_eq]
    rfl
  · rfl
theorem blR_eq (b : Bool) : blR b = retB b := by cases b <;> rfl
theorem notB_eq (b : Bool) : notB b = !b := by cases b <;> rfl
theorem cmpF_eq {op : BinOp} {f : Nat → Nat → Bool} (h : ∀ a b, binInt op .i64 .i64 (.ofNat a) (.ofNat b) = retB (f a b)) (k j : IntKind) (x y : Int) : cmpF op f k j x y = binInt op k j x y := by
  unfold cmpF
  cases k <;> try rfl
  cases j <;> try rfl
  cases x <;> try rfl
  cases y <;> try rfl
  rename_i a b
  show blR (f a b) = _
  rw [h, blR_eq]
theorem bin2_eq (op : BinOp) (k j : IntKind) (x y : Int) : bin2 op k j x y = binInt op k j x y := by
  cases op <;> try rfl
  · exact addF_eq _ _ _ _
  · exact cmpF_eq (fun a b => rfl) _ _ _ _
  · exact cmpF_eq (fun a b => by rw [notB_eq]; rfl) _ _ _ _
  · exact cmpF_eq (fun a b => rfl) _ _ _ _
  · exact cmpF_eq (fun a b => by rw [notB_eq]; rfl) _ _ _ _
  · exact cmpF_eq (fun a b => rfl) _ _ _ _
  · exact cmpF_eq (fun a b => by rw [notB_eq]; rfl) _ _ _ _
def binF (op : BinOp) (E : Env) (h : AHeap) (t : TypeId) (x y : Operand) (T : BT AT) (k : KA) : Option TH :=
  optOne (opnd T x) (fun a => a1Int a (fun i n => optOne (opnd T y) (fun b => a1Int b (fun j m => bindA (bin2 op i j n m) k) (bindA (vBin E h op t (opnd T x) (opnd T y)) k)) (bindA (vBin E h op t (opnd T x) (opnd T y)) k)) (bindA (vBin E h op t (opnd T x) (opnd T y)) k)) (bindA (vBin E h op t (opnd T x) (opnd T y)) k)
theorem binF_eq (op : BinOp) (E : Env) (h : AHeap) (t : TypeId) (x y : Operand) (T : BT AT) (k : KA) : binF op E h t x y T k = bindA (vBin E h op t (opnd T x) (opnd T y)) k := by
  unfold binF
  rw [optOne_eq]
  generalize opnd T x = rx
  generalize opnd T y = ry
  cases rx with
  | none => rfl
  | some xa => cases xa with
    | tup l => rfl
    | v xv => cases xv with
      | agg l => rfl
      | one x1 => cases x1 <;> try rfl
                  show optOne ry _ _ = _
                  rw [optOne_eq]
                  cases ry with
                  | none => rfl
                  | some ya => cases ya with
                    | tup l => rfl
                    | v yv => cases yv with
                      | agg l => rfl
                      | one y1 => cases y1 <;> try rfl
                                  show bindA (bin2 _ _ _ _ _) k = _
                                  rw [bin2_eq]
                                  rfl
/-! ### Memory -/
def objCells (o : AObj) : (BT A1 → Option TH) → Option TH → Option TH :=
  @AObj.rec (fun _ => (BT A1 → Option TH) → Option TH → Option TH) (fun t n e => fun k z => k t) (fun _ _ _ => fun k z => z) (fun _ _ _ _ => fun k z => z) (fun _ _ _ _ _ _ _ _ _ => fun k z => z) (fun _ => fun k z => z) (fun k z => z) o
def optCells (o : Option AObj) (k : BT A1 → Option TH) (z : Option TH) : Option TH := Option.rec (motive := fun _ => Option TH) z (fun o => objCells o k z) o
def isPlain (t : Option TI) : Bool := Option.rec (motive := fun _ => Bool) false (fun i => notB i.agg) t
def loadF (E : Env) (h : AHeap) (t : TypeId) (a : Option AT) (k : KA) : Option TH :=
  Bool.rec (motive := fun _ => Option TH) (bindA (vLoad E h t a) k) (optOne a (fun x => a1Ptr x (fun b o => optCells (h.t.get b) (fun c => Option.rec (motive := fun _ => Option TH) none (fun v => k (.v (.one v))) (c.get o)) none) none) none) (isPlain (E.tys.get t))
theorem optCells_eq (o : Option AObj) (k : BT A1 → Option TH) (z : Option TH) : optCells o k z = (match o with | some (.cells c _ _) => k c | _ => z) := by
  cases o with
  | none => rfl
  | some o => cases o <;> rfl
theorem loadF_eq (E : Env) (h : AHeap) (t : TypeId) (a : Option AT) (k : KA) : loadF E h t a k = bindA (vLoad E h t a) k := by
  unfold loadF
  cases hi : isPlain (E.tys.get t) with
  | false => rfl
  | true =>
    show optOne a _ _ = _
    rw [optOne_eq]
    unfold vLoad
    cases a with
    | none => rfl
    | some a => cases a with
      | tup => rfl
      | v a => cases a with
        | agg => rfl
        | one a => cases a <;> try rfl
                   rename_i b o
                   show optCells _ _ _ = _
                   rw [optCells_eq]
                   simp only [loadVarA]
                   cases hg : h.t.get b with
                   | none => rfl
                   | some ob => cases ob <;> try rfl
                                rename_i c n e
                                cases ht : E.tys.get t with
                                | none => rw [ht] at hi; cases hi
                                | some i =>
                                  rw [ht] at hi
                                  have ha : i.agg = false := by
                                    have hi : notB i.agg = true := hi
                                    rw [notB_eq] at hi
                                    simpa using hi
                                  simp only [ha]
                                  cases c.get o <;> rfl

def idxF (E : Env) (t : TypeId) (x i : Option AT) (k : KA) : Option TH := bindA (vIndexAddr E t x i) k
def fldF (E : Env) (t : TypeId) (x : Option AT) (f : Nat) (k : KA) : Option TH := bindA (vFieldAddr E t x f) k
def calleeF (c : Callee) : Array Operand → Array TypeId → Env → Rec → AHeap → BT AT → KO → Option TH :=
  @Callee.rec (fun _ => Array Operand → Array TypeId → Env → Rec → AHeap → BT AT → KO → Option TH)
    (fun f => fun args ts E rec h T k => crK (acallv E rec (opnd T f) (argsOf (opnd T) args.toList) h) k)
    (fun x m => fun args ts E rec h T k => crK (anyOp E rec h (opnd T) (.call ⟨.invoke x m, args, ts⟩)) k)
    (fun b => fun args ts E rec h T k => crK (anyOp E rec h (opnd T) (.call ⟨.builtin b, args, ts⟩)) k) c
def callF (c : Call) : Env → Rec → AHeap → BT AT → KO → Option TH :=
  @Call.rec (fun _ => Env → Rec → AHeap → BT AT → KO → Option TH) (fun f args ts => fun E rec h T k => calleeF f args ts E rec h T k) c
theorem callF_eq (c : Call) (E : Env) (rec : Rec) (h : AHeap) (T : BT AT) (k : KO) : callF c E rec h T k = crK (anyOp E rec h (opnd T) (.call c)) k := by
  obtain ⟨f, args, ts⟩ := c
  cases f <;> rfl
def opF (op : Op) : Env → Rec → AHeap → BT AT → KO → Option TH :=
  @Op.rec (fun _ => Env → Rec → AHeap → BT AT → KO → Option TH)
    (fun x => fun E rec h T k => opndF x T fun a => k a h)
    (fun x => fun E rec h T k => opndF x T fun a => k a h)
    (fun c a b => fun E rec h T k => pickF c a b T fun a => k a h)
    (fun e => fun E rec h T k => crK (madeR h (mAlloc E e)) k)
    (fun e x => fun E rec h T k => crK (madeR h (mBox e (opnd T x))) k)
    (fun t ps => fun E rec h T k => valK (vBuild E (opnd T) t ps) h k)
    (fun t l ps => fun E rec h T k => crK (madeR h (mBuildSlice E (opnd T) t l ps)) k)
    (fun t m x y => fun E rec h T k => none)
    (fun t x => fun E rec h T k => loadF E h t (opnd T x) fun a => k a h)
    (fun t x y => fun E rec h T k => crK (eStore E h t (opnd T x) (opnd T y)) k)
    (fun g => fun E rec h T k => none)
    (fun g => fun E rec h T k => none)
    (fun x => fun E rec h T k => valK (vNil (opnd T x)) h k)
    (fun op t x y u => fun E rec h T k => binF op E h t x y T fun a => k a h)
    (fun op t x => fun E rec h T k => valK (vUn op (opnd T x)) h k)
    (fun s d x => fun E rec h T k => valK (vConv E s d (opnd T x)) h k)
    (fun d x => fun E rec h T k => valK (vArrPtr E d (opnd T x)) h k)
    (fun t x => fun E rec h T k => none)
    (fun f p q => fun E rec h T k => valK (vFn (opnd T) f p q) h k)
    (fun t r => fun E rec h T k => crK (anyOp E rec h (opnd T) (.makeMap t r)) k)
    (fun t s => fun E rec h T k => none)
    (fun t l c => fun E rec h T k => crK (madeR h (mMakeSlice E t (opnd T l) (opnd T c))) k)
    (fun t x l u m => fun E rec h T k => valK (vSlice E (opnd T) t x l u m) h k)
    (fun t x f => fun E rec h T k => fldF E t (opnd T x) f fun a => k a h)
    (fun t x f => fun E rec h T k => valK (vField E t (opnd T x) f) h k)
    (fun t x y => fun E rec h T k => idxF E t (opnd T x) (opnd T y) fun a => k a h)
    (fun t x y => fun E rec h T k => valK (vIndex E t (opnd T x) (opnd T y)) h k)
    (fun t x y b => fun E rec h T k => valK (vLookup E h t (opnd T x) (opnd T y) b) h k)
    (fun t x y z => fun E rec h T k => crK (eMapUpd E h t (opnd T x) (opnd T y) (opnd T z)) k)
    (fun t x y => fun E rec h T k => none)
    (fun t x y z => fun E rec h T k => none)
    (fun t x => fun E rec h T k => crK (eRange E h t (opnd T x)) k)
    (fun x b => fun E rec h T k => crK (eNext h (opnd T x) b) k)
    (fun x => fun E rec h T k => valK (vEntry h (opnd T x)) h k)
    (fun x t a b => fun E rec h T k => none)
    (fun x i => fun E rec h T k => valK (vExtract (opnd T x) i) h k)
    (fun c => fun E rec h T k => callF c E rec h T k)
    (fun c => fun E rec h T k => none)
    (fun c => fun E rec h T k => none)
    (fun x => fun E rec h T k => none)
    (fun x y => fun E rec h T k => none)
    (fun t x b => fun E rec h T k => none)
    (fun cs b => fun E rec h T k => none) op
theorem opF_eq (op : Op) (E : Env) (rec : Rec) (h : AHeap) (T : BT AT) (k : KO) : opF op E rec h T k = crK (anyOp E rec h (opnd T) op) k := by
  cases op <;> try (first | rfl | exact valK_eq _ _ _ | exact bindA_eq _ _ _)
  case move x => exact (opndF_eq x T _).trans (bindA_eq _ _ _)
  case assign x => exact (opndF_eq x T _).trans (bindA_eq _ _ _)
  case pick c a b => exact (pickF_eq c a b T _).trans (bindA_eq _ _ _)
  case binOp op t x y u => exact (binF_eq op E h t x y T _).trans (bindA_eq _ _ _)
  case load t x => exact (loadF_eq E h t _ _).trans (bindA_eq _ _ _)
  case call c => exact callF_eq c E rec h T k
def resF (op : Op) : Env → AHeap → BT AT → Res :=
  @Op.rec (fun _ => Env → AHeap → BT AT → Res)
    (fun x => fun E h T => .val (opnd T x))
    (fun x => fun E h T => .val (opnd T x))
    (fun c a b => fun E h T => .val (vPick (opnd T) c a b))
    (fun e => fun E h T => .made (mAlloc E e))
    (fun e x => fun E h T => .made (mBox e (opnd T x)))
    (fun t ps => fun E h T => .val (vBuild E (opnd T) t ps))
    (fun t l ps => fun E h T => .made (mBuildSlice E (opnd T) t l ps))
    (fun t m x y => fun E h T => .eff)
    (fun t x => fun E h T => .val (vLoad E h t (opnd T x)))
    (fun t x y => fun E h T => .eff)
    (fun g => fun E h T => .eff)
    (fun g => fun E h T => .eff)
    (fun x => fun E h T => .val (vNil (opnd T x)))
    (fun op t x y u => fun E h T => .val (vBin E h op t (opnd T x) (opnd T y)))
    (fun op t x => fun E h T => .val (vUn op (opnd T x)))
    (fun s d x => fun E h T => .val (vConv E s d (opnd T x)))
    (fun d x => fun E h T => .val (vArrPtr E d (opnd T x)))
    (fun t x => fun E h T => .eff)
    (fun f p q => fun E h T => .val (vFn (opnd T) f p q))
    (fun t r => fun E h T => opRes E h (opnd T) (.makeMap t r))
    (fun t s => fun E h T => .eff)
    (fun t l c => fun E h T => .made (mMakeSlice E t (opnd T l) (opnd T c)))
    (fun t x l u m => fun E h T => .val (vSlice E (opnd T) t x l u m))
    (fun t x f => fun E h T => .val (vFieldAddr E t (opnd T x) f))
    (fun t x f => fun E h T => .val (vField E t (opnd T x) f))
    (fun t x y => fun E h T => .val (vIndexAddr E t (opnd T x) (opnd T y)))
    (fun t x y => fun E h T => .val (vIndex E t (opnd T x) (opnd T y)))
    (fun t x y b => fun E h T => .val (vLookup E h t (opnd T x) (opnd T y) b))
    (fun t x y z => fun E h T => .eff)
    (fun t x y => fun E h T => .eff)
    (fun t x y z => fun E h T => .eff)
    (fun t x => fun E h T => .eff)
    (fun x b => fun E h T => .eff)
    (fun x => fun E h T => .val (vEntry h (opnd T x)))
    (fun x t a b => fun E h T => .eff)
    (fun x i => fun E h T => .val (vExtract (opnd T x) i))
    (fun c => fun E h T => opRes E h (opnd T) (.call c))
    (fun c => fun E h T => .eff)
    (fun c => fun E h T => .eff)
    (fun x => fun E h T => .eff)
    (fun x y => fun E h T => .eff)
    (fun t x b => fun E h T => .eff)
    (fun cs b => fun E h T => .eff) op
theorem resF_eq (op : Op) (E : Env) (h : AHeap) (T : BT AT) : resF op E h T = opRes E h (opnd T) op := by cases op <;> rfl
/-! ### Regions -/
def putF (dst : Option Tmp) (n : Nat) (T : BT AT) (a : AT) (k : BT AT → Option TH) : Option TH :=
  Option.rec (motive := fun _ => Option TH) (k T) (fun d => Bool.rec (motive := fun _ => Option TH) none (k (T.put d a)) (Nat.ble (Nat.succ d) n)) dst
theorem putF_eq (dst : Option Tmp) (n : Nat) (T : BT AT) (a : AT) (k : BT AT → Option TH) : putF dst n T a k = putDst T n dst a k := by
  unfold putF putDst
  cases dst with
  | none => rfl
  | some d =>
    simp only [BT.putK_eq]
    cases Nat.ble (Nat.succ d) n <;> rfl
def wantF (g : Option (Nat × Bool)) (all : List Oper) (T : BT AT) (k : Bool → Option TH) : Option TH :=
  Option.rec (motive := fun _ => Option TH) (k true) (fun g => Option.rec (motive := fun _ => Option TH) none k (wantedA all T (some g))) g
theorem wantF_eq (g : Option (Nat × Bool)) (all : List Oper) (T : BT AT) (k : Bool → Option TH) : wantF g all T k = (match wantedA all T g with | some b => k b | none => none) := by
  cases g with
  | none => rfl
  | some g =>
    show (Option.rec (motive := fun _ => Option TH) none k (wantedA all T (some g)) : Option TH) = _
    cases wantedA all T (some g) <;> rfl
abbrev KT := BT AT → AHeap → Option TH
def operF (o : Oper) : Env → Rec → Nat → List Oper → BT AT → AHeap → KT → Option TH :=
  @Oper.rec (fun _ => Env → Rec → Nat → List Oper → BT AT → AHeap → KT → Option TH)
    (fun dst op ty pos after guard => fun E rec n all T h k => wantF guard all T fun w => Bool.rec (motive := fun _ => Option TH) (putF dst n T (.tup []) fun T' => k T' h) (opF op E rec h T fun a h' => putF dst n T a fun T' => k T' h') w) o
def runF (l : List Oper) : Env → Rec → Nat → List Oper → BT AT → AHeap → Option TH :=
  @List.rec Oper (fun _ => Env → Rec → Nat → List Oper → BT AT → AHeap → Option TH) (fun E rec n all T h => some ⟨T, h⟩) (fun o l ih => fun E rec n all T h => operF o E rec n all T h fun T' h' => ih E rec n all T' h') l
theorem crK_eq (x : CR) (k : KO) : crK x k = (match x with | some ⟨a, h⟩ => k a h | none => none) := by cases x <;> rfl
theorem runF_eq (E : Env) (rec : Rec) (n : Nat) (all : List Oper) : ∀ (l : List Oper) (T : BT AT) (h : AHeap), runF l E rec n all T h = runOps E rec n all l T h := by
  intro l
  induction l with
  | nil => intro T h; rfl
  | cons o l ih =>
    intro T h
    obtain ⟨dst, op, ty, pos, after, guard⟩ := o
    show wantF guard all T (fun w => Bool.rec (motive := fun _ => Option TH) (putF dst n T (.tup []) fun T' => runF l E rec n all T' h) (opF op E rec h T fun a h' => putF dst n T a fun T' => runF l E rec n all T' h') w) = _
    rw [wantF_eq]
    simp only [runOps]
    cases wantedA all T guard with
    | none => rfl
    | some w =>
      cases w with
      | false =>
        show putF dst n T (.tup []) _ = _
        rw [putF_eq]
        congr 1
        funext T'
        exact ih T' h
      | true =>
        show opF op E rec h T _ = _
        rw [opF_eq, crK_eq]
        cases anyOp E rec h (opnd T) op with
        | none => rfl
        | some r =>
          obtain ⟨a, h'⟩ := r
          show putF dst n T a _ = _
          rw [putF_eq]
          congr 1
          funext T'
          exact ih T' h'
end
end Go.Proofs.YtofjmfjgicdjjaaGreat.Ab
/- The abstract machine, part 44: the run of a code, so laid that the kernel copies little. -/
set_option linter.unusedVariables false
set_option linter.unusedSimpArgs false
namespace Go.Proofs.YtofjmfjgicdjjaaGreat.Ab
open Go
noncomputable section
/-! ### Regions whose order is drawn -/
def resK (r : Res) : (Option AT → Option TH) → (MR → Option TH) → Option TH :=
  @Res.rec (fun _ => (Option AT → Option TH) → (MR → Option TH) → Option TH) (fun r => fun kv km => kv r) (fun r => fun kv km => km r) (fun kv km => none) r
abbrev KP := BT AT → AHeap → List Past → Option TH
def oAheadF (o : Oper) : Dr → Env → Nat → List Oper → BT AT → AHeap → List Past → KP → Option TH :=
  @Oper.rec (fun _ => Dr → Env → Nat → List Oper → BT AT → AHeap → List Past → KP → Option TH)
    (fun dst op ty pos after guard => fun d E n all T h past k => wantF guard all T fun w => Bool.rec (motive := fun _ => Option TH) (putF dst n T (.tup []) fun T' => k T' h past)
      (resK (resF op E h T) (fun r => bindA r fun a => putF dst n T a fun T' => k T' h (⟨d, T, a⟩ :: past)) (fun r => crK (madeR h r) fun a h' => putF dst n T a fun T' => k T' h' past)) w) o
def dAheadF (d : Dr) : Dr → Env → Nat → List Oper → BT AT → AHeap → List Past → KP → Option TH :=
  @Dr.rec (fun _ => Dr → Env → Nat → List Oper → BT AT → AHeap → List Past → KP → Option TH) (fun i o b => fun d E n all T h past k => oAheadF o d E n all T h past k) d
def aheadF (l : List Dr) : Env → Nat → List Oper → BT AT → AHeap → List Past → KP → Option TH :=
  @List.rec Dr (fun _ => Env → Nat → List Oper → BT AT → AHeap → List Past → KP → Option TH) (fun E n all T h past k => k T h past)
    (fun d l ih => fun E n all T h past k => dAheadF d d E n all T h past fun T' h' past' => ih E n all T' h' past' k) l
theorem aheadF_eq (E : Env) (n : Nat) (all : List Oper) (k : KP) : ∀ (l : List Dr) (T : BT AT) (h : AHeap) (past : List Past), aheadF l E n all T h past k = (match runAhead E n all l T h past with | some ⟨T', h', past'⟩ => k T' h' past' | none => none) := by
  intro l
  induction l with
  | nil => intro T h past; rfl
  | cons d l ih =>
    intro T h past
    obtain ⟨i, o, b⟩ := d
    obtain ⟨dst, op, ty, pos, after, guard⟩ := o
    show wantF guard all T (fun w => Bool.rec (motive := fun _ => Option TH) (putF dst n T (.tup []) fun T' => aheadF l E n all T' h past k) (resK (resF op E h T) (fun r => bindA r fun a => putF dst n T a fun T' => aheadF l E n all T' h (⟨⟨i, ⟨dst, op, ty, pos, after, guard⟩, b⟩, T, a⟩ :: past) k) (fun r => crK (madeR h r) fun a h' => putF dst n T a fun T' => aheadF l E n all T' h' past k)) w) = _
    rw [wantF_eq]
    simp only [runAhead]
    have hput : ∀ (a : AT) (h' : AHeap) (past' : List Past), putF dst n T a (fun T' => aheadF l E n all T' h' past' k) = (match putDst T n dst a (fun T' => runAhead E n all l T' h' past') with | some ⟨T', h', past'⟩ => k T' h' past' | none => none) := by
      intro a h' past'
      rw [putF_eq]
      unfold putDst
      cases dst with
      | none => exact ih _ _ _
      | some t =>
        simp only [BT.putK_eq]
        cases Nat.ble (Nat.succ t) n with
        | false => rfl
        | true => exact ih _ _ _
    cases wantedA all T guard with
    | none => rfl
    | some w =>
      cases w with
      | false => exact hput _ _ _
      | true =>
        show resK (resF op E h T) _ _ = _
        rw [resF_eq]
        cases opRes E h (opnd T) op with
        | val r =>
          cases r with
          | none => rfl
          | some a => exact hput _ _ _
        | made r =>
          show crK (madeR h r) _ = _
          rw [crK_eq]
          simp only []
          cases madeR h r with
          | none => rfl
          | some x =>
            obtain ⟨a, h'⟩ := x
            exact hput _ _ _
        | eff => rfl
def recheckF (l : List Past) : Env → AHeap → Option TH → Option TH :=
  @List.rec Past (fun _ => Env → AHeap → Option TH → Option TH) (fun E h k => k)
    (fun p l ih => fun E h k => resK (resF p.d.o.op E h p.T) (fun r => bindA r fun a => Bool.rec (motive := fun _ => Option TH) none (ih E h k) (sameT a p.a)) (fun r => none)) l
theorem recheckF_eq (E : Env) (h : AHeap) (k : Option TH) : ∀ (l : List Past), recheckF l E h k = (match recheck E h l with | true => k | false => none) := by
  intro l
  induction l with
  | nil => rfl
  | cons p l ih =>
    show resK (resF p.d.o.op E h p.T) (fun r => bindA r fun a => Bool.rec (motive := fun _ => Option TH) none (recheckF l E h k) (sameT a p.a)) (fun r => none) = _
    rw [resF_eq]
    simp only [recheck]
    cases opRes E h (opnd p.T) p.d.o.op with
    | val r =>
      cases r with
      | none => rfl
      | some a =>
        show (Bool.rec (motive := fun _ => Option TH) none (recheckF l E h k) (sameT a p.a) : Option TH) = _
        simp only []
        cases sameT a p.a with
        | false => rfl
        | true => exact ih
    | made r => rfl
    | eff => rfl
theorem firstEff_eff {e : Dr} : ∀ {l : List Dr}, firstEff l = some e → isEffOp e.o.op = true
  | [], h => by cases h
  | d :: l, h => by
    simp only [firstEff] at h
    split at h
    · rename_i hd
      injection h with h
      subst h
      exact hd
    · exact firstEff_eff h
theorem isEff_res {E : Env} {h : AHeap} {ρ : Operand → Option AT} {op : Op} (e : isEffOp op = true) : opRes E h ρ op = .eff := by
  cases op <;> simp only [isEffOp] at e <;> try (first | rfl | (cases e; done))
  rename_i c
  obtain ⟨f, args, ts⟩ := c
  cases f <;> try rfl
  rename_i b
  cases b <;> first | rfl | (cases e; done)
def drawF (fuel : Nat) : Env → Rec → Nat → List Oper → List Dr → BT AT → AHeap → List Past → Option TH :=
  Nat.rec (motive := fun _ => Env → Rec → Nat → List Oper → List Dr → BT AT → AHeap → List Past → Option TH) (fun E rec n all todo T h past => none)
    (fun _ ih => fun E rec n all todo T h past => Option.rec (motive := fun _ => Option TH) (aheadF todo E n all T h past fun T' h' _ => some ⟨T', h'⟩)
      (fun e => aheadF (aheadOf e.i todo) E n all T h past fun T1 h1 past1 => wantF e.o.guard all T1 fun w => Bool.rec (motive := fun _ => Option TH) (putF e.o.dst n T1 (.tup []) fun T2 => ih E rec n all (behindOf e.i todo) T2 h1 (keepPast e.b past1))
        (opF e.o.op E rec h1 T1 fun a h2 => recheckF (keepPast e.b past1) E h2 (putF e.o.dst n T1 a fun T2 => ih E rec n all (behindOf e.i todo) T2 h2 (keepPast e.b past1))) w) (firstEff todo)) fuel
theorem drawF_eq (E : Env) (rec : Rec) (n : Nat) (all : List Oper) : ∀ (fuel : Nat) (todo : List Dr) (T : BT AT) (h : AHeap) (past : List Past), drawF fuel E rec n all todo T h past = runDraw E rec n all fuel todo T h past := by
  intro fuel
  induction fuel with
  | zero => intro todo T h past; rfl
  | succ fuel ih =>
    intro todo T h past
    show (Option.rec (motive := fun _ => Option TH) (aheadF todo E n all T h past fun T' h' _ => some ⟨T', h'⟩)
      (fun e => aheadF (aheadOf e.i todo) E n all T h past fun T1 h1 past1 => wantF e.o.guard all T1 fun w => Bool.rec (motive := fun _ => Option TH) (putF e.o.dst n T1 (.tup []) fun T2 => drawF fuel E rec n all (behindOf e.i todo) T2 h1 (keepPast e.b past1))
        (opF e.o.op E rec h1 T1 fun a h2 => recheckF (keepPast e.b past1) E h2 (putF e.o.dst n T1 a fun T2 => drawF fuel E rec n all (behindOf e.i todo) T2 h2 (keepPast e.b past1))) w) (firstEff todo) : Option TH) = _
    simp only [runDraw]
    cases he : firstEff todo with
    | none =>
      show aheadF todo E n all T h past _ = _
      rw [aheadF_eq]
      rfl
    | some e =>
      show aheadF (aheadOf e.i todo) E n all T h past _ = _
      rw [aheadF_eq]
      simp only []
      cases runAhead E n all (aheadOf e.i todo) T h past with
      | none => rfl
      | some x =>
        obtain ⟨T1, h1, past1⟩ := x
        show wantF e.o.guard all T1 _ = _
        rw [wantF_eq]
        simp only []
        have hput : ∀ (a : AT) (h' : AHeap) (past' : List Past), putF e.o.dst n T1 a (fun T2 => drawF fuel E rec n all (behindOf e.i todo) T2 h' past') = putDst T1 n e.o.dst a (fun T2 => runDraw E rec n all fuel (behindOf e.i todo) T2 h' past') := by
          intro a h' past'
          rw [putF_eq]
          congr 1
          funext T2
          exact ih _ _ _ _
        cases wantedA all T1 e.o.guard with
        | none => rfl
        | some w =>
          cases w with
          | false => exact hput _ _ _
          | true =>
            show opF e.o.op E rec h1 T1 _ = _
            rw [opF_eq, crK_eq]
            have hany : anyOp E rec h1 (opnd T1) e.o.op = effOp E rec h1 (opnd T1) e.o.op := by
              unfold anyOp
              rw [isEff_res (firstEff_eff he)]
            rw [hany]
            simp only []
            cases effOp E rec h1 (opnd T1) e.o.op with
            | none => rfl
            | some x =>
              obtain ⟨a, h2⟩ := x
              show recheckF (keepPast e.b past1) E h2 _ = _
              rw [recheckF_eq]
              simp only []
              cases recheck E h2 (keepPast e.b past1) with
              | false => rfl
              | true => exact hput _ _ _
/-! ### Codes -/
abbrev CodeK := Env → Rec → BT AT → List Nat → AHeap → Nat → Option Nat → FuncId → Option Out
abbrev OutK := BT AT → List Nat → AHeap → Option Out
def outF (o : Out) : OutK → Option Out := @Out.rec (fun _ => OutK → Option Out) (fun ex T ds h => fun k => @AEx.rec (fun _ => Option Out) (k T ds h) (fun id => some ⟨.exit id, T, ds, h⟩) (some ⟨.ret, T, ds, h⟩) ex) o
def seqF (o : Option Out) (k : OutK) : Option Out := Option.rec (motive := fun _ => Option Out) none (fun o => outF o k) o
theorem seqF_eq (o : Option Out) (k : OutK) : seqF o k = seqA o k := by
  cases o with
  | none => rfl
  | some o =>
    obtain ⟨ex, T, ds, h⟩ := o
    cases ex <;> rfl
def thF (x : TH) : List Nat → Option Out := @TH.rec (fun _ => List Nat → Option Out) (fun T h => fun ds => some ⟨.normal, T, ds, h⟩) x
def regF (ds : List Nat) (o : Option TH) : Option Out := Option.rec (motive := fun _ => Option Out) none (fun x => thF x ds) o
theorem regF_eq (ds : List Nat) (o : Option TH) : regF ds o = regOut ds o := by cases o <;> rfl
def codeF (c : Code) : CodeK :=
  @Code.rec (fun _ => CodeK)
    (fun E rec T ds h n r f => some ⟨.normal, T, ds, h⟩)
    (fun id ops draw => fun E rec T ds h n r f => regF ds (Bool.rec (motive := fun _ => Option TH) (runF ops.toList E rec n ops.toList T h) (drawF 64 E rec n ops.toList (revD (itemsFrom ops.toList 0 []) []) T h []) draw))
    (fun a b _ _ => fun E rec T ds h n r f => seqF (rec a T ds h n r f) fun T' ds' h' => rec b T' ds' h' n r f)
    (fun c a b _ _ => fun E rec T ds h n r f => condA (opnd T c) (branch rec a b T ds h n r f))
    (fun id b _ => fun E rec T ds h n r f => blockA id (rec b T ds h n r f))
    (fun b _ => fun E rec T ds h n r f => seqF (rec b T ds h n r f) fun T' ds' h' => rec (.loop b) T' ds' h' n r f)
    (fun g ps a b _ _ => fun E rec T ds h n r f => rangeA E rec g ps.toList a b T ds h n r f)
    (fun id => fun E rec T ds h n r f => some ⟨.exit id, T, ds, h⟩)
    (fun b _ => fun E rec T ds h n r f => rec b T ds h n r f)
    (fun l => fun E rec T ds h n r f => some ⟨.normal, T, ds, h⟩)
    (fun l => fun E rec T ds h n r f => none)
    (fun E rec T ds h n r f => some ⟨.ret, T, ds, h⟩)
    (fun w => fun E rec T ds h n r f => none) c
theorem codeF_eq (c : Code) (E : Env) (rec : Rec) (T : BT AT) (ds : List Nat) (h : AHeap) (n : Nat) (r : Option Nat) (f : FuncId) : codeF c E rec T ds h n r f = stepA E rec c T ds h n r f := by
  cases c <;> try rfl
  case region id ops draw =>
    cases draw with
    | true =>
      show regF ds (drawF 64 E rec n ops.toList (revD (itemsFrom ops.toList 0 []) []) T h []) = _
      rw [regF_eq, drawF_eq]
      rfl
    | false =>
      show regF ds (runF ops.toList E rec n ops.toList T h) = _
      rw [regF_eq, runF_eq]
      rfl
  case seq a b => exact seqF_eq _ _
  case loop b => exact seqF_eq _ _
def execF (E : Env) (m : Nat) : Rec := Nat.rec (motive := fun _ => Rec) (fun _ _ _ _ _ _ _ => none) (fun _ ih => fun c T ds h n r f => codeF c E ih T ds h n r f) m
theorem execF_eq (E : Env) (m : Nat) : execF E m = exec E m := by
  induction m with
  | zero => rfl
  | succ m ih =>
    show (fun c T ds h n r f => codeF c E (execF E m) T ds h n r f) = _
    rw [ih, exec_succ]
    funext c T ds h n r f
    exact codeF_eq c E _ T ds h n r f
end
end Go.Proofs.YtofjmfjgicdjjaaGreat.Ab
/- The abstract machine, part 45: a call that is known over a few blocks is known over more. -/
set_option linter.unusedVariables false
set_option linter.unusedSimpArgs false
namespace Go.Proofs.YtofjmfjgicdjjaaGreat.Ab
open Go
/-- hh is h behind a call that is known to come from h0 to h1. -/
structure Over (h h0 h1 hh : AHeap) : Prop where
  next0 : h0.next = h.next
  next1 : hh.next = h1.next
  sub : ∀ b, SubAt h h0 b
  res : ∀ b o, hh.t.get b = some o → (∃ o1, h1.t.get b = some o1 ∧ SubObj o o1) ∨ (h0.t.get b = none ∧ h.t.get b = some o)
theorem SubObj.live {o o' : AObj} (h : SubObj o o') (hd : o ≠ .dead) : o' ≠ .dead := by
  rcases h with rfl | ⟨t, t', n, e, e', rfl, rfl, _⟩
  · exact hd
  · simp
theorem Over.live0 {h h0 h1 hh : AHeap} (ho : Over h h0 h1 hh) {b : Nat} (hl : Live h0 b) : Live h b := by
  obtain ⟨o, h2, h3⟩ := hl
  obtain ⟨o', h4, h5⟩ := ho.sub b o h2
  exact ⟨o', h4, h5.live h3⟩
theorem Over.live {h h0 h1 hh : AHeap} (ho : Over h h0 h1 hh) {b : Nat} (hl : Live hh b) : Live h1 b ∨ (h0.t.get b = none ∧ Live h b) := by
  obtain ⟨o, h2, h3⟩ := hl
  rcases ho.res b o h2 with ⟨o1, h4, h5⟩ | ⟨h4, h5⟩
  · exact .inl ⟨o1, h4, h5.live h3⟩
  · exact .inr ⟨h4, o, h5, h3⟩
theorem frame_calls {P : Program} {mine : Nat → Prop} {w0 w : World} {μ : Mu} {pd : Nat → Prop} {h h0 h1 hh : AHeap} {f : FuncId} {avs : Array Value} {v : AT} (hr : Rel ⟨okCode, mine, w0⟩ μ pd h w) (ho : Over h h0 h1 hh)
    (hcall : ∀ mine' : Nat → Prop, Rel ⟨okCode, mine', w⟩ μ pd h0 w → CallsA P ⟨okCode, mine', w⟩ μ pd h0 w ⟨v, h1⟩ f avs) : CallsA P ⟨okCode, mine, w0⟩ μ pd h w ⟨v, hh⟩ f avs := by
  have hr0 : Rel ⟨okCode, fun c => (∃ b K, Live h0 b ∧ μ b = some (c, K)) ∨ w.heap.size ≤ c, w⟩ μ pd h0 w := by
    refine ⟨fun b o hx hp => ?_, fun b b' c K K' h1 h2 h3 h4 => hr.inj b b' c K K' (ho.live0 h1) (ho.live0 h2) h3 h4, fun b c K h3 => ?_, fun b hp => ?_, Keeps.refl _ _, fun c hc => .inr hc, fun b c K hl h3 => .inl ⟨b, K, hl, h3⟩⟩
    · obtain ⟨o', h4, h5⟩ := ho.sub b o hx
      obtain ⟨c, K, ob, p, q, s⟩ := hr.obj b o' h4 hp
      exact ⟨c, K, ob, p, q, RObj.sub _ h5 s⟩
    · rw [ho.next0]; exact hr.bnd b c K h3
    · rw [ho.next0]; exact hr.pdn b hp
  refine Calls.mono (hcall _ hr0) fun ex w' ⟨u, μ', e1, e2, h3, h4⟩ => ⟨u, μ', e1, e2, ?_, ?_⟩
  · have hmine : ∀ c, ((∃ b K, Live h0 b ∧ μ b = some (c, K)) ∨ w.heap.size ≤ c) → mine c := by
      rintro c (⟨b, K, hl, hm⟩ | hc)
      · exact hr.low b c K (ho.live0 hl) hm
      · exact hr.hB c hc
    have hout : ∀ b c K, h0.t.get b = none → Live h b → μ b = some (c, K) → ¬ ((∃ b K, Live h0 b ∧ μ b = some (c, K)) ∨ w.heap.size ≤ c) := by
      rintro b c K hn hl hm (⟨b2, K2, hl2, hm2⟩ | hc)
      · have := hr.inj b b2 c K K2 hl (ho.live0 hl2) hm hm2
        subst this
        obtain ⟨o, g, _⟩ := hl2
        rw [hn] at g
        cases g
      · have := (hr.bnd b c K hm).2
        omega
    have hmu : ∀ b c K, Live h b → μ' b = some (c, K) → μ b = some (c, K) := by
      intro b c K hl hm
      obtain ⟨o, g, _⟩ := hl
      by_cases hp : pd b
      · rw [(h3.pdn b hp).1] at hm; cases hm
      · obtain ⟨c1, K1, ob, p, _⟩ := hr.obj b o g hp
        have := h4.le _ _ p
        rw [hm] at this
        rw [p]
        exact this.symm
    refine ⟨fun b o hx hp => ?_, fun b b' c K K' l1 l2 m1 m2 => ?_, fun b c K m => ?_, fun b hp => ?_, hr.base.trans ⟨h3.base.os, h3.base.tape, h3.base.output, h3.base.size, fun k hk => h3.base.block k fun hm => hk (hmine k hm)⟩, fun c hc => hr.hB c (Nat.le_trans h3.base.size hc), fun b c K hl m => ?_⟩
    · rcases ho.res b o hx with ⟨o1, g1, s1⟩ | ⟨g0, gh⟩
      · obtain ⟨c, K, ob, p, q, s⟩ := h3.obj b o1 g1 hp
        exact ⟨c, K, ob, p, q, RObj.sub _ s1 s⟩
      · obtain ⟨c, K, ob, p, q, s⟩ := hr.obj b o gh hp
        have hlt := (hr.bnd b c K p).2
        by_cases hd : o = .dead
        · subst hd
          have hlt' : c < w'.heap.size := Nat.lt_of_lt_of_le hlt h3.base.size
          exact ⟨c, K, w'.heap[c], h4.le _ _ p, by simp [hlt'], trivial⟩
        · refine ⟨c, K, ob, h4.le _ _ p, ?_, RObj.mono _ h4.le s⟩
          rw [h3.base.block c (hout b c K g0 ⟨o, gh, hd⟩ p)]
          exact q
    · rcases ho.live l1 with a1 | ⟨n1, a1⟩
      · rcases ho.live l2 with a2 | ⟨n2, a2⟩
        · exact h3.inj b b' c K K' a1 a2 m1 m2
        · exact absurd (h3.low b c K a1 m1) (hout b' c K' n2 a2 (hmu b' c K' a2 m2))
      · rcases ho.live l2 with a2 | ⟨n2, a2⟩
        · exact absurd (h3.low b' c K' a2 m2) (hout b c K n1 a1 (hmu b c K a1 m1))
        · exact hr.inj b b' c K K' a1 a2 (hmu b c K a1 m1) (hmu b' c K' a2 m2)
    · rw [ho.next1]; exact h3.bnd b c K m
    · rw [ho.next1]; exact h3.pdn b hp
    · rcases ho.live hl with a1 | ⟨n1, a1⟩
      · exact hmine c (h3.low b c K a1 m)
      · exact hr.low b c K a1 (hmu b c K a1 m)
  · refine ⟨h4.le, fun b hp o hx => ?_, by rw [← ho.next0, ho.next1]; exact h4.next⟩
    rcases ho.res b o hx with ⟨o1, g1, s1⟩ | ⟨g0, gh⟩
    · obtain ⟨o0, g0, s0⟩ := h4.keep b hp o1 g1
      obtain ⟨o', gh, s'⟩ := ho.sub b o0 g0
      exact ⟨o', gh, s1.trans (s0.trans s')⟩
    · exact ⟨o, gh, SubObj.refl o⟩
end Go.Proofs.YtofjmfjgicdjjaaGreat.Ab
