/- The abstract machine, part 36: the checksum in place of its calls. -/
import Derived.Test.YtofjmfjgicdjjaaGreatAbA
import Derived.Test.YtofjmfjgicdjjaaGreatAbG
import Derived.Test.YtofjmfjgicdjjaaGreatProg
import Derived.KernelRfl
set_option linter.unusedVariables false
set_option linter.unusedSimpArgs false
namespace Go.Proofs.YtofjmfjgicdjjaaGreat.Ab
open Go
noncomputable section
def crcStep (x : Nat) : Nat :=
  match Nat.beq (Nat.mod x 2) 1 with
  | true => Nat.xor (Nat.div x 2) 14514072000185962306
  | false => Nat.div x 2
def crcByteK {R : Type} (x c : Nat) (k : Nat → R) : R :=
  forceN (Nat.xor x c) fun x => forceN (crcStep x) fun x => forceN (crcStep x) fun x => forceN (crcStep x) fun x => forceN (crcStep x) fun x => forceN (crcStep x) fun x => forceN (crcStep x) fun x => forceN (crcStep x) fun x => forceN (crcStep x) k
def crcCells : List A1 → Nat → Option Nat
  | [], x => some x
  | a :: l, x => match a with
    | .int k n => match sameK k .u8 with
      | true => match n with
        | .ofNat c => match Nat.ble 256 c with
          | false => crcByteK x c fun y => crcCells l y
          | true => none
        | .negSucc _ => none
      | false => none
    | _ => none
/-- crc64.Update, of a sum and a slice of bytes. -/
def crcA (args : List AT) (h : AHeap) : Option AT :=
  match args with
  | [.v (.one (.int k s)), .v (.one a)] => match sameK k .u64 with
    | true => match s with
      | .ofNat s => match Nat.ble 18446744073709551616 s with
        | false => match lenOfA a with
          | some n => match Nat.ble n 1048576 with
            | true => match cellsOfSlice h 1 n a with
              | some cs => forceN (Nat.sub 18446744073709551615 s) fun x => match crcCells cs x with
                | some y => retI .u64 (.ofNat (Nat.sub 18446744073709551615 y))
                | none => none
              | none => none
            | false => none
          | none => none
        | true => none
      | .negSucc _ => none
    | false => none
  | _ => none
def crcC (args : List AT) (h : AHeap) : CR := match crcA args h with | some a => some ⟨a, h⟩ | none => none
def crcOvr (f : FuncId) : Option (List AT → AHeap → CR) := match Nat.beq f 191 with | true => some crcC | false => none
def isTrueK (r : CR) : Option Unit :=
  match r with
  | some ⟨a, _⟩ => match a with
    | .v (.one (.bool b)) => match b with
      | true => some ()
      | false => none
    | _ => none
  | none => none
end
end Go.Proofs.YtofjmfjgicdjjaaGreat.Ab
/- The abstract machine, part 37: what the evaluator comes to where values are not known, by rewriting. -/
set_option linter.unusedVariables false
set_option linter.unusedSimpArgs false
namespace Go.Proofs.YtofjmfjgicdjjaaGreat.Ab
open Go
theorem BT.gp_same {α : Type} (T : BT α) (i : Nat) (v : α) (h : i < 65536) : (T.put i v).get i = some v := BT.get_put_same _ _ _ h
theorem BT.gp_ne {α : Type} (T : BT α) (i j : Nat) (v : α) (h : j ≠ i) : (T.put i v).get j = T.get j := BT.get_put_ne _ _ _ _ h
section
variable {E : Env} {m n : Nat} {T : BT AT} {ds : List Nat} {h : AHeap} {r : Option Nat} {f : FuncId}
theorem ex_skip : exec E (m + 1) .skip T ds h n r f = some ⟨.normal, T, ds, h⟩ := rfl
theorem ex_ret : exec E (m + 1) .ret T ds h n r f = some ⟨.ret, T, ds, h⟩ := rfl
theorem ex_exit (id : Nat) : exec E (m + 1) (.exit id) T ds h n r f = some ⟨.exit id, T, ds, h⟩ := rfl
theorem ex_seq (a b : Code) : exec E (m + 1) (.seq a b) T ds h n r f = seqA (exec E m a T ds h n r f) fun T' ds' h' => exec E m b T' ds' h' n r f := rfl
theorem ex_cond (c : Operand) (a b : Code) : exec E (m + 1) (.cond c a b) T ds h n r f = condA (opnd T c) fun t => match t with | true => exec E m a T ds h n r f | false => exec E m b T ds h n r f := by
  show condA (opnd T c) (branch (exec E m) a b T ds h n r f) = _
  congr 1
theorem ex_block (id : Nat) (b : Code) : exec E (m + 1) (.block id b) T ds h n r f = blockA id (exec E m b T ds h n r f) := rfl
theorem ex_loop (b : Code) : exec E (m + 1) (.loop b) T ds h n r f = seqA (exec E m b T ds h n r f) fun T' ds' h' => exec E m (.loop b) T' ds' h' n r f := rfl
theorem ex_region (id : Nat) (ops : Array Oper) : exec E (m + 1) (.region id ops false) T ds h n r f = regOut ds (runOps E (exec E m) n ops.toList ops.toList T h) := rfl
end
theorem seqA_normal (T : BT AT) (ds : List Nat) (h : AHeap) (k : BT AT → List Nat → AHeap → Option Out) : seqA (some ⟨.normal, T, ds, h⟩) k = k T ds h := rfl
theorem seqA_exit (id : Nat) (T : BT AT) (ds : List Nat) (h : AHeap) (k : BT AT → List Nat → AHeap → Option Out) : seqA (some ⟨.exit id, T, ds, h⟩) k = some ⟨.exit id, T, ds, h⟩ := rfl
theorem seqA_ret (T : BT AT) (ds : List Nat) (h : AHeap) (k : BT AT → List Nat → AHeap → Option Out) : seqA (some ⟨.ret, T, ds, h⟩) k = some ⟨.ret, T, ds, h⟩ := rfl
theorem blockA_normal (id : Nat) (T : BT AT) (ds : List Nat) (h : AHeap) : blockA id (some ⟨.normal, T, ds, h⟩) = some ⟨.normal, T, ds, h⟩ := rfl
theorem blockA_exit (id : Nat) (T : BT AT) (ds : List Nat) (h : AHeap) : blockA id (some ⟨.exit id, T, ds, h⟩) = some ⟨.normal, T, ds, h⟩ := by
  unfold blockA
  simp only [Nat.beq_refl]
theorem blockA_ret (id : Nat) (T : BT AT) (ds : List Nat) (h : AHeap) : blockA id (some ⟨.ret, T, ds, h⟩) = some ⟨.ret, T, ds, h⟩ := rfl
/-! ### Whole numbers -/
def u64 (n : Nat) : AT := .v (.one (.int .u64 (.ofNat n)))
def i64 (n : Nat) : AT := .v (.one (.int .i64 (.ofNat n)))
def bl (b : Bool) : AT := .v (.one (.bool b))
section
variable {E : Env} {h : AHeap} {t : TypeId}
theorem ble_lt {a b : Nat} (h : b < a) : Nat.ble a b = false := by rw [Bool.eq_false_iff, Ne, Nat.ble_eq]; omega
theorem retI_eq (k : IntKind) (n : Int) : retI k n = some (.v (.one (.int k n))) := by rw [retI, forceI_eq]
theorem retB_eq (b : Bool) : retB b = some (bl b) := by cases b <;> rfl
theorem vb_and {x y : Nat} (hx : x < 18446744073709551616) (hy : y < 18446744073709551616) : vBin E h .and t (some (u64 x)) (some (u64 y)) = some (u64 (Nat.land x y)) := by
  show (match Nat.ble 18446744073709551616 x with | false => (match Nat.ble 18446744073709551616 y with | false => retI .u64 (.ofNat (Nat.land x y)) | true => none) | true => none) = _
  rw [ble_lt hx, ble_lt hy]
  exact retI_eq _ _
theorem vb_xor {x y : Nat} (hx : x < 18446744073709551616) (hy : y < 18446744073709551616) : vBin E h .xor t (some (u64 x)) (some (u64 y)) = some (u64 (Nat.xor x y)) := by
  show (match Nat.ble 18446744073709551616 x with | false => (match Nat.ble 18446744073709551616 y with | false => retI .u64 (.ofNat (Nat.xor x y)) | true => none) | true => none) = _
  rw [ble_lt hx, ble_lt hy]
  exact retI_eq _ _
theorem vb_shr1 {x : Nat} : vBin E h .shr t (some (u64 x)) (some (u64 1)) = some (u64 (Nat.div x 2)) := by
  show retI .u64 (.ofNat (Nat.div x (Nat.pow 2 (minN 1 64)))) = _
  exact retI_eq _ _
theorem vb_eql {x y : Nat} : vBin E h .eql t (some (u64 x)) (some (u64 y)) = some (bl (Nat.beq x y)) := retB_eq _
theorem vb_lss {x y : Nat} : vBin E h .lss t (some (i64 x)) (some (i64 y)) = some (bl (Nat.ble (Nat.succ x) y)) := retB_eq _
theorem vb_add {x y : Nat} (hx : x + y < 9223372036854775808) : vBin E h .add t (some (i64 x)) (some (i64 y)) = some (i64 (x + y)) := by
  show retI .i64 (wrapF .i64 (.ofNat (Nat.add x y))) = _
  have : wrapF .i64 (.ofNat (Nat.add x y)) = .ofNat (Nat.add x y) := by
    show (match Nat.ble 9223372036854775808 (Nat.add x y) with | false => _ | true => _) = _
    rw [ble_lt (show Nat.add x y < _ from hx)]
  rw [this]
  exact retI_eq _ _
theorem vu_not {x : Nat} (hx : x < 18446744073709551616) : vUn .xor (some (u64 x)) = some (u64 (18446744073709551615 - x)) := by
  show (match Nat.ble 18446744073709551616 x with | false => retI .u64 (.ofNat (Nat.sub 18446744073709551615 x)) | true => none) = _
  rw [ble_lt hx]
  exact retI_eq _ _
theorem condA_bl (b : Bool) (k : Bool → Option Out) : condA (some (bl b)) k = k b := rfl
end
end Go.Proofs.YtofjmfjgicdjjaaGreat.Ab
/- The abstract machine, part 38: what the evaluator comes to at the checksum's functions. -/
set_option linter.unusedVariables false
set_option linter.unusedSimpArgs false
namespace Go.Proofs.YtofjmfjgicdjjaaGreat.Ab
open Go Go.Proofs
theorem crcStep_lt {x : Nat} (h : x < 18446744073709551616) : crcStep x < 18446744073709551616 := by
  unfold crcStep
  have hd : Nat.div x 2 < 18446744073709551616 := by show x / 2 < _; omega
  split
  · exact Nat.xor_lt_two_pow (n := 64) hd (by decide)
  · exact hd
theorem land1 (x : Nat) : Nat.land x 1 = Nat.mod x 2 := Nat.and_one_is_mod x
theorem step_run {E : Env} {h : AHeap} (m : Nat) {x : Nat} (hx : x < 18446744073709551616) (hf : E.fns.get 283 = some Tryz.f283) (ho : E.ovr 283 = none) :
    acall E (exec E (m + 12)) 283 [u64 x] h = some ⟨u64 (crcStep x), h⟩ := by
  have c0 : ofConst (.int .u64 0) = some (u64 0) := rfl
  have c1 : ofConst (.int .u64 1) = some (u64 1) := rfl
  have c2 : ofConst (.int .u64 14514072000185962306) = some (u64 14514072000185962306) := rfl
  have l1 : Nat.ble (lenL [u64 x]) 11 = true := rfl
  have hl : Nat.land x 1 < 18446744073709551616 := by rw [land1]; show x % 2 < _; omega
  have hd : Nat.div x 2 < 18446744073709551616 := by show x / 2 < _; omega
  unfold acall acall0 crcStep
  cases hb : Nat.beq (Nat.mod x 2) 1
  all_goals
    simp (decide := true) only [ho, hf, Tryz.f283, l1, BT.fromK_eq, BT.fromL, ex_seq, ex_region, ex_cond, ex_ret, ex_skip, seqA, regOut, runOps, wantedA, anyOp, opRes, valR, opnd, c0, c1, c2, putDst, BT.putK_eq, BT.gp_same, BT.gp_ne,
      vb_and hx, vb_eql, vb_shr1, condA_bl, land1, hb, vb_xor hd, leaveA, outOf, takeDefers, resultsA]
    rfl
/-! ### Update -/
def sL : Code → Code | .seq a _ => a | c => c
def sR : Code → Code | .seq _ a => a | c => c
def inn : Code → Code | .block _ a => a | .loop a => a | c => c
noncomputable def U0 : Code := match Tryz.f191.body with | some c => c | none => .skip
noncomputable def OB : Code := inn (inn (sR (sL (sR (sR U0)))))
noncomputable def IB : Code := inn (inn (sR (sR (sR (inn (sL (sR (sR OB))))))))
noncomputable def innerT : Nat → Nat → Nat → BT AT → BT AT
  | 0, _, _, T => T.put 21 (bl false)
  | d + 1, k, x, T => innerT d (k + 1) (crcStep x) ((((((T.put 21 (bl true)).put 22 (u64 x)).put 23 (u64 (crcStep x))).put 5 (u64 (crcStep x))).put 24 (i64 (k + 1))).put 20 (i64 (k + 1)))
def stepN : Nat → Nat → Nat
  | 0, x => x
  | d + 1, x => stepN d (crcStep x)
theorem stepN_lt : ∀ (d : Nat) {x : Nat}, x < 18446744073709551616 → stepN d x < 18446744073709551616
  | 0, x, h => h
  | d + 1, x, h => stepN_lt d (crcStep_lt h)
theorem innerT_5 : ∀ (d k x : Nat) (T : BT AT), T.get 5 = some (u64 x) → (innerT d k x T).get 5 = some (u64 (stepN d x))
  | 0, k, x, T, h => by simp (decide := true) only [innerT, stepN, BT.gp_ne, h]
  | d + 1, k, x, T, h => by
    simp only [innerT, stepN]
    exact innerT_5 d _ _ _ (by simp (decide := true) only [BT.gp_same, BT.gp_ne])
theorem innerT_ne {j : Nat} (h : j ≠ 21 ∧ j ≠ 22 ∧ j ≠ 23 ∧ j ≠ 5 ∧ j ≠ 24 ∧ j ≠ 20) : ∀ (d k x : Nat) (T : BT AT), (innerT d k x T).get j = T.get j
  | 0, k, x, T => by simp only [innerT]; exact BT.gp_ne _ _ _ _ h.1
  | d + 1, k, x, T => by
    simp only [innerT]
    rw [innerT_ne h d]
    obtain ⟨h1, h2, h3, h4, h5, h6⟩ := h
    rw [BT.gp_ne _ _ _ _ h6, BT.gp_ne _ _ _ _ h5, BT.gp_ne _ _ _ _ h4, BT.gp_ne _ _ _ _ h3, BT.gp_ne _ _ _ _ h2, BT.gp_ne _ _ _ _ h1]
theorem inner_end {E : Env} {h : AHeap} (T : BT AT) (m : Nat) (h20 : T.get 20 = some (i64 8)) : exec E (m + 10) IB T [] h 28 none 191 = some ⟨.exit 2, T.put 21 (bl false), [], h⟩ := by
  have c8 : ofConst (.int .i64 8) = some (i64 8) := rfl
  have hb : Nat.ble (Nat.succ 8) 8 = false := rfl
  simp (decide := true) only [IB, OB, U0, inn, sL, sR, Tryz.f191, ex_seq, ex_region, ex_cond, ex_exit, ex_skip, seqA, regOut, runOps, wantedA, anyOp, opRes, valR, opnd, c8, putDst, BT.putK_eq, BT.gp_same, BT.gp_ne, h20, vb_lss, condA_bl, hb]
section
variable {E : Env} {h : AHeap} (hf : E.fns.get 283 = some Tryz.f283) (ho : ∀ f, E.ovr f = none)
include hf ho
theorem inner_body (k x : Nat) (T : BT AT) (m : Nat) (hk : k < 8) (hx : x < 18446744073709551616) (h5 : T.get 5 = some (u64 x)) (h20 : T.get 20 = some (i64 k)) :
    exec E (m + 20) IB T [] h 28 none 191 = some ⟨.normal, (((((T.put 21 (bl true)).put 22 (u64 x)).put 23 (u64 (crcStep x))).put 5 (u64 (crcStep x))).put 24 (i64 (k + 1))).put 20 (i64 (k + 1)), [], h⟩ := by
  have c8 : ofConst (.int .i64 8) = some (i64 8) := rfl
  have c1 : ofConst (.int .i64 1) = some (i64 1) := rfl
  have hb : Nat.ble (Nat.succ k) 8 = true := by rw [Nat.ble_eq]; omega
  have hadd : k + 1 < 9223372036854775808 := by omega
  have hfn : acallv E (exec E (m + 15)) (some (.v (.one (.fn 283 [] [])))) (some [u64 x]) h = some ⟨u64 (crcStep x), h⟩ := step_run (m + 3) hx hf (ho 283)
  have ha : argsOf (opnd ((T.put 21 (bl true)).put 22 (u64 x))) [.tmp 22] = some [u64 x] := by simp (decide := true) only [argsOf, opnd, BT.gp_same]; rfl
  simp (decide := true) only [IB, OB, U0, inn, sL, sR, Tryz.f191, ex_seq, ex_region, ex_cond, ex_exit, ex_skip, ex_block, blockA, seqA, regOut, runOps, wantedA, anyOp, opRes, effOp, valR, opnd, c8, c1, putDst, BT.putK_eq, BT.gp_same, BT.gp_ne, h20, h5, vb_lss, condA_bl, hb, vb_add hadd, ha, hfn]
theorem inner_run : ∀ (d k x : Nat) (T : BT AT) (m : Nat), k + d = 8 → x < 18446744073709551616 → T.get 5 = some (u64 x) → T.get 20 = some (i64 k) →
    exec E (m + d + 21) (.loop IB) T [] h 28 none 191 = some ⟨.exit 2, innerT d k x T, [], h⟩ := by
  intro d
  induction d with
  | zero =>
    intro k x T m hk hx h5 h20
    obtain rfl : k = 8 := by omega
    have hb := inner_end (E := E) (h := h) T (m + 10) h20
    have he := ex_loop (E := E) (m := m + 20) (n := 28) (T := T) (ds := []) (h := h) (r := none) (f := 191) IB
    rw [show m + 10 + 10 = m + 20 from rfl] at hb
    rw [hb] at he
    rw [seqA_exit] at he
    rw [show m + 0 + 21 = m + 20 + 1 from rfl, he]
    simp only [innerT]
  | succ d ih =>
    intro k x T m hk hx h5 h20
    have hb := inner_body (h := h) hf ho k x T (m + d + 1) (by omega) hx h5 h20
    have he := ex_loop (E := E) (m := m + d + 21) (n := 28) (T := T) (ds := []) (h := h) (r := none) (f := 191) IB
    rw [show m + d + 1 + 20 = m + d + 21 from by omega] at hb
    rw [hb] at he
    rw [seqA_normal] at he
    rw [show m + (d + 1) + 21 = m + d + 21 + 1 from by omega, he]
    simp only [innerT]
    exact ih (k + 1) (crcStep x) _ m (by omega) (crcStep_lt hx) (by simp (decide := true) only [BT.gp_same, BT.gp_ne]) (by simp (decide := true) only [BT.gp_same, BT.gp_ne])
end
/-- The bytes of a slice, from place k on. -/
def BytesAt (h : AHeap) (a : A1) (k : Nat) (cs : List A1) : Prop :=
  ∀ j v, cs[j]? = some v → ∃ b o len cap q c n el, a = .sl b o len cap q ∧ h.t.get b = some (.cells c n el) ∧ k + j < len ∧ c.get (o + (k + j)) = some v
theorem BytesAt.tail {h : AHeap} {a : A1} {k : Nat} {v : A1} {cs : List A1} (hb : BytesAt h a k (v :: cs)) : BytesAt h a (k + 1) cs := by
  intro j u hu
  obtain ⟨b, o, len, cap, q, c, n, el, h1, h2, h3, h4⟩ := hb (j + 1) u (by simpa using hu)
  exact ⟨b, o, len, cap, q, c, n, el, h1, h2, by omega, by rw [show o + (k + 1 + j) = o + (k + (j + 1)) from by omega]; exact h4⟩
def u8 (n : Nat) : A1 := .int .u8 (.ofNat n)
theorem crcByteK_eq {R : Type} (x c : Nat) (k : Nat → R) : crcByteK x c k = k (stepN 8 (Nat.xor x c)) := by
  simp only [crcByteK, forceN_eq, stepN]
theorem crcCells_cons {v : A1} {l : List A1} {x y : Nat} (e : crcCells (v :: l) x = some y) : ∃ c, v = u8 c ∧ c < 256 ∧ crcCells l (stepN 8 (Nat.xor x c)) = some y := by
  simp only [crcCells] at e
  split at e <;> try (cases e; done)
  rename_i k n
  split at e <;> try (cases e; done)
  rename_i hk
  split at e <;> try (cases e; done)
  rename_i c
  split at e <;> try (cases e; done)
  rename_i hc
  rw [crcByteK_eq] at e
  exact ⟨c, by rw [sameK_eq hk]; rfl, ble_false hc, e⟩
theorem outer_end {E : Env} {h : AHeap} (T : BT AT) (m k : Nat) (h11 : T.get 11 = some (i64 k)) (h12 : T.get 12 = some (i64 k)) : exec E (m + 10) OB T [] h 28 none 191 = some ⟨.exit 0, T.put 13 (bl false), [], h⟩ := by
  have hb : Nat.ble (Nat.succ k) k = false := ble_lt (Nat.lt_succ_self k)
  simp (decide := true) only [OB, U0, inn, sL, sR, Tryz.f191, ex_seq, ex_region, ex_cond, ex_exit, ex_skip, seqA, regOut, runOps, wantedA, anyOp, opRes, valR, opnd, putDst, BT.putK_eq, BT.gp_same, BT.gp_ne, h11, h12, vb_lss, condA_bl, hb]
structure CrcEnv (E : Env) : Prop where
  f : E.fns.get 283 = some Tryz.f283
  f0 : E.fns.get 191 = some Tryz.f191
  o : ∀ f, E.ovr f = none
  t5 : ∃ i, E.tys.get 5 = some i ∧ i.size = 1 ∧ i.agg = false
  t45 : ∃ i, E.tys.get 45 = some i ∧ i.desc = .int .u64
  t59 : ∃ i, E.tys.get 59 = some i ∧ i.desc = .slice 5
section
variable {E : Env} {h : AHeap} (hC : CrcEnv E)
include hC
theorem outer_body (a : A1) (k x c n : Nat) (cs : List A1) (T : BT AT) (m : Nat) (hn : k + (cs.length + 1) = n) (hlt : n < 9223372036854775808) (hx : x < 18446744073709551616) (hc : c < 256) (hb : BytesAt h a k (u8 c :: cs))
    (h5 : T.get 5 = some (u64 x)) (h10 : T.get 10 = some (.v (.one a))) (h11 : T.get 11 = some (i64 n)) (h12 : T.get 12 = some (i64 k)) :
    ∃ T', exec E (m + 60) OB T [] h 28 none 191 = some ⟨.normal, T', [], h⟩ ∧ T'.get 5 = some (u64 (stepN 8 (Nat.xor x c))) ∧ T'.get 10 = some (.v (.one a)) ∧ T'.get 11 = some (i64 n) ∧ T'.get 12 = some (i64 (k + 1)) := by
  obtain ⟨b, o, len, cap, q, ce, sz, el, rfl, hg, hkl, hget⟩ := hb 0 _ rfl
  obtain ⟨i5, e5, s5, a5⟩ := hC.t5
  obtain ⟨i45, e45, d45⟩ := hC.t45
  obtain ⟨i59, e59, d59⟩ := hC.t59
  have c0 : ofConst (.int .i64 0) = some (i64 0) := rfl
  have c1 : ofConst (.int .i64 1) = some (i64 1) := rfl
  have hbk : Nat.ble (Nat.succ k) n = true := by rw [Nat.ble_eq]; omega
  have hadd : k + 1 < 9223372036854775808 := by omega
  have hc64 : c < 18446744073709551616 := by omega
  have hxc : Nat.xor x c < 18446744073709551616 := Nat.xor_lt_two_pow (n := 64) hx hc64
  have hidx : vIndexAddr E 59 (some (.v (.one (.sl b o len cap q)))) (some (i64 k)) = some (.v (.one (.ptr b (o + k)))) := by
    have hk : Nat.ble (Nat.succ k) len = true := by rw [Nat.ble_eq]; omega
    show (match E.tys.get 59 with | some ti => _ | none => none) = _
    simp only [e59, d59, atIdx, hk, e5, forceN_eq, s5]
    show some (AT.v (.one (.ptr b (o + k * 1)))) = _
    rw [Nat.mul_one]
  have hload : vLoad E h 5 (some (.v (.one (.ptr b (o + k))))) = some (.v (.one (u8 c))) := by
    simp only [vLoad, loadVarA, hg, e5, a5]
    rw [Nat.add_zero] at hget
    rw [hget]
  have hconv : vConv E 5 45 (some (.v (.one (u8 c)))) = some (u64 c) := by
    simp only [vConv, u8, e5, e45, d45, retI_eq]
    have : wrapF .u64 (.ofNat c) = .ofNat c := by
      show Int.ofNat (Nat.mod c 18446744073709551616) = _
      rw [show Nat.mod c 18446744073709551616 = c from Nat.mod_eq_of_lt hc64]
    rw [this]
    rfl
  have hin := inner_run (h := h) hC.f hC.o 8 0 (Nat.xor x c) (((((((((((T.put 13 (bl true)).put 14 (.v (.one (.ptr b (o + k))))).put 15 (.v (.one (u8 c)))).put 7 (.v (.one (u8 c)))).put 16 (u64 x)).put 17 (.v (.one (u8 c)))).put 18 (u64 c)).put 19 (u64 (Nat.xor x c))).put 5 (u64 (Nat.xor x c))).put 20 (i64 0))) (m + 23) rfl hxc (by simp (decide := true) only [BT.gp_same, BT.gp_ne]) (by simp (decide := true) only [BT.gp_same])
  generalize hTi : innerT 8 0 (Nat.xor x c) _ = Ti at hin
  have g5 : Ti.get 5 = some (u64 (stepN 8 (Nat.xor x c))) := by rw [← hTi]; exact innerT_5 _ _ _ _ (by simp (decide := true) only [BT.gp_same, BT.gp_ne])
  have g10 : Ti.get 10 = some (.v (.one (.sl b o len cap q))) := by rw [← hTi, innerT_ne (by decide)]; simp (decide := true) only [BT.gp_same, BT.gp_ne, h10]
  have g11 : Ti.get 11 = some (i64 n) := by rw [← hTi, innerT_ne (by decide)]; simp (decide := true) only [BT.gp_same, BT.gp_ne, h11]
  have g12 : Ti.get 12 = some (i64 k) := by rw [← hTi, innerT_ne (by decide)]; simp (decide := true) only [BT.gp_same, BT.gp_ne, h12]
  rw [show m + 23 + 8 + 21 = m + 52 from rfl] at hin
  simp (decide := true) only [IB, OB, U0, inn, sL, sR, Tryz.f191] at hin
  refine ⟨(Ti.put 25 (i64 (k + 1))).put 12 (i64 (k + 1)), ?_, by simp (decide := true) only [BT.gp_ne, g5], by simp (decide := true) only [BT.gp_ne, g10], by simp (decide := true) only [BT.gp_ne, g11], by simp (decide := true) only [BT.gp_same]⟩
  simp (decide := true) only [OB, U0, inn, sL, sR, Tryz.f191, ex_seq, ex_region, ex_cond, ex_exit, ex_skip, ex_block, blockA, seqA, regOut, runOps, wantedA, anyOp, opRes, effOp, valR, opnd, c0, c1, putDst, BT.putK_eq, BT.gp_same, BT.gp_ne, h10, h11, h12, h5, vb_lss, condA_bl, hbk, vb_add hadd, hidx, hload, hconv, vb_xor hx hc64, hin, g12]
theorem outer_run (a : A1) (n : Nat) (hlt : n < 9223372036854775808) : ∀ (cs : List A1) (k x y : Nat) (T : BT AT) (m : Nat), k + cs.length = n → x < 18446744073709551616 → BytesAt h a k cs → crcCells cs x = some y →
    T.get 5 = some (u64 x) → T.get 10 = some (.v (.one a)) → T.get 11 = some (i64 n) → T.get 12 = some (i64 k) →
    ∃ T', exec E (m + cs.length + 61) (.loop OB) T [] h 28 none 191 = some ⟨.exit 0, T', [], h⟩ ∧ T'.get 5 = some (u64 y) ∧ y < 18446744073709551616 := by
  intro cs
  induction cs with
  | nil =>
    intro k x y T m hk hx hb e h5 h10 h11 h12
    obtain rfl : k = n := by simpa using hk
    have e : some x = some y := e
    injection e with e
    subst e
    have hbody := outer_end (E := E) (h := h) T (m + 50) k h11 h12
    have he := ex_loop (E := E) (m := m + 60) (n := 28) (T := T) (ds := []) (h := h) (r := none) (f := 191) OB
    rw [show m + 50 + 10 = m + 60 from rfl] at hbody
    rw [hbody, seqA_exit] at he
    refine ⟨T.put 13 (bl false), ?_, by simp (decide := true) only [BT.gp_ne, h5], hx⟩
    rw [show m + ([] : List A1).length + 61 = m + 60 + 1 from rfl, he]
  | cons v l ih =>
    intro k x y T m hk hx hb e h5 h10 h11 h12
    obtain ⟨c, rfl, hc, e⟩ := crcCells_cons e
    obtain ⟨T1, q1, q2, q3, q4, q5⟩ := outer_body (h := h) hC a k x c n l T (m + l.length + 1) (by simpa using hk) hlt hx hc hb h5 h10 h11 h12
    have hx' : stepN 8 (Nat.xor x c) < 18446744073709551616 := stepN_lt 8 (Nat.xor_lt_two_pow (n := 64) hx (Nat.lt_trans hc (by decide)))
    obtain ⟨T2, r1, r2, r3⟩ := ih (k + 1) _ y T1 m (by rw [List.length_cons] at hk; omega) hx' hb.tail e q2 q3 q4 q5
    refine ⟨T2, ?_, r2, r3⟩
    have he := ex_loop (E := E) (m := m + l.length + 61) (n := 28) (T := T) (ds := []) (h := h) (r := none) (f := 191) OB
    rw [show m + l.length + 1 + 60 = m + l.length + 61 from by omega] at q1
    rw [q1, seqA_normal, r1] at he
    rw [show m + (u8 c :: l).length + 61 = m + l.length + 61 + 1 from by simp only [List.length_cons]; omega, he]
theorem update_body (a : A1) (s n y : Nat) (cs : List A1) (T : BT AT) (hs : s < 18446744073709551616) (hlt : n < 9223372036854775808) (hcs : cs.length = n) (hlen : lenS (.one a) = some (i64 n)) (hb : BytesAt h a 0 cs) (e : crcCells cs (18446744073709551615 - s) = some y)
    (h0 : T.get 0 = some (u64 s)) (h1 : T.get 1 = some (.v (.one a))) :
    ∃ T', exec E (cs.length + 80) U0 T [] h 28 none 191 = some ⟨.ret, T', [], h⟩ ∧ T'.get 4 = some (u64 (18446744073709551615 - y)) := by
  obtain ⟨i59, e59, d59⟩ := hC.t59
  have c0 : ofConst (.int .u64 0) = some (u64 0) := rfl
  have z0 : ofConst (.int .i64 0) = some (i64 0) := rfl
  have hx : 18446744073709551615 - s < 18446744073709551616 := by omega
  obtain ⟨T1, q1, q2, q3⟩ := outer_run (h := h) hC a n hlt cs 0 _ y ((((((((T.put 4 (u64 0)).put 8 (u64 s)).put 9 (u64 (18446744073709551615 - s))).put 5 (u64 (18446744073709551615 - s))).put 10 (.v (.one a))).put 11 (i64 n)).put 12 (i64 0))) 14 (by omega) hx hb e
    (by simp (decide := true) only [BT.gp_same, BT.gp_ne]) (by simp (decide := true) only [BT.gp_same, BT.gp_ne]) (by simp (decide := true) only [BT.gp_same, BT.gp_ne]) (by simp (decide := true) only [BT.gp_same])
  have hvl : ∀ (T : BT AT), T.get 10 = some (.v (.one a)) → vLen E h (opnd T) [.tmp 10] [59] = some (i64 n) := by
    intro T hT
    simp only [vLen, e59, opnd, hT, d59, lenV, hlen]
  rw [show 14 + cs.length + 61 = cs.length + 75 from by omega] at q1
  simp (decide := true) only [OB, U0, inn, sL, sR, Tryz.f191] at q1
  refine ⟨((T1.put 26 (u64 y)).put 27 (u64 (18446744073709551615 - y))).put 4 (u64 (18446744073709551615 - y)), ?_, by simp (decide := true) only [BT.gp_same]⟩
  simp (decide := true) only [OB, U0, inn, sL, sR, Tryz.f191, ex_seq, ex_region, ex_ret, ex_block, blockA_exit, seqA_normal, regOut, runOps, wantedA, anyOp, opRes, valR, opnd, c0, z0, putDst, BT.putK_eq, BT.gp_same, BT.gp_ne, h0, h1, vu_not hs, vu_not q3, hvl, q1, q2]
theorem update_run {args : List AT} {v : AT} (e : crcA args h = some v) : ∃ m, acall E (exec E m) 191 args h = some ⟨v, h⟩ := by
  unfold crcA at e
  split at e <;> try (cases e; done)
  rename_i k s a
  split at e <;> try (cases e; done)
  rename_i hk
  have hk := sameK_eq hk
  subst hk
  split at e <;> try (cases e; done)
  rename_i s
  split at e <;> try (cases e; done)
  rename_i hs
  have hs := ble_false hs
  split at e <;> try (cases e; done)
  rename_i n hn
  split at e <;> try (cases e; done)
  rename_i hle
  have hle := ble_true hle
  split at e <;> try (cases e; done)
  rename_i cs hcs
  rw [forceN_eq] at e
  split at e <;> try (cases e; done)
  rename_i y hy
  rw [retI_eq] at e
  injection e with e
  subst e
  have hb : cs.length = n ∧ BytesAt h a 0 cs ∧ lenS (.one a) = some (i64 n) := by
    cases a <;> simp only [lenOfA] at hn <;> try (cases hn; done)
    · injection hn with hn
      subst hn
      simp only [cellsOfSlice] at hcs
      injection hcs with hcs
      subst hcs
      exact ⟨rfl, fun j v hv => (by simp at hv), rfl⟩
    · rename_i b o len cap q
      injection hn with hn
      subst hn
      simp only [cellsOfSlice] at hcs
      split at hcs <;> try (cases hcs; done)
      rename_i c sz el hg
      obtain ⟨l1, l2⟩ := loadFrom_list hcs
      have l1 : cs.length = len * 1 := l1
      rw [Nat.mul_one] at l1
      refine ⟨l1, fun j v hv => ⟨b, o, len, cap, q, c, sz, el, rfl, hg, ?_, by rw [Nat.zero_add]; exact l2 j v hv⟩, rfl⟩
      have := (List.getElem?_eq_some_iff.1 hv).1
      omega
    · injection hn with hn
      subst hn
      simp only [cellsOfSlice] at hcs
      injection hcs with hcs
      subst hcs
      exact ⟨rfl, fun j v hv => (by simp at hv), rfl⟩
  obtain ⟨hlen, hbytes, hS⟩ := hb
  obtain ⟨T', q1, q2⟩ := update_body hC a s n y cs ((BT.e.put 0 (u64 s)).put 1 (.v (.one a))) hs (by omega) hlen hS hbytes hy (by simp (decide := true) only [BT.gp_same, BT.gp_ne]) (by simp (decide := true) only [BT.gp_same])
  refine ⟨cs.length + 80, ?_⟩
  have l2 : Nat.ble (lenL [u64 s, AT.v (.one a)]) 28 = true := rfl
  simp only [U0, Tryz.f191] at q1
  show acall E _ 191 [u64 s, .v (.one a)] h = some ⟨u64 (18446744073709551615 - y), h⟩
  unfold acall acall0
  simp (decide := true) only [hC.o, hC.f0, Tryz.f191, l2, BT.fromK_eq, BT.fromL, q1, leaveA, outOf, takeDefers, resultsA, q2]
  rfl
end
end Go.Proofs.YtofjmfjgicdjjaaGreat.Ab
/- The abstract machine, part 39: the checksum may stand in place of its calls. -/
set_option linter.unusedVariables false
set_option linter.unusedSimpArgs false
namespace Go.Proofs.YtofjmfjgicdjjaaGreat.Ab
open Go Go.Proofs
noncomputable def Ec : Env := ⟨(((BT.e : BT TI).put 5 ⟨.int .u8, 1, none, false, []⟩).put 45 ⟨.int .u64, 1, none, false, []⟩).put 59 ⟨.slice 5, 1, none, false, []⟩, ((BT.e : BT Func).put 191 Tryz.f191).put 283 Tryz.f283, fun _ => none⟩
theorem crcEnv : CrcEnv Ec := by
  refine ⟨?_, ?_, fun f => rfl, ⟨⟨.int .u8, 1, none, false, []⟩, ?_, rfl, rfl⟩, ⟨⟨.int .u64, 1, none, false, []⟩, ?_, rfl⟩, ⟨⟨.slice 5, 1, none, false, []⟩, ?_, rfl⟩⟩
  all_goals simp (decide := true) only [Ec, BT.gp_same, BT.gp_ne]
theorem typeOk_of {P : Program} {t : TypeId} {d : TypeDesc} {z b : Nat} (hu : P.underlying t = some d) (hi : (P.info? t).map (fun i => (i.size, i.bytes)) = some (z, b)) (hb : b ≤ 1048576) (ha : isAggD d = false) : TypeOk P t ⟨d, z, none, false, []⟩ := by
  cases hinf : P.info? t with
  | none => rw [hinf] at hi; cases hi
  | some inf =>
    rw [hinf] at hi
    have hi : some (inf.size, inf.bytes) = some (z, b) := hi
    simp only [Option.some.injEq, Prod.mk.injEq] at hi
    refine ⟨hu, ⟨inf, hinf, hi.1, fun z hz => (by cases hz)⟩, ha.symm, fun inf' h' => ?_, fun fs hfs => ?_⟩
    · rw [hinf] at h'
      injection h' with h'
      subst h'
      omega
    · simp only [] at hfs
      subst hfs
      cases ha
theorem ec_tys {t : TypeId} {i : TI} (h : Ec.tys.get t = some i) : TypeOk Tryz.prog t i ∧ i.flat = [] := by
  rcases BT.get_put_inv _ _ _ _ _ h with ⟨rfl, rfl⟩ | ⟨_, h⟩
  · exact ⟨typeOk_of (b := 24) (by kernel_rfl) (by kernel_rfl) (by decide) rfl, rfl⟩
  rcases BT.get_put_inv _ _ _ _ _ h with ⟨rfl, rfl⟩ | ⟨_, h⟩
  · exact ⟨typeOk_of (b := 8) (by kernel_rfl) (by kernel_rfl) (by decide) rfl, rfl⟩
  rcases BT.get_put_inv _ _ _ _ _ h with ⟨rfl, rfl⟩ | ⟨_, h⟩
  · exact ⟨typeOk_of (b := 1) (by kernel_rfl) (by kernel_rfl) (by decide) rfl, rfl⟩
  simp [BT.get_e] at h
theorem mixed : Tryz.prog.follows .mixedOrders = true := by kernel_rfl
theorem crc_calls (B : Nat → Prop) (w0 : World) {args : List AT} {h : AHeap} {v : AT} (e : crcA args h = some v) {μ : Mu} {pd : Nat → Prop} {w : World} {avs : List Value} (hr : Rel ⟨okCode, B, w0⟩ μ pd h w) (ha : RTs μ args avs) :
    CallsA Tryz.prog ⟨okCode, B, w0⟩ μ pd h w ⟨v, h⟩ 191 avs.toArray := by
  obtain ⟨m, hm⟩ := update_run crcEnv e
  have hE : EnvOk Tryz.prog Ec := ⟨fun t i h => (ec_tys h).1⟩
  have hF : FlatOk Tryz.prog Ec := ⟨fun t i h hne => absurd (ec_tys h).2 hne, fun t i h hne => absurd (ec_tys h).2 hne, by unfold Program.depth Made.depth; omega⟩
  have hN : FnsOk Tryz.prog Ec ⟨okCode, B, w0⟩ := by
    refine ⟨fun f fn h => ?_, fun f nat h => (by cases h), fun f nat h => (by cases h)⟩
    rcases BT.get_put_inv _ _ _ _ _ h with ⟨rfl, rfl⟩ | ⟨_, h⟩
    · exact ⟨Tryz.func283, by kernel_rfl, fun c hc => (by
        have h1 : (match Tryz.f283.body with | some c => okCode c | none => true) = true := by kernel_rfl
        rw [hc] at h1
        exact h1)⟩
    rcases BT.get_put_inv _ _ _ _ _ h with ⟨rfl, rfl⟩ | ⟨_, h⟩
    · exact ⟨Tryz.func191, by kernel_rfl, fun c hc => (by
        have h1 : (match Tryz.f191.body with | some c => okCode c | none => true) = true := by kernel_rfl
        rw [hc] at h1
        exact h1)⟩
    simp [BT.get_e] at h
  exact acall_sound hE hN (run_sound hE hF hN (codeOk _ _) mixed m) hr ha hm
theorem crcOvr_ok : OvrOk Tryz.prog crcOvr := by
  refine ⟨fun f nat h => ?_, fun B w0 f nat h args hp v hv μ pd w avs hr ha => ?_⟩
  all_goals
    unfold crcOvr at h
    split at h <;> try (cases h; done)
    rename_i hf
    have hf := beqN hf
    subst hf
  · exact ⟨Tryz.f191, Tryz.func191, by kernel_rfl, by kernel_rfl⟩
  · injection h with h
    subst h
    unfold crcC at hv
    split at hv <;> try (cases hv; done)
    rename_i a ha'
    injection hv with hv
    subst hv
    exact crc_calls B w0 ha' hr ha
end Go.Proofs.YtofjmfjgicdjjaaGreat.Ab
/- The abstract machine, part 40: calls whose run is worked out, as contracts; such a contract may stand in place of a call. -/
set_option linter.unusedVariables false
set_option linter.unusedSimpArgs false
namespace Go.Proofs.YtofjmfjgicdjjaaGreat.Ab
open Go Go.Proofs
/-- A call without arguments returns true, and leaves all that there was. -/
def Wakes (f : FuncId) : Prop := ∀ w, Calls Tryz.prog f #[] w fun e w' => e = .returned (.bool true) ∧ RowKit.Below w.heap.size w w'
theorem isTrueK_some {r : CR} (e : isTrueK r = some ()) : ∃ h, r = some ⟨bl true, h⟩ := by
  unfold isTrueK at e
  split at e <;> try (cases e; done)
  split at e <;> try (cases e; done)
  split at e <;> try (cases e; done)
  exact ⟨_, rfl⟩
theorem wakes_of {ovr : FuncId → Option (List AT → AHeap → CR)} (hovr : OvrOk Tryz.prog ovr) (hall : okAll Tryz.prog.funcs.toList = true) {f : FuncId} {fuel : Nat} (e : (envK Tryz.prog (fun _ => true) ovr fun E => isTrueK (acall E (exec E fuel) f [] ⟨.e, 0⟩)) = some ()) : Wakes f := by
  intro w
  obtain ⟨E, h1, h2⟩ := envK_calls mixed hovr (okAll_fn hall) e
  obtain ⟨h, h3⟩ := isTrueK_some h1
  refine (h2 fuel f [] _ h3 w [] trivial).mono fun ex w' ⟨u, μ', h4, h5, h6⟩ => ⟨?_, h6⟩
  have h5 : u = .bool true := h5
  rw [h4, h5]
/-- A call that returns true, in place of it. -/
def wakeA (args : List AT) (h : AHeap) : CR := match args with | [] => some ⟨.v (.one (.bool true)), h⟩ | _ :: _ => none
def wakeOvr (g : FuncId) (f : FuncId) : Option (List AT → AHeap → CR) := match Nat.beq f g with | true => some wakeA | false => none
theorem wakeOvr_ok {g : FuncId} (hw : Wakes g) (hf : ∃ fn, Tryz.prog.funcs[g]? = some fn ∧ (fn.name == "runtime.NumGoroutine") = false ∧ fn.body.isSome = true) : OvrOk Tryz.prog (wakeOvr g) := by
  refine ⟨fun f nat h => ?_, fun B w0 f nat h args hp v hv μ pd w avs hr ha => ?_⟩
  all_goals
    unfold wakeOvr at h
    split at h <;> try (cases h; done)
    rename_i hb
    have hb := beqN hb
    subst hb
  · exact hf
  · injection h with h
    subst h
    cases args with
    | cons => cases hv
    | nil =>
      injection hv with hv
      subst hv
      have : avs = [] := by cases avs with | nil => rfl | cons => cases ha
      subst this
      refine (hw w).mono fun ex w' ⟨h1, h2⟩ => ⟨.bool true, μ, h1, rfl, hr.grow h2.size (fun i hi => h2.block i hi) ⟨h2.os, h2.tape, h2.output⟩, Ext.refl _ _ _⟩
end Go.Proofs.YtofjmfjgicdjjaaGreat.Ab
