/- The abstract machine, part 18: each operation that is no call, and how a frame reads its slots. -/
import Derived.Test.YtofjmfjgicdjjaaGreatAbD
import Derived.AtR
import Derived.RangeFuncIn
import Derived.RangeFuncLeaves
set_option linter.unusedVariables false
set_option linter.unusedSimpArgs false
namespace Go.Proofs.YtofjmfjgicdjjaaGreat.Ab
open Go
section
variable {P : Program} {E : Env} {w : World} {μ : Mu} {OkC : Cx} {pd : Nat → Prop} {h : AHeap}

theorem reads_opnd {T : BT AT} {a : Act} (ht : RTmps μ T a.tmps) : Reads μ (opnd T) a.eval := by
  intro x b e
  cases x with
  | tmp t =>
    obtain ⟨v, h1, h2⟩ := ht t b e
    have : a.tmps.getD t undef = v := by simp [h1]
    show RT μ b (a.tmps.getD t undef)
    rw [this]
    exact h2
  | const v => exact ofConst_sound e
  | func f =>
    simp only [opnd] at e
    injection e with e
    subst e
    exact ⟨[], [], rfl, trivial, trivial⟩
  | global g => cases e

/-- Is an operation a call of a function's value? -/
def isCallV (op : Op) : Bool :=
  match op with
  | .call c => match c.callee with
    | .value _ => true
    | _ => false
  | _ => false
theorem eAppend_sound (hE : EnvOk P E) (hr : Rel OkC μ pd h w) {ρ : Operand → Option AT} {σ : Operand → Value} (hρ : Reads μ ρ σ) {args : Array Operand} {ts : Array TypeId} {rt : TypeId} {r : VH} (e : eAppend E h ρ args.toList ts.toList = some r) : ValOk P OkC μ pd h w r (Builtin.append_ ts rt (args.map σ)) := by
  obtain ⟨args⟩ := args
  obtain ⟨ts⟩ := ts
  unfold eAppend at e
  split at e <;> try (cases e; done)
  rename_i x y hargs
  simp only [] at hargs
  subst hargs
  split at e <;> try (cases e; done)
  rename_i t t' q hts
  simp only [] at hts
  subst hts
  split at e <;> try (cases e; done)
  rename_i hsl
  split at e <;> try (cases e; done)
  rename_i xa hx
  split at e <;> try (cases e; done)
  rename_i ya hy
  have h1 : R1 μ xa (σ x) := hρ _ _ hx
  have h2 : R1 μ ya (σ y) := hρ _ _ hy
  have : (Array.map σ { toList := [x, y] }) = #[σ x, σ y] := by simp
  rw [this]
  exact appendA_sound hE hr (t := t) (t' := t') rfl rfl hsl h1 h2 e
theorem eCopy_sound (hE : EnvOk P E) (hr : Rel OkC μ pd h w) {ρ : Operand → Option AT} {σ : Operand → Value} (hρ : Reads μ ρ σ) {args : Array Operand} {ts : Array TypeId} {rt : TypeId} {r : VH} (e : eCopy E h ρ args.toList ts.toList = some r) : ValOk P OkC μ pd h w r (Builtin.copy_ ts rt (args.map σ)) := by
  obtain ⟨args⟩ := args
  obtain ⟨ts⟩ := ts
  unfold eCopy at e
  split at e <;> try (cases e; done)
  rename_i x y hargs
  simp only [] at hargs
  subst hargs
  split at e <;> try (cases e; done)
  rename_i t q hts
  simp only [] at hts
  subst hts
  split at e <;> try (cases e; done)
  rename_i xa hx
  split at e <;> try (cases e; done)
  rename_i ya hy
  have h1 : R1 μ xa (σ x) := hρ _ _ hx
  have h2 : R1 μ ya (σ y) := hρ _ _ hy
  have : (Array.map σ { toList := [x, y] }) = #[σ x, σ y] := by simp
  rw [this]
  exact copyA_sound hE hr (t := t) rfl h1 h2 e
/-- An effect that is no call of a function's value. -/
theorem effOp_sound (hE : EnvOk P E) (hr : Rel OkC μ pd h w) {rec : Rec} {ρ : Operand → Option AT} {σ : Operand → Value} (hρ : Reads μ ρ σ) {o : Oper} {r : VH} (hc : isCallV o.op = false) (e : effOp E rec h ρ o.op = some r) : EffOk P OkC μ pd h w r (execOp σ o) := by
  have fin : ∀ {s : Sem Value}, ValOk P OkC μ pd h w r s → EffOk P OkC μ pd h w r (do pure (.value (← s))) := by
    rintro s ⟨v, w', μ', h1, h2, h3, h4⟩
    exact ⟨_, v, w', μ', by simp only [Sem.run_bind, h1, Result.andThen_ok, Sem.run_pure], .inl rfl, h2, h3, h4⟩
  have rd : ∀ x b, ρ x = some b → RT μ b (σ x) := hρ
  unfold execOp
  cases hop : o.op <;> rw [hop] at e hc <;> simp only [effOp] at e <;> try (cases e; done)
  case store t a x => exact eStore_sound hE hr (rd a) (rd x) e
  case mapUpdate t m k x => exact eMapUpd_sound hE hr (rd m) (rd k) (rd x) e
  case range t x => exact fin (eRange_sound hE hr (rd x) e)
  case next it s => exact fin (eNext_sound hr (rd it) e)
  case call c =>
    obtain ⟨callee, args, ats⟩ := c
    cases callee <;> simp only [] at e <;> try (cases e; done)
    case value f => simp [isCallV] at hc
    rename_i b
    cases b <;> simp only [] at e <;> try (cases e; done)
    · have := eAppend_sound (rt := o.type) hE hr hρ e
      simpa [resolve, invoke, builtin] using fin this
    · have := eCopy_sound (rt := o.type) hE hr hρ e
      simpa [resolve, invoke, builtin] using fin this
/-- Any operation that is no call of a function's value. -/
theorem anyOp_sound (hE : EnvOk P E) (hF : FlatOk P E) (hr : Rel OkC μ pd h w) {rec : Rec} {ρ : Operand → Option AT} {σ : Operand → Value} (hρ : Reads μ ρ σ) {o : Oper} {r : VH} (hc : isCallV o.op = false) (e : anyOp E rec h ρ o.op = some r) : EffOk P OkC μ pd h w r (execOp σ o) := by
  unfold anyOp at e
  split at e
  · rename_i rr hrr
    unfold valR at e
    split at e <;> try (cases e; done)
    rename_i a
    injection e with e
    subst e
    obtain ⟨u, h1, h2⟩ := val_sound hE hF hr hρ hrr
    exact ⟨_, u, w, μ, h1, .inl rfl, h2, hr, Ext.refl _ _ _⟩
  · rename_i rr hrr
    unfold madeR at e
    split at e <;> try (cases e; done)
    rename_i ob m
    obtain ⟨v, obj, K, h1, h2, h3⟩ := made_sound (OkC := OkC) hE hρ hrr
    unfold allocA at e
    rw [BT.putK_eq, forceN_eq] at e
    obtain ⟨s1, s2⟩ := alloc_sound hr h2
    have hR := h3 _ h.next (Mu.put_same μ h.next w.heap.size K)
    refine ⟨.value v, v, w.alloc obj, μ.put h.next w.heap.size K, h1, .inl rfl, ?_, ?_, ?_⟩
    · cases m <;> simp only [] at e <;> injection e with e <;> subst e <;> exact hR
    · cases m <;> simp only [] at e <;> injection e with e <;> subst e <;> exact s1
    · cases m <;> simp only [] at e <;> injection e with e <;> subst e <;> exact s2
  · exact effOp_sound hE hr hρ hc e

/-! ### The machine's step at an operation -/
theorem nthO_eq : ∀ (l : List Oper) (i : Nat), nthO l i = l[i]?
  | [], i => by simp [nthO]
  | o :: l, 0 => rfl
  | o :: l, i + 1 => by simp [nthO, nthO_eq l i]
theorem wantedA_sound {T : BT AT} {tm : Array Value} (ht : RTmps μ T tm) {ops : Array Oper} {o : Oper} {b : Bool} (e : wantedA ops.toList T o.guard = some b) : Region.wanted o (yielded ops tm) = b := by
  unfold wantedA at e
  unfold Region.wanted
  split at e
  · rename_i hg
    rw [hg]
    injection e
  · rename_i j want hg
    rw [hg]
    simp only []
    rw [nthO_eq] at e
    split at e <;> try (cases e; done)
    rename_i o' ho'
    have ho' : ops[j]? = some o' := by simpa using ho'
    split at e <;> try (cases e; done)
    rename_i d hd
    have hy : ∀ v, tm[d]? = some v → yielded ops tm j = (match v with | .bool b => some b | _ => none) := by
      intro v hv
      simp [yielded, ho', hd, hv]
      cases v <;> rfl
    split at e <;> try (cases e; done)
    · rename_i t hT
      obtain ⟨v, h1, h2⟩ := ht _ _ hT
      have h2 : v = .bool t := h2
      subst h2
      rw [hy _ h1]
      cases t <;> cases want <;> simp at e <;> subst e <;> rfl
    · rename_i hT
      obtain ⟨v, h1, vs, h2, h3⟩ := ht _ _ hT
      subst h2
      have e : false = b := by simpa using e
      subst e
      rw [hy _ h1]
      rfl
variable {b : Frame} {a : Act} {k : List Item} {cs : List Frame} {ops : Array Oper}
theorem isDefer_no {o : Oper} (hd : ∀ c, o.op ≠ .defer c) (ro : Option Nat) (ρ : Operand → Value) : o.semAt ro ρ = execOp ρ o := Oper.semAt_eq _ _ _ hd
theorem stepR_op_next {i : Nat} {rest : List Nat} {o : Oper} {nx : Next} {v : Value} {w' : World} (ho : ops[i]? = some o) (hw : Region.wanted o (yielded ops a.tmps) = true) (hd : ∀ c, o.op ≠ .defer c)
    (hr : (execOp a.eval o).run P w = .ok nx w') (hv : NextVal nx v) :
    step P (lone (b.atR a (.inRegion ops (i :: rest) :: k)) cs w) = .next (lone (b.atR (a.put o.dst v) (.inRegion ops rest :: k)) cs w') := by
  have hf := Frame.finish_atR b a ops i rest k v
  have hb : (ops[i]?).bind (·.dst) = o.dst := by rw [ho]; rfl
  rw [hb] at hf
  rw [← hf]
  refine step_lone_go ?_
  rw [stepGR_op ho hw, isDefer_no hd]
  rcases hv with rfl | ⟨rfl, rfl⟩
  · simp [stepG.apply, Sem.runT_eq, hr, GStep.bare_after]
  · simp [stepG.apply, Sem.runT_eq, hr, GStep.bare_after]
theorem stepR_op_enter {i : Nat} {rest : List Nat} {o : Oper} {f : FuncId} {args : Array Value} {w' : World} (ho : ops[i]? = some o) (hw : Region.wanted o (yielded ops a.tmps) = true) (hd : ∀ c, o.op ≠ .defer c)
    (hr : (execOp a.eval o).run P w = .ok (.enter f args) w') :
    step P (lone (b.atR a (.inRegion ops (i :: rest) :: k)) cs w) = .next (lone (Frame.enter P f args .normal) (b.atR a (.inRegion ops (i :: rest) :: k) :: cs) w') := by
  refine step_lone_go ?_
  rw [stepGR_op ho hw, isDefer_no hd]
  simp [stepG.apply, Sem.runT_eq, hr, GStep.bare_after, Frame.atR]
theorem stepR_op_round {i : Nat} {rest : List Nat} {o : Oper} {l : Nat} {f : FuncId} {tmps : Array Value} {x y : Code} {w' : World} (ho : ops[i]? = some o) (hw : Region.wanted o (yielded ops a.tmps) = true) (hd : ∀ c, o.op ≠ .defer c)
    (hr : (execOp a.eval o).run P w = .ok (.round l f tmps x y) w') :
    step P (lone (b.atR a (.inRegion ops (i :: rest) :: k)) cs w) = .next (lone (Frame.round l f tmps x y .normal) (b.atR a (.inRegion ops (i :: rest) :: k) :: cs) w') := by
  refine step_lone_go ?_
  rw [stepGR_op ho hw, isDefer_no hd]
  simp [stepG.apply, Sem.runT_eq, hr, GStep.bare_after, Frame.atR]
end
end Go.Proofs.YtofjmfjgicdjjaaGreat.Ab
/- The abstract machine, part 19: how a function's frame leaves, and calls. -/
set_option linter.unusedVariables false
set_option linter.unusedSimpArgs false
namespace Go.Proofs.YtofjmfjgicdjjaaGreat.Ab
open Go
def RTs (μ : Mu) : List AT → List Value → Prop
  | [], [] => True
  | a :: l, v :: m => RT μ a v ∧ RTs μ l m
  | _, _ => False
theorem RTs.mono {μ ν : Mu} (hle : μ.le ν) : ∀ {l : List AT} {m : List Value}, RTs μ l m → RTs ν l m
  | [], [], _ => trivial
  | [], _ :: _, h => h
  | _ :: _, [], h => h
  | a :: l, v :: m, ⟨h1, h2⟩ => ⟨h1.mono hle, RTs.mono hle h2⟩
theorem RTs.length {μ : Mu} : ∀ {l : List AT} {m : List Value}, RTs μ l m → l.length = m.length
  | [], [], _ => rfl
  | [], _ :: _, h => by cases h
  | _ :: _, [], h => by cases h
  | a :: l, v :: m, ⟨_, h2⟩ => by simp [RTs.length h2]
theorem RTs.get {μ : Mu} : ∀ {l : List AT} {m : List Value}, RTs μ l m → ∀ (i : Nat) (a : AT), l[i]? = some a → ∃ v, m[i]? = some v ∧ RT μ a v
  | [], _, _, i, a, h => by simp at h
  | _ :: _, [], h, _, _, _ => by cases h
  | b :: l, v :: m, ⟨h1, h2⟩, i, a, h => by
    cases i with
    | zero => simp at h; subst h; exact ⟨v, rfl, h1⟩
    | succ i => simpa using RTs.get h2 i a (by simpa using h)
theorem RTs.append {μ : Mu} : ∀ {l : List AT} {m : List Value} {l' : List AT} {m' : List Value}, RTs μ l m → RTs μ l' m' → RTs μ (l ++ l') (m ++ m')
  | [], [], _, _, _, h => h
  | [], _ :: _, _, _, h, _ => by cases h
  | _ :: _, [], _, _, h, _ => by cases h
  | a :: l, v :: m, _, _, ⟨h1, h2⟩, h => ⟨h1, RTs.append h2 h⟩
def RDs (μ : Mu) : List Nat → List Deferred → Prop
  | [], [] => True
  | d :: l, x :: m => (∃ c K, μ d = some (c, K) ∧ x = { target := .collected c, args := #[] }) ∧ RDs μ l m
  | _, _ => False
theorem RDs.mono {μ ν : Mu} (hle : μ.le ν) : ∀ {l : List Nat} {m : List Deferred}, RDs μ l m → RDs ν l m
  | [], [], _ => trivial
  | [], _ :: _, h => h
  | _ :: _, [], h => h
  | a :: l, v :: m, ⟨⟨c, K, h1, h3⟩, h2⟩ => ⟨⟨c, K, hle _ _ h1, h3⟩, RDs.mono hle h2⟩
theorem RDs.nil {μ : Mu} {m : List Deferred} (h : RDs μ [] m) : m = [] := by cases m with | nil => rfl | cons => cases h

/-- Where a frame stands when a code has ended so: at what is behind, or at the jump. -/
def ArrivesA (P : Program) (m : Machine) (b : Frame) (k : List Item) (cs : List Frame) (ex : AEx) (a : Act) (w : World) : Prop :=
  match ex with
  | .normal => Steps P m (lone (b.atR a k) cs w)
  | .exit id => ∃ k2, Steps P m (lone (b.atR a (.code (.exit id) :: k2)) cs w) ∧ exitTo id k2 = exitTo id k
  | .ret => ∃ k2, Steps P m (lone (b.atR a (.code .ret :: k2)) cs w)
theorem ArrivesA.of_steps {P : Program} {m m' : Machine} {b : Frame} {k : List Item} {cs : List Frame} {ex : AEx} {a : Act} {w : World} (h : Steps P m m') (h' : ArrivesA P m' b k cs ex a w) : ArrivesA P m b k cs ex a w := by
  cases ex with
  | normal => exact h.trans h'
  | exit id => obtain ⟨k2, h1, h2⟩ := h'; exact ⟨k2, h.trans h1, h2⟩
  | ret => obtain ⟨k2, h1⟩ := h'; exact ⟨k2, h.trans h1⟩
/-- Where a code begins: at itself; a loop also at its next round. -/
def Starts (c : Code) (k t : List Item) : Prop := t = .code c :: k ∨ ∃ b, c = .loop b ∧ t = .inLoop b :: k

section
variable (P : Program) (E : Env) (OkC : Cx)
/-- What a run of a code says. -/
def RecOk (rec : Rec) : Prop :=
  ∀ (c : Code) (T : BT AT) (ds : List Nat) (h : AHeap) (n : Nat) (round : Option Nat) (fn : FuncId) (o : Out), rec c T ds h n round fn = some o → OkC c = true →
    ∀ (μ : Mu) (pd : Nat → Prop) (w : World) (b : Frame) (a : Act) (k t : List Item) (cs : List Frame),
      Rel OkC μ pd h w → RTmps μ T a.tmps → a.tmps.size = n → RDs μ ds a.defers → b.fn = fn → RM μ round b.roundOf → Starts c k t →
      ∃ μ' w' a', Rel OkC μ' pd o.h w' ∧ Ext μ pd h μ' o.h ∧ RTmps μ' o.T a'.tmps ∧ a'.tmps.size = n ∧ RDs μ' o.ds a'.defers ∧ ArrivesA P (lone (b.atR a t) cs w) b k cs o.ex a' w'
def CallsA (μ : Mu) (pd : Nat → Prop) (h : AHeap) (w : World) (r : VH) (f : FuncId) (avs : Array Value) : Prop :=
  Calls P f avs w fun e w' => ∃ v μ', e = .returned v ∧ RT μ' r.a v ∧ Rel OkC μ' pd r.h w' ∧ Ext μ pd h μ' r.h
structure FnsOk : Prop where
  fns : ∀ f fn, E.fns.get f = some fn → P.funcs[f]? = some fn ∧ (fn.name == "runtime.NumGoroutine") = false ∧ ∀ c, fn.body = some c → OkC c = true
  ovr : ∀ f nat, E.ovr f = some nat → ∃ fn, P.funcs[f]? = some fn ∧ (fn.name == "runtime.NumGoroutine") = false ∧ fn.body.isSome = true
  ovrOk : ∀ f nat, E.ovr f = some nat → ∀ args h r, nat args h = some r → ∀ μ pd w avs, Rel OkC μ pd h w → RTs μ args avs → CallsA P OkC μ pd h w r f avs.toArray
def GoesBack (μ : Mu) (pd : Nat → Prop) (h : AHeap) (w : World) (r : VH) (fr : Frame) : Prop :=
  ∀ c cs, ∃ v w' μ', Steps P (lone fr (c :: cs) w) (lone (c.finish v) cs w') ∧ RT μ' r.a v ∧ Rel OkC μ' pd r.h w' ∧ Ext μ pd h μ' r.h
def CallOk (μ : Mu) (pd : Nat → Prop) (h : AHeap) (w : World) (r : VH) (s : Sem Next) : Prop :=
  (∃ f avs, s.run P w = .ok (.enter f avs) w ∧ GoesBack P OkC μ pd h w r (Frame.enter P f avs .normal)) ∨
  (∃ l f tm x y, s.run P w = .ok (.round l f tm x y) w ∧ GoesBack P OkC μ pd h w r (Frame.round l f tm x y .normal))
end

section
variable {P : Program} {E : Env} {w : World} {μ : Mu} {OkC : Cx} {pd : Nat → Prop} {h : AHeap}
theorem CallsA.back {r : VH} {f : FuncId} {avs : Array Value} (hc : CallsA P OkC μ pd h w r f avs) : GoesBack P OkC μ pd h w r (Frame.enter P f avs .normal) := by
  intro c cs
  obtain ⟨e, w', fr, ⟨v, μ', rfl, h1, h2, h3⟩, h4, h5, h6⟩ := hc (c :: cs)
  exact ⟨v, w', μ', Steps.trans h4 (.one (step_leave_returned h6)), h1, h2, h3⟩

/-! ### Leaving -/
theorem takes_sound : ∀ {ds : List Nat} {h h' : AHeap} {defers : List Deferred} {w : World}, takeDefers ds h = some h' → RDs μ ds defers → Rel OkC μ pd h w → ∀ (fr : Frame) (cs : List Frame), fr.mode = .returning → fr.defers = defers →
    ∃ w', Steps P (lone fr cs w) (lone { fr with defers := [] } cs w') ∧ Rel OkC μ pd h' w' ∧ Ext μ pd h μ h'
  | [], h, h', defers, w, e, hd, hr, fr, cs, hm, hf => by
    simp only [takeDefers] at e
    injection e with e
    subst e
    have := hd.nil
    subst this
    refine ⟨w, ?_, hr, Ext.refl _ _ _⟩
    have : { fr with defers := [] } = fr := by rw [← hf]
    rw [this]
    exact Steps.refl _ _
  | d :: ds, h, h', [], w, e, hd, hr, fr, cs, hm, hf => by cases hd
  | d :: ds, h, h', x :: defers, w, e, hd, hr, fr, cs, hm, hf => by
    obtain ⟨⟨c, K, h1, rfl⟩, hd⟩ := hd
    simp only [takeDefers] at e
    split at e <;> try (cases e; done)
    rename_i hg
    obtain ⟨c1, K1, ob, f1, f2, f3⟩ := hr.obj d _ hg (hr.nopd h1)
    rw [h1] at f1
    obtain ⟨rfl, rfl⟩ : c = c1 ∧ K = K1 := by simpa using f1
    have f3 : ob = .deferred (some []) := by simpa [RObj] using f3
    subst f3
    unfold setObjA at e
    rw [BT.putK_eq] at e
    obtain ⟨s1, s2, s3⟩ := set_sound (P := P) (o' := .defr true) (ob' := .deferred none) hr hg (by simp) h1 f2 rfl (by simp [RObj])
    have hk : (Instr.takeDeferred c).run P w = .ok [] { w with heap := w.heap.setIfInBounds c (.deferred none) } := by
      simp only [Instr.takeDeferred, Sem.run_bind, run_getObj f2 rfl, Result.andThen_ok, s1, Sem.run_pure]
    obtain ⟨w', q1, q2, q3⟩ := takes_sound e hd s2 { fr with defers := [] ++ defers } cs hm rfl
    refine ⟨w', Steps.trans (.one (step_collected (by rw [hm]; simp) hf rfl hk)) q1, q2, s3.trans q3⟩
def resOne (tm : Array Value) (x : ResultVar) : Sem Value :=
  match x with
  | .tmp t => pure (tm.getD t undef)
  | .cell a t => do loadVar t (← asAddr (tm.getD a undef))
theorem resultsA_sound (hE : EnvOk P E) (hr : Rel OkC μ pd h w) {T : BT AT} {tm : Array Value} (ht : RTmps μ T tm) : ∀ {rs : List ResultVar} {l : List AV}, resultsA E h T rs = some l →
    ∃ vs : List Value, RVs μ l vs ∧ (rs.mapM (resOne tm)).run P w = .ok vs w
  | [], l, e => by
    simp only [resultsA] at e
    injection e with e
    subst e
    exact ⟨[], trivial, rfl⟩
  | x :: rs, l, e => by
    simp only [resultsA] at e
    split at e
    · rename_i t
      split at e <;> try (cases e; done)
      rename_i av hT
      split at e <;> try (cases e; done)
      rename_i r hrr
      injection e with e
      subst e
      obtain ⟨vs, h1, h2⟩ := resultsA_sound hE hr ht hrr
      obtain ⟨v, h3, h4⟩ := ht _ _ hT
      refine ⟨v :: vs, ⟨h4, h1⟩, ?_⟩
      have hv : tm.getD t undef = v := by simp [h3]
      rw [List.mapM_cons]
      simp only [Sem.run_bind, resOne, Sem.run_pure, Result.andThen_ok, hv]
      rw [h2]
      rfl
    · rename_i t ty
      split at e <;> try (cases e; done)
      rename_i b o hT
      split at e <;> try (cases e; done)
      rename_i av hl
      split at e <;> try (cases e; done)
      rename_i r hrr
      injection e with e
      subst e
      obtain ⟨vs, h1, h2⟩ := resultsA_sound hE hr ht hrr
      obtain ⟨v, h3, c, K, h4, rfl⟩ := ht _ _ hT
      obtain ⟨u, h5, h6⟩ := loadVar_sound (P := P) hE hr h4 hl
      refine ⟨u :: vs, ⟨h6, h1⟩, ?_⟩
      have hv : tm.getD t undef = .pointer (some ⟨c, o, none⟩) := by simp [h3]
      rw [List.mapM_cons]
      have ha : (asAddr (.pointer (some ⟨c, o, none⟩))).run P w = .ok ⟨c, o, none⟩ w := rfl
      simp only [Sem.run_bind, resOne, Sem.run_pure, Result.andThen_ok, hv, ha, h5]
      rw [h2]
      rfl
theorem oneOrTup_sound {l : List AV} {vs : List Value} (h : RVs μ l vs) : RT μ (oneOrTup l) (if h : vs.toArray.size = 1 then vs.toArray[0] else .tuple vs.toArray) := by
  cases l with
  | nil => cases vs with
    | nil => exact ⟨[], rfl, trivial⟩
    | cons => cases h
  | cons a l => cases vs with
    | nil => cases h
    | cons v vs => cases l with
      | nil => cases vs with
        | nil => exact h.1
        | cons => exact absurd h.2 (by simp [RVs])
      | cons a' l => cases vs with
        | nil => exact absurd h.2 (by simp [RVs])
        | cons v' vs => exact ⟨v :: v' :: vs, by simp, h⟩
/-- From the frame that returns: what the call yields. -/
theorem outOf_sound (hE : EnvOk P E) {fn : Func} {T : BT AT} {ds : List Nat} {r : VH} (e : outOf E fn.results.toList T ds h = some r) {fr : Frame} (hr : Rel OkC μ pd h w) (ht : RTmps μ T fr.tmps) (hds : RDs μ ds fr.defers)
    (hm : fr.mode = .returning) (hk : fr.kind = .normal) (hf : P.funcs[fr.fn]? = some fn) (cs : List Frame) :
    ∃ v w', Steps P (lone fr cs w) (lone { fr with defers := [] } cs w') ∧ ({ fr with defers := [] } : Frame).leaving P w' (.returned v) ∧ RT μ r.a v ∧ Rel OkC μ pd r.h w' ∧ Ext μ pd h μ r.h := by
  unfold outOf at e
  split at e <;> try (cases e; done)
  rename_i h' hh
  split at e <;> try (cases e; done)
  rename_i l hl
  injection e with e
  subst e
  obtain ⟨w', q1, q2, q3⟩ := takes_sound (P := P) hh hds hr fr cs hm rfl
  obtain ⟨vs, p1, p2⟩ := resultsA_sound hE q2 ht hl
  refine ⟨_, w', q1, ⟨hm, rfl, hk, fn, hf, ?_⟩, oneOrTup_sound p1, q2, q3⟩
  have hres : results fn fr.tmps = (do let vs ← fn.results.mapM (resOne fr.tmps); pure (if h : vs.size = 1 then vs[0] else .tuple vs)) := rfl
  show (results fn fr.tmps).run P w' = _
  rw [hres, Array.mapM_eq_mapM_toList]
  simp only [Sem.run_bind, Sem.run_map, p2, Result.andThen_ok, Sem.run_pure]
end
end Go.Proofs.YtofjmfjgicdjjaaGreat.Ab
/- The abstract machine, part 20: calls, and the rounds of a range over a function. -/
set_option linter.unusedVariables false
set_option linter.unusedSimpArgs false
namespace Go.Proofs.YtofjmfjgicdjjaaGreat.Ab
open Go
section
variable {P : Program} {E : Env} {w : World} {μ : Mu} {OkC : Cx} {pd : Nat → Prop} {h : AHeap} {rec : Rec}

theorem acall_sound (hE : EnvOk P E) (hN : FnsOk P E OkC) (hrec : RecOk P OkC rec) (hr : Rel OkC μ pd h w) {f : FuncId} {args : List AT} {avs : List Value} {r : VH} (ha : RTs μ args avs) (e : acall E rec f args h = some r) :
    CallsA P OkC μ pd h w r f avs.toArray := by
  unfold acall at e
  have e : (∃ nat, E.ovr f = some nat ∧ nat args h = some r) ∨ acall0 E rec f args h = some r := by
    split at e
    · rename_i nat hnat
      split at e
      · rename_i q hq
        injection e with e
        subst e
        exact .inl ⟨nat, hnat, hq⟩
      · exact .inr e
    · exact .inr e
  rcases e with ⟨nat, hnat, hv⟩ | e
  · exact hN.ovrOk f nat hnat args h r hv μ pd w avs hr ha
  · unfold acall0 at e
    split at e <;> try (cases e; done)
    rename_i fn hfn
    obtain ⟨hf, _, hbody⟩ := hN.fns f fn hfn
    split at e <;> try (cases e; done)
    rename_i c hc
    have hok := hbody c hc
    split at e <;> try (cases e; done)
    rename_i hle
    have hle := ble_true hle
    rw [lenL_eq] at hle
    rw [BT.fromK_eq] at e
    have hlen := ha.length
    let tm : Array Value := avs.toArray ++ Array.replicate (fn.ntmps - avs.toArray.size) undef
    have htm : tm.size = fn.ntmps := by simp [tm]; omega
    have hen : Frame.enter P f avs.toArray .normal = (Frame.enter P f avs.toArray .normal).atR ⟨tm, []⟩ [.code c] := by
      simp [Frame.enter, Frame.atR, hf, hc, tm]
    have hT : RTmps μ (BT.fromL args 0 .e) tm := by
      intro t a ht
      have := BT.get_from _ _ _ ht
      obtain ⟨v, h1, h2⟩ := ha.get _ _ this
      refine ⟨v, ?_, h2⟩
      have hlt : t < avs.length := (List.getElem?_eq_some_iff.1 h1).1
      show (avs.toArray ++ Array.replicate (fn.ntmps - avs.toArray.size) undef)[t]? = some v
      rw [Array.getElem?_append_left (by simpa using hlt)]
      simpa using h1
    intro cs
    unfold leaveA at e
    split at e <;> try (cases e; done)
    rename_i ex T ds h' hout
    obtain ⟨μ', w', a', r1, r2, r3, r4, r5, r6⟩ := hrec c _ [] h fn.ntmps none f _ hout hok μ pd w (Frame.enter P f avs.toArray .normal) ⟨tm, []⟩ [] [.code c] cs hr hT htm trivial rfl rfl (.inl rfl)
    simp only [] at r1 r2 r3 r5 r6
    have fin : ∀ (fr : Frame), Steps P (lone (Frame.enter P f avs.toArray .normal) cs w) (lone fr cs w') → fr.mode = .returning → fr.kind = .normal → fr.fn = f → fr.tmps = a'.tmps → fr.defers = a'.defers → outOf E fn.results.toList T ds h' = some r →
        ∃ e w'' fr', (∃ v μ', e = .returned v ∧ RT μ' r.a v ∧ Rel OkC μ' pd r.h w'' ∧ Ext μ pd h μ' r.h) ∧ Comes P (lone (Frame.enter P f avs.toArray .normal) cs w) (lone fr' cs w'') e ∧ fr'.fn = f ∧ fr'.leaving P w'' e := by
      intro fr hst hm hk hff ht hd ho
      obtain ⟨v, w'', q1, q2, q3, q4, q5⟩ := outOf_sound (fr := fr) hE ho r1 (by rw [ht]; exact r3) (by rw [hd]; exact r5) hm hk (by rw [hff]; exact hf) cs
      exact ⟨.returned v, w'', _, ⟨v, μ', rfl, q3, q4, r2.trans q5⟩, Steps.trans hst q1, hff, q2⟩
    rw [← hen] at r6
    cases ex with
    | normal =>
      exact fin _ (Steps.trans r6 (.one (stepR_end rfl))) rfl rfl rfl rfl rfl e
    | ret =>
      obtain ⟨k2, r6⟩ := r6
      exact fin _ (Steps.trans r6 (.one (stepR_ret rfl))) rfl rfl rfl rfl rfl e
    | exit id => cases e

theorem setParams_sound : ∀ {ps : List Tmp} {l : List AT} {vs : List Value} {T : BT AT} {tm : Array Value} {n : Nat} {k : BT AT → Option Out} {o : Out}, RTs μ l vs → RTmps μ T tm → tm.size = n → setParams n ps l T k = some o →
    ∃ T', k T' = some o ∧ vs.length = ps.length ∧ RTmps μ T' ((ps.zip vs).foldl (fun tmps (x : Tmp × Value) => tmps.setIfInBounds x.1 x.2) tm) ∧ ((ps.zip vs).foldl (fun tmps (x : Tmp × Value) => tmps.setIfInBounds x.1 x.2) tm).size = n
  | [], [], [], T, tm, n, k, o, ha, ht, hn, e => ⟨T, e, rfl, ht, hn⟩
  | [], [], _ :: _, T, tm, n, k, o, ha, ht, hn, e => by cases ha
  | [], _ :: _, _, T, tm, n, k, o, ha, ht, hn, e => by cases e
  | t :: ps, [], _, T, tm, n, k, o, ha, ht, hn, e => by cases e
  | t :: ps, a :: l, [], T, tm, n, k, o, ha, ht, hn, e => by cases ha
  | t :: ps, a :: l, v :: vs, T, tm, n, k, o, ha, ht, hn, e => by
    simp only [setParams] at e
    split at e <;> try (cases e; done)
    rename_i hle
    have hle : t + 1 ≤ n := ble_true hle
    rw [BT.putK_eq] at e
    obtain ⟨T', h1, h2, h3, h4⟩ := setParams_sound ha.2 (ht.put (d := t) (Nat.lt_of_lt_of_eq hle hn.symm) ha.1) (by simpa using hn) e
    exact ⟨T', h1, by simp [h2], h3, h4⟩

theorem loop_read (hr : Rel OkC μ pd h w) {l c K : Nat} {st : LoopState} {pend : Option Code} {fn : FuncId} {T : BT AT} {n : Nat} {ps : List Tmp} {x y : Code} {d : Nat} (hμ : μ l = some (c, K)) (hg : h.t.get l = some (.loop st pend fn T n ps x y d)) :
    ∃ tm dd K', w.heap[c]? = some (.loop { state := st, pending := pend, fn := fn, tmps := tm, params := ps.toArray, assign := x, body := y, defers := dd }) ∧ tm.size = n ∧ RTmps μ T tm ∧ μ d = some (dd, K') ∧ OkC x = true ∧ OkC y = true := by
  obtain ⟨c1, K1, ob, f1, f2, tm, dd, K', rfl, f3⟩ := hr.obj l _ hg (hr.nopd hμ)
  rw [hμ] at f1
  obtain ⟨rfl, rfl⟩ : c = c1 ∧ K = K1 := by simpa using f1
  exact ⟨tm, dd, K', f2, f3⟩
theorem endRound_sound (hr : Rel OkC μ pd h w) {l c K : Nat} {j : Option Code} {r : VH} (hμ : μ l = some (c, K)) (e : endRoundA h l j = some r) :
    ∃ v w', (Instr.endRound c j).run P w = .ok v w' ∧ RT μ r.a v ∧ Rel OkC μ pd r.h w' ∧ Ext μ pd h μ r.h := by
  unfold endRoundA loopOf at e
  split at e <;> try (cases e; done)
  rename_i st pend fn T n ps x y d hg
  obtain ⟨tm, dd, K', f2, f3, f4, f5, f6, f7⟩ := loop_read hr hμ hg
  cases j with
  | none =>
    simp only [] at e
    unfold setObjA at e
    rw [BT.putK_eq] at e
    injection e with e
    subst e
    obtain ⟨s1, s2, s3⟩ := set_sound (P := P) (o' := .loop .ready none fn T n ps x y d) (ob' := .loop { state := .ready, pending := none, fn := fn, tmps := tm, params := ps.toArray, assign := x, body := y, defers := dd }) hr hg (by simp) hμ f2 rfl ⟨tm, dd, K', rfl, f3, f4, f5, f6, f7⟩
    refine ⟨.bool true, _, ?_, rfl, s2, s3⟩
    simp only [Instr.endRound, Instr.getLoop, Sem.run_bind, run_getObj f2 rfl, Result.andThen_ok, Sem.run_pure, Option.isNone_none, if_true, s1]
  | some j =>
    simp only [] at e
    unfold setObjA at e
    rw [BT.putK_eq] at e
    injection e with e
    subst e
    obtain ⟨s1, s2, s3⟩ := set_sound (P := P) (o' := .loop .done (some j) fn T n ps x y d) (ob' := .loop { state := .done, pending := some j, fn := fn, tmps := tm, params := ps.toArray, assign := x, body := y, defers := dd }) hr hg (by simp) hμ f2 rfl ⟨tm, dd, K', rfl, f3, f4, f5, f6, f7⟩
    refine ⟨.bool false, _, ?_, rfl, s2, s3⟩
    simp only [Instr.endRound, Instr.getLoop, Sem.run_bind, run_getObj f2 rfl, Result.andThen_ok, Sem.run_pure, Option.isNone_some, Bool.false_eq_true, if_false, s1]
theorem ayield_sound (hrec : RecOk P OkC rec) (hr : Rel OkC μ pd h w) {l c K : Nat} {args : List AT} {avs : List Value} {r : VH} (hμ : μ l = some (c, K)) (ha : RTs μ args avs) (e : ayield rec l args h = some r) :
    ∃ f tm x y, (Instr.yield c avs.toArray).run P w = .ok (.round c f tm x y) w ∧ GoesBack P OkC μ pd h w r (Frame.round c f tm x y .normal) := by
  unfold ayield loopOf at e
  split at e <;> try (cases e; done)
  rename_i st pend fn T n ps x y d hg
  obtain ⟨tm, dd, K', f2, f3, f4, f5, f6, f7⟩ := loop_read hr hμ hg
  unfold roundOut at e
  simp only [] at e
  split at e <;> try (cases e; done)
  rename_i ex TT ds hh hbody
  split at e <;> try (cases e; done)
  unfold roundBody at hbody
  split at hbody <;> try (cases hbody; done)
  rename_i ex1 T1 ds1 h1 hassign
  split at hbody <;> try (cases hbody; done)
  split at hbody <;> try (cases hbody; done)
  obtain ⟨T', p1, p2, p3, p4⟩ := setParams_sound ha f4 f3 hassign
  have hyield : (Instr.yield c avs.toArray).run P w = .ok (.round c fn ((ps.zip avs).foldl (fun tmps (x : Tmp × Value) => tmps.setIfInBounds x.1 x.2) tm) x y) w := by
    have hz : (ps.toArray.zip avs.toArray) = (ps.zip avs).toArray := by simp
    have hsz : ¬ (avs.length ≠ ps.length) := by omega
    simp only [Instr.yield, Instr.getLoop, Sem.run_bind, run_getObj f2 rfl, Result.andThen_ok, Sem.run_pure, List.size_toArray, hsz, if_false, hz, List.foldl_toArray']
  refine ⟨_, _, _, _, hyield, fun cc cs => ?_⟩
  generalize hb : Frame.round c fn ((ps.zip avs).foldl (fun tmps (x : Tmp × Value) => tmps.setIfInBounds x.1 x.2) tm) x y .normal = b
  have hb0 : b = b.atR ⟨(ps.zip avs).foldl (fun tmps (x : Tmp × Value) => tmps.setIfInBounds x.1 x.2) tm, []⟩ [.code x, .beginRound, .code y] := by
    rw [← hb]; rfl
  have hbr : b.roundOf = some c := by rw [← hb]; rfl
  have hbk : b.kind = .normal := by rw [← hb]; rfl
  have hbf : b.fn = fn := by rw [← hb]; rfl
  -- the assignment of what has been yielded
  obtain ⟨μ1, w1, a1, q1, q2, q3, q4, q5, q6⟩ := hrec x _ [] h n (some l) fn _ p1 f6 μ pd w b ⟨(ps.zip avs).foldl (fun tmps (x : Tmp × Value) => tmps.setIfInBounds x.1 x.2) tm, []⟩ [.beginRound, .code y] [.code x, .beginRound, .code y] (cc :: cs) hr p3 p4 trivial hbf ⟨c, K, hμ, hbr⟩ (.inl rfl)
  simp only [] at q1 q2 q3 q5 q6
  rw [← hb0] at q6
  have hμ1 := q2.le _ _ hμ
  have hd1 := q5.nil
  -- the round begins
  split at hbody <;> try (cases hbody; done)
  rename_i st2 pend2 fn2 T2 n2 ps2 x2 y2 d2 hg2
  split at hbody <;> try (cases hbody; done)
  obtain ⟨tm2, dd2, K2, g2, g3, g4, g5, g6, g7⟩ := loop_read q1 hμ1 hg2
  unfold setObjA at hbody
  rw [BT.putK_eq] at hbody
  obtain ⟨s1, s2, s3⟩ := set_sound (P := P) (o' := .loop .busy pend2 fn2 T2 n2 ps2 x2 y2 d2) (ob' := .loop { state := .busy, pending := pend2, fn := fn2, tmps := tm2, params := ps2.toArray, assign := x2, body := y2, defers := dd2 }) q1 hg2 (by simp) hμ1 g2 rfl ⟨tm2, dd2, K2, rfl, g3, g4, g5, g6, g7⟩
  have hbegin : (Instr.beginRound c).run P w1 = .ok () { w1 with heap := w1.heap.setIfInBounds c (.loop { state := .busy, pending := pend2, fn := fn2, tmps := tm2, params := ps2.toArray, assign := x2, body := y2, defers := dd2 }) } := by
    simp only [Instr.beginRound, Instr.getLoop, Sem.run_bind, run_getObj g2 rfl, Result.andThen_ok, Sem.run_pure, s1]
  -- the body
  obtain ⟨μ3, w3, a3, t1, t2, t3, t4, t5, t6⟩ := hrec y _ [] _ n (some l) fn _ hbody f7 μ1 pd _ b ⟨a1.tmps, []⟩ [] [.code y] (cc :: cs) s2 q3 q4 trivial hbf ⟨c, K, hμ1, hbr⟩ (.inl rfl)
  simp only [] at t1 t2 t3 t5 t6
  have hμ3 := t2.le _ _ hμ1
  have hb1 : b.atR a1 [.beginRound, .code y] = b.atR ⟨a1.tmps, []⟩ [.beginRound, .code y] := by
    obtain ⟨tt, dd⟩ := a1
    simp only [] at hd1
    subst hd1
    rfl
  have hsteps : ∀ m', Steps P (lone (b.atR ⟨a1.tmps, []⟩ [.code y]) (cc :: cs) _) m' → Steps P (lone b (cc :: cs) w) m' := fun m' hm' =>
    Steps.trans q6 (Steps.head (by rw [hb1]; exact stepR_beginRound hbr hbegin) hm')
  have hext : Ext μ pd h μ3 hh := q2.trans (s3.trans t2)
  cases ex with
  | normal =>
    obtain ⟨v, w4, u1, u2, u3, u4⟩ := endRound_sound (P := P) t1 hμ3 e
    exact ⟨v, w4, μ3, hsteps _ (Steps.trans t6 (.one (stepR_round_end hbr hbk u1))), u2, u3, hext.trans u4⟩
  | ret =>
    obtain ⟨v, w4, u1, u2, u3, u4⟩ := endRound_sound (P := P) t1 hμ3 e
    obtain ⟨k2, t6⟩ := t6
    exact ⟨v, w4, μ3, hsteps _ (Steps.trans t6 (.one (stepR_round_ret hbr hbk u1))), u2, u3, hext.trans u4⟩
  | exit id =>
    obtain ⟨v, w4, u1, u2, u3, u4⟩ := endRound_sound (P := P) t1 hμ3 e
    obtain ⟨k2, t6, t7⟩ := t6
    exact ⟨v, w4, μ3, hsteps _ (Steps.trans t6 (.one (stepR_round_exit hbr hbk t7 u1))), u2, u3, hext.trans u4⟩
end
end Go.Proofs.YtofjmfjgicdjjaaGreat.Ab
/- The abstract machine, part 21: calls of values, and regions in the text's order. -/
set_option linter.unusedVariables false
set_option linter.unusedSimpArgs false
namespace Go.Proofs.YtofjmfjgicdjjaaGreat.Ab
open Go
section
variable {P : Program} {E : Env} {w : World} {μ : Mu} {OkC : Cx} {pd : Nat → Prop} {h : AHeap} {rec : Rec}

theorem argsOf_sound {ρ : Operand → Option AT} {σ : Operand → Value} (hρ : Reads μ ρ σ) : ∀ {l : List Operand} {r : List AT}, argsOf ρ l = some r → RTs μ r (l.map σ)
  | [], r, e => by simp [argsOf] at e; subst e; trivial
  | x :: l, r, e => by
    simp only [argsOf] at e
    split at e <;> try (cases e; done)
    rename_i a ha
    split at e <;> try (cases e; done)
    rename_i q hq
    injection e with e
    subst e
    exact ⟨hρ _ _ ha, argsOf_sound hρ hq⟩
theorem catA_eq : ∀ (l r : List AT), catA l r = l ++ r
  | [], r => rfl
  | a :: l, r => by simp [catA, catA_eq l r]
theorem ptrsA_sound : ∀ {p : List (Nat × Nat)} {ps : List Value} {l : List AT} {m : List Value}, RPl μ p ps → RTs μ l m → RTs μ (ptrsA p l) (ps ++ m)
  | [], [], _, _, _, h => h
  | [], _ :: _, _, _, h, _ => by cases h
  | _ :: _, [], _, _, h, _ => by cases h
  | (b, o) :: p, v :: ps, l, m, ⟨h1, h2⟩, h => ⟨h1, ptrsA_sound h2 h⟩
theorem run_callFunc {f : FuncId} {fn : Func} {avs : Array Value} (hf : P.funcs[f]? = some fn) (hn : (fn.name == "runtime.NumGoroutine") = false) (hb : fn.body.isSome = true) : (callFunc f avs).run P w = .ok (.enter f avs) w := by
  have : fn.body.isNone = false := by cases h : fn.body <;> simp_all
  unfold callFunc
  simp only [Sem.run_bind, run_program, Result.andThen_ok, hf, hn, Bool.false_eq_true, if_false, this]
  rfl
theorem acall_fn (hN : FnsOk P E OkC) {f : FuncId} {args : List AT} {r : VH} (e : acall E rec f args h = some r) : ∃ fn, P.funcs[f]? = some fn ∧ (fn.name == "runtime.NumGoroutine") = false ∧ fn.body.isSome = true := by
  unfold acall at e
  cases hnat : E.ovr f with
  | some nat => exact hN.ovr f nat hnat
  | none =>
    rw [hnat] at e
    have e : acall0 E rec f args h = some r := e
    unfold acall0 at e
    split at e <;> try (cases e; done)
    rename_i fn hfn
    obtain ⟨hf, hn, _⟩ := hN.fns f fn hfn
    split at e <;> try (cases e; done)
    rename_i c hc
    exact ⟨fn, hf, hn, by simp [hc]⟩
/-- A call of a function's value. -/
theorem acallv_sound (hE : EnvOk P E) (hN : FnsOk P E OkC) (hrec : RecOk P OkC rec) (hr : Rel OkC μ pd h w) {x : Option AT} {v : Value} (hx : ∀ b, x = some b → RT μ b v) {args : Option (List AT)} {avs : List Value} (ha : ∀ l, args = some l → RTs μ l avs) {r : VH}
    (e : acallv E rec x args h = some r) : CallOk P OkC μ pd h w r (do let d ← Deferred.ofValue v avs.toArray; invoke d.target d.args) := by
  unfold acallv at e
  split at e <;> try (cases e; done)
  rename_i a
  split at e <;> try (cases e; done)
  rename_i l
  have hl := ha l rfl
  split at e <;> try (cases e; done)
  · rename_i f first captured
    obtain ⟨ps, qs, rfl, h1, h2⟩ : ∃ ps qs : List Value, v = .func (.func f) ps.toArray qs.toArray ∧ RPl μ first ps ∧ RPl μ captured qs := hx _ rfl
    have hargs : RTs μ (ptrsA first (catB l captured)) (ps ++ (avs ++ qs)) := by
      refine ptrsA_sound h1 ?_
      unfold catB
      clear e hx
      cases captured with
      | nil =>
        have : qs = [] := by cases qs with | nil => rfl | cons => cases h2
        subst this
        simpa using hl
      | cons y ys =>
        simp only [catA_eq]
        refine hl.append ?_
        have := ptrsA_sound (l := []) (m := []) h2 trivial
        simpa using this
    have hcall := acall_sound hE hN hrec hr hargs e
    obtain ⟨fn, f1, f2, f3⟩ := acall_fn hN e
    refine .inl ⟨f, (ps ++ (avs ++ qs)).toArray, ?_, hcall.back⟩
    have : (ps.toArray ++ avs.toArray ++ qs.toArray) = (ps ++ (avs ++ qs)).toArray := by simp
    simp only [Deferred.ofValue, Sem.run_bind, Sem.run_pure, Result.andThen_ok, invoke, run_callFunc f1 f2 f3, this]
  · rename_i lp
    obtain ⟨c, K, h1, rfl⟩ : ∃ c K, μ lp = some (c, K) ∧ v = .func (.yield c) #[] #[] := hx _ rfl
    obtain ⟨f, tm, y, z, q1, q2⟩ := ayield_sound hrec hr h1 hl e
    refine .inr ⟨c, f, tm, y, z, ?_, q2⟩
    have : (#[] ++ avs.toArray : Array Value) = avs.toArray := by simp
    simp only [Deferred.ofValue, Sem.run_bind, Sem.run_pure, Result.andThen_ok, invoke, this, q1]

/-! ### One operation, as the machine makes it -/
section
variable {b : Frame} {a : Act} {k : List Item} {cs : List Frame} {ops : Array Oper} {i : Nat} {rest : List Nat}
def OpGoes (P : Program) (OkC : Cx) (μ : Mu) (pd : Nat → Prop) (h : AHeap) (w : World) (r : VH) (b : Frame) (a : Act) (k : List Item) (cs : List Frame) (ops : Array Oper) (i : Nat) (rest : List Nat) (o : Oper) : Prop :=
  ∃ v w' μ', Steps P (lone (b.atR a (.inRegion ops (i :: rest) :: k)) cs w) (lone (b.atR (a.put o.dst v) (.inRegion ops rest :: k)) cs w') ∧ RT μ' r.a v ∧ Rel OkC μ' pd r.h w' ∧ Ext μ pd h μ' r.h
theorem OpGoes.of_eff {r : VH} {o : Oper} (he : EffOk P OkC μ pd h w r (execOp a.eval o)) (ho : ops[i]? = some o) (hw : Region.wanted o (yielded ops a.tmps) = true) (hd : ∀ c, o.op ≠ .defer c) : OpGoes P OkC μ pd h w r b a k cs ops i rest o := by
  obtain ⟨nx, v, w', μ', h1, h2, h3, h4, h5⟩ := he
  exact ⟨v, w', μ', .one (stepR_op_next ho hw hd h1 h2), h3, h4, h5⟩
theorem OpGoes.of_call {r : VH} {o : Oper} (he : CallOk P OkC μ pd h w r (execOp a.eval o)) (ho : ops[i]? = some o) (hw : Region.wanted o (yielded ops a.tmps) = true) (hd : ∀ c, o.op ≠ .defer c) : OpGoes P OkC μ pd h w r b a k cs ops i rest o := by
  have hfin : ∀ v, (b.atR a (.inRegion ops (i :: rest) :: k)).finish v = b.atR (a.put o.dst v) (.inRegion ops rest :: k) := by
    intro v
    have hf := Frame.finish_atR b a ops i rest k v
    have hb : (ops[i]?).bind (·.dst) = o.dst := by rw [ho]; rfl
    rw [hb] at hf
    exact hf
  rcases he with ⟨f, avs, h1, h2⟩ | ⟨l, f, tm, x, y, h1, h2⟩
  · obtain ⟨v, w', μ', q1, q2, q3, q4⟩ := h2 (b.atR a (.inRegion ops (i :: rest) :: k)) cs
    rw [hfin] at q1
    exact ⟨v, w', μ', .head (stepR_op_enter ho hw hd h1) q1, q2, q3, q4⟩
  · obtain ⟨v, w', μ', q1, q2, q3, q4⟩ := h2 (b.atR a (.inRegion ops (i :: rest) :: k)) cs
    rw [hfin] at q1
    exact ⟨v, w', μ', .head (stepR_op_round ho hw hd h1) q1, q2, q3, q4⟩
theorem anyOp_nodefer {ρ : Operand → Option AT} {op : Op} {r : VH} (e : anyOp E rec h ρ op = some r) : ∀ c, op ≠ .defer c := by
  rintro c rfl
  simp [anyOp, opRes, effOp] at e
theorem callV_sound (hE : EnvOk P E) (hN : FnsOk P E OkC) (hrec : RecOk P OkC rec) (hr : Rel OkC μ pd h w) {ρ : Operand → Option AT} {σ : Operand → Value} (hρ : Reads μ ρ σ) {o : Oper} {r : VH} (hc : isCallV o.op = true) (e : effOp E rec h ρ o.op = some r) : CallOk P OkC μ pd h w r (execOp σ o) := by
  unfold isCallV at hc
  split at hc <;> try (cases hc; done)
  rename_i c hop
  rw [hop] at e
  obtain ⟨callee, args, ats⟩ := c
  cases callee <;> simp only [] at hc <;> try (cases hc; done)
  rename_i f
  simp only [effOp] at e
  have := acallv_sound hE hN hrec hr (v := σ f) (avs := args.toList.map σ) (fun b hb => hρ f b hb) (fun l hl => argsOf_sound hρ hl) e
  have he : execOp σ o = (do let d ← Deferred.ofValue (σ f) (args.toList.map σ).toArray; invoke d.target d.args) := by
    unfold execOp
    rw [hop]
    have : args.map σ = (args.toList.map σ).toArray := by apply Array.ext'; simp
    simp only [resolve, this]
  rw [he]
  exact this
theorem op_goes (hE : EnvOk P E) (hF : FlatOk P E) (hN : FnsOk P E OkC) (hrec : RecOk P OkC rec) (hr : Rel OkC μ pd h w) {T : BT AT} (ht : RTmps μ T a.tmps) {o : Oper} {r : VH} (e : anyOp E rec h (opnd T) o.op = some r) (ho : ops[i]? = some o) (hw : Region.wanted o (yielded ops a.tmps) = true) :
    OpGoes P OkC μ pd h w r b a k cs ops i rest o := by
  have hd := anyOp_nodefer e
  cases hc : isCallV o.op with
  | false => exact OpGoes.of_eff (anyOp_sound hE hF hr (reads_opnd ht) hc e) ho hw hd
  | true =>
    have e2 : effOp E rec h (opnd T) o.op = some r := by
      unfold isCallV at hc
      split at hc <;> try (cases hc; done)
      rename_i c hop
      rw [hop] at e ⊢
      obtain ⟨callee, args, ats⟩ := c
      cases callee <;> simp only [] at hc <;> try (cases hc; done)
      exact e
    exact OpGoes.of_call (callV_sound hE hN hrec hr (reads_opnd ht) hc e2) ho hw hd
theorem putDst_sound {R : Type} {T : BT AT} {n : Nat} {dst : Option Tmp} {x : AT} {v : Value} {kk : BT AT → Option R} {res : R} (e : putDst T n dst x kk = some res) (ht : RTmps μ T a.tmps) (hn : a.tmps.size = n) (hv : RT μ x v) :
    ∃ T', kk T' = some res ∧ RTmps μ T' (a.put dst v).tmps ∧ (a.put dst v).tmps.size = n ∧ (a.put dst v).defers = a.defers := by
  unfold putDst at e
  cases dst with
  | none => exact ⟨T, e, ht, hn, rfl⟩
  | some d =>
    simp only [] at e
    split at e <;> try (cases e; done)
    rename_i hle
    have hle : d + 1 ≤ n := ble_true hle
    rw [BT.putK_eq] at e
    exact ⟨_, e, ht.put (Nat.lt_of_lt_of_eq hle hn.symm) hv, by simpa [Act.put] using hn, rfl⟩
theorem RT.undef {μ : Mu} : RT μ (.tup []) undef := ⟨[], rfl, trivial⟩
/-- A region in the text's order. -/
theorem runOps_sound (hE : EnvOk P E) (hF : FlatOk P E) (hN : FnsOk P E OkC) (hrec : RecOk P OkC rec) {n : Nat} : ∀ (l : List Oper) (i : Nat) {T : BT AT} {h : AHeap} {w : World} {μ : Mu} {a : Act} {res : TH}, ops.toList.drop i = l → runOps E rec n ops.toList l T h = some res →
    Rel OkC μ pd h w → RTmps μ T a.tmps → a.tmps.size = n →
    ∃ μ' w' a', Rel OkC μ' pd res.h w' ∧ Ext μ pd h μ' res.h ∧ RTmps μ' res.T a'.tmps ∧ a'.tmps.size = n ∧ a'.defers = a.defers ∧ Steps P (lone (b.atR a (.inRegion ops (List.range' i l.length) :: k)) cs w) (lone (b.atR a' (.inRegion ops [] :: k)) cs w')
  | [], i, T, h, w, μ, a, res, hl, e, hr, ht, hn => by
    simp only [runOps] at e
    injection e with e
    subst e
    exact ⟨μ, w, a, hr, Ext.refl _ _ _, ht, hn, rfl, Steps.refl _ _⟩
  | o :: l, i, T, h, w, μ, a, res, hl, e, hr, ht, hn => by
    have ho : ops[i]? = some o := by
      have : (ops.toList.drop i)[0]? = some o := by rw [hl]; rfl
      simpa using this
    have hl' : ops.toList.drop (i + 1) = l := by
      have : (ops.toList.drop i).drop 1 = l := by rw [hl]; rfl
      rw [List.drop_drop] at this
      exact this
    have hrange : List.range' i (o :: l).length = i :: List.range' (i + 1) l.length := by simp [List.range'_succ]
    rw [hrange]
    simp only [runOps] at e
    split at e <;> try (cases e; done)
    rename_i wt hw
    have hw := wantedA_sound ht (ops := ops) hw
    split at e
    · split at e <;> try (cases e; done)
      rename_i x h' hop
      obtain ⟨v, w1, μ1, q1, q2, q3, q4⟩ := op_goes (b := b) (k := k) (cs := cs) (rest := List.range' (i + 1) l.length) hE hF hN hrec hr ht hop ho hw
      obtain ⟨T', p1, p2, p3, p4⟩ := putDst_sound (v := v) e (ht.mono q4.le) hn q2
      obtain ⟨μ', w', a', s1, s2, s3, s4, s5, s6⟩ := runOps_sound hE hF hN hrec l (i + 1) hl' p1 q3 p2 p3
      exact ⟨μ', w', a', s1, q4.trans s2, s3, s4, s5.trans p4, q1.trans s6⟩
    · obtain ⟨T', p1, p2, p3, p4⟩ := putDst_sound (v := undef) e ht hn RT.undef
      obtain ⟨μ', w', a', s1, s2, s3, s4, s5, s6⟩ := runOps_sound hE hF hN hrec l (i + 1) hl' p1 hr p2 p3
      have hb : (ops[i]?).bind (·.dst) = o.dst := by rw [ho]; rfl
      have hstep := stepR_op_skip (P := P) (b := b) (a := a) (k := k) (cs := cs) (w := w) (ops := ops) (i := i) (rest := List.range' (i + 1) l.length) (by simp [ho, hw])
      rw [hb] at hstep
      exact ⟨μ', w', a', s1, s2, s3, s4, s5.trans p4, .head hstep s6⟩
end
end
end Go.Proofs.YtofjmfjgicdjjaaGreat.Ab
/- The abstract machine, part 22: the run of a code; what is asked of regions whose order is drawn stands as a premise. -/
set_option linter.unusedVariables false
set_option linter.unusedSimpArgs false
namespace Go.Proofs.YtofjmfjgicdjjaaGreat.Ab
open Go
section
variable (P : Program) (E : Env) (OkC : Cx) (ok : Array Oper → Bool)
/-- A region whose order is drawn: whatever the order. -/
def DrawOk (rec : Rec) : Prop :=
  ∀ (ops : Array Oper) (n : Nat) (T : BT AT) (h : AHeap) (res : TH), ok ops = true → regionA E rec ops.toList true T h n = some res →
    ∀ (μ : Mu) (pd : Nat → Prop) (w : World) (b : Frame) (a : Act) (k : List Item) (cs : List Frame) (t : Nat), Rel OkC μ pd h w → RTmps μ T a.tmps → a.tmps.size = n →
      ∃ μ' w' a', Rel OkC μ' pd res.h w' ∧ Ext μ pd h μ' res.h ∧ RTmps μ' res.T a'.tmps ∧ a'.tmps.size = n ∧ a'.defers = a.defers ∧
        Steps P (lone (b.atR a (.inRegion ops (Region.linearise .any ops t) :: k)) cs w) (lone (b.atR a' (.inRegion ops [] :: k)) cs w')
structure CodeOk : Prop where
  seq : ∀ a b, OkC (.seq a b) = true → OkC a = true ∧ OkC b = true
  cond : ∀ c a b, OkC (.cond c a b) = true → OkC a = true ∧ OkC b = true
  block : ∀ i b, OkC (.block i b) = true → OkC b = true
  loop : ∀ b, OkC (.loop b) = true → OkC b = true
  scope : ∀ b, OkC (.scope b) = true → OkC b = true
  range : ∀ g ps a b, OkC (.rangeFunc g ps a b) = true → OkC a = true ∧ OkC b = true
  region : ∀ id ops, OkC (.region id ops true) = true → ok ops = true
end
section
variable {P : Program} {E : Env} {OkC : Cx} {ok : Array Oper → Bool} {rec : Rec}
theorem exitTo_code (id : Nat) (c : Code) (k : List Item) : exitTo id (.code c :: k) = exitTo id k := rfl
theorem exitTo_inLoop (id : Nat) (c : Code) (k : List Item) : exitTo id (.inLoop c :: k) = exitTo id k := rfl
theorem exitTo_inScope (id : Nat) (c : Code) (k : List Item) : exitTo id (.inScope c :: k) = exitTo id k := rfl
theorem stepR_inScope {P : Program} {b : Frame} {a : Act} {k : List Item} {cs : List Frame} {w : World} {c : Code} : step P (lone (b.atR a (.inScope c :: k)) cs w) = .next (lone (b.atR a k) cs w) :=
  step_lone_go (by simp [stepG, stepG.exec, Frame.atR])
theorem stepR_scope {P : Program} {b : Frame} {a : Act} {k : List Item} {cs : List Frame} {w : World} {c : Code} : step P (lone (b.atR a (.code (.scope c) :: k)) cs w) = .next (lone (b.atR a (.code c :: .inScope c :: k)) cs w) :=
  step_lone_go (by simp [stepG, stepG.exec, Frame.atR])
theorem stepR_rangeFunc_round {P : Program} {b : Frame} {a : Act} {k : List Item} {cs : List Frame} {w : World} {g : Operand} {ps : Array Tmp} {assign body : Code} {l : Nat} {mark : List Deferred} {w₁ w₁' w₂ : World} {d : Deferred} {l2 : Nat} {f : FuncId} {tm : Array Value} {x y : Code}
    (he : (Instr.enterLoop b.fn a.tmps ps assign body b.roundOf).run P w = .ok (l, mark) w₁)
    (hres : (resolve a.eval (rangeCall g l) 0).run P w₁ = .ok d w₁') (hinv : (invoke d.target d.args).run P w₁' = .ok (.round l2 f tm x y) w₂) :
    step P (lone (b.atR a (.code (.rangeFunc g ps assign body) :: k)) cs w) =
      .next (lone (Frame.round l2 f tm x y .normal) (b.atR { a with defers := mark ++ a.defers } (.inRangeFunc l :: k) :: cs) w₂) :=
  step_lone_go (by
    have hev := Frame.eval_atR b { a with defers := mark ++ a.defers } (.inRangeFunc l :: k)
    simp only [Frame.atR] at hev
    have hres' : Sem.run P (resolve ({ tmps := a.tmps, defers := mark ++ a.defers } : Act).eval { callee := .value g, args := #[.const (.func (.yield l) #[] #[])], argTypes := #[] } 0) w₁ = .ok d w₁' := hres
    simp [stepG, stepG.exec, Frame.atR, Sem.runT_eq, he, GStep.bare_after, stepG.apply, hev, Sem.run_bind, hres', hinv, Result.andThen])

theorem seqA_some {o : Option Out} {k : BT AT → List Nat → AHeap → Option Out} {r : Out} (e : seqA o k = some r) :
    (∃ T ds h, o = some ⟨.normal, T, ds, h⟩ ∧ k T ds h = some r) ∨ (o = some r ∧ r.ex ≠ .normal) := by
  unfold seqA at e
  split at e <;> try (cases e; done)
  rename_i ex T ds h
  cases ex with
  | normal => exact .inl ⟨T, ds, h, rfl, e⟩
  | exit id => simp only [] at e; injection e with e; subst e; exact .inr ⟨rfl, by simp⟩
  | ret => simp only [] at e; injection e with e; subst e; exact .inr ⟨rfl, by simp⟩
/-- A jump out of what stands ahead of more. -/
theorem ArrivesA.pass {P : Program} {m : Machine} {b : Frame} {x : Item} {k : List Item} {cs : List Frame} {ex : AEx} {a : Act} {w : World} (hx : ∀ id, exitTo id (x :: k) = exitTo id k) (hn : ex ≠ .normal) (h : ArrivesA P m b (x :: k) cs ex a w) : ArrivesA P m b k cs ex a w := by
  cases ex with
  | normal => exact absurd rfl hn
  | exit id => obtain ⟨k2, h1, h2⟩ := h; exact ⟨k2, h1, h2.trans (hx id)⟩
  | ret => exact h

theorem rangeEnd_sound {μ : Mu} {pd : Nat → Prop} {h : AHeap} {w : World} {l c K : Nat} {T : BT AT} {ds : List Nat} {cr : CR} {o : Out} (e : rangeEnd l T ds cr = some o) {v : AT} (hcr : cr = some ⟨v, h⟩) (hr : Rel OkC μ pd h w) (hμ : μ l = some (c, K)) :
    o.T = T ∧ o.ds = ds ∧ ∃ jump w', (Instr.endLoop c).run P w = .ok jump w' ∧ Rel OkC μ pd o.h w' ∧ Ext μ pd h μ o.h ∧
      ((o.ex = .normal ∧ jump = none) ∨ (o.ex = .ret ∧ jump = some .ret) ∨ ∃ id, o.ex = .exit id ∧ jump = some (.exit id)) := by
  subst hcr
  unfold rangeEnd at e
  simp only [] at e
  split at e <;> try (cases e; done)
  rename_i st pend fn T0 n ps x y d hg
  obtain ⟨tm, dd, K', f2, f3, f4, f5, f6, f7⟩ := loop_read hr hμ hg
  split at e
  · cases e
  rename_i hst
  have hst : st ≠ .busy := hst
  unfold setObjA at e
  rw [BT.putK_eq] at e
  obtain ⟨s1, s2, s3⟩ := set_sound (P := P) (o' := .loop .exhausted pend fn T0 n ps x y d) (ob' := .loop { state := .exhausted, pending := pend, fn := fn, tmps := tm, params := ps.toArray, assign := x, body := y, defers := dd }) hr hg (by simp) hμ f2 rfl ⟨tm, dd, K', rfl, f3, f4, f5, f6, f7⟩
  have hend : (Instr.endLoop c).run P w = .ok pend { w with heap := w.heap.setIfInBounds c (.loop { state := .exhausted, pending := pend, fn := fn, tmps := tm, params := ps.toArray, assign := x, body := y, defers := dd }) } := by
    have hb : (st == .busy) = false := by cases st <;> first | rfl | (exact absurd rfl hst)
    simp only [Instr.endLoop, Instr.getLoop, Sem.run_bind, run_getObj f2 rfl, Result.andThen_ok, Sem.run_pure, hb, Bool.false_eq_true, if_false, s1]
  simp only [] at e
  cases pend with
  | none =>
    injection e with e
    subst e
    exact ⟨rfl, rfl, _, _, hend, s2, s3, .inl ⟨rfl, rfl⟩⟩
  | some j =>
    cases j <;> simp only [] at e <;> try (cases e; done)
    · injection e with e
      subst e
      exact ⟨rfl, rfl, _, _, hend, s2, s3, .inr (.inr ⟨_, rfl, rfl⟩)⟩
    · injection e with e
      subst e
      exact ⟨rfl, rfl, _, _, hend, s2, s3, .inr (.inl ⟨rfl, rfl⟩)⟩
theorem rangeEnd_cr {l : Nat} {T : BT AT} {ds : List Nat} {cr : CR} {o : Out} (e : rangeEnd l T ds cr = some o) : ∃ v h, cr = some ⟨v, h⟩ := by
  unfold rangeEnd at e
  split at e <;> try (cases e; done)
  exact ⟨_, _, rfl⟩

/-- The statement, once its record is laid. -/
theorem range_go (hE : EnvOk P E) (hN : FnsOk P E OkC) (hrec : RecOk P OkC rec) {μ : Mu} {pd : Nat → Prop} {h2 : AHeap} {w w2 : World} {b : Frame} {a : Act} {k : List Item} {cs : List Frame} {g : Operand} {ps : Array Tmp} {x y : Code} {T : BT AT} {n : Nat} {ds : List Nat} {l c K : Nat} {mark : List Deferred} {o : Out}
    (hr : Rel OkC μ pd h2 w2) (ht : RTmps μ T a.tmps) (hn : a.tmps.size = n) (hds : RDs μ ds (mark ++ a.defers)) (hμ : μ l = some (c, K)) (hen : (Instr.enterLoop b.fn a.tmps ps x y b.roundOf).run P w = .ok (c, mark) w2)
    (e : rangeEnd l T ds (acallv E rec (opnd T g) (some [.v (.one (.yld l))]) h2) = some o) :
    ∃ μ' w' a', Rel OkC μ' pd o.h w' ∧ Ext μ pd h2 μ' o.h ∧ RTmps μ' o.T a'.tmps ∧ a'.tmps.size = n ∧ RDs μ' o.ds a'.defers ∧ ArrivesA P (lone (b.atR a (.code (.rangeFunc g ps x y) :: k)) cs w) b k cs o.ex a' w' := by
  obtain ⟨v, h3, hcr⟩ := rangeEnd_cr e
  have hcall := acallv_sound hE hN hrec hr (x := opnd T g) (v := a.eval g) (fun u hu => reads_opnd ht g u hu) (args := some [.v (.one (.yld l))]) (avs := [.func (.yield c) #[] #[]]) (fun l' hl' => by injection hl' with hl'; subst hl'; exact ⟨⟨c, K, hμ, rfl⟩, trivial⟩) hcr
  have hfin : ∀ v, (b.atR { a with defers := mark ++ a.defers } (.inRangeFunc c :: k)).finish v = b.atR { a with defers := mark ++ a.defers } (.endRangeFunc c :: k) := fun v => finish_atR_inRangeFunc c v
  have hsplit : ∀ nx, ((do let d ← Deferred.ofValue (a.eval g) [Value.func (.yield c) #[] #[]].toArray; invoke d.target d.args) : Sem Next).run P w2 = .ok nx w2 →
      ∃ d w2', (resolve a.eval (rangeCall g c) 0).run P w2 = .ok d w2' ∧ (invoke d.target d.args).run P w2' = .ok nx w2 := by
    intro nx hnx
    have hres : resolve a.eval (rangeCall g c) 0 = Deferred.ofValue (a.eval g) #[.func (.yield c) #[] #[]] := by
      simp [resolve, rangeCall, Act.eval]
    rw [hres]
    simp only [Sem.run_bind] at hnx
    cases hd : (Deferred.ofValue (a.eval g) #[.func (.yield c) #[] #[]]).run P w2 with
    | ok d w2' =>
      rw [hd] at hnx
      exact ⟨d, w2', rfl, hnx⟩
    | halt hh w2' =>
      rw [hd] at hnx
      cases hnx
  have go : ∀ fr, step P (lone (b.atR a (.code (.rangeFunc g ps x y) :: k)) cs w) = .next (lone fr (b.atR { a with defers := mark ++ a.defers } (.inRangeFunc c :: k) :: cs) w2) → GoesBack P OkC μ pd h2 w2 ⟨v, h3⟩ fr →
      ∃ μ' w' a', Rel OkC μ' pd o.h w' ∧ Ext μ pd h2 μ' o.h ∧ RTmps μ' o.T a'.tmps ∧ a'.tmps.size = n ∧ RDs μ' o.ds a'.defers ∧ ArrivesA P (lone (b.atR a (.code (.rangeFunc g ps x y) :: k)) cs w) b k cs o.ex a' w' := by
    intro fr hst hb
    obtain ⟨u, w3, μ3, q1, q2, q3, q4⟩ := hb (b.atR { a with defers := mark ++ a.defers } (.inRangeFunc c :: k)) cs
    rw [hfin] at q1
    obtain ⟨e1, e2, jump, w4, p1, p2, p3, p4⟩ := rangeEnd_sound (P := P) e hcr q3 (q4.le _ _ hμ)
    have hsteps := Steps.head hst (Steps.trans q1 (.one (stepR_endRangeFunc p1)))
    refine ⟨μ3, w4, { a with defers := mark ++ a.defers }, p2, q4.trans p3, by rw [e1]; exact ht.mono q4.le, hn, by rw [e2]; exact hds.mono q4.le, ?_⟩
    rcases p4 with ⟨h1, rfl⟩ | ⟨h1, rfl⟩ | ⟨id, h1, rfl⟩
    · rw [h1]; exact hsteps
    · rw [h1]; exact ⟨k, hsteps⟩
    · rw [h1]; exact ⟨k, hsteps, rfl⟩
  rcases hcall with ⟨f, avs, h1, h2'⟩ | ⟨l2, f, tm, x2, y2, h1, h2'⟩
  · obtain ⟨d, w2', r1, r2⟩ := hsplit _ h1
    exact go _ (stepR_rangeFunc hen r1 r2) h2'
  · obtain ⟨d, w2', r1, r2⟩ := hsplit _ h1
    exact go _ (stepR_rangeFunc_round hen r1 r2) h2'
end
end Go.Proofs.YtofjmfjgicdjjaaGreat.Ab
/- The abstract machine, part 23: the run of any code; what is asked of regions whose order is drawn stands as a premise. -/
set_option linter.unusedVariables false
set_option linter.unusedSimpArgs false
namespace Go.Proofs.YtofjmfjgicdjjaaGreat.Ab
open Go
section
variable {P : Program} {E : Env} {OkC : Cx} {ok : Array Oper → Bool} {rec : Rec}
/-- What a code's run from one start says. -/
def RunOk (P : Program) (OkC : Cx) (μ : Mu) (pd : Nat → Prop) (h : AHeap) (n : Nat) (o : Out) (m : Machine) (b : Frame) (k : List Item) (cs : List Frame) : Prop :=
  ∃ μ' w' a', Rel OkC μ' pd o.h w' ∧ Ext μ pd h μ' o.h ∧ RTmps μ' o.T a'.tmps ∧ a'.tmps.size = n ∧ RDs μ' o.ds a'.defers ∧ ArrivesA P m b k cs o.ex a' w'
theorem RunOk.head {μ : Mu} {pd : Nat → Prop} {h : AHeap} {n : Nat} {o : Out} {m m' : Machine} {b : Frame} {k : List Item} {cs : List Frame} (hs : Steps P m m') (hr : RunOk P OkC μ pd h n o m' b k cs) : RunOk P OkC μ pd h n o m b k cs := by
  obtain ⟨μ', w', a', h1, h2, h3, h4, h5, h6⟩ := hr
  exact ⟨μ', w', a', h1, h2, h3, h4, h5, .of_steps hs h6⟩
theorem RunOk.ext {μ μ1 : Mu} {pd : Nat → Prop} {h h1 : AHeap} {n : Nat} {o : Out} {m : Machine} {b : Frame} {k : List Item} {cs : List Frame} (he : Ext μ pd h μ1 h1) (hr : RunOk P OkC μ1 pd h1 n o m b k cs) : RunOk P OkC μ pd h n o m b k cs := by
  obtain ⟨μ', w', a', q1, q2, q3, q4, q5, q6⟩ := hr
  exact ⟨μ', w', a', q1, he.trans q2, q3, q4, q5, q6⟩
theorem condA_some {c : Option AT} {k : Bool → Option Out} {o : Out} (e : condA c k = some o) : ∃ t, c = some (.v (.one (.bool t))) ∧ k t = some o := by
  unfold condA at e
  split at e <;> try (cases e; done)
  exact ⟨_, rfl, e⟩
theorem blockA_some {id : Nat} {r : Option Out} {o : Out} (e : blockA id r = some o) : ∃ q, r = some q ∧ o.T = q.T ∧ o.ds = q.ds ∧ o.h = q.h ∧
    ((q.ex = .normal ∧ o.ex = .normal) ∨ (q.ex = .exit id ∧ o.ex = .normal) ∨ (∃ j, q.ex = .exit j ∧ j ≠ id ∧ o.ex = .exit j) ∨ (q.ex = .ret ∧ o.ex = .ret)) := by
  unfold blockA at e
  split at e <;> try (cases e; done)
  rename_i ex T ds h
  cases ex with
  | normal => simp only [] at e; injection e with e; subst e; exact ⟨_, rfl, rfl, rfl, rfl, .inl ⟨rfl, rfl⟩⟩
  | ret => simp only [] at e; injection e with e; subst e; exact ⟨_, rfl, rfl, rfl, rfl, .inr (.inr (.inr ⟨rfl, rfl⟩))⟩
  | exit j =>
    simp only [] at e
    split at e
    · rename_i hb
      have hb : j = id := beqN hb
      subst hb
      injection e with e; subst e
      exact ⟨_, rfl, rfl, rfl, rfl, .inr (.inl ⟨rfl, rfl⟩)⟩
    · rename_i hb
      have hb : j ≠ id := by
        rintro rfl
        rw [Nat.beq_refl] at hb
        cases hb
      injection e with e; subst e
      exact ⟨_, rfl, rfl, rfl, rfl, .inr (.inr (.inl ⟨j, rfl, hb, rfl⟩))⟩
theorem stepA_sound (hE : EnvOk P E) (hF : FlatOk P E) (hN : FnsOk P E OkC) (hC : CodeOk OkC ok) (hmix : P.follows .mixedOrders = true) (hrec : RecOk P OkC rec) (hdraw : DrawOk P E OkC ok rec) : RecOk P OkC (stepA E rec) := by
  intro c T ds h n round fn o e hok μ pd w b a k t cs hr ht hn hds hfn hround hstart
  show RunOk P OkC μ pd h n o (lone (b.atR a t) cs w) b k cs
  -- but for loops, a code begins at itself
  have hself : (∀ x, c ≠ .loop x) → t = .code c :: k := by
    intro hne
    rcases hstart with h1 | ⟨x, h1, _⟩
    · exact h1
    · exact absurd h1 (hne x)
  cases c with
  | skip =>
    obtain rfl := hself (by intro x; simp)
    simp only [stepA] at e
    injection e with e; subst e
    exact ⟨μ, w, a, hr, Ext.refl _ _ _, ht, hn, hds, .one stepR_skip⟩
  | label l =>
    obtain rfl := hself (by intro x; simp)
    simp only [stepA] at e
    injection e with e; subst e
    exact ⟨μ, w, a, hr, Ext.refl _ _ _, ht, hn, hds, .one stepR_label⟩
  | ret =>
    obtain rfl := hself (by intro x; simp)
    simp only [stepA] at e
    injection e with e; subst e
    exact ⟨μ, w, a, hr, Ext.refl _ _ _, ht, hn, hds, k, Steps.refl _ _⟩
  | exit id =>
    obtain rfl := hself (by intro x; simp)
    simp only [stepA] at e
    injection e with e; subst e
    exact ⟨μ, w, a, hr, Ext.refl _ _ _, ht, hn, hds, k, Steps.refl _ _, rfl⟩
  | seq x y =>
    obtain rfl := hself (by intro x; simp)
    obtain ⟨hx, hy⟩ := hC.seq x y hok
    simp only [stepA] at e
    refine RunOk.head (.one stepR_seq) ?_
    rcases seqA_some e with ⟨T1, ds1, h1, e1, e2⟩ | ⟨e1, hne⟩
    · obtain ⟨μ1, w1, a1, q1, q2, q3, q4, q5, q6⟩ := hrec x _ _ _ _ _ _ _ e1 hx μ pd w b a (.code y :: k) (.code x :: .code y :: k) cs hr ht hn hds hfn hround (.inl rfl)
      simp only [] at q1 q2 q3 q5 q6
      have hround1 := hround.mono q2.le
      exact RunOk.ext q2 (RunOk.head q6 (hrec y _ _ _ _ _ _ _ e2 hy μ1 pd w1 b a1 k (.code y :: k) cs q1 q3 q4 q5 hfn hround1 (.inl rfl)))
    · obtain ⟨μ1, w1, a1, q1, q2, q3, q4, q5, q6⟩ := hrec x _ _ _ _ _ _ _ e1 hx μ pd w b a (.code y :: k) (.code x :: .code y :: k) cs hr ht hn hds hfn hround (.inl rfl)
      exact ⟨μ1, w1, a1, q1, q2, q3, q4, q5, q6.pass (fun id => exitTo_code id y k) hne⟩
  | cond g x y =>
    obtain rfl := hself (by intro x; simp)
    obtain ⟨hx, hy⟩ := hC.cond g x y hok
    simp only [stepA] at e
    obtain ⟨tt, e1, e2⟩ := condA_some e
    have hg : a.eval g = .bool tt := reads_opnd ht g _ e1
    refine RunOk.head (.one (stepR_cond hg)) ?_
    cases tt with
    | true => exact hrec x _ _ _ _ _ _ _ e2 hx μ pd w b a k (.code x :: k) cs hr ht hn hds hfn hround (.inl rfl)
    | false => exact hrec y _ _ _ _ _ _ _ e2 hy μ pd w b a k (.code y :: k) cs hr ht hn hds hfn hround (.inl rfl)
  | block id x =>
    obtain rfl := hself (by intro x; simp)
    have hx := hC.block id x hok
    simp only [stepA] at e
    obtain ⟨q, e1, eT, eds, eh, ecase⟩ := blockA_some e
    refine RunOk.head (.one stepR_block) ?_
    obtain ⟨μ1, w1, a1, q1, q2, q3, q4, q5, q6⟩ := hrec x _ _ _ _ _ _ _ e1 hx μ pd w b a (.inBlock id :: k) (.code x :: .inBlock id :: k) cs hr ht hn hds hfn hround (.inl rfl)
    refine ⟨μ1, w1, a1, by rw [eh]; exact q1, by rw [eh]; exact q2, by rw [eT]; exact q3, q4, by rw [eds]; exact q5, ?_⟩
    rcases ecase with ⟨h1, h2⟩ | ⟨h1, h2⟩ | ⟨j, h1, hj, h2⟩ | ⟨h1, h2⟩
    · rw [h1] at q6; rw [h2]
      exact Steps.trans q6 (.one stepR_inBlock)
    · rw [h1] at q6; rw [h2]
      obtain ⟨k2, p1, p2⟩ := q6
      exact Steps.trans p1 (.one (stepR_exit (by rw [p2]; simp [exitTo])))
    · rw [h1] at q6; rw [h2]
      obtain ⟨k2, p1, p2⟩ := q6
      refine ⟨k2, p1, p2.trans ?_⟩
      have : (id == j) = false := by simpa using fun h => hj h.symm
      simp [exitTo, this]
    · rw [h1] at q6; rw [h2]
      exact q6
  | loop x =>
    have hx := hC.loop x hok
    simp only [stepA] at e
    have hs : Steps P (lone (b.atR a t) cs w) (lone (b.atR a (.code x :: .inLoop x :: k)) cs w) := by
      rcases hstart with rfl | ⟨y, h1, rfl⟩
      · exact .one stepR_loop
      · injection h1 with h1
        subst h1
        exact .one stepR_inLoop
    refine RunOk.head hs ?_
    rcases seqA_some e with ⟨T1, ds1, h1, e1, e2⟩ | ⟨e1, hne⟩
    · obtain ⟨μ1, w1, a1, q1, q2, q3, q4, q5, q6⟩ := hrec x _ _ _ _ _ _ _ e1 hx μ pd w b a (.inLoop x :: k) (.code x :: .inLoop x :: k) cs hr ht hn hds hfn hround (.inl rfl)
      simp only [] at q1 q2 q3 q5 q6
      have hround1 := hround.mono q2.le
      exact RunOk.ext q2 (RunOk.head q6 (hrec (.loop x) _ _ _ _ _ _ _ e2 hok μ1 pd w1 b a1 k (.inLoop x :: k) cs q1 q3 q4 q5 hfn hround1 (.inr ⟨x, rfl, rfl⟩)))
    · obtain ⟨μ1, w1, a1, q1, q2, q3, q4, q5, q6⟩ := hrec x _ _ _ _ _ _ _ e1 hx μ pd w b a (.inLoop x :: k) (.code x :: .inLoop x :: k) cs hr ht hn hds hfn hround (.inl rfl)
      exact ⟨μ1, w1, a1, q1, q2, q3, q4, q5, q6.pass (fun id => exitTo_inLoop id x k) hne⟩
  | scope x =>
    obtain rfl := hself (by intro x; simp)
    have hx := hC.scope x hok
    simp only [stepA] at e
    refine RunOk.head (.one stepR_scope) ?_
    obtain ⟨μ1, w1, a1, q1, q2, q3, q4, q5, q6⟩ := hrec x _ _ _ _ _ _ _ e hx μ pd w b a (.inScope x :: k) (.code x :: .inScope x :: k) cs hr ht hn hds hfn hround (.inl rfl)
    by_cases hne : o.ex = .normal
    · refine ⟨μ1, w1, a1, q1, q2, q3, q4, q5, ?_⟩
      rw [hne] at q6 ⊢
      exact Steps.trans q6 (.one stepR_inScope)
    · exact ⟨μ1, w1, a1, q1, q2, q3, q4, q5, q6.pass (fun id => exitTo_inScope id x k) hne⟩
  | region id ops draw =>
    obtain rfl := hself (by intro x; simp)
    simp only [stepA, regOut] at e
    split at e <;> try (cases e; done)
    rename_i T1 h1 e1
    injection e with e
    subst e
    cases draw with
    | false =>
      simp only [regionA] at e1
      obtain ⟨μ1, w1, a1, q1, q2, q3, q4, q5, q6⟩ := runOps_sound (b := b) (k := k) (cs := cs) hE hF hN hrec ops.toList 0 rfl e1 hr ht hn
      refine ⟨μ1, w1, a1, q1, q2, q3, q4, by rw [q5]; exact hds.mono q2.le, ?_⟩
      have hrange : List.range ops.size = List.range' 0 ops.toList.length := by simp [List.range_eq_range']
      refine Steps.trans (.one stepR_region) ?_
      rw [hrange]
      exact Steps.trans q6 (.one stepR_region_end)
    | true =>
      have hst := hC.region id ops hok
      have hr1 : Rel OkC μ pd h { w with drawn := w.drawn + 1 } := hr.heap_eq rfl ⟨rfl, rfl, rfl⟩
      obtain ⟨μ1, w1, a1, q1, q2, q3, q4, q5, q6⟩ := hdraw ops n T h ⟨T1, h1⟩ hst e1 μ pd _ b a k cs (w.tape w.drawn (.order b.fn id)) hr1 ht hn
      refine ⟨μ1, w1, a1, q1, q2, q3, q4, by rw [q5]; exact hds.mono q2.le, ?_⟩
      refine Steps.trans (.one stepR_region_draw) ?_
      have hsch : Region.schedule (P.follows .mixedOrders) ops (w.tape w.drawn (.order b.fn id)) = Region.linearise .any ops (w.tape w.drawn (.order b.fn id)) := by
        simp [Region.schedule, hmix]
      rw [hsch]
      exact Steps.trans q6 (.one stepR_region_end)
  | rangeFunc g ps x y =>
    obtain rfl := hself (by intro x; simp)
    obtain ⟨hx, hy⟩ := hC.range g ps x y hok
    simp only [stepA, rangeA] at e
    cases round with
    | none =>
      have hro : b.roundOf = none := hround
      simp only [] at e
      unfold allocA at e
      simp only [BT.putK_eq, forceN_eq] at e
      obtain ⟨s1, s2⟩ := alloc_sound (o := .defr false) (ob := .deferred (some [])) (K := 0) hr (by simp [RObj])
      have hd1 := Mu.put_same μ h.next w.heap.size 0
      obtain ⟨s3, s4⟩ := alloc_sound (o := .loop .ready none fn T n ps.toList x y h.next) (ob := .loop { state := .ready, pending := none, fn := fn, tmps := a.tmps, params := ps, assign := x, body := y, defers := w.heap.size }) (K := 0) s1 ⟨a.tmps, w.heap.size, 0, by simp, hn, ht.mono s2.le, hd1, hx, hy⟩
      have hen : (Instr.enterLoop b.fn a.tmps ps x y b.roundOf).run P w = .ok ((w.alloc (.deferred (some []))).heap.size, [{ target := .collected w.heap.size, args := #[] }]) ((w.alloc (.deferred (some []))).alloc (.loop { state := .ready, pending := none, fn := fn, tmps := a.tmps, params := ps, assign := x, body := y, defers := w.heap.size })) := by
        rw [hro, hfn]
        simp only [Instr.enterLoop, Sem.run_bind, Sem.run_pure, Result.andThen_ok]
        rfl
      have hds2 : ∀ {ν : Mu}, (μ.put h.next w.heap.size 0).le ν → RDs ν (h.next :: ds) ([{ target := .collected w.heap.size, args := #[] }] ++ a.defers) := fun hle => ⟨⟨_, _, hle _ _ hd1, rfl⟩, hds.mono (Mu.le_trans s2.le hle)⟩
      obtain ⟨μ1, w1, a1, q1, q2, q3, q4, q5, q6⟩ := range_go (b := b) (k := k) (cs := cs) (ds := h.next :: ds) hE hN hrec s3 (ht.mono (s2.trans s4).le) hn (mark := [{ target := .collected w.heap.size, args := #[] }]) (hds2 s4.le) (Mu.put_same _ _ _ _) hen e
      exact ⟨μ1, w1, a1, q1, (s2.trans s4).trans q2, q3, q4, q5, q6⟩
    | some l0 =>
      obtain ⟨c0, K0, hl0, hro⟩ := hround
      simp only [] at e
      split at e <;> try (cases e; done)
      rename_i st pend fn0 T0 n0 ps0 x0 y0 d hg
      obtain ⟨tm, dd, K', f2, f3, f4, f5, f6, f7⟩ := loop_read hr hl0 hg
      unfold allocA at e
      simp only [BT.putK_eq, forceN_eq] at e
      obtain ⟨s3, s4⟩ := alloc_sound (o := .loop .ready none fn T n ps.toList x y d) (ob := .loop { state := .ready, pending := none, fn := fn, tmps := a.tmps, params := ps, assign := x, body := y, defers := dd }) (K := 0) hr ⟨a.tmps, dd, K', by simp, hn, ht, f5, hx, hy⟩
      have hen : (Instr.enterLoop b.fn a.tmps ps x y b.roundOf).run P w = .ok (w.heap.size, []) (w.alloc (.loop { state := .ready, pending := none, fn := fn, tmps := a.tmps, params := ps, assign := x, body := y, defers := dd })) := by
        rw [hro, hfn]
        simp only [Instr.enterLoop, Instr.getLoop, Sem.run_bind, run_getObj f2 rfl, Sem.run_pure, Result.andThen_ok]
        rfl
      obtain ⟨μ1, w1, a1, q1, q2, q3, q4, q5, q6⟩ := range_go (b := b) (k := k) (cs := cs) hE hN hrec s3 (ht.mono s4.le) hn (mark := []) (hds.mono s4.le) (Mu.put_same _ _ _ _) hen e
      exact ⟨μ1, w1, a1, q1, s4.trans q2, q3, q4, q5, q6⟩
  | goto l => simp [stepA] at e
  | refuse why => simp [stepA] at e
theorem exec_sound (hE : EnvOk P E) (hF : FlatOk P E) (hN : FnsOk P E OkC) (hC : CodeOk OkC ok) (hmix : P.follows .mixedOrders = true) (hdraw : ∀ rec, RecOk P OkC rec → DrawOk P E OkC ok rec) : ∀ m, RecOk P OkC (exec E m)
  | 0 => by
    intro c T ds h n round fn o e
    rw [exec_zero] at e
    cases e
  | m + 1 => by
    rw [exec_succ]
    have := exec_sound hE hF hN hC hmix hdraw m
    exact stepA_sound hE hF hN hC hmix this (hdraw _ this)
end
end Go.Proofs.YtofjmfjgicdjjaaGreat.Ab
