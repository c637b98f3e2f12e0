/- The abstract machine, part 5: what an abstract value says of a value, and an abstract heap of a memory; how both go on together. -/
import Derived.Test.YtofjmfjgicdjjaaGreatAbA
import Derived.Calls
import Derived.Below
import Derived.Laws.Sem
import Derived.Laws.World
import Derived.Laws.Cells
import Derived.Laws.CopyRow
import Derived.Laws.Tables
import Derived.RangeFuncRecord
import Derived.MapKept
import Derived.ChangeKeysEq
set_option linter.unusedVariables false
set_option linter.unusedSimpArgs false
namespace Go.Proofs.YtofjmfjgicdjjaaGreat.Ab
open Go

/-- An abstract block's block, and how many cells that has. -/
abbrev Mu := Nat → Option (Nat × Nat)
def Mu.le (μ ν : Mu) : Prop := ∀ b x, μ b = some x → ν b = some x
theorem Mu.le_refl (μ : Mu) : μ.le μ := fun _ _ h => h
theorem Mu.le_trans {μ ν ξ : Mu} (h : μ.le ν) (k : ν.le ξ) : μ.le ξ := fun b x hx => k b x (h b x hx)
def Mu.put (μ : Mu) (b c K : Nat) : Mu := fun i => if i = b then some (c, K) else μ i
theorem Mu.le_put {μ : Mu} {b c K : Nat} (h : μ b = none) : μ.le (μ.put b c K) := by
  intro i x hx
  unfold Mu.put
  by_cases e : i = b
  · subst e; rw [h] at hx; cases hx
  · rw [if_neg e]; exact hx
theorem Mu.put_same (μ : Mu) (b c K : Nat) : μ.put b c K b = some (c, K) := by simp [Mu.put]
theorem Mu.put_ne (μ : Mu) {b i : Nat} (c K : Nat) (h : i ≠ b) : μ.put b c K i = μ i := by simp [Mu.put, h]

def RPl (μ : Mu) : List (Nat × Nat) → List Value → Prop
  | [], [] => True
  | (b, o) :: p, v :: l => (∃ c K, μ b = some (c, K) ∧ v = .pointer (some ⟨c, o, none⟩)) ∧ RPl μ p l
  | _, _ => False
def R1 (μ : Mu) (a : A1) (v : Value) : Prop :=
  match a with
  | .bool b => v = .bool b
  | .int k n => v = .int k n
  | .nilp => v = .pointer none
  | .ptr b o => ∃ c K, μ b = some (c, K) ∧ v = .pointer (some ⟨c, o, none⟩)
  | .nils => v = .slice none 0 0
  | .sl b o len cap op => ∃ c K cap', μ b = some (c, K) ∧ v = .slice (some ⟨c, o, none⟩) len cap' ∧ len ≤ cap ∧ cap ≤ cap' ∧ (op = 0 → cap' = cap) ∧ (0 < op → o + cap' * op ≤ K)
  | .nilm => v = .map none
  | .map r => ∃ c K, μ r = some (c, K) ∧ v = .map (some c)
  | .nilf => v = .nilFunc
  | .fn f p q => ∃ ps qs : List Value, v = .func (.func f) ps.toArray qs.toArray ∧ RPl μ p ps ∧ RPl μ q qs
  | .yld l => ∃ c K, μ l = some (c, K) ∧ v = .func (.yield c) #[] #[]
  | .str s => v = .string s
  | .emp => ∃ x cap', v = .slice (some x) 0 cap'
def RL (μ : Mu) : List A1 → List Value → Prop
  | [], [] => True
  | a :: l, v :: m => R1 μ a v ∧ RL μ l m
  | _, _ => False
def RV (μ : Mu) (a : AV) (v : Value) : Prop :=
  match a with
  | .one a => R1 μ a v
  | .agg cs => ∃ vs : List Value, v = .agg vs.toArray ∧ RL μ cs vs
def RVs (μ : Mu) : List AV → List Value → Prop
  | [], [] => True
  | a :: l, v :: m => RV μ a v ∧ RVs μ l m
  | _, _ => False
def RT (μ : Mu) (a : AT) (v : Value) : Prop :=
  match a with
  | .v a => RV μ a v
  | .tup l => ∃ vs : List Value, v = .tuple vs.toArray ∧ RVs μ l vs

section mono
variable {μ ν : Mu} (hle : μ.le ν)
include hle
theorem RPl.mono : ∀ {p : List (Nat × Nat)} {l : List Value}, RPl μ p l → RPl ν p l
  | [], [], _ => trivial
  | [], _ :: _, h => h
  | _ :: _, [], h => by cases h
  | (b, o) :: p, v :: l, ⟨⟨c, K, h1, h2⟩, h3⟩ => ⟨⟨c, K, hle _ _ h1, h2⟩, RPl.mono h3⟩
theorem R1.mono {a : A1} {v : Value} (h : R1 μ a v) : R1 ν a v := by
  cases a <;> simp only [R1] at h ⊢ <;> try exact h
  case ptr b o => obtain ⟨c, K, h1, h2⟩ := h; exact ⟨c, K, hle _ _ h1, h2⟩
  case sl b o len cap op => obtain ⟨c, K, cap', h1, h2⟩ := h; exact ⟨c, K, cap', hle _ _ h1, h2⟩
  case map r => obtain ⟨c, K, h1, h2⟩ := h; exact ⟨c, K, hle _ _ h1, h2⟩
  case fn f p q => obtain ⟨ps, qs, h1, h2, h3⟩ := h; exact ⟨ps, qs, h1, h2.mono hle, h3.mono hle⟩
  case yld l => obtain ⟨c, K, h1, h2⟩ := h; exact ⟨c, K, hle _ _ h1, h2⟩
theorem RL.mono : ∀ {l : List A1} {m : List Value}, RL μ l m → RL ν l m
  | [], [], _ => trivial
  | [], _ :: _, h => h
  | _ :: _, [], h => h
  | a :: l, v :: m, ⟨h1, h2⟩ => ⟨h1.mono hle, RL.mono h2⟩
theorem RV.mono {a : AV} {v : Value} (h : RV μ a v) : RV ν a v := by
  cases a with
  | one a => exact R1.mono hle h
  | agg cs => obtain ⟨vs, h1, h2⟩ := h; exact ⟨vs, h1, h2.mono hle⟩
theorem RVs.mono : ∀ {l : List AV} {m : List Value}, RVs μ l m → RVs ν l m
  | [], [], _ => trivial
  | [], _ :: _, h => h
  | _ :: _, [], h => h
  | a :: l, v :: m, ⟨h1, h2⟩ => ⟨h1.mono hle, RVs.mono h2⟩
theorem RT.mono {a : AT} {v : Value} (h : RT μ a v) : RT ν a v := by
  cases a with
  | v a => exact RV.mono hle h
  | tup l => obtain ⟨vs, h1, h2⟩ := h; exact ⟨vs, h1, h2.mono hle⟩
end mono

theorem R1.one {μ : Mu} {a : A1} {v : Value} (h : R1 μ a v) : v.oneCell' = true := by
  cases a <;> simp only [R1] at h
  all_goals first
    | (subst h; rfl)
    | (obtain ⟨c, K, _, rfl⟩ := h; rfl)
    | (obtain ⟨c, K, cap', _, rfl, _⟩ := h; rfl)
    | (obtain ⟨ps, qs, rfl, _⟩ := h; rfl)
    | (obtain ⟨x, c, rfl⟩ := h; rfl)
theorem cells_one {v : Value} (h : v.oneCell' = true) : v.cells = #[v] := by
  cases v <;> first | rfl | simp [Value.oneCell'] at h
theorem R1.cells {μ : Mu} {a : A1} {v : Value} (h : R1 μ a v) : v.cells = #[v] := cells_one h.one
theorem RL.length {μ : Mu} : ∀ {l : List A1} {m : List Value}, RL μ l m → l.length = m.length
  | [], [], _ => rfl
  | [], _ :: _, h => by cases h
  | _ :: _, [], h => by cases h
  | a :: l, v :: m, ⟨_, h2⟩ => by simp [RL.length h2]
theorem RL.all_one {μ : Mu} : ∀ {l : List A1} {m : List Value}, RL μ l m → ∀ v ∈ m, v.oneCell' = true
  | [], [], _, v, hv => by simp at hv
  | [], _ :: _, h, _, _ => by cases h
  | _ :: _, [], h, _, _ => by cases h
  | a :: l, v :: m, ⟨h1, h2⟩, x, hx => by
    rcases List.mem_cons.1 hx with rfl | hx
    · exact h1.one
    · exact RL.all_one h2 x hx
theorem RL.get {μ : Mu} : ∀ {l : List A1} {m : List Value}, RL μ l m → ∀ (i : Nat) (a : A1), l[i]? = some a → ∃ v, m[i]? = some v ∧ R1 μ a v
  | [], _, _, i, a, h => by simp at h
  | _ :: _, [], h, _, _, _ => by cases h
  | b :: l, v :: m, ⟨h1, h2⟩, i, a, h => by
    cases i with
    | zero => simp at h; subst h; exact ⟨v, rfl, h1⟩
    | succ i => simpa using RL.get h2 i a (by simpa using h)
theorem RL.append {μ : Mu} : ∀ {l : List A1} {m : List Value} {l' : List A1} {m' : List Value}, RL μ l m → RL μ l' m' → RL μ (l ++ l') (m ++ m')
  | [], [], _, _, _, h => h
  | [], _ :: _, _, _, h, _ => by cases h
  | _ :: _, [], _, _, h, _ => by cases h
  | a :: l, v :: m, _, _, ⟨h1, h2⟩, h => ⟨h1, RL.append h2 h⟩
/-- The cells of a value. -/
theorem RV.cells {μ : Mu} {a : AV} {v : Value} (h : RV μ a v) : RL μ a.cells v.cells.toList := by
  cases a with
  | one a => have h' : R1 μ a v := h; rw [h'.cells]; exact ⟨h', trivial⟩
  | agg cs => obtain ⟨vs, rfl, h2⟩ := h; exact h2

/-! ### Memory -/
def RTmps (μ : Mu) (T : BT AT) (tm : Array Value) : Prop := ∀ t a, T.get t = some a → ∃ v, tm[t]? = some v ∧ RT μ a v
theorem RTmps.mono {μ ν : Mu} (hle : μ.le ν) {T : BT AT} {tm : Array Value} (h : RTmps μ T tm) : RTmps ν T tm :=
  fun t a ht => let ⟨v, h1, h2⟩ := h t a ht; ⟨v, h1, h2.mono hle⟩
theorem RTmps.put {μ : Mu} {T : BT AT} {tm : Array Value} (h : RTmps μ T tm) {d : Nat} {a : AT} {v : Value} (hd : d < tm.size) (hv : RT μ a v) : RTmps μ (T.put d a) (tm.setIfInBounds d v) := by
  intro t x hx
  rcases BT.get_put_inv _ _ _ _ _ hx with ⟨rfl, rfl⟩ | ⟨hne, hx⟩
  · exact ⟨v, by simp [hd], hv⟩
  · obtain ⟨u, h1, h2⟩ := h t x hx
    exact ⟨u, by rw [Array.getElem?_setIfInBounds_ne (Ne.symm hne)]; exact h1, h2⟩

def REs (μ : Mu) (k : IntKind) : List (Int × AV × Nat) → List MapEntry → Prop
  | [], [] => True
  | (j, v, b) :: l, e :: m => (e.key = .int k j ∧ RV μ v e.val ∧ e.born = b) ∧ REs μ k l m
  | _, _ => False
theorem REs.mono {μ ν : Mu} (hle : μ.le ν) {k : IntKind} : ∀ {l : List (Int × AV × Nat)} {m : List MapEntry}, REs μ k l m → REs ν k l m
  | [], [], _ => trivial
  | [], _ :: _, h => h
  | _ :: _, [], h => h
  | (j, v, b) :: l, e :: m, ⟨⟨h1, h2, h3⟩, h4⟩ => ⟨⟨h1, h2.mono hle, h3⟩, REs.mono hle h4⟩
def RM (μ : Mu) (m : Option Nat) (m' : Option Nat) : Prop :=
  match m with
  | none => m' = none
  | some b => ∃ c K, μ b = some (c, K) ∧ m' = some c
theorem RM.mono {μ ν : Mu} (hle : μ.le ν) {m m' : Option Nat} (h : RM μ m m') : RM ν m m' := by
  cases m with
  | none => exact h
  | some b => obtain ⟨c, K, h1, h2⟩ := h; exact ⟨c, K, hle _ _ h1, h2⟩
/-- What a run begins with: what is asked of codes, the blocks that it may change, the world. -/
structure Cx where
  ok : Code → Bool
  mine : Nat → Prop
  w0 : World
/-- Nothing but these blocks has turned. -/
structure Keeps (mine : Nat → Prop) (w w' : World) : Prop where
  os : w'.os = w.os
  tape : w'.tape = w.tape
  output : w'.output = w.output
  size : w.heap.size ≤ w'.heap.size
  block : ∀ k, ¬ mine k → w'.heap[k]? = w.heap[k]?
theorem Keeps.refl (mine : Nat → Prop) (w : World) : Keeps mine w w := ⟨rfl, rfl, rfl, Nat.le_refl _, fun _ _ => rfl⟩
theorem Keeps.trans {mine : Nat → Prop} {a b c : World} (h : Keeps mine a b) (k : Keeps mine b c) : Keeps mine a c :=
  ⟨k.os.trans h.os, k.tape.trans h.tape, k.output.trans h.output, Nat.le_trans h.size k.size, fun i hi => (k.block i hi).trans (h.block i hi)⟩
theorem Keeps.below {B : Nat} {w w' : World} (h : Keeps (fun c => B ≤ c) w w') : RowKit.Below B w w' :=
  ⟨h.os, h.tape, h.output, h.size, fun k hk => h.block k (by omega)⟩
instance : CoeFun Cx (fun _ => Code → Bool) := ⟨Cx.ok⟩
/-- Nothing but blocks has turned. -/
def Calm (w w' : World) : Prop := w'.os = w.os ∧ w'.tape = w.tape ∧ w'.output = w.output
section
variable (OkC : Cx)
def RObj (μ : Mu) (o : AObj) (ob : Obj) (K : Nat) : Prop :=
  match o with
  | .cells t n _ => ∃ (c : Array Value) (e : TypeId), ob = .cells c e (0, 0) ∧ c.size = K ∧ n ≤ K ∧ ∀ i a, t.get i = some a → ∃ v, c[i]? = some v ∧ R1 μ a v
  | .map k es clock => ∃ ens : Array MapEntry, ob = .map ens clock ∧ REs μ k es ens.toList
  | .iter m since seen last => ∃ m', ob = .mapIter m' since seen.reverse.toArray last ∧ RM μ m m'
  | .loop st pd fn T n ps a b d => ∃ tm dd K', ob = .loop { state := st, pending := pd, fn := fn, tmps := tm, params := ps.toArray, assign := a, body := b, defers := dd } ∧ tm.size = n ∧ RTmps μ T tm ∧ μ d = some (dd, K') ∧ OkC a = true ∧ OkC b = true
  | .defr taken => ob = .deferred (if taken then none else some [])
  | .dead => True
theorem RObj.mono {μ ν : Mu} (hle : μ.le ν) {o : AObj} {ob : Obj} {K : Nat} (h : RObj OkC μ o ob K) : RObj OkC ν o ob K := by
  cases o <;> simp only [RObj] at h ⊢ <;> try exact h
  case cells t n e =>
    obtain ⟨c, e, h1, h2, h3, h4⟩ := h
    exact ⟨c, e, h1, h2, h3, fun i a hi => let ⟨v, p, q⟩ := h4 i a hi; ⟨v, p, q.mono hle⟩⟩
  case map k es clock => obtain ⟨ens, h1, h2⟩ := h; exact ⟨ens, h1, h2.mono hle⟩
  case iter m since seen last => obtain ⟨m', h1, h2⟩ := h; exact ⟨m', h1, h2.mono hle⟩
  case loop st pd fn T n ps a b d => obtain ⟨tm, dd, K', h1, h2, h3, h4, h5⟩ := h; exact ⟨tm, dd, K', h1, h2, h3.mono hle, hle _ _ h4, h5⟩

def Live (h : AHeap) (b : Nat) : Prop := ∃ o, h.t.get b = some o ∧ o ≠ .dead
/-- pd: blocks that the abstract heap has already, and the memory has not yet. -/
structure Rel (μ : Mu) (pd : Nat → Prop) (h : AHeap) (w : World) : Prop where
  obj : ∀ b o, h.t.get b = some o → ¬ pd b → ∃ c K ob, μ b = some (c, K) ∧ w.heap[c]? = some ob ∧ RObj OkC μ o ob K
  inj : ∀ b b' c K K', Live h b → Live h b' → μ b = some (c, K) → μ b' = some (c, K') → b = b'
  bnd : ∀ b c K, μ b = some (c, K) → b < h.next ∧ c < w.heap.size
  pdn : ∀ b, pd b → μ b = none ∧ b < h.next
  base : Keeps OkC.mine OkC.w0 w
  hB : ∀ c, w.heap.size ≤ c → OkC.mine c
  low : ∀ b c K, Live h b → μ b = some (c, K) → OkC.mine c
/-- An object of which less is known. -/
def SubObj (o o' : AObj) : Prop := o = o' ∨ ∃ t t' n e e', o = .cells t n e ∧ o' = .cells t' n e' ∧ ∀ i a, t.get i = some a → t'.get i = some a
theorem SubObj.refl (o : AObj) : SubObj o o := .inl rfl
theorem SubObj.trans {a b c : AObj} (h : SubObj a b) (k : SubObj b c) : SubObj a c := by
  rcases h with rfl | ⟨t, t', n, e, e', rfl, rfl, h⟩
  · exact k
  · rcases k with rfl | ⟨u, u', m, f, f', hu, rfl, k⟩
    · exact .inr ⟨_, _, _, _, _, rfl, rfl, h⟩
    · injection hu with h1 h2 h3
      subst h1 h2 h3
      exact .inr ⟨_, _, _, _, _, rfl, rfl, fun i a hi => k i a (h i a hi)⟩
theorem RObj.sub {μ : Mu} {o o' : AObj} {ob : Obj} {K : Nat} (hs : SubObj o o') (h : RObj OkC μ o' ob K) : RObj OkC μ o ob K := by
  rcases hs with rfl | ⟨t, t', n, e, e', rfl, rfl, hs⟩
  · exact h
  · obtain ⟨c, el, h1, h2, h3, h4⟩ := h
    exact ⟨c, el, h1, h2, h3, fun i a hi => h4 i a (hs i a hi)⟩
/-- Of block b no more is known in h' than in h. -/
def SubAt (h h' : AHeap) (b : Nat) : Prop := ∀ o, h'.t.get b = some o → ∃ o', h.t.get b = some o' ∧ SubObj o o'
theorem SubAt.of_eq {h h' : AHeap} {b : Nat} (e : h'.t.get b = h.t.get b) : SubAt h h' b := fun o ho => ⟨o, by rw [← e]; exact ho, SubObj.refl o⟩
theorem SubAt.trans {h h' h'' : AHeap} {b : Nat} (k : SubAt h h' b) (k' : SubAt h' h'' b) : SubAt h h'' b := fun o ho =>
  let ⟨o', h1, h2⟩ := k' o ho
  let ⟨o'', h3, h4⟩ := k o' h1
  ⟨o'', h3, h2.trans h4⟩
/-- How far a run goes on: old blocks stay where they are, pending ones stay as they are. -/
structure Ext (μ : Mu) (pd : Nat → Prop) (h : AHeap) (μ' : Mu) (h' : AHeap) : Prop where
  le : μ.le μ'
  keep : ∀ b, pd b → SubAt h h' b
  next : h.next ≤ h'.next
theorem Ext.refl (μ : Mu) (pd : Nat → Prop) (h : AHeap) : Ext μ pd h μ h := ⟨Mu.le_refl _, fun _ _ => SubAt.of_eq rfl, Nat.le_refl _⟩
theorem Ext.trans {μ μ' μ'' : Mu} {pd : Nat → Prop} {h h' h'' : AHeap} (a : Ext μ pd h μ' h') (b : Ext μ' pd h' μ'' h'') : Ext μ pd h μ'' h'' :=
  ⟨Mu.le_trans a.le b.le, fun x hx => (a.keep x hx).trans (b.keep x hx), Nat.le_trans a.next b.next⟩

variable {OkC}
theorem Rel.heap_eq {μ : Mu} {pd : Nat → Prop} {h : AHeap} {w w' : World} (r : Rel OkC μ pd h w) (e : w'.heap = w.heap) (q : Calm w w') : Rel OkC μ pd h w' := by
  obtain ⟨a, b, c, d, f, g, i⟩ := r
  exact ⟨by rw [e]; exact a, b, by rw [e]; exact c, d, ⟨q.1.trans f.os, q.2.1.trans f.tape, q.2.2.trans f.output, by rw [e]; exact f.size, by rw [e]; exact f.block⟩, by rw [e]; exact g, i⟩
/-- Memory has grown; nothing else. -/
theorem Rel.grow {μ : Mu} {pd : Nat → Prop} {h : AHeap} {w w' : World} (r : Rel OkC μ pd h w) (hs : w.heap.size ≤ w'.heap.size) (he : ∀ i, i < w.heap.size → w'.heap[i]? = w.heap[i]?) (q : Calm w w') : Rel OkC μ pd h w' := by
  obtain ⟨a, b, c, d, f, g, lo⟩ := r
  refine ⟨fun b o ho hp => ?_, b, fun b x K hx => ⟨(c b x K hx).1, Nat.lt_of_lt_of_le (c b x K hx).2 hs⟩, d, f.trans ⟨q.1, q.2.1, q.2.2, hs, fun k hk => he k (Nat.lt_of_not_le fun c => hk (g k c))⟩, fun c hc => g c (Nat.le_trans hs hc), lo⟩
  obtain ⟨x, K, ob, h1, h2, h3⟩ := a b o ho hp
  exact ⟨x, K, ob, h1, by rw [he x (c b x K h1).2]; exact h2, h3⟩
theorem Rel.nopd {μ : Mu} {pd : Nat → Prop} {h : AHeap} {w : World} (r : Rel OkC μ pd h w) {b c K : Nat} (hb : μ b = some (c, K)) : ¬ pd b := by
  intro hp
  rw [(r.pdn b hp).1] at hb
  cases hb
theorem Rel.fresh {μ : Mu} {pd : Nat → Prop} {h : AHeap} {w : World} (r : Rel OkC μ pd h w) {b : Nat} (hb : h.next ≤ b) : μ b = none := by
  cases e : μ b with
  | none => rfl
  | some x => have := (r.bnd b x.1 x.2 e).1; omega
/-- A new block on both sides. -/
theorem Rel.alloc {μ : Mu} {pd : Nat → Prop} {h : AHeap} {w w' : World} (r : Rel OkC μ pd h w) {o : AObj} {ob : Obj} {K : Nat}
    (hs : w'.heap.size = w.heap.size + 1) (hn : w'.heap[w.heap.size]? = some ob) (he : ∀ i, i < w.heap.size → w'.heap[i]? = w.heap[i]?) (ho : RObj OkC μ o ob K) (q : Calm w w') :
    Rel OkC (μ.put h.next w.heap.size K) pd ⟨h.t.put h.next o, h.next + 1⟩ w' ∧ Ext μ pd h (μ.put h.next w.heap.size K) ⟨h.t.put h.next o, h.next + 1⟩ := by
  have hf := r.fresh (Nat.le_refl h.next)
  have hle : μ.le (μ.put h.next w.heap.size K) := Mu.le_put hf
  have hgB := r.hB
  refine ⟨⟨fun b x hx hp => ?_, fun b b' c K1 K2 h1 h2 h3 h4 => ?_, fun b c K1 h3 => ?_, fun b hp => ?_, r.base.trans ⟨q.1, q.2.1, q.2.2, by omega, fun k hk => he k (Nat.lt_of_not_le fun c => hk (hgB k c))⟩, fun c hc => hgB c (by omega), fun b c K1 hlv h3 => ?_⟩, hle, fun b hp => SubAt.of_eq ?_, Nat.le_succ _⟩
  · rcases BT.get_put_inv _ _ _ _ _ hx with ⟨rfl, rfl⟩ | ⟨hne, hx⟩
    · exact ⟨_, _, _, Mu.put_same _ _ _ _, hn, ho.mono OkC hle⟩
    · obtain ⟨c, K1, ob1, p, q, s⟩ := r.obj b x hx hp
      exact ⟨c, K1, ob1, hle _ _ p, by rw [he c (r.bnd b c K1 p).2]; exact q, s.mono OkC hle⟩
  · have live_of : ∀ b, Live ⟨h.t.put h.next o, h.next + 1⟩ b → b ≠ h.next → Live h b := by
      rintro b ⟨x, hx, hd⟩ hne
      rcases BT.get_put_inv _ _ _ _ _ hx with ⟨rfl, _⟩ | ⟨_, hx⟩
      · exact absurd rfl hne
      · exact ⟨x, hx, hd⟩
    by_cases e : b = h.next
    · by_cases e' : b' = h.next
      · rw [e, e']
      · rw [e, Mu.put_same] at h3
        rw [Mu.put_ne _ _ _ e'] at h4
        have := (r.bnd b' c K2 h4).2
        simp only [Option.some.injEq, Prod.mk.injEq] at h3
        omega
    · by_cases e' : b' = h.next
      · rw [e', Mu.put_same] at h4
        rw [Mu.put_ne _ _ _ e] at h3
        have := (r.bnd b c K1 h3).2
        simp only [Option.some.injEq, Prod.mk.injEq] at h4
        omega
      · rw [Mu.put_ne _ _ _ e] at h3
        rw [Mu.put_ne _ _ _ e'] at h4
        exact r.inj b b' c K1 K2 (live_of b h1 e) (live_of b' h2 e') h3 h4
  · by_cases e : b = h.next
    · rw [e, Mu.put_same] at h3
      simp only [Option.some.injEq, Prod.mk.injEq] at h3
      exact ⟨by show b < h.next + 1; omega, by omega⟩
    · rw [Mu.put_ne _ _ _ e] at h3
      have := r.bnd b c K1 h3
      exact ⟨by show b < h.next + 1; omega, by omega⟩
  · have := r.pdn b hp
    refine ⟨?_, by show b < h.next + 1; omega⟩
    rw [Mu.put_ne _ _ _ (by omega)]
    exact this.1
  · by_cases e : b = h.next
    · rw [e, Mu.put_same] at h3
      simp only [Option.some.injEq, Prod.mk.injEq] at h3
      exact hgB c (by omega)
    · rw [Mu.put_ne _ _ _ e] at h3
      refine r.low b c K1 ?_ h3
      obtain ⟨x, hx, hd⟩ := hlv
      rcases BT.get_put_inv _ _ _ _ _ hx with ⟨hh, _⟩ | ⟨_, hx⟩
      · exact absurd hh e
      · exact ⟨x, hx, hd⟩
  · have := r.pdn b hp
    show (h.t.put h.next o).get b = h.t.get b
    exact BT.get_put_ne _ _ _ _ (by omega)
/-- A block's object is laid anew on both sides. -/
theorem Rel.set {μ : Mu} {pd : Nat → Prop} {h : AHeap} {w w' : World} (r : Rel OkC μ pd h w) {b c K : Nat} {o o' : AObj} {ob' : Obj}
    (hb : h.t.get b = some o) (hd : o ≠ .dead) (hμ : μ b = some (c, K))
    (hs : w'.heap.size = w.heap.size) (hn : w'.heap[c]? = some ob') (he : ∀ i, i ≠ c → w'.heap[i]? = w.heap[i]?) (ho : RObj OkC μ o' ob' K) (q : Calm w w') :
    Rel OkC μ pd ⟨h.t.put b o', h.next⟩ w' ∧ Ext μ pd h μ ⟨h.t.put b o', h.next⟩ := by
  have hlb : Live h b := ⟨o, hb, hd⟩
  refine ⟨⟨fun b1 x hx hp => ?_, fun b1 b2 c1 K1 K2 h1 h2 h3 h4 => ?_, fun b1 c1 K1 h3 => ?_, r.pdn, r.base.trans ⟨q.1, q.2.1, q.2.2, by omega, fun k hk => he k (fun e => hk (by rw [e]; exact r.low b c K hlb hμ))⟩, by rw [hs]; exact r.hB, fun b1 c1 K1 ⟨x, hx, hdx⟩ h3 => r.low b1 c1 K1 (by
      rcases BT.get_put_inv _ _ _ _ _ hx with ⟨rfl, _⟩ | ⟨_, hx⟩
      · exact hlb
      · exact ⟨x, hx, hdx⟩) h3⟩, Mu.le_refl _, fun b1 hp => SubAt.of_eq ?_, Nat.le_refl _⟩
  · rcases BT.get_put_inv _ _ _ _ _ hx with ⟨rfl, rfl⟩ | ⟨hne, hx⟩
    · exact ⟨c, K, ob', hμ, hn, ho⟩
    · obtain ⟨c1, K1, ob1, p, q, s⟩ := r.obj b1 x hx hp
      by_cases e : c1 = c
      · subst e
        by_cases ed : x = .dead
        · subst ed; exact ⟨c1, K1, ob', p, hn, trivial⟩
        · exact absurd (r.inj b1 b c1 K1 K ⟨x, hx, ed⟩ hlb p hμ) hne
      · exact ⟨c1, K1, ob1, p, by rw [he c1 e]; exact q, s⟩
  · have live_of : ∀ i, Live ⟨h.t.put b o', h.next⟩ i → Live h i := by
      rintro i ⟨x, hx, hdx⟩
      rcases BT.get_put_inv _ _ _ _ _ hx with ⟨rfl, _⟩ | ⟨_, hx⟩
      · exact hlb
      · exact ⟨x, hx, hdx⟩
    exact r.inj b1 b2 c1 K1 K2 (live_of _ h1) (live_of _ h2) h3 h4
  · have := r.bnd b1 c1 K1 h3
    exact ⟨this.1, by omega⟩
  · show (h.t.put b o').get b1 = h.t.get b1
    refine BT.get_put_ne _ _ _ _ ?_
    rintro rfl
    exact r.nopd hμ hp
/-- A block that nobody may look at any more. -/
theorem Rel.kill {μ : Mu} {pd : Nat → Prop} {h : AHeap} {w : World} (r : Rel OkC μ pd h w) {b : Nat} {c K : Nat} (hμ : μ b = some (c, K)) :
    Rel OkC μ pd ⟨h.t.put b .dead, h.next⟩ w ∧ Ext μ pd h μ ⟨h.t.put b .dead, h.next⟩ := by
  refine ⟨⟨fun b1 x hx hp => ?_, fun b1 b2 c1 K1 K2 h1 h2 h3 h4 => ?_, r.bnd, r.pdn, r.base, r.hB, fun b1 c1 K1 ⟨x, hx, hdx⟩ h3 => r.low b1 c1 K1 (by
      rcases BT.get_put_inv _ _ _ _ _ hx with ⟨rfl, rfl⟩ | ⟨_, hx⟩
      · exact absurd rfl hdx
      · exact ⟨x, hx, hdx⟩) h3⟩, Mu.le_refl _, fun b1 hp => SubAt.of_eq ?_, Nat.le_refl _⟩
  · rcases BT.get_put_inv _ _ _ _ _ hx with ⟨rfl, rfl⟩ | ⟨hne, hx⟩
    · have := (r.bnd b1 c K hμ).2
      exact ⟨c, K, w.heap[c], hμ, by simp [this], trivial⟩
    · exact r.obj b1 x hx hp
  · have live_of : ∀ i, Live ⟨h.t.put b .dead, h.next⟩ i → Live h i := by
      rintro i ⟨x, hx, hdx⟩
      rcases BT.get_put_inv _ _ _ _ _ hx with ⟨rfl, rfl⟩ | ⟨_, hx⟩
      · exact absurd rfl hdx
      · exact ⟨x, hx, hdx⟩
    exact r.inj b1 b2 c1 K1 K2 (live_of _ h1) (live_of _ h2) h3 h4
  · show (h.t.put b .dead).get b1 = h.t.get b1
    refine BT.get_put_ne _ _ _ _ ?_
    rintro rfl
    exact r.nopd hμ hp
end
end Go.Proofs.YtofjmfjgicdjjaaGreat.Ab
/- The abstract machine, part 6: what an operation yields abstractly, it yields in the model. -/
set_option linter.unusedVariables false
set_option linter.unusedSimpArgs false
namespace Go.Proofs.YtofjmfjgicdjjaaGreat.Ab
open Go

structure TypeOk (P : Program) (t : TypeId) (i : TI) : Prop where
  under : P.underlying t = some i.desc
  info : ∃ inf, P.info? t = some inf ∧ inf.size = i.size ∧ ∀ z, i.zero = some z → ∃ zv, inf.zero = some zv ∧ ∀ μ, RV μ z zv
  agg : i.agg = isAggD i.desc
  bytes : ∀ inf, P.info? t = some inf → inf.bytes ≤ 1048576
  fields : ∀ fs, i.desc = .struct fs → ∀ f ∈ fs.toList, ∃ inf, P.info? f.type = some inf
structure EnvOk (P : Program) (E : Env) : Prop where
  tys : ∀ t i, E.tys.get t = some i → TypeOk P t i

section
variable {P : Program} {w : World}
theorem TypeOk.run_under {t : TypeId} {i : TI} (h : TypeOk P t i) : (underlying t).run P w = .ok i.desc w := run_underlying h.under w
theorem TypeOk.cellsOf {t : TypeId} {i : TI} (h : TypeOk P t i) : P.cellsOf t = i.size := by
  obtain ⟨inf, h1, h2, _⟩ := h.info
  simp [Program.cellsOf, h1, h2]
theorem TypeOk.run_size {t : TypeId} {i : TI} (h : TypeOk P t i) : (sizeOf t).run P w = .ok i.size w := by
  obtain ⟨inf, h1, h2, _⟩ := h.info
  rw [run_sizeOf w h1, h.cellsOf]
theorem TypeOk.run_isAgg {t : TypeId} {i : TI} (h : TypeOk P t i) : (isAgg t).run P w = .ok i.agg w := by
  rw [h.agg]
  unfold isAgg
  simp only [Sem.run_bind, h.run_under, Result.andThen_ok]
  cases i.desc <;> rfl
theorem TypeOk.run_zero {t : TypeId} {i : TI} {z : AV} (h : TypeOk P t i) (hz : i.zero = some z) : ∃ zv, (∀ μ, RV μ z zv) ∧ (zeroValue t).run P w = .ok zv w := by
  obtain ⟨inf, h1, h2, h3⟩ := h.info
  obtain ⟨zv, h4, h5⟩ := h3 z hz
  refine ⟨zv, h5, ?_⟩
  unfold zeroValue
  simp only [Sem.run_bind, run_typeInfo w h1, Result.andThen_ok, h4]
  rfl
end

theorem ble_false {a b : Nat} (h : Nat.ble a b = false) : b < a := by
  rcases Nat.lt_or_ge b a with c | c
  · exact c
  · rw [Nat.ble_eq_true_of_le c] at h; cases h
theorem ble_true {a b : Nat} (h : Nat.ble a b = true) : a ≤ b := Nat.le_of_ble_eq_true h
theorem wrap_i64 (n : Int) (h0 : -9223372036854775808 ≤ n) (h1 : n < 9223372036854775808) : IntKind.i64.wrap n = n := by
  unfold IntKind.wrap
  simp only [IntKind.bits, IntKind.signed, show (2 : Int) ^ 64 = 18446744073709551616 from rfl, show (2 : Int) ^ (64 - 1) = 9223372036854775808 from rfl, Bool.true_and]
  split
  · rename_i h; simp at h; omega
  · rename_i h; simp at h; omega
theorem wrap_u64 (n : Int) : IntKind.u64.wrap n = n % 18446744073709551616 := by
  unfold IntKind.wrap
  simp only [IntKind.bits, IntKind.signed, show (2 : Int) ^ 64 = 18446744073709551616 from rfl, Bool.false_and]
  rfl
theorem wrap_u8 (n : Int) : IntKind.u8.wrap n = n % 256 := by
  unfold IntKind.wrap
  simp only [IntKind.bits, IntKind.signed, show (2 : Int) ^ 8 = 256 from rfl, Bool.false_and]
  rfl
theorem wrapF_eq (k : IntKind) (n : Int) : wrapF k n = k.wrap n := by
  cases k <;> cases n <;> simp only [wrapF, wrapO]
  case i64.ofNat m =>
    cases h : Nat.ble 9223372036854775808 m
    · have := ble_false h
      have e : Int.ofNat m = (m : Int) := rfl
      rw [e, wrap_i64 _ (by omega) (by omega)]
    · rfl
  case i64.negSucc m =>
    cases h : Nat.ble 9223372036854775808 m
    · have := ble_false h
      rw [Int.negSucc_eq, wrap_i64 _ (by omega) (by omega)]
    · rfl
  case u64.ofNat m => rw [wrap_u64]; rfl
  case u8.ofNat m => rw [wrap_u8]; rfl

section
variable {P : Program} {w : World} {μ : Mu}
theorem retI_some {k : IntKind} {n : Int} {a : AT} (h : retI k n = some a) : a = .v (.one (.int k n)) := by
  rw [retI, forceI_eq] at h
  injection h with h
  exact h.symm
theorem retB_some {b : Bool} {a : AT} (h : retB b = some a) : a = .v (.one (.bool b)) := by
  cases b <;> simp [retB] at h <;> exact h.symm
theorem sameK_eq {k j : IntKind} (h : sameK k j = true) : k = j := by
  cases k <;> cases j <;> first | rfl | (simp [sameK, kindN] at h)
theorem eqI_eq (x y : Int) : eqI x y = (x == y) := by
  cases x <;> cases y <;> simp only [eqI]
  · rename_i a b
    rw [Bool.eq_iff_iff, Nat.beq_eq, beq_iff_eq]
    exact ⟨fun e => by rw [e], fun e => by injection e⟩
  · rfl
  · rfl
  · rename_i a b
    rw [Bool.eq_iff_iff, Nat.beq_eq, beq_iff_eq]
    exact ⟨fun e => by rw [e], fun e => by injection e⟩
theorem ltI_eq (x y : Int) : ltI x y = decide (x < y) := by
  cases x <;> cases y <;> simp only [ltI]
  · rename_i a b
    have e : Int.ofNat a = (a : Int) := rfl
    have e' : Int.ofNat b = (b : Int) := rfl
    rw [e, e']
    cases h : Nat.ble (Nat.succ a) b
    · have := ble_false h; symm; rw [decide_eq_false_iff_not]; omega
    · have := ble_true h; symm; rw [decide_eq_true_iff]; omega
  · rename_i a b
    have e : Int.ofNat a = (a : Int) := rfl
    rw [e, Int.negSucc_eq]; symm; rw [decide_eq_false_iff_not]; omega
  · rename_i a b
    have e : Int.ofNat b = (b : Int) := rfl
    rw [e, Int.negSucc_eq]; symm; rw [decide_eq_true_iff]; omega
  · rename_i a b
    rw [Int.negSucc_eq, Int.negSucc_eq]
    cases h : Nat.ble (Nat.succ b) a
    · have := ble_false h; symm; rw [decide_eq_false_iff_not]; omega
    · have := ble_true h; symm; rw [decide_eq_true_iff]; omega
theorem addI_eq (x y : Int) : addI x y = x + y := by cases x <;> cases y <;> rfl
theorem mulI_eq (x y : Int) : mulI x y = x * y := by cases x <;> cases y <;> rfl
theorem subI_eq (x y : Int) : subI x y = x - y := by
  cases x <;> cases y <;> simp only [subI]
  rename_i a b
  cases h : Nat.ble b a
  · rfl
  · have : b ≤ a := Nat.le_of_ble_eq_true h
    simp only []
    show ((a - b : Nat) : Int) = (a : Int) - (b : Int)
    omega
theorem minN_eq (a b : Nat) : minN a b = min a b := by
  unfold minN
  cases h : Nat.ble a b
  · have := ble_false h; simp only []; omega
  · have := ble_true h; simp only []; omega
theorem bitsOf_eq (k : IntKind) : bitsOf k = k.bits := by cases k <;> rfl
theorem topOf_le (k : IntKind) : topOf k ≤ 2 ^ k.bits := by cases k <;> decide
theorem wrap_small (k : IntKind) (n : Nat) (h : n < topOf k) : k.wrap (n : Int) = n := by
  cases k <;> simp only [topOf] at h <;> simp [IntKind.wrap, IntKind.bits, IntKind.signed] <;> omega
theorem topOf_pow (k : IntKind) : ∃ e, topOf k = 2 ^ e := by
  cases k
  · exact ⟨7, rfl⟩
  · exact ⟨15, rfl⟩
  · exact ⟨31, rfl⟩
  · exact ⟨63, rfl⟩
  · exact ⟨8, rfl⟩
  · exact ⟨16, rfl⟩
  · exact ⟨32, rfl⟩
  · exact ⟨64, rfl⟩

theorem run_intBits (op : BinOp) (f : Nat → Nat → Nat) (k : IntKind) (a b : Nat) (ha : a < topOf k) (hb : b < topOf k)
    (hop : (op = .and ∧ f = Nat.land) ∨ (op = .or ∧ f = Nat.lor) ∨ (op = .xor ∧ f = Nat.xor)) :
    (Op.intBits op k (a : Int) (b : Int)).run P w = .ok (.int k (f a b : Nat)) w := by
  have hal : a < 2 ^ k.bits := Nat.lt_of_lt_of_le ha (topOf_le k)
  have hbl : b < 2 ^ k.bits := Nat.lt_of_lt_of_le hb (topOf_le k)
  have ea : (BitVec.ofInt k.bits (a : Int)).toNat = a := by simp; exact Nat.mod_eq_of_lt hal
  have eb : (BitVec.ofInt k.bits (b : Int)).toNat = b := by simp; exact Nat.mod_eq_of_lt hbl
  obtain ⟨e, he⟩ := topOf_pow k
  rw [he] at ha hb
  rcases hop with ⟨rfl, rfl⟩ | ⟨rfl, rfl⟩ | ⟨rfl, rfl⟩
  · simp only [Op.intBits, Sem.run_pure, BitVec.toNat_and, ea, eb]
    rw [wrap_small k _ (by rw [he]; exact Nat.and_lt_two_pow _ hb)]
    rfl
  · simp only [Op.intBits, Sem.run_pure, BitVec.toNat_or, ea, eb]
    rw [wrap_small k _ (by rw [he]; exact Nat.or_lt_two_pow ha hb)]
    rfl
  · simp only [Op.intBits, Sem.run_pure, BitVec.toNat_xor, ea, eb]
    rw [wrap_small k _ (by rw [he]; exact Nat.xor_lt_two_pow ha hb)]
    rfl

/-- An operation on two whole numbers. -/
theorem run_binInt {op : BinOp} {k j : IntKind} {x y : Int} {a : AT} {t : TypeId} (h : binInt op k j x y = some a) :
    ∃ v, (binOp op t (.int k x) (.int j y)).run P w = .ok v w ∧ RT μ a v := by
  cases op <;> simp only [binInt, whenK] at h <;> try (simp at h; done)
  case shl =>
    cases x <;> cases y <;> simp only [shlF] at h <;> try (simp at h; done)
    rename_i a' b'
    obtain rfl := retI_some h
    refine ⟨_, ?_, rfl⟩
    simp only [binOp, Op.shift]
    rw [if_neg (by simp), wrapF_eq, minN_eq, bitsOf_eq]
    simp only [Sem.run_pure]
    congr 3
    try (show (a' : Int) * 2 ^ (min b' k.bits) = ((a' * 2 ^ (min b' k.bits) : Nat) : Int); simp)
  case shr =>
    cases x <;> cases y <;> simp only [shrF] at h <;> try (simp at h; done)
    rename_i a' b'
    obtain rfl := retI_some h
    refine ⟨_, ?_, rfl⟩
    simp only [binOp, Op.shift]
    rw [if_neg (by simp), minN_eq, bitsOf_eq]
    simp only [Sem.run_pure]
    congr 2
    show (a' : Int).fdiv (2 ^ (min b' k.bits)) = ((a' / 2 ^ (min b' k.bits) : Nat) : Int)
    have e : (2 : Int) ^ (min b' k.bits) = ((2 ^ (min b' k.bits) : Nat) : Int) := by simp
    rw [e, Int.fdiv_eq_ediv_of_nonneg _ (Int.natCast_nonneg _)]
    rfl
  all_goals
    cases hk : sameK k j <;> rw [hk] at h <;> simp only [] at h <;> try (simp at h; done)
    obtain rfl := sameK_eq hk
  case add => obtain rfl := retI_some h; exact ⟨_, by simp [binOp, Op.intArith, wrapF_eq, addI_eq], rfl⟩
  case sub => obtain rfl := retI_some h; exact ⟨_, by simp [binOp, Op.intArith, wrapF_eq, subI_eq], rfl⟩
  case mul => obtain rfl := retI_some h; exact ⟨_, by simp [binOp, Op.intArith, wrapF_eq, mulI_eq], rfl⟩
  case quo =>
    cases x <;> cases y <;> simp only [quoF] at h <;> try (simp at h; done)
    rename_i a' b'
    cases b' <;> simp only [] at h <;> try (simp at h; done)
    rename_i b'
    obtain rfl := retI_some h
    refine ⟨_, ?_, rfl⟩
    simp only [binOp, ne_eq, not_true_eq_false, if_false, Op.intDiv]
    rw [if_neg (by simp; omega), wrapF_eq]
    simp only [Sem.run_pure]
    congr 3
  case rem =>
    cases x <;> cases y <;> simp only [remF] at h <;> try (simp at h; done)
    rename_i a' b'
    cases b' <;> simp only [] at h <;> try (simp at h; done)
    rename_i b'
    obtain rfl := retI_some h
    refine ⟨_, ?_, rfl⟩
    simp only [binOp, ne_eq, not_true_eq_false, if_false, Op.intDiv]
    rw [if_neg (by simp; omega)]
    simp only [Sem.run_pure]
    congr 2
  case and =>
    cases x <;> cases y <;> simp only [bitsF] at h <;> try (simp at h; done)
    rename_i a' b'
    cases h1 : Nat.ble (topOf k) a' <;> rw [h1] at h <;> simp only [] at h <;> try (simp at h; done)
    cases h2 : Nat.ble (topOf k) b' <;> rw [h2] at h <;> simp only [] at h <;> try (simp at h; done)
    obtain rfl := retI_some h
    refine ⟨_, ?_, rfl⟩
    simp only [binOp, ne_eq, not_true_eq_false, if_false]
    exact run_intBits .and Nat.land k a' b' (ble_false h1) (ble_false h2) (.inl ⟨rfl, rfl⟩)
  case or =>
    cases x <;> cases y <;> simp only [bitsF] at h <;> try (simp at h; done)
    rename_i a' b'
    cases h1 : Nat.ble (topOf k) a' <;> rw [h1] at h <;> simp only [] at h <;> try (simp at h; done)
    cases h2 : Nat.ble (topOf k) b' <;> rw [h2] at h <;> simp only [] at h <;> try (simp at h; done)
    obtain rfl := retI_some h
    refine ⟨_, ?_, rfl⟩
    simp only [binOp, ne_eq, not_true_eq_false, if_false]
    exact run_intBits .or Nat.lor k a' b' (ble_false h1) (ble_false h2) (.inr (.inl ⟨rfl, rfl⟩))
  case xor =>
    cases x <;> cases y <;> simp only [bitsF] at h <;> try (simp at h; done)
    rename_i a' b'
    cases h1 : Nat.ble (topOf k) a' <;> rw [h1] at h <;> simp only [] at h <;> try (simp at h; done)
    cases h2 : Nat.ble (topOf k) b' <;> rw [h2] at h <;> simp only [] at h <;> try (simp at h; done)
    obtain rfl := retI_some h
    refine ⟨_, ?_, rfl⟩
    simp only [binOp, ne_eq, not_true_eq_false, if_false]
    exact run_intBits .xor Nat.xor k a' b' (ble_false h1) (ble_false h2) (.inr (.inr ⟨rfl, rfl⟩))
  all_goals
    obtain rfl := retB_some h
    refine ⟨_, ?_, rfl⟩
    simp only [binOp, ne_eq, not_true_eq_false, if_false, Op.intCmp, Sem.run_pure, eqI_eq, ltI_eq]
    try rfl
  all_goals
    congr 2
    rw [Bool.eq_iff_iff]
    simp
end
end Go.Proofs.YtofjmfjgicdjjaaGreat.Ab
/- The abstract machine, part 7: operations that make nothing and change nothing, one by one. -/
set_option linter.unusedVariables false
set_option linter.unusedSimpArgs false
namespace Go.Proofs.YtofjmfjgicdjjaaGreat.Ab
open Go
section
variable {P : Program} {E : Env} {w : World} {μ : Mu} {OkC : Cx} {pd : Nat → Prop} {h : AHeap}

theorem ofCell_sound {v : Value} {a : A1} (e : ofCell v = some a) : R1 μ a v := by
  unfold ofCell at e
  split at e <;> try (cases e; done)
  all_goals first
    | (rw [forceI_eq] at e; injection e with e; subst e; rfl)
    | (injection e with e; subst e; rfl)
theorem ofCells_sound : ∀ {vs : List Value} {l : List A1}, ofCells vs = some l → RL μ l vs
  | [], l, e => by simp [ofCells] at e; subst e; trivial
  | v :: vs, l, e => by
    simp only [ofCells] at e
    split at e <;> try (cases e; done)
    rename_i a ha
    split at e <;> try (cases e; done)
    rename_i r hr
    injection e with e
    subst e
    exact ⟨ofCell_sound ha, ofCells_sound hr⟩
theorem ofValue_sound {v : Value} {a : AV} (e : ofValue v = some a) : RV μ a v := by
  unfold ofValue at e
  split at e
  · split at e <;> try (cases e; done)
    rename_i l hl
    injection e with e
    subst e
    exact ⟨_, by simp, ofCells_sound hl⟩
  · split at e <;> try (cases e; done)
    rename_i a ha
    injection e with e
    subst e
    exact ofCell_sound ha
theorem ofConst_sound {v : Value} {a : AT} (e : ofConst v = some a) : RT μ a v := by
  unfold ofConst at e
  split at e <;> try (cases e; done)
  · rw [forceI_eq] at e; injection e with e; subst e; rfl
  · injection e with e; subst e; rfl
  · split at e <;> try (cases e; done)
    simp only [oneC] at e; injection e with e; subst e; rfl
  · split at e <;> try (cases e; done)
    split at e <;> try (cases e; done)
    split at e <;> try (cases e; done)
    simp only [oneC] at e; injection e with e; subst e; rfl
  · split at e <;> try (cases e; done)
    simp only [oneC] at e; injection e with e; subst e; rfl
  · simp only [oneC] at e; injection e with e; subst e; rfl
  · simp only [oneC] at e; injection e with e; subst e; rfl
  · split at e <;> try (cases e; done)
    rename_i l hl
    injection e with e
    subst e
    exact ⟨_, by simp, ofCells_sound hl⟩
  · rename_i vs
    split at e <;> try (cases e; done)
    rename_i hvs
    injection e with e
    subst e
    exact ⟨[], by rw [← hvs], trivial⟩
theorem opnd_sound {T : BT AT} {fr : Frame} (hT : RTmps μ T fr.tmps) {x : Operand} {a : AT} (e : opnd T x = some a) : RT μ a (fr.eval x) := by
  cases x with
  | tmp t =>
    obtain ⟨v, h1, h2⟩ := hT t a e
    have : fr.eval (.tmp t) = v := by
      show fr.tmps.getD t undef = v
      rw [Array.getD_eq_getD_getElem?, h1]; rfl
    rw [this]; exact h2
  | const v => exact ofConst_sound e
  | func f =>
    simp only [opnd] at e
    injection e with e
    subst e
    exact ⟨[], [], rfl, trivial, trivial⟩
  | global g => simp [opnd] at e

/-- How operands are read on both sides. -/
def Reads (μ : Mu) (ρ : Operand → Option AT) (σ : Operand → Value) : Prop := ∀ x a, ρ x = some a → RT μ a (σ x)
variable {ρ : Operand → Option AT} {σ : Operand → Value} (hρ : Reads μ ρ σ)

theorem loadFrom_list {t : BT A1} : ∀ {n o : Nat} {l : List A1}, loadFrom t o n = some l → l.length = n ∧ ∀ i a, l[i]? = some a → t.get (o + i) = some a
  | 0, o, l, e => by simp [loadFrom] at e; subst e; exact ⟨rfl, fun i a hi => by simp at hi⟩
  | n + 1, o, l, e => by
    simp only [loadFrom] at e
    split at e <;> try (cases e; done)
    rename_i a ha
    rw [forceN_eq] at e
    split at e <;> try (cases e; done)
    rename_i r hr
    injection e with e
    subst e
    obtain ⟨h1, h2⟩ := loadFrom_list hr
    refine ⟨by simp [h1], fun i b hi => ?_⟩
    cases i with
    | zero => simp at hi; subst hi; exact ha
    | succ i => have := h2 i b (by simpa using hi); rwa [show o + (i + 1) = Nat.succ o + i from by omega]
/-- Cells that are related, one by one, are a related list. -/
theorem cells_list {w : World} {c : Nat} {ca : Array Value} {e : TypeId} {fz : Nat × Nat} (hc : w.heap[c]? = some (.cells ca e fz)) : ∀ (l : List A1) (o : Nat), (∀ i a, l[i]? = some a → ∃ v, ca[o + i]? = some v ∧ R1 μ a v) →
    ∃ vs : List Value, RL μ l vs ∧ vs.length = l.length ∧ (∀ i v, vs[i]? = some v → w.cell? ⟨c, o + i, none⟩ = some v) ∧ ∀ i, i < l.length → ca[o + i]? = vs[i]?
  | [], o, _ => ⟨[], trivial, rfl, fun i v hi => by simp at hi, fun i hi => by simp at hi⟩
  | a :: l, o, hl => by
    obtain ⟨v, h1, h2⟩ := hl 0 a rfl
    obtain ⟨vs, h3, h4, h5, h6⟩ := cells_list hc l (o + 1) (fun i a hi => by
      obtain ⟨u, p, q⟩ := hl (i + 1) a (by simpa using hi)
      exact ⟨u, by rw [← p]; congr 1; omega, q⟩)
    refine ⟨v :: vs, ⟨h2, h3⟩, by simp [h4], fun i u hi => ?_, fun i hi => ?_⟩
    · cases i with
      | zero => simp at hi; subst hi; simp only [World.cell?, hc]; simpa using h1
      | succ i => have := h5 i u (by simpa using hi); rwa [show o + (i + 1) = o + 1 + i from by omega]
    · cases i with
      | zero => simpa using h1
      | succ i =>
        have := h6 i (by simpa using hi)
        rw [show o + (i + 1) = o + 1 + i from by omega]
        simpa using this
theorem addr_add (c o n : Nat) : (⟨c, o, none⟩ : Addr).add n = ⟨c, o + n, none⟩ := by
  unfold Addr.add
  split
  · rename_i h; subst h; rfl
  · rfl
theorem run_loadCells_at {w : World} {c o : Nat} (vs : List Value) (h : ∀ i v, vs[i]? = some v → w.cell? ⟨c, o + i, none⟩ = some v) : (loadCells ⟨c, o, none⟩ vs.length).run P w = .ok vs.toArray w :=
  run_loadCells_list w ⟨c, o, none⟩ vs (fun j v hj => by rw [addr_add]; exact h j v hj)

theorem loadVar_sound (hE : EnvOk P E) (hr : Rel OkC μ pd h w) {t : TypeId} {b o c K : Nat} {a : AV} (hb : μ b = some (c, K)) (e : loadVarA E h t b o = some a) :
    ∃ v, (loadVar t ⟨c, o, none⟩).run P w = .ok v w ∧ RV μ a v := by
  unfold loadVarA at e
  split at e <;> try (cases e; done)
  rename_i ct n el hget
  split at e <;> try (cases e; done)
  rename_i i hi
  have ti := hE.tys t i hi
  obtain ⟨c', K', ob, h1, h2, ca, el', h3, h4, h5, h6⟩ := hr.obj b _ hget (hr.nopd hb)
  rw [hb] at h1
  obtain ⟨rfl, rfl⟩ : c = c' ∧ K = K' := by simpa using h1
  subst h3
  unfold loadVar
  simp only [Sem.run_bind, ti.run_isAgg, Result.andThen_ok]
  split at e
  · rename_i hagg
    split at e <;> try (cases e; done)
    rename_i l hl
    injection e with e
    subst e
    obtain ⟨g1, g2⟩ := loadFrom_list hl
    obtain ⟨vs, k1, k2, k3, _⟩ := cells_list h2 l o (fun j a hj => h6 _ a (g2 j a hj))
    have hlc := run_loadCells_at (P := P) vs k3
    rw [k2, g1] at hlc
    refine ⟨.agg vs.toArray, ?_, vs, rfl, k1⟩
    rw [hagg]
    simp only [if_true, Sem.run_bind, ti.run_size, Result.andThen_ok, hlc, Sem.run_pure]
  · rename_i hagg
    split at e <;> try (cases e; done)
    rename_i a' ha
    injection e with e
    subst e
    obtain ⟨v, p, q⟩ := h6 _ _ ha
    refine ⟨v, ?_, q⟩
    rw [hagg]
    simp only [Bool.false_eq_true, if_false, run_load, World.cell?, h2]
    simp [p]

theorem vLoad_sound (hE : EnvOk P E) (hr : Rel OkC μ pd h w) {t : TypeId} {x : Option AT} {v : Value} {a : AT} (hx : ∀ b, x = some b → RT μ b v) (e : vLoad E h t x = some a) :
    ∃ u, (Instr.loadAt t v).run P w = .ok u w ∧ RT μ a u := by
  unfold vLoad at e
  split at e <;> try (cases e; done)
  rename_i b o
  obtain ⟨c, K, h1, rfl⟩ : ∃ c K, μ b = some (c, K) ∧ v = .pointer (some ⟨c, o, none⟩) := hx _ rfl
  split at e <;> try (cases e; done)
  rename_i av hav
  injection e with e
  subst e
  obtain ⟨u, p, q⟩ := loadVar_sound hE hr h1 hav
  exact ⟨u, by simp [Instr.loadAt, Instr.sureAddr, p], q⟩

theorem vNil_sound {x : Option AT} {v : Value} {a : AT} (hx : ∀ b, x = some b → RT μ b v) (e : vNil x = some a) :
    RT μ a v ∧ (∃ ad, v = .pointer (some ad)) ∨ RT μ a v ∧ ∃ f p q, v = .func (.func f) p q := by
  unfold vNil at e
  split at e <;> try (cases e; done)
  rename_i a1
  split at e <;> try (cases e; done)
  · injection e with e
    subst e
    have := hx _ rfl
    obtain ⟨c, K, h1, rfl⟩ := this
    exact .inl ⟨⟨c, K, h1, rfl⟩, _, rfl⟩
  · injection e with e
    subst e
    have := hx _ rfl
    obtain ⟨ps, qs, rfl, h1, h2⟩ := this
    exact .inr ⟨⟨ps, qs, rfl, h1, h2⟩, _, _, _, rfl⟩

theorem asNat_some {x : Option AT} {n : Nat} (e : asNat x = some n) : ∃ k, x = some (.v (.one (.int k (n : Int)))) := by
  unfold asNat at e
  split at e <;> try (cases e; done)
  injection e with e
  subst e
  exact ⟨_, rfl⟩

theorem vConv_sound (hE : EnvOk P E) {src dst : TypeId} {x : Option AT} {v : Value} {a : AT} (hx : ∀ b, x = some b → RT μ b v) (e : vConv E src dst x = some a) :
    ∃ u, (convert src dst v).run P w = .ok u w ∧ RT μ a u := by
  unfold vConv at e
  split at e <;> try (cases e; done)
  rename_i k n
  have hv : v = .int k n := hx _ rfl
  subst hv
  split at e <;> try (cases e; done)
  rename_i is his
  have hd := (hE.tys src is his).under
  generalize is.desc = d at hd
  split at e <;> try (cases e; done)
  rename_i i hi
  have ti := hE.tys dst i hi
  split at e <;> try (cases e; done)
  rename_i k' hk
  obtain rfl := retI_some e
  refine ⟨_, ?_, rfl⟩
  have hu : P.underlying dst = some (.int k') := by rw [ti.under, hk]
  unfold convert
  simp only [Sem.run_bind, run_underlying hd, run_underlying hu, Result.andThen_ok, wrapF_eq]
  cases d <;> rfl

theorem vArrPtr_sound (hE : EnvOk P E) {arr : TypeId} {x : Option AT} {v : Value} {a : AT} (hx : ∀ b, x = some b → RT μ b v) (e : vArrPtr E arr x = some a) :
    ∃ u, (Instr.arrayAt arr v).run P w = .ok u w ∧ RT μ a u := by
  unfold vArrPtr at e
  split at e <;> try (cases e; done)
  rename_i b o len cap op
  obtain ⟨c, K, cap', h1, rfl, h2⟩ := hx _ rfl
  split at e <;> try (cases e; done)
  rename_i i hi
  have ti := hE.tys arr i hi
  split at e <;> try (cases e; done)
  rename_i n el hd
  cases hb : Nat.ble n len <;> rw [hb] at e <;> simp only [] at e <;> try (cases e; done)
  injection e with e
  subst e
  refine ⟨_, ?_, c, K, h1, rfl⟩
  have hu : P.underlying arr = some (.array n el) := by rw [ti.under, hd]
  unfold Instr.arrayAt
  simp only [Sem.run_bind, run_underlying hu, Result.andThen_ok]
  have := ble_true hb
  rw [if_neg (by omega)]
  rfl

include hρ in
theorem ptrsOf_sound : ∀ {l : List Operand} {r : List (Nat × Nat)}, ptrsOf ρ l = some r → RPl μ r (l.map σ)
  | [], r, e => by simp [ptrsOf] at e; subst e; trivial
  | x :: l, r, e => by
    simp only [ptrsOf] at e
    split at e <;> try (cases e; done)
    rename_i b o hx
    split at e <;> try (cases e; done)
    rename_i q hq
    injection e with e
    subst e
    exact ⟨hρ x _ hx, ptrsOf_sound hq⟩
include hρ in
theorem vFn_sound {fn : Fn} {first captured : Array Operand} {a : AT} (e : vFn ρ fn first captured = some a) :
    ∃ u, (Instr.makeFunc fn (first.map σ) (captured.map σ)).run P w = .ok u w ∧ RT μ a u := by
  unfold vFn at e
  split at e <;> try (cases e; done)
  rename_i f
  split at e <;> try (cases e; done)
  rename_i p hp
  split at e <;> try (cases e; done)
  rename_i q hq
  injection e with e
  subst e
  refine ⟨_, rfl, first.toList.map σ, captured.toList.map σ, ?_, ptrsOf_sound hρ hp, ptrsOf_sound hρ hq⟩
  congr 1 <;> (apply Array.ext'; simp)
end
end Go.Proofs.YtofjmfjgicdjjaaGreat.Ab
/- The abstract machine, part 8: operations that make nothing and change nothing, one by one (slices, fields, indices, maps, lengths). -/
set_option linter.unusedVariables false
set_option linter.unusedSimpArgs false
namespace Go.Proofs.YtofjmfjgicdjjaaGreat.Ab
open Go
section
variable {P : Program} {E : Env} {w : World} {μ : Mu} {OkC : Cx} {pd : Nat → Prop} {h : AHeap}
variable {ρ : Operand → Option AT} {σ : Operand → Value} (hρ : Reads μ ρ σ)

theorem fieldL_get : ∀ {l : List Field} {i : Nat} {f : Field}, fieldL l i = some f → l[i]? = some f
  | [], i, f, e => by simp [fieldL] at e
  | g :: l, i, f, e => by
    cases i with
    | zero => simp [fieldL] at e; simp [e]
    | succ i => simp only [fieldL] at e; simpa using fieldL_get e
theorem vFieldAddr_sound (hE : EnvOk P E) {s : TypeId} {x : Option AT} {v : Value} {f : Nat} {a : AT} (hx : ∀ b, x = some b → RT μ b v) (e : vFieldAddr E s x f = some a) :
    ∃ u, (Instr.fieldAt s v f).run P w = .ok u w ∧ RT μ a u := by
  unfold vFieldAddr at e
  split at e <;> try (cases e; done)
  rename_i b o
  obtain ⟨c, K, h1, rfl⟩ := hx _ rfl
  split at e <;> try (cases e; done)
  rename_i i hi
  have ti := hE.tys s i hi
  split at e <;> try (cases e; done)
  rename_i fs hd
  split at e <;> try (cases e; done)
  rename_i fd hf
  split at e <;> try (cases e; done)
  rename_i tf htf
  have tif := hE.tys _ tf htf
  split at e <;> try (cases e; done)
  rename_i sz hsz
  rw [forceN_eq] at e
  injection e with e
  subst e
  have hu : P.underlying s = some (.struct fs) := by rw [ti.under, hd]
  have hfs : fs[f]? = some fd := by have := fieldL_get hf; simpa using this
  refine ⟨.pointer (some ⟨c, o + fd.offset, none⟩), ?_, c, K, h1, rfl⟩
  unfold Instr.fieldAt
  simp only [Sem.run_bind, run_underlying hu, Result.andThen_ok, hfs, Instr.sureAddr, Sem.run_pure, fieldPlace, tif.run_size, hsz]
  rw [if_neg (by omega)]
  simp [addr_add]

theorem dropL_eq : ∀ (n : Nat) (l : List A1), dropL n l = l.drop n
  | 0, l => by simp [dropL]
  | n + 1, [] => by simp [dropL]
  | n + 1, a :: l => by simp [dropL, dropL_eq n l]
theorem takeL_some : ∀ {n : Nat} {l r : List A1}, takeL n l = some r → r = l.take n ∧ n ≤ l.length
  | 0, l, r, e => by simp [takeL] at e; simp [e]
  | n + 1, [], r, e => by simp [takeL] at e
  | n + 1, a :: l, r, e => by
    simp only [takeL] at e
    split at e <;> try (cases e; done)
    rename_i q hq
    injection e with e
    subst e
    obtain ⟨h1, h2⟩ := takeL_some hq
    subst h1
    exact ⟨rfl, by simpa using h2⟩
theorem RL.drop {μ : Mu} : ∀ {l : List A1} {m : List Value} (n : Nat), RL μ l m → RL μ (l.drop n) (m.drop n)
  | l, m, 0, h => h
  | [], [], n + 1, _ => trivial
  | [], _ :: _, n + 1, h => by cases h
  | _ :: _, [], n + 1, h => by cases h
  | a :: l, v :: m, n + 1, ⟨_, h⟩ => RL.drop n h
theorem RL.take {μ : Mu} : ∀ {l : List A1} {m : List Value} (n : Nat), RL μ l m → RL μ (l.take n) (m.take n)
  | l, m, 0, h => by simp [RL]
  | [], [], n + 1, _ => trivial
  | [], _ :: _, n + 1, h => by cases h
  | _ :: _, [], n + 1, h => by cases h
  | a :: l, v :: m, n + 1, ⟨h1, h⟩ => ⟨h1, RL.take n h⟩
theorem partA_sound (hE : EnvOk P E) {t : TypeId} {cs : List A1} {vs : List Value} {off : Nat} {a : AT} (hcs : RL μ cs vs) (e : partA E t cs off = some a) :
    ∃ u, (part t vs.toArray off).run P w = .ok u w ∧ RT μ a u := by
  unfold partA at e
  split at e <;> try (cases e; done)
  rename_i i hi
  have ti := hE.tys t i hi
  unfold part
  simp only [Sem.run_bind, ti.run_isAgg, Result.andThen_ok]
  split at e
  · rename_i hagg
    split at e <;> try (cases e; done)
    rename_i l hl
    injection e with e
    subst e
    obtain ⟨h1, h2⟩ := takeL_some hl
    rw [dropL_eq] at h1 h2
    refine ⟨.agg ((vs.drop off).take i.size).toArray, ?_, _, rfl, ?_⟩
    · rw [hagg]
      simp only [if_true, Sem.run_bind, ti.run_size, Result.andThen_ok, Sem.run_pure]
      congr 2
      apply Array.ext'
      simp [List.take_drop, Nat.add_comm]
    · rw [h1]
      exact RL.take _ (RL.drop _ hcs)
  · rename_i hagg
    split at e <;> try (cases e; done)
    rename_i a' r hd
    injection e with e
    subst e
    rw [dropL_eq] at hd
    have hg : cs[off]? = some a' := by
      have := congrArg (fun l => l[0]?) hd
      simpa using this
    obtain ⟨v, p, q⟩ := hcs.get _ _ hg
    refine ⟨v, ?_, q⟩
    rw [hagg]
    simp only [Bool.false_eq_true, if_false]
    have : vs.toArray[off]? = some v := by simpa using p
    rw [this]
    rfl
theorem vField_sound (hE : EnvOk P E) {t : TypeId} {x : Option AT} {v : Value} {f : Nat} {a : AT} (hx : ∀ b, x = some b → RT μ b v) (e : vField E t x f = some a) :
    ∃ u, (Instr.field t v f).run P w = .ok u w ∧ RT μ a u := by
  unfold vField at e
  split at e <;> try (cases e; done)
  rename_i cs
  obtain ⟨vs, rfl, hcs⟩ := hx _ rfl
  split at e <;> try (cases e; done)
  rename_i i hi
  have ti := hE.tys t i hi
  split at e <;> try (cases e; done)
  rename_i fs hd
  split at e <;> try (cases e; done)
  rename_i fd hf
  have hu : P.underlying t = some (.struct fs) := by rw [ti.under, hd]
  have hfs : fs[f]? = some fd := by have := fieldL_get hf; simpa using this
  obtain ⟨u, p, q⟩ := partA_sound (w := w) hE hcs e
  refine ⟨u, ?_, q⟩
  unfold Instr.field
  simp only [Sem.run_bind, run_underlying hu, Result.andThen_ok, hfs, asAgg, Sem.run_pure, p]

theorem vIndexAddr_sound (hE : EnvOk P E) {t : TypeId} {x i : Option AT} {v u0 : Value} {a : AT} (hx : ∀ b, x = some b → RT μ b v) (hi : ∀ b, i = some b → RT μ b u0) (e : vIndexAddr E t x i = some a) :
    ∃ u, (Instr.indexAt t v u0).run P w = .ok u w ∧ RT μ a u := by
  unfold vIndexAddr at e
  split at e <;> try (cases e; done)
  rename_i n hn
  obtain ⟨k, rfl⟩ := asNat_some hn
  have hu0 : u0 = .int k (n : Int) := hi _ rfl
  subst hu0
  split at e <;> try (cases e; done)
  rename_i ti0 ht
  have ti := hE.tys t ti0 ht
  have idx : ∀ {el : TypeId} {b o len : Nat} {a : AT}, atIdx E el b o n len = some a → ∃ s, n < len ∧ (sizeOf el).run P w = .ok s w ∧ a = .v (.one (.ptr b (o + n * s))) := by
    intro el b o len a e
    unfold atIdx at e
    cases hb : Nat.ble (Nat.succ n) len <;> rw [hb] at e <;> simp only [] at e <;> try (cases e; done)
    split at e <;> try (cases e; done)
    rename_i te hte
    rw [forceN_eq] at e
    injection e with e
    exact ⟨te.size, ble_true hb, (hE.tys el te hte).run_size, e.symm⟩
  split at e <;> try (cases e; done)
  · rename_i len el hd
    have hu : P.underlying t = some (.array len el) := by rw [ti.under, hd]
    split at e <;> try (cases e; done)
    rename_i b o
    obtain ⟨c, K, h1, rfl⟩ := hx _ rfl
    obtain ⟨s, h2, h3, rfl⟩ := idx e
    refine ⟨.pointer (some ⟨c, o + n * s, none⟩), ?_, c, K, h1, rfl⟩
    unfold Instr.indexAt
    simp only [asIntOf, Sem.run_bind, Sem.run_pure, Result.andThen_ok, run_underlying hu, Instr.sureAddr]
    rw [if_pos (by omega)]
    simp [h3, addr_add]
  · rename_i el hd
    have hu : P.underlying t = some (.slice el) := by rw [ti.under, hd]
    split at e <;> try (cases e; done)
    rename_i b o len cap op
    obtain ⟨c, K, cap', h1, rfl, _⟩ := hx _ rfl
    obtain ⟨s, h2, h3, rfl⟩ := idx e
    refine ⟨.pointer (some ⟨c, o + n * s, none⟩), ?_, c, K, h1, rfl⟩
    unfold Instr.indexAt
    simp only [asIntOf, Sem.run_bind, Sem.run_pure, Result.andThen_ok, run_underlying hu]
    rw [if_pos (by omega)]
    simp [h3, addr_add]
theorem nthB_get : ∀ {l : List UInt8} {i : Nat} {b : UInt8}, nthB l i = some b → l[i]? = some b
  | [], i, b, e => by simp [nthB] at e
  | g :: l, i, f, e => by
    cases i with
    | zero => simp [nthB] at e; simp [e]
    | succ i => simp only [nthB] at e; simpa using nthB_get e
theorem vIndex_sound (hE : EnvOk P E) {t : TypeId} {x i : Option AT} {v u0 : Value} {a : AT} (hx : ∀ b, x = some b → RT μ b v) (hi : ∀ b, i = some b → RT μ b u0) (e : vIndex E t x i = some a) :
    ∃ u, (Instr.index t v u0).run P w = .ok u w ∧ RT μ a u := by
  unfold vIndex at e
  split at e <;> try (cases e; done)
  rename_i n hn
  obtain ⟨k, rfl⟩ := asNat_some hn
  have hu0 : u0 = .int k (n : Int) := hi _ rfl
  subst hu0
  split at e <;> try (cases e; done)
  rename_i ti0 ht
  have ti := hE.tys t ti0 ht
  split at e <;> try (cases e; done)
  · rename_i len el hd
    have hu : P.underlying t = some (.array len el) := by rw [ti.under, hd]
    split at e <;> try (cases e; done)
    rename_i cs
    obtain ⟨vs, rfl, hcs⟩ := hx _ rfl
    cases hb : Nat.ble (Nat.succ n) len <;> rw [hb] at e <;> simp only [] at e <;> try (cases e; done)
    split at e <;> try (cases e; done)
    rename_i te hte
    obtain ⟨u, p, q⟩ := partA_sound (w := w) hE hcs e
    refine ⟨u, ?_, q⟩
    have := ble_true hb
    unfold Instr.index
    simp only [asIntOf, Sem.run_bind, Sem.run_pure, Result.andThen_ok, run_underlying hu]
    rw [if_pos (by omega)]
    simp only [Sem.run_bind, (hE.tys el te hte).run_size, Result.andThen_ok, Int.toNat_natCast]
    exact p
  · rename_i hd
    have hu : P.underlying t = some .string := by rw [ti.under, hd]
    split at e <;> try (cases e; done)
    rename_i s
    have hv : v = .string s := hx _ rfl
    subst hv
    split at e <;> try (cases e; done)
    rename_i b hb
    obtain rfl := retI_some e
    refine ⟨_, ?_, rfl⟩
    have hs : s[n]? = some b := by
      have := nthB_get hb
      have hl : n < s.data.toList.length := (List.getElem?_eq_some_iff.1 this).1
      have hl' : n < s.size := by simpa using hl
      rw [getElem?_pos s n hl']
      have h2 := (List.getElem?_eq_some_iff.1 this).2
      exact congrArg some h2
    unfold Instr.index
    simp only [asIntOf, Sem.run_bind, Sem.run_pure, Result.andThen_ok, run_underlying hu]
    rw [if_pos (by omega)]
    simp only [Int.toNat_natCast, hs]
    rfl
theorem nthV_get : ∀ {l : List AV} {m : List Value} {i : Nat} {a : AV}, RVs μ l m → nthV l i = some a → ∃ v, m[i]? = some v ∧ RV μ a v
  | [], _, i, b, _, e => by simp [nthV] at e
  | _ :: _, [], _, _, hr, _ => by cases hr
  | g :: l, v :: m, i, f, ⟨h1, h2⟩, e => by
    cases i with
    | zero => simp [nthV] at e; subst e; exact ⟨v, rfl, h1⟩
    | succ i => simp only [nthV] at e; simpa using nthV_get h2 e
theorem vExtract_sound {x : Option AT} {v : Value} {i : Nat} {a : AT} (hx : ∀ b, x = some b → RT μ b v) (e : vExtract x i = some a) :
    ∃ u, (Instr.extract v i).run P w = .ok u w ∧ RT μ a u := by
  unfold vExtract at e
  split at e <;> try (cases e; done)
  rename_i l
  obtain ⟨vs, rfl, hvs⟩ := hx _ rfl
  split at e <;> try (cases e; done)
  rename_i a' ha
  injection e with e
  subst e
  obtain ⟨u, p, q⟩ := nthV_get hvs ha
  refine ⟨u, ?_, q⟩
  have : vs.toArray[i]? = some u := by simpa using p
  simp [Instr.extract, this]
theorem vUn_sound {op : UnOp} {x : Option AT} {v : Value} {a : AT} (hx : ∀ b, x = some b → RT μ b v) (e : vUn op x = some a) :
    ∃ u, (Op.unary op v).run P w = .ok u w ∧ RT μ a u := by
  unfold vUn at e
  split at e <;> try (cases e; done)
  rename_i a1
  split at e <;> try (cases e; done)
  · rename_i b
    have hv : v = .bool b := hx _ rfl
    subst hv
    split at e <;> try (cases e; done)
    obtain rfl := retB_some e
    exact ⟨_, rfl, rfl⟩
  · rename_i k n
    have hv : v = .int k n := hx _ rfl
    subst hv
    split at e <;> try (cases e; done)
    · obtain rfl := retI_some e
      exact ⟨_, by simp [Op.unary, Op.intArith, wrapF_eq], rfl⟩
    · split at e <;> try (cases e; done)
      cases n <;> simp only [notN] at e <;> try (cases e; done)
      rename_i m
      cases hb : Nat.ble 18446744073709551616 m <;> rw [hb] at e <;> simp only [] at e <;> try (cases e; done)
      have hm := ble_false hb
      obtain rfl := retI_some e
      refine ⟨_, ?_, rfl⟩
      have hmax : IntKind.u64.max = 18446744073709551615 := by decide
      simp only [Op.unary, IntKind.signed, Bool.false_eq_true, if_false, hmax]
      have := run_intBits (P := P) (w := w) .xor Nat.xor .u64 18446744073709551615 m (by decide) (by simpa [topOf] using hm) (.inr (.inr ⟨rfl, rfl⟩))
      have e1 : Nat.xor 18446744073709551615 m = 18446744073709551615 - m := by
        have h1 : (BitVec.allOnes 64 ^^^ BitVec.ofNat 64 m).toNat = Nat.xor 18446744073709551615 m := by
          rw [BitVec.toNat_xor, BitVec.toNat_allOnes, BitVec.toNat_ofNat, Nat.mod_eq_of_lt (by omega)]
          rfl
        rw [← h1, BitVec.allOnes_xor, BitVec.toNat_not, BitVec.toNat_ofNat, Nat.mod_eq_of_lt (by omega)]
      rw [e1] at this
      exact this
end
end Go.Proofs.YtofjmfjgicdjjaaGreat.Ab
