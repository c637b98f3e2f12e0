/- The abstract machine, part 31: the abstract run goes ahead. -/
import Derived.Test.YtofjmfjgicdjjaaGreatAbF
import Derived.Test.YtofjmfjgicdjjaaGreatAbA
set_option linter.unusedVariables false
set_option linter.unusedSimpArgs false
namespace Go.Proofs.YtofjmfjgicdjjaaGreat.Ab
open Go
section
variable {P : Program} {all : List Oper} {its : List Dr} {E : Env} {n : Nat} {OkC : Cx} {pd0 : Nat → Prop}
theorem get_put_same_or {α : Type} (T : BT α) (d : Nat) (x y : α) (h : (T.put d x).get d = some y) : y = x := by
  rcases BT.get_put_inv _ _ _ _ _ h with ⟨_, h⟩ | ⟨h, _⟩
  · exact h
  · exact absurd rfl h
theorem madeR_eq (h : AHeap) (ob : AObj) (m : Made) : madeR h (some (ob, m)) = some ⟨m.at_ h.next, ⟨h.t.put h.next ob, h.next + 1⟩⟩ := by
  unfold madeR allocA
  simp only []
  rw [BT.putK_eq, forceN_eq]
  cases m <;> rfl
/-- The slots behind an operation. -/
structure PutTo (T : BT AT) (n : Nat) (dst : Option Tmp) (x : AT) (T' : BT AT) : Prop where
  other : ∀ t, dst ≠ some t → T'.get t = T.get t
  same : ∀ t, dst = some t → (∀ y, T'.get t = some y → y = x) ∧ t < n
theorem putDst_to {R : Type} {T : BT AT} {dst : Option Tmp} {x : AT} {kk : BT AT → Option R} {res : R} (e : putDst T n dst x kk = some res) : ∃ T', kk T' = some res ∧ PutTo T n dst x T' := by
  unfold putDst at e
  cases dst with
  | none => exact ⟨T, e, fun t _ => rfl, fun t h => (by cases h)⟩
  | some d =>
    simp only [] at e
    split at e <;> try (cases e; done)
    rename_i hle
    have hle : d + 1 ≤ n := ble_true hle
    rw [BT.putK_eq] at e
    refine ⟨_, e, fun t ht => ?_, fun t ht => ?_⟩
    · exact BT.get_put_ne _ _ _ _ (fun h => ht (by rw [h]))
    · injection ht with ht
      subst ht
      exact ⟨fun y hy => get_put_same_or _ _ _ _ hy, hle⟩
theorem Inv.push (hS : Static all its) {L : Lag → Prop} {todo todo' : List Dr} {T T' : BT AT} {h h' : AHeap} {past past' : List Past} {μ : Mu} {w : World} {a : Act} {π : List Nat} (inv : Inv all its E n OkC pd0 L todo T h past μ w a π)
    {y : Dr} (hy : y ∈ todo) (hto : ∀ x, x ∈ todo' ↔ x ∈ todo ∧ x.i ≠ y.i) (hyb : ∀ x ∈ todo, bitOf y.b x.i = false) {x : AT} {kd : LagK}
    (hrel : Rel OkC μ (fun b => pd0 b ∨ ∃ l, (L l ∨ l = ⟨y, T, x, kd⟩) ∧ l.blk = some b) h' w)
    (hg : Grown h h') (hkeep : ∀ l b, L l → l.blk = some b → h'.t.get b = h.t.get b) (hpast : ∀ p ∈ past, p ∈ past') (hT : PutTo T n y.o.dst x T')
    (hnew : LagOk all its E n h' past' T' ⟨y, T, x, kd⟩) (hb : ∀ b, (⟨y, T, x, kd⟩ : Lag).blk = some b → ¬ pd0 b ∧ ∀ l, L l → l.blk ≠ some b) :
    Inv all its E n OkC pd0 (fun l => L l ∨ l = ⟨y, T, x, kd⟩) todo' T' h' past' μ w a π := by
  have hyi := inv.todoIn y hy
  have hself : bitOf y.b y.i = false := hyb y hy
  refine ⟨hrel, fun t ht => ?_, fun l hl => ?_, fun l l' h1 h2 h3 => ?_, fun l l' b h1 h2 h3 h4 => ?_, fun l b h1 h2 => ?_, fun l z h1 h2 t ht hd hbit => ?_, fun l h1 t ht hz => ?_, fun l h1 z hz => ?_, inv.size, fun z hz => inv.todoIn z ((hto z).1 hz).1, fun i => ?_⟩
  · have h1 : y.o.dst ≠ some t := ht ⟨y, T, x, kd⟩ (.inr rfl)
    intro u hu
    rw [hT.other t h1] at hu
    exact inv.slots t (fun l hl => ht l (.inl hl)) u hu
  · rcases hl with hl | rfl
    · obtain ⟨h1, h2, h3⟩ := inv.lag l hl
      refine ⟨h1, fun t ht => ?_, ?_⟩
      · have hne : y.o.dst ≠ some t := fun hd => (inv.early l hl y hy).2 (hS.dst l.d h1 y hyi t ht hd)
        rw [hT.other t hne]
        exact h2 t ht
      · cases hk : l.k with
        | val => rw [hk] at h3; exact ⟨h3.1, opRes_grown hg h3.2.1, hpast _ h3.2.2⟩
        | made ob m bk =>
          rw [hk] at h3
          refine ⟨h3.1, h3.2.1, h3.2.2.1, ?_⟩
          rw [hkeep l bk hl (by simp [Lag.blk, hk])]
          exact h3.2.2.2
        | skip => rw [hk] at h3; exact h3
    · exact hnew
  · rcases h1 with h1 | rfl
    · rcases h2 with h2 | rfl
      · exact inv.one l l' h1 h2 h3
      · exact absurd h3 (inv.early l h1 y hy).2
    · rcases h2 with h2 | rfl
      · exact absurd h3.symm (inv.early l' h2 y hy).2
      · rfl
  · rcases h1 with h1 | rfl
    · rcases h2 with h2 | rfl
      · exact inv.blks l l' b h1 h2 h3 h4
      · exact absurd h3 ((hb b h4).2 l h1)
    · rcases h2 with h2 | rfl
      · exact absurd h4 ((hb b h3).2 l' h2)
      · rfl
  · rcases h1 with h1 | rfl
    · exact inv.own0 l b h1 h2
    · exact (hb b h2).1
  · rcases h1 with h1 | rfl
    · rcases h2 with h2 | rfl
      · exact inv.prov l z h1 h2 t ht hd hbit
      · rw [(inv.early l h1 y hy).1] at hbit
        cases hbit
    · rcases h2 with h2 | rfl
      · exact ((inv.lag z h2).2.1 t hd).1
      · rw [hself] at hbit
        cases hbit
  · rcases h1 with h1 | rfl
    · exact inv.own l h1 t ht fun z hz' => hz z (.inl hz')
    · refine inv.slots t fun z hz' hd => ?_
      rcases hS.read z.d (inv.lag z hz').1 y hyi t hd ht with ⟨_, hbb⟩ | ⟨_, hbb⟩
      · rw [hz z (.inl hz') hd] at hbb
        cases hbb
      · rw [(inv.early z hz' y hy).1] at hbb
        cases hbb
  · obtain ⟨hz1, hz2⟩ := (hto z).1 hz
    rcases h1 with h1 | rfl
    · exact inv.early l h1 z hz1
    · exact ⟨hyb z hz1, fun h => hz2 h.symm⟩
  · rw [inv.rem i]
    constructor
    · rintro (⟨l, h1, h2⟩ | ⟨z, h1, h2⟩)
      · exact .inl ⟨l, .inl h1, h2⟩
      · by_cases hzy : z.i = y.i
        · exact .inl ⟨_, .inr rfl, hzy.symm.trans h2⟩
        · exact .inr ⟨z, (hto z).2 ⟨h1, hzy⟩, h2⟩
    · rintro (⟨l, h1 | rfl, h2⟩ | ⟨z, h1, h2⟩)
      · exact .inl ⟨l, h1, h2⟩
      · exact .inr ⟨y, hy, h2⟩
      · exact .inr ⟨z, ((hto z).1 h1).1, h2⟩
theorem Rel.get_lt {μ : Mu} {pd : Nat → Prop} {h : AHeap} {w : World} (r : Rel OkC μ pd h w) {b : Nat} {o : AObj} (hb : h.t.get b = some o) : b < h.next := by
  by_cases hp : pd b
  · exact (r.pdn b hp).2
  · obtain ⟨c, K, ob, h1, _⟩ := r.obj b o hb hp
    exact (r.bnd b c K h1).1
/-- Without the operations of l. -/
def without (todo : List Dr) (y : Dr) : List Dr := todo.filter fun x => decide (x.i ≠ y.i)
theorem mem_without {todo : List Dr} {y x : Dr} : x ∈ without todo y ↔ x ∈ todo ∧ x.i ≠ y.i := by
  unfold without
  rw [List.mem_filter]
  simp
def AheadOk : List Dr → List Dr → Prop
  | [], _ => True
  | y :: l, todo => y ∈ todo ∧ (∀ x ∈ todo, bitOf y.b x.i = false) ∧ AheadOk l (without todo y)
def withoutAll : List Dr → List Dr → List Dr
  | [], todo => todo
  | y :: l, todo => withoutAll l (without todo y)
theorem mem_withoutAll {x : Dr} : ∀ {l todo : List Dr}, x ∈ withoutAll l todo ↔ x ∈ todo ∧ ∀ y ∈ l, x.i ≠ y.i
  | [], todo => by simp [withoutAll]
  | y :: l, todo => by
    simp only [withoutAll]
    rw [mem_withoutAll, mem_without]
    simp [and_assoc]
theorem ahead_sound (hS : Static all its) : ∀ (l : List Dr) {L : Lag → Prop} {todo : List Dr} {T : BT AT} {h : AHeap} {past : List Past} {μ : Mu} {w : World} {a : Act} {π : List Nat} {A : Ahead}, Inv all its E n OkC pd0 L todo T h past μ w a π → runAhead E n all l T h past = some A → AheadOk l todo →
    ∃ L', Inv all its E n OkC pd0 L' (withoutAll l todo) A.T A.h A.past μ w a π ∧ Ext μ pd0 h μ A.h
  | [], L, todo, T, h, past, μ, w, a, π, A, inv, e, ha => by
    simp only [runAhead] at e
    injection e with e
    subst e
    exact ⟨L, inv, Ext.refl _ _ _⟩
  | y :: l, L, todo, T, h, past, μ, w, a, π, A, inv, e, ⟨hy, hyb, hrest⟩ => by
    simp only [runAhead] at e
    have hyi := inv.todoIn y hy
    split at e <;> try (cases e; done)
    rename_i wt hw
    split at e
    · split at e
      · rename_i r hr
        split at e <;> try (cases e; done)
        rename_i x
        obtain ⟨T', e, hT⟩ := putDst_to e
        have inv' := inv.push hS (T' := T') (h' := h) (past' := ⟨y, T, x⟩ :: past) (x := x) (kd := .val) hy (fun z => mem_without) hyb (inv.rel.pd_iff fun b => by
            constructor
            · rintro (h1 | ⟨l, h1, h2⟩)
              · exact .inl h1
              · exact .inr ⟨l, .inl h1, h2⟩
            · rintro (h1 | ⟨l, h1 | rfl, h2⟩)
              · exact .inl h1
              · exact .inr ⟨l, h1, h2⟩
              · cases h2) (fun b o h => h) (fun _ _ _ _ => rfl) (fun p hp => List.mem_cons_of_mem _ hp) hT
            ⟨hyi, fun t ht => hT.same t ht, hw, hr, List.mem_cons_self⟩ (fun b hb => by cases hb)
        obtain ⟨L', q1, q2⟩ := ahead_sound hS l inv' e hrest
        exact ⟨L', q1, q2⟩
      · rename_i r hr
        cases r with
        | none => cases e
        | some r =>
          obtain ⟨ob, m⟩ := r
          rw [madeR_eq] at e
          simp only [] at e
          obtain ⟨T', e, hT⟩ := putDst_to e
          have hlt : ∀ l b, L l → l.blk = some b → b < h.next := fun l b h1 h2 => (inv.rel.pdn b (.inr ⟨l, h1, h2⟩)).2
          have hgrow : Grown h ⟨h.t.put h.next ob, h.next + 1⟩ := fun b o hb => by
            show (h.t.put h.next ob).get b = some o
            rw [BT.get_put_ne _ _ _ _ (Nat.ne_of_lt (inv.rel.get_lt hb))]
            exact hb
          have inv' := inv.push hS (T' := T') (h' := ⟨h.t.put h.next ob, h.next + 1⟩) (past' := past) (x := m.at_ h.next) (kd := .made ob m h.next) hy (fun z => mem_without) hyb ((inv.rel.ahead ob).pd_iff fun b => by
              constructor
              · rintro ((h1 | ⟨l, h1, h2⟩) | rfl)
                · exact .inl h1
                · exact .inr ⟨l, .inl h1, h2⟩
                · exact .inr ⟨_, .inr rfl, rfl⟩
              · rintro (h1 | ⟨l, h1 | rfl, h2⟩)
                · exact .inl (.inl h1)
                · exact .inl (.inr ⟨l, h1, h2⟩)
                · right
                  simp only [Lag.blk] at h2
                  injection h2 with h2
                  exact h2.symm) hgrow (fun l b h1 h2 => BT.get_put_ne _ _ _ _ (Nat.ne_of_lt (hlt l b h1 h2))) (fun p hp => hp) hT
              ⟨hyi, fun t ht => hT.same t ht, hw, fun h' => opRes_made_any hr, rfl, fun z hz => .inl (get_put_same_or _ _ _ _ hz)⟩ (fun b hb => by
                simp only [Lag.blk] at hb
                injection hb with hb
                subst hb
                refine ⟨fun hp => ?_, fun l h1 h2 => ?_⟩
                · have := (inv.rel.pdn _ (.inl hp)).2; omega
                · have := hlt l _ h1 h2; omega)
          obtain ⟨L', q1, q2⟩ := ahead_sound hS l inv' e hrest
          refine ⟨L', q1, ?_⟩
          have hx : Ext μ pd0 h μ ⟨h.t.put h.next ob, h.next + 1⟩ := ⟨Mu.le_refl _, fun b hb => SubAt.of_eq (BT.get_put_ne _ _ _ _ (Nat.ne_of_lt (inv.rel.pdn b (.inl hb)).2)), Nat.le_succ _⟩
          exact hx.trans q2
      · cases e
    · obtain ⟨T', e, hT⟩ := putDst_to e
      have inv' := inv.push hS (T' := T') (h' := h) (past' := past) (x := .tup []) (kd := .skip) hy (fun z => mem_without) hyb (inv.rel.pd_iff fun b => by
          constructor
          · rintro (h1 | ⟨l, h1, h2⟩)
            · exact .inl h1
            · exact .inr ⟨l, .inl h1, h2⟩
          · rintro (h1 | ⟨l, h1 | rfl, h2⟩)
            · exact .inl h1
            · exact .inr ⟨l, h1, h2⟩
            · cases h2) (fun b o h => h) (fun _ _ _ _ => rfl) (fun p hp => hp) hT
          ⟨hyi, fun t ht => hT.same t ht, hw, rfl⟩ (fun b hb => by cases hb)
      obtain ⟨L', q1, q2⟩ := ahead_sound hS l inv' e hrest
      exact ⟨L', q1, q2⟩
end
end Go.Proofs.YtofjmfjgicdjjaaGreat.Ab
/- The abstract machine, part 32: an effect in a drawn region; the machine makes what it lags behind. -/
set_option linter.unusedVariables false
set_option linter.unusedSimpArgs false
namespace Go.Proofs.YtofjmfjgicdjjaaGreat.Ab
open Go
section
variable {P : Program} {ops : Array Oper} {its : List Dr} {E : Env} {n : Nat} {OkC : Cx} {pd0 : Nat → Prop}
theorem same1_eq {x y : A1} (h : same1 x y = true) : x = y := by
  cases x <;> cases y <;> simp only [same1, Bool.and_eq_true, beq_iff_eq, decide_eq_true_eq] at h <;> try (first | rfl | (cases h; done))
  case bool.bool => rw [h]
  case int.int k x j y =>
    have h2 := h.2
    rw [eqI_eq, beq_iff_eq] at h2
    rw [sameK_eq h.1, h2]
  case ptr.ptr => rw [beqN h.1, beqN h.2]
  case sl.sl => rw [beqN h.1.1.1.1, beqN h.1.1.1.2, beqN h.1.1.2, beqN h.1.2, beqN h.2]
  case map.map => rw [beqN h]
  case fn.fn => rw [h.1.1, h.1.2, h.2]
  case yld.yld => rw [beqN h]
theorem sameL_eq : ∀ {x y : List A1}, sameL x y = true → x = y
  | [], [], _ => rfl
  | [], _ :: _, h => by cases h
  | _ :: _, [], h => by cases h
  | a :: x, b :: y, h => by
    simp only [sameL] at h
    split at h <;> try (cases h; done)
    rename_i h1
    rw [same1_eq h1, sameL_eq h]
theorem sameV_eq {x y : AV} (h : sameV x y = true) : x = y := by
  cases x <;> cases y <;> simp only [sameV] at h <;> try (cases h; done)
  · rw [same1_eq h]
  · rw [sameL_eq h]
theorem sameVs_eq : ∀ {x y : List AV}, sameVs x y = true → x = y
  | [], [], _ => rfl
  | [], _ :: _, h => by cases h
  | _ :: _, [], h => by cases h
  | a :: x, b :: y, h => by
    simp only [sameVs] at h
    split at h <;> try (cases h; done)
    rename_i h1
    rw [sameV_eq h1, sameVs_eq h]
theorem sameT_eq {x y : AT} (h : sameT x y = true) : x = y := by
  cases x <;> cases y <;> simp only [sameT] at h <;> try (cases h; done)
  · rw [sameV_eq h]
  · rw [sameVs_eq h]
theorem recheck_all {h : AHeap} : ∀ {l : List Past}, recheck E h l = true → ∀ p ∈ l, opRes E h (opnd p.T) p.d.o.op = .val (some p.a)
  | [], _, p, hp => by cases hp
  | q :: l, e, p, hp => by
    simp only [recheck] at e
    split at e <;> try (cases e; done)
    rename_i a ha
    split at e <;> try (cases e; done)
    rename_i hs
    rcases List.mem_cons.1 hp with rfl | hp
    · rw [ha, sameT_eq hs]
    · exact recheck_all e p hp
theorem mem_keepPast {b : Nat} {p : Past} : ∀ {l : List Past}, p ∈ l → bitOf b p.d.i = false → p ∈ keepPast b l
  | [], h, _ => by cases h
  | q :: l, h, hb => by
    simp only [keepPast]
    rcases List.mem_cons.1 h with h1 | h1
    · subst h1
      rw [hb]
      exact List.mem_cons_self
    · have ih := mem_keepPast h1 hb
      split
      · exact ih
      · exact List.mem_cons_of_mem _ ih
/-- Behind an effect. -/
theorem Inv.effect (hS : Static ops.toList its) {L : Lag → Prop} {todo todo' : List Dr} {T T' : BT AT} {h h' : AHeap} {past past' : List Past} {μ μ' : Mu} {w w' : World} {a : Act} {π : List Nat} {y : Dr} (inv : Inv ops.toList its E n OkC pd0 L todo T h past μ w a (y.i :: π))
    (hs : Sched its (y.i :: π)) (hnd : y.i ∉ π) (hy : y ∈ todo) (hto : ∀ x, x ∈ todo' ↔ x ∈ todo ∧ x.i ≠ y.i) {x : AT} {v : Value} (hle : μ.le μ')
    (hrel : Rel OkC μ' (fun b => pd0 b ∨ ∃ l, L l ∧ l.blk = some b) h' w') (hv : RT μ' x v) (hkeep : ∀ l b, L l → l.blk = some b → SubAt h h' b)
    (hval : ∀ l, L l → bitOf y.b l.d.i = false → opRes E h (opnd l.T) l.d.o.op = .val (some l.a) → ⟨l.d, l.T, l.a⟩ ∈ past → opRes E h' (opnd l.T) l.d.o.op = .val (some l.a) ∧ ⟨l.d, l.T, l.a⟩ ∈ past') (hT : PutTo T n y.o.dst x T') :
    Inv ops.toList its E n OkC pd0 L todo' T' h' past' μ' w' (a.put y.o.dst v) π := by
  have hyi := inv.todoIn y hy
  have hno : ∀ l, L l → bitOf y.b l.d.i = false := fun l hl => hs.1 y hyi rfl l.d.i ((inv.rem _).2 (.inl ⟨l, hl, rfl⟩))
  refine ⟨hrel, fun t ht => ?_, fun l hl => ?_, inv.one, inv.blks, inv.own0, inv.prov, fun l hl t ht hz => ?_, fun l hl z hz => inv.early l hl z ((hto z).1 hz).1, by rw [put_size]; exact inv.size, fun z hz => inv.todoIn z ((hto z).1 hz).1, fun i => ?_⟩
  · intro u hu
    by_cases hd : y.o.dst = some t
    · obtain ⟨h1, h2⟩ := hT.same t hd
      have := h1 u hu
      subst this
      rw [hd]
      exact ⟨v, put_same (by rw [inv.size]; exact h2), hv⟩
    · rw [put_other hd]
      rw [hT.other t hd] at hu
      exact (inv.slots t ht).mono hle u hu
  · obtain ⟨h1, h2, h3⟩ := inv.lag l hl
    refine ⟨h1, fun t ht => ?_, ?_⟩
    · have hne : y.o.dst ≠ some t := fun hd => (inv.early l hl y hy).2 (hS.dst l.d h1 y hyi t ht hd)
      rw [hT.other t hne]
      exact h2 t ht
    · cases hk : l.k with
      | val =>
        rw [hk] at h3
        exact ⟨h3.1, hval l hl (hno l hl) h3.2.1 h3.2.2⟩
      | made ob m bk =>
        rw [hk] at h3
        refine ⟨h3.1, h3.2.1, h3.2.2.1, fun x hx => ?_⟩
        obtain ⟨o', k1, k2⟩ := hkeep l bk hl (by simp [Lag.blk, hk]) x hx
        exact k2.trans (h3.2.2.2 o' k1)
      | skip => rw [hk] at h3; exact h3
  · have hne : y.o.dst ≠ some t := by
      intro hd
      rcases hS.read y hyi l.d (inv.lag l hl).1 t hd ht with ⟨_, hb⟩ | ⟨_, hb⟩
      · rw [(inv.early l hl y hy).1] at hb
        cases hb
      · rw [hno l hl] at hb
        cases hb
    intro u hu
    rw [put_other hne]
    exact (inv.own l hl t ht hz).mono hle u hu
  · have hrem := inv.rem i
    rw [List.mem_cons] at hrem
    constructor
    · intro hi
      have hne : i ≠ y.i := by rintro rfl; exact hnd hi
      rcases hrem.1 (.inr hi) with h1 | ⟨z, h1, h2⟩
      · exact .inl h1
      · exact .inr ⟨z, (hto z).2 ⟨h1, by rw [h2]; exact hne⟩, h2⟩
    · rintro (⟨l, h1, h2⟩ | ⟨z, h1, h2⟩)
      · rcases hrem.2 (.inl ⟨l, h1, h2⟩) with h3 | h3
        · exact absurd (h2.trans h3) (inv.early l h1 y hy).2
        · exact h3
      · obtain ⟨h4, h5⟩ := (hto z).1 h1
        rcases hrem.2 (.inr ⟨z, h4, h2⟩) with h3 | h3
        · exact absurd (h2.trans h3) h5
        · exact h3
/-- The machine goes on to the effect. -/
theorem Inv.until (hE : EnvOk P E) (hF : FlatOk P E) (hS : Static ops.toList its) {todo : List Dr} {T : BT AT} {h : AHeap} {past : List Past} {e : Dr} (he : e ∈ todo) (hb : ∀ x ∈ todo, x.i ≠ e.i → bitOf x.b e.i = true) (b : Frame) (k : List Item) (cs : List Frame) :
    ∀ (π : List Nat) {L : Lag → Prop} {μ : Mu} {w : World} {a : Act}, Inv ops.toList its E n OkC pd0 L todo T h past μ w a π → Sched its π → π.Nodup →
    ∃ π' L' μ' w' a', Inv ops.toList its E n OkC pd0 L' todo T h past μ' w' a' (e.i :: π') ∧ Sched its (e.i :: π') ∧ (e.i :: π').Nodup ∧ μ.le μ' ∧ a'.defers = a.defers ∧
      Steps P (lone (b.atR a (.inRegion ops π :: k)) cs w) (lone (b.atR a' (.inRegion ops (e.i :: π') :: k)) cs w')
  | [], L, μ, w, a, inv, _, _ => by
    have := (inv.rem e.i).2 (.inr ⟨e, he, rfl⟩)
    cases this
  | i :: π, L, μ, w, a, inv, hs, hn => by
    by_cases hi : i = e.i
    · subst hi
      exact ⟨π, L, μ, w, a, inv, hs, hn, Mu.le_refl _, rfl, Steps.refl _ _⟩
    · rcases (inv.rem i).1 List.mem_cons_self with ⟨l0, h1, h2⟩ | ⟨x, h1, h2⟩
      · obtain ⟨hn1, hn2⟩ := List.nodup_cons.1 hn
        obtain ⟨μ1, w1, a1, q1, q2, q3, q4⟩ := inv.land hE hF hS hs.1 hn1 h1 h2
        obtain ⟨π', L', μ', w', a', r1, r2, r3, r4, r5, r6⟩ := Inv.until hE hF hS he hb b k cs π q1 hs.2 hn2
        exact ⟨π', L', μ', w', a', r1, r2, r3, Mu.le_trans q2 r4, r5.trans q3, .head (q4 b k cs) r6⟩
      · have hbit := hb x h1 (by rw [h2]; exact hi)
        rw [hs.1 x (inv.todoIn x h1) h2 e.i ((inv.rem e.i).2 (.inr ⟨e, he, rfl⟩))] at hbit
        cases hbit
/-- The machine makes all that is left. -/
theorem Inv.finish (hE : EnvOk P E) (hF : FlatOk P E) (hS : Static ops.toList its) {T : BT AT} {h : AHeap} {past : List Past} (b : Frame) (k : List Item) (cs : List Frame) :
    ∀ (π : List Nat) {L : Lag → Prop} {μ : Mu} {w : World} {a : Act}, Inv ops.toList its E n OkC pd0 L [] T h past μ w a π → Sched its π → π.Nodup →
    ∃ μ' w' a', Rel OkC μ' pd0 h w' ∧ μ.le μ' ∧ RTmps μ' T a'.tmps ∧ a'.tmps.size = n ∧ a'.defers = a.defers ∧
      Steps P (lone (b.atR a (.inRegion ops π :: k)) cs w) (lone (b.atR a' (.inRegion ops [] :: k)) cs w')
  | [], L, μ, w, a, inv, _, _ => by
    have hno : ∀ l, ¬ L l := fun l hl => by
      have := (inv.rem l.d.i).2 (.inl ⟨l, hl, rfl⟩)
      cases this
    refine ⟨μ, w, a, inv.rel.pd_iff fun b => ?_, Mu.le_refl _, fun t x hx => inv.slots t (fun l hl => absurd hl (hno l)) x hx, inv.size, rfl, Steps.refl _ _⟩
    constructor
    · rintro (h1 | ⟨l, h1, _⟩)
      · exact h1
      · exact absurd h1 (hno l)
    · exact .inl
  | i :: π, L, μ, w, a, inv, hs, hn => by
    rcases (inv.rem i).1 List.mem_cons_self with ⟨l0, h1, h2⟩ | ⟨x, h1, h2⟩
    · obtain ⟨hn1, hn2⟩ := List.nodup_cons.1 hn
      obtain ⟨μ1, w1, a1, q1, q2, q3, q4⟩ := inv.land hE hF hS hs.1 hn1 h1 h2
      obtain ⟨μ', w', a', r1, r2, r3, r4, r5, r6⟩ := Inv.finish hE hF hS b k cs π q1 hs.2 hn2
      exact ⟨μ', w', a', r1, Mu.le_trans q2 r2, r3, r4, r5.trans q3, .head (q4 b k cs) r6⟩
    · cases h1
end
end Go.Proofs.YtofjmfjgicdjjaaGreat.Ab
/- The abstract machine, part 33: regions whose order is drawn. -/
set_option linter.unusedVariables false
set_option linter.unusedSimpArgs false
namespace Go.Proofs.YtofjmfjgicdjjaaGreat.Ab
open Go
section
variable {P : Program} {ops : Array Oper} {its : List Dr} {E : Env} {n : Nat} {OkC : Cx} {pd0 : Nat → Prop} {rec : Rec}
theorem eff_nodefer {h : AHeap} {ρ : Operand → Option AT} {op : Op} {r : VH} (e : effOp E rec h ρ op = some r) : ∀ c, op ≠ .defer c := by
  rintro c rfl
  simp [effOp] at e
theorem Inv.run (hE : EnvOk P E) (hF : FlatOk P E) (hN : FnsOk P E OkC) (hrec : RecOk P OkC rec) (hS : Static ops.toList its) {L : Lag → Prop} {todo todo' : List Dr} {T T' : BT AT} {h : AHeap} {past : List Past} {μ : Mu} {w : World} {a : Act} {π : List Nat} {y : Dr} (inv : Inv ops.toList its E n OkC pd0 L todo T h past μ w a (y.i :: π))
    (hs : Sched its (y.i :: π)) (hnd : (y.i :: π).Nodup) (hy : y ∈ todo) (hto : ∀ x, x ∈ todo' ↔ x ∈ todo ∧ x.i ≠ y.i) {r : VH} (hw : wantedA ops.toList T y.o.guard = some true) (he : effOp E rec h (opnd T) y.o.op = some r)
    (hre : recheck E r.h (keepPast y.b past) = true) (hT : PutTo T n y.o.dst r.a T') (b : Frame) (k : List Item) (cs : List Frame) :
    ∃ μ' w' a', Inv ops.toList its E n OkC pd0 L todo' T' r.h (keepPast y.b past) μ' w' a' π ∧ Ext μ pd0 h μ' r.h ∧ a'.defers = a.defers ∧
      Steps P (lone (b.atR a (.inRegion ops (y.i :: π) :: k)) cs w) (lone (b.atR a' (.inRegion ops π :: k)) cs w') := by
  have hyi := inv.todoIn y hy
  have ho : ops[y.i]? = some y.o := by
    have := hS.ok.op y hyi
    simpa using this
  have hready : ∀ t ∈ readsA ops.toList y.o, SlotOk μ T a.tmps t := by
    intro t ht
    refine inv.slots t fun z hz hd => ?_
    rcases hS.read z.d (inv.lag z hz).1 y hyi t hd ht with ⟨_, hb⟩ | ⟨_, hb⟩
    · rw [hs.1 y hyi rfl z.d.i ((inv.rem _).2 (.inl ⟨z, hz, rfl⟩))] at hb
      cases hb
    · rw [(inv.early z hz y hy).1] at hb
      cases hb
  have hw := wantedA_slot (fun t ht => hready t (List.mem_append_left _ ht)) hw
  have hReads : Reads μ (opndR (readsA ops.toList y.o) T) a.eval := opndR_reads hready
  have heq : ∀ x ∈ opsOf y.o.op, opnd T x = opndR (readsA ops.toList y.o) T x := opndR_eq fun t ht => List.mem_append_right _ ht
  rw [effOp_congr rec h y.o.op heq] at he
  have hd := eff_nodefer he
  have hgo : OpGoes P OkC μ (fun b => pd0 b ∨ ∃ l, L l ∧ l.blk = some b) h w r b a k cs ops y.i π y.o := by
    cases hc : isCallV y.o.op with
    | false => exact OpGoes.of_eff (effOp_sound hE inv.rel hReads hc he) ho hw hd
    | true => exact OpGoes.of_call (callV_sound hE hN hrec inv.rel hReads hc he) ho hw hd
  obtain ⟨v, w', μ', q1, q2, q3, q4⟩ := hgo
  refine ⟨μ', w', a.put y.o.dst v, inv.effect hS hs (List.nodup_cons.1 hnd).1 hy hto q4.le q3 q2 (fun l b h1 h2 => q4.keep b (.inr ⟨l, h1, h2⟩)) (fun l hl hb _ hp => have hp := mem_keepPast hp hb; ⟨recheck_all hre _ hp, hp⟩) hT, ⟨q4.le, fun b hb => q4.keep b (.inl hb), q4.next⟩, put_defers, q1⟩
theorem Inv.skip (hS : Static ops.toList its) {L : Lag → Prop} {todo todo' : List Dr} {T T' : BT AT} {h : AHeap} {past : List Past} {μ : Mu} {w : World} {a : Act} {π : List Nat} {y : Dr} (inv : Inv ops.toList its E n OkC pd0 L todo T h past μ w a (y.i :: π))
    (hs : Sched its (y.i :: π)) (hnd : (y.i :: π).Nodup) (hy : y ∈ todo) (hto : ∀ x, x ∈ todo' ↔ x ∈ todo ∧ x.i ≠ y.i) (hw : wantedA ops.toList T y.o.guard = some false)
    (hT : PutTo T n y.o.dst (.tup []) T') (b : Frame) (k : List Item) (cs : List Frame) :
    ∃ a', Inv ops.toList its E n OkC pd0 L todo' T' h (keepPast y.b past) μ w a' π ∧ a'.defers = a.defers ∧
      Steps P (lone (b.atR a (.inRegion ops (y.i :: π) :: k)) cs w) (lone (b.atR a' (.inRegion ops π :: k)) cs w) := by
  have hyi := inv.todoIn y hy
  have ho : ops[y.i]? = some y.o := by
    have := hS.ok.op y hyi
    simpa using this
  have hready : ∀ t ∈ readsA ops.toList y.o, SlotOk μ T a.tmps t := by
    intro t ht
    refine inv.slots t fun z hz hd => ?_
    rcases hS.read z.d (inv.lag z hz).1 y hyi t hd ht with ⟨_, hb⟩ | ⟨_, hb⟩
    · rw [hs.1 y hyi rfl z.d.i ((inv.rem _).2 (.inl ⟨z, hz, rfl⟩))] at hb
      cases hb
    · rw [(inv.early z hz y hy).1] at hb
      cases hb
  have hw := wantedA_slot (fun t ht => hready t (List.mem_append_left _ ht)) hw
  have hb : (ops[y.i]?).bind (·.dst) = y.o.dst := by rw [ho]; rfl
  have hstep := stepR_op_skip (P := P) (b := b) (a := a) (k := k) (cs := cs) (w := w) (ops := ops) (i := y.i) (rest := π) (by simp [ho, hw])
  rw [hb] at hstep
  exact ⟨a.put y.o.dst undef, inv.effect hS hs (List.nodup_cons.1 hnd).1 hy hto (Mu.le_refl _) inv.rel RT.undef (fun _ _ _ _ => SubAt.of_eq rfl) (fun l hl hb h1 hp => ⟨h1, mem_keepPast hp hb⟩) hT, put_defers, .one hstep⟩
end
end Go.Proofs.YtofjmfjgicdjjaaGreat.Ab
/- The abstract machine, part 34: regions whose order is drawn, whatever the order. -/
set_option linter.unusedVariables false
set_option linter.unusedSimpArgs false
namespace Go.Proofs.YtofjmfjgicdjjaaGreat.Ab
open Go
theorem mem_aheadOf {e : Nat} {x : Dr} : ∀ {l : List Dr}, x ∈ aheadOf e l ↔ x ∈ l ∧ bitOf x.b e = false ∧ x.i ≠ e
  | [] => by simp [aheadOf]
  | d :: l => by
    simp only [aheadOf, waitsFor]
    cases hb : bitOf d.b e with
    | true =>
      simp only []
      rw [mem_aheadOf]
      constructor
      · rintro ⟨h1, h2⟩; exact ⟨List.mem_cons_of_mem _ h1, h2⟩
      · rintro ⟨h1, h2⟩
        rcases List.mem_cons.1 h1 with rfl | h1
        · rw [hb] at h2; cases h2.1
        · exact ⟨h1, h2⟩
    | false =>
      cases hd : Nat.beq d.i e with
      | true =>
        have hd := beqN hd
        simp only []
        rw [mem_aheadOf]
        constructor
        · rintro ⟨h1, h2⟩; exact ⟨List.mem_cons_of_mem _ h1, h2⟩
        · rintro ⟨h1, h2⟩
          rcases List.mem_cons.1 h1 with rfl | h1
          · exact absurd hd h2.2
          · exact ⟨h1, h2⟩
      | false =>
        have hd : d.i ≠ e := by rintro rfl; rw [Nat.beq_refl] at hd; cases hd
        simp only []
        rw [List.mem_cons, mem_aheadOf, List.mem_cons]
        constructor
        · rintro (rfl | ⟨h1, h2⟩)
          · exact ⟨.inl rfl, hb, hd⟩
          · exact ⟨.inr h1, h2⟩
        · rintro ⟨rfl | h1, h2⟩
          · exact .inl rfl
          · exact .inr ⟨h1, h2⟩
theorem mem_behindOf {e : Nat} {x : Dr} : ∀ {l : List Dr}, x ∈ behindOf e l ↔ x ∈ l ∧ bitOf x.b e = true
  | [] => by simp [behindOf]
  | d :: l => by
    simp only [behindOf, waitsFor]
    cases hb : bitOf d.b e with
    | true =>
      simp only []
      rw [List.mem_cons, mem_behindOf, List.mem_cons]
      constructor
      · rintro (rfl | ⟨h1, h2⟩)
        · exact ⟨.inl rfl, hb⟩
        · exact ⟨.inr h1, h2⟩
      · rintro ⟨rfl | h1, h2⟩
        · exact .inl rfl
        · exact .inr ⟨h1, h2⟩
    | false =>
      simp only []
      rw [mem_behindOf, List.mem_cons]
      constructor
      · rintro ⟨h1, h2⟩; exact ⟨.inr h1, h2⟩
      · rintro ⟨rfl | h1, h2⟩
        · rw [hb] at h2; cases h2
        · exact ⟨h1, h2⟩
theorem aheadOf_sub {e : Nat} : ∀ {l : List Dr}, (aheadOf e l).Sublist l
  | [] => List.Sublist.refl _
  | d :: l => by
    have ih : (aheadOf e l).Sublist l := aheadOf_sub
    simp only [aheadOf]
    cases waitsFor e d with
    | true => exact ih.cons _
    | false => cases Nat.beq d.i e with
      | true => exact ih.cons _
      | false => exact ih.cons_cons _
theorem behindOf_sub {e : Nat} : ∀ {l : List Dr}, (behindOf e l).Sublist l
  | [] => List.Sublist.refl _
  | d :: l => by
    have ih : (behindOf e l).Sublist l := behindOf_sub
    simp only [behindOf]
    cases waitsFor e d with
    | true => exact ih.cons_cons _
    | false => exact ih.cons _
def Asc (l : List Dr) : Prop := l.Pairwise fun x y => x.i < y.i
theorem aheadOk_of : ∀ {l todo : List Dr}, Asc l → (∀ x ∈ l, x ∈ todo) → (∀ x ∈ l, ∀ z ∈ todo, bitOf x.b z.i = true → z ∈ l ∧ z.i < x.i) → AheadOk l todo
  | [], todo, _, _, _ => trivial
  | y :: l, todo, ha, hm, hb => by
    obtain ⟨h1, h2⟩ := List.pairwise_cons.1 ha
    refine ⟨hm y List.mem_cons_self, fun z hz => ?_, aheadOk_of h2 (fun x hx => mem_without.2 ⟨hm x (List.mem_cons_of_mem _ hx), Nat.ne_of_gt (h1 x hx)⟩) fun x hx z hz hbit => ?_⟩
    · cases hbit : bitOf y.b z.i with
      | false => rfl
      | true =>
        obtain ⟨h3, h4⟩ := hb y List.mem_cons_self z hz hbit
        rcases List.mem_cons.1 h3 with rfl | h3
        · omega
        · have := h1 z h3; omega
    · obtain ⟨hz1, hz2⟩ := mem_without.1 hz
      obtain ⟨h3, h4⟩ := hb x (List.mem_cons_of_mem _ hx) z hz1 hbit
      rcases List.mem_cons.1 h3 with rfl | h3
      · exact absurd rfl hz2
      · exact ⟨h3, h4⟩
theorem firstEff_mem {e : Dr} : ∀ {l : List Dr}, firstEff l = some e → e ∈ l
  | [], h => by cases h
  | d :: l, h => by
    simp only [firstEff] at h
    split at h
    · injection h with h; subst h; exact List.mem_cons_self
    · exact List.mem_cons_of_mem _ (firstEff_mem h)
section
variable {P : Program} {ops : Array Oper} {its : List Dr} {E : Env} {n : Nat} {OkC : Cx} {pd0 : Nat → Prop} {rec : Rec}
theorem draw_sound (hE : EnvOk P E) (hF : FlatOk P E) (hN : FnsOk P E OkC) (hrec : RecOk P OkC rec) (hS : Static ops.toList its) (b : Frame) (k : List Item) (cs : List Frame) :
    ∀ (fuel : Nat) {todo : List Dr} {T : BT AT} {h : AHeap} {past : List Past} {res : TH} {L : Lag → Prop} {μ : Mu} {w : World} {a : Act} {π : List Nat}, runDraw E rec n ops.toList fuel todo T h past = some res →
    Inv ops.toList its E n OkC pd0 L todo T h past μ w a π → Sched its π → π.Nodup → Asc todo →
    ∃ μ' w' a', Rel OkC μ' pd0 res.h w' ∧ Ext μ pd0 h μ' res.h ∧ RTmps μ' res.T a'.tmps ∧ a'.tmps.size = n ∧ a'.defers = a.defers ∧
      Steps P (lone (b.atR a (.inRegion ops π :: k)) cs w) (lone (b.atR a' (.inRegion ops [] :: k)) cs w') := by
  intro fuel
  induction fuel with
  | zero => intro todo T h past res L μ w a π e; cases e
  | succ fuel ih =>
    intro todo T h past res L μ w a π e inv hs hn hasc
    simp only [runDraw] at e
    have hbl : ∀ {x : Dr}, x ∈ todo → ∀ {y : Nat}, bitOf x.b y = true → y < x.i := fun {x} hx {y} hy => hS.ok.bit_lt _ (Nat.le_refl _) (inv.todoIn _ hx) hy
    split at e
    · -- nothing but values is left
      split at e <;> try (cases e; done)
      rename_i T' h' past' hrun
      injection e with e
      subst e
      obtain ⟨L', q1, q2⟩ := ahead_sound hS todo inv hrun (aheadOk_of hasc (fun x hx => hx) fun x hx z hz hbit => ⟨hz, hbl hx hbit⟩)
      have hnil : withoutAll todo todo = [] := by
        cases hh : withoutAll todo todo with
        | nil => rfl
        | cons x l =>
          have : x ∈ withoutAll todo todo := by rw [hh]; exact List.mem_cons_self
          obtain ⟨h1, h2⟩ := mem_withoutAll.1 this
          exact absurd rfl (h2 x h1)
      rw [hnil] at q1
      obtain ⟨μ', w', a', r1, r2, r3, r4, r5, r6⟩ := q1.finish hE hF hS b k cs π hs hn
      exact ⟨μ', w', a', r1, ⟨r2, q2.keep, q2.next⟩, r3, r4, r5, r6⟩
    · rename_i y hy
      have hy := firstEff_mem hy
      have hyi := inv.todoIn y hy
      split at e <;> try (cases e; done)
      rename_i T1 h1 past1 hrun
      obtain ⟨L1, q1, q2⟩ := ahead_sound hS (aheadOf y.i todo) inv hrun (aheadOk_of (hasc.sublist aheadOf_sub) (fun x hx => (mem_aheadOf.1 hx).1) fun x hx z hz hbit => by
        obtain ⟨h1, h2, h3⟩ := mem_aheadOf.1 hx
        refine ⟨mem_aheadOf.2 ⟨hz, ?_, ?_⟩, hbl h1 hbit⟩
        · cases hbz : bitOf z.b y.i with
          | false => rfl
          | true => rw [hS.ok.trans _ (Nat.le_refl _) (inv.todoIn x h1) (inv.todoIn z hz) hbit hbz] at h2; cases h2
        · intro h4
          rw [h4, h2] at hbit
          cases hbit)
      simp only [] at q1 q2
      have hy1 : y ∈ withoutAll (aheadOf y.i todo) todo := mem_withoutAll.2 ⟨hy, fun z hz h4 => (mem_aheadOf.1 hz).2.2 h4.symm⟩
      have hrest : ∀ x ∈ withoutAll (aheadOf y.i todo) todo, x.i ≠ y.i → bitOf x.b y.i = true := by
        intro x hx hne
        obtain ⟨h3, h4⟩ := mem_withoutAll.1 hx
        cases hb : bitOf x.b y.i with
        | true => rfl
        | false => exact absurd rfl (h4 x (mem_aheadOf.2 ⟨h3, hb, hne⟩))
      have hto : ∀ x, x ∈ behindOf y.i todo ↔ x ∈ withoutAll (aheadOf y.i todo) todo ∧ x.i ≠ y.i := by
        intro x
        rw [mem_behindOf, mem_withoutAll]
        constructor
        · rintro ⟨h3, h4⟩
          refine ⟨⟨h3, fun z hz h5 => ?_⟩, fun h5 => ?_⟩
          · obtain ⟨h6, h7, h8⟩ := mem_aheadOf.1 hz
            rw [hS.ok.uniq (inv.todoIn x h3) (inv.todoIn z h6) h5, h7] at h4
            cases h4
          · have := hbl h3 h4; omega
        · rintro ⟨⟨h3, h4⟩, h5⟩
          exact ⟨h3, hrest x (mem_withoutAll.2 ⟨h3, h4⟩) h5⟩
      obtain ⟨π', L', μ2, w2, a2, r1, r2, r3, r4, r5, r6⟩ := q1.until hE hF hS hy1 hrest b k cs π hs hn
      have hext : Ext μ pd0 h μ2 h1 := ⟨r4, q2.keep, q2.next⟩
      split at e <;> try (cases e; done)
      rename_i wt hw
      split at e
      · split at e <;> try (cases e; done)
        rename_i x h2 heff
        split at e <;> try (cases e; done)
        rename_i hre
        obtain ⟨T2, e, hT⟩ := putDst_to e
        obtain ⟨μ3, w3, a3, s1, s2, s3, s4⟩ := r1.run hE hF hN hrec hS r2 r3 hy1 hto hw heff hre hT b k cs
        obtain ⟨μ', w', a', t1, t2, t3, t4, t5, t6⟩ := ih e s1 r2.2 (List.nodup_cons.1 r3).2 (hasc.sublist behindOf_sub)
        exact ⟨μ', w', a', t1, hext.trans (s2.trans t2), t3, t4, t5.trans (s3.trans r5), r6.trans (s4.trans t6)⟩
      · obtain ⟨T2, e, hT⟩ := putDst_to e
        obtain ⟨a3, s1, s3, s4⟩ := r1.skip hS r2 r3 hy1 hto hw hT b k cs
        obtain ⟨μ', w', a', t1, t2, t3, t4, t5, t6⟩ := ih e s1 r2.2 (List.nodup_cons.1 r3).2 (hasc.sublist behindOf_sub)
        exact ⟨μ', w', a', t1, hext.trans t2, t3, t4, t5.trans (s3.trans r5), r6.trans (s4.trans t6)⟩
theorem revD_eq : ∀ (l r : List Dr), revD l r = l.reverse ++ r
  | [], r => rfl
  | x :: l, r => by simp [revD, revD_eq l]
/-- Regions whose order is drawn. -/
theorem drawOk (hE : EnvOk P E) (hF : FlatOk P E) (hN : FnsOk P E OkC) (hrec : RecOk P OkC rec) : DrawOk P E OkC regionStatic rec := by
  intro ops n T h res hok e μ pd w b a k cs t hr ht hn
  have hS := staticL_sound hok
  simp only [regionA] at e
  rw [revD_eq, List.append_nil] at e
  have hI : ItemsOk ops.toList (itemsFrom ops.toList 0 []) ops.size := by have := hS.ok; rw [Array.length_toList] at this; exact this
  obtain ⟨h1, h2, h3⟩ := linearise_all hI t
  have hasc : Asc (itemsFrom ops.toList 0 []).reverse := by
    have : ((itemsFrom ops.toList 0 []).reverse.map (·.i)) = List.range ops.size := by rw [List.map_reverse, hI.ids, List.reverse_reverse]
    have hp := List.pairwise_lt_range (n := ops.size)
    rw [← this, List.pairwise_map] at hp
    exact hp
  refine draw_sound (its := itemsFrom ops.toList 0 []) hE hF hN hrec hS b k cs 64 (L := fun _ => False) e ⟨hr.pd_iff fun b => ?_, fun t _ x hx => ht t x hx, fun l hl => hl.elim, fun l l' hl => hl.elim, fun l l' b hl => hl.elim, fun l b hl => hl.elim, fun l z hl => hl.elim, fun l hl => hl.elim, fun l hl => hl.elim, hn, fun x hx => List.mem_reverse.1 hx, fun i => ?_⟩ h1 h2 hasc
  · constructor
    · exact .inl
    · rintro (h | ⟨l, h, _⟩)
      · exact h
      · exact h.elim
  · rw [h3 i]
    constructor
    · intro hi
      obtain ⟨d, hd, hdi⟩ := hI.find hi
      exact .inr ⟨d, List.mem_reverse.2 hd, hdi⟩
    · rintro (⟨l, h, _⟩ | ⟨x, hx, hxi⟩)
      · exact h.elim
      · rw [← hxi]; exact hI.lt (List.mem_reverse.1 hx)
/-- A code's run, whatever the orders. -/
theorem run_sound (hE : EnvOk P E) (hF : FlatOk P E) (hN : FnsOk P E OkC) (hC : CodeOk OkC regionStatic) (hmix : P.follows .mixedOrders = true) (m : Nat) : RecOk P OkC (exec E m) :=
  exec_sound hE hF hN hC hmix (fun _ hrec => drawOk hE hF hN hrec) m
end
end Go.Proofs.YtofjmfjgicdjjaaGreat.Ab
/- The abstract machine, part 35: what is known of a program's types and functions, as trees, is true of it. -/
set_option linter.unusedVariables false
set_option linter.unusedSimpArgs false
namespace Go.Proofs.YtofjmfjgicdjjaaGreat.Ab
open Go
section
variable {P : Program} {raw : BT TypeInfo}
theorem info_of_types {t : TypeId} {i : TypeInfo} (h : P.types[t]? = some i) : P.info? t = some i := by
  have ht : t < P.types.size := (Array.getElem?_eq_some_iff.1 h).1
  show P.toTables.info? t = some i
  unfold Tables.info?
  rw [if_pos ht]
  exact h
theorem under_of_info {t : TypeId} {i : TypeInfo} (h : P.info? t = some i) : P.underlying t = (match i.desc with | .named _ u => (P.info? u).map (·.desc) | d => some d) := by
  unfold Program.underlying
  rw [h]
  obtain ⟨desc, str, size, bytes, hp, al, fa, zero, cmp, ms⟩ := i
  cases desc <;> rfl
variable (hraw : ∀ t i, raw.get t = some i → P.types[t]? = some i)
include hraw
theorem underR_eq {t : TypeId} {d : TypeDesc} (e : underR raw t = some d) : P.underlying t = some d := by
  unfold underR at e
  split at e <;> try (cases e; done)
  rename_i i hi
  rw [under_of_info (info_of_types (hraw _ _ hi))]
  split at e
  · rename_i n u hd
    rw [hd]
    split at e <;> try (cases e; done)
    rename_i j hj
    injection e with e
    subst e
    simp only [info_of_types (hraw _ _ hj)]
    rfl
  · rename_i hn
    injection e with e
    subst e
    split
    · rename_i n u hd
      exact absurd hd (hn n u)
    · rfl
theorem lenIs_some {t : TypeId} {l l' : List LK} (e : lenIs raw t l = some l') : l' = l ∧ P.cellsOf t = l.length := by
  unfold lenIs sizeR at e
  split at e <;> try (cases e; done)
  rename_i s hs
  split at hs <;> try (cases hs; done)
  rename_i i hi
  injection hs with hs
  split at e <;> try (cases e; done)
  rename_i hl
  injection e with e
  have hl := beqN hl
  rw [lenL_eq] at hl
  refine ⟨e.symm, ?_⟩
  unfold Program.cellsOf
  rw [info_of_types (hraw _ _ hi)]
  show i.size = l.length
  omega
omit hraw in
theorem catLK_eq : ∀ (l r : List LK), repL.catLK l r = l ++ r
  | [], r => rfl
  | a :: l, r => by simp [repL.catLK, catLK_eq l r]
omit hraw in
theorem repL_eq : ∀ (n : Nat) (l : List LK), repL n l = (List.replicate n l).flatten
  | 0, l => rfl
  | n + 1, l => by simp [repL, catLK_eq, repL_eq n l, List.replicate_succ]
theorem flatFs_sound {rec : TypeId → Option (List LK)} {R : TypeId → List LK → Prop} (hrec : ∀ t l, rec t = some l → R t l) : ∀ {l : List Field} {off : Nat} {ks : List LK}, flatR.flatFs raw rec l off = some ks → FlatFs P R l off ks
  | [], off, ks, e => by simp only [flatR.flatFs] at e; injection e with e; exact e.symm
  | f :: l, off, ks, e => by
    simp only [flatR.flatFs] at e
    split at e <;> try (cases e; done)
    rename_i ho
    split at e <;> try (cases e; done)
    rename_i hn
    split at e <;> try (cases e; done)
    rename_i k hk
    split at e <;> try (cases e; done)
    rename_i k' hk'
    obtain ⟨rfl, hc⟩ := lenIs_some hraw hk'
    split at e <;> try (cases e; done)
    rename_i r hr
    injection e with e
    rw [lenL_eq] at hr
    refine ⟨by simpa using hn, beqN ho, k', r, hc, hrec _ _ hk, flatFs_sound hrec hr, ?_⟩
    rw [← e, catLK_eq]
theorem flatR_sound : ∀ (f : Nat) {t : TypeId} {ks : List LK}, flatR raw P.stoodInHeld f t = some ks → FlatT P f t ks := by
  intro f
  induction f with
  | zero => intro t ks e; cases e
  | succ f ih =>
    intro t ks e
    simp only [flatR] at e
    split at e <;> try (cases e; done)
    rename_i d hd
    have hu := underR_eq hraw hd
    split at e <;> try (cases e; done)
    · injection e with e
      exact .inl ⟨_, hu, e.symm⟩
    · injection e with e
      exact .inr (.inl ⟨hu, e.symm⟩)
    · split at e <;> try (cases e; done)
      rename_i l hl
      split at e <;> try (cases e; done)
      rename_i l' hl'
      obtain ⟨rfl, hc⟩ := lenIs_some hraw hl'
      injection e with e
      exact .inr (.inr (.inl ⟨_, _, l', hu, hc, ih hl, by rw [← e, repL_eq]⟩))
    · split at e <;> try (cases e; done)
      rename_i hh
      exact .inr (.inr (.inr ⟨_, hu, hh, flatFs_sound (R := FlatT P f) hraw (fun t l h => ih h) e⟩))
theorem flatOf_sound {d : TypeDesc} {j : TypeId} (hne : flatOf raw P.stoodInHeld d j ≠ []) : (∃ d', d' ≤ 16 ∧ FlatT P d' j (flatOf raw P.stoodInHeld d j)) ∧ isAggD d = true := by
  unfold flatOf at hne ⊢
  cases ha : isAggD d with
  | false => rw [ha] at hne; exact absurd rfl hne
  | true =>
    rw [ha] at hne
    cases hl : flatR raw P.stoodInHeld 16 j with
    | none => rw [hl] at hne; exact absurd rfl hne
    | some l => exact ⟨⟨16, Nat.le_refl _, flatR_sound hraw 16 hl⟩, rfl⟩
omit hraw in
theorem tiK_eq {R : Type} (d : TypeDesc) (size : Nat) (zero : Option AV) (flat : List LK) (k : TI → Option R) : tiK d size zero flat k = k ⟨d, size, zero, isAggD d, flat⟩ := by
  unfold tiK
  rw [forceN_eq]
  cases zero <;> rfl
omit hraw in
theorem tysK_some {R : Type} {held : TypeId → Bool} {Good : Nat → TI → Prop} (hgood : ∀ j i d, P.types[j]? = some i → underR raw j = some d → descOk raw d i.bytes = true → Good j ⟨d, i.size, zeroOf i.zero, isAggD d, flatOf raw held d j⟩) {k : BT TI → Option R} {r : R} :
    ∀ (l : List TypeInfo) (j : Nat) {t : BT TI}, P.types.toList.drop j = l → (∀ x ti, t.get x = some ti → Good x ti) → tysK raw held l j t k = some r → ∃ T, k T = some r ∧ ∀ x ti, T.get x = some ti → Good x ti
  | [], j, t, _, ht, e => ⟨t, e, ht⟩
  | i :: l, j, t, hl, ht, e => by
    have hi : P.types[j]? = some i := by
      have : (P.types.toList.drop j)[0]? = some i := by rw [hl]; rfl
      simpa using this
    have hl' : P.types.toList.drop (j + 1) = l := by
      have : (P.types.toList.drop j).drop 1 = l := by rw [hl]; rfl
      rw [List.drop_drop] at this
      exact this
    simp only [tysK] at e
    split at e
    · rename_i d hd
      split at e
      · rename_i hok
        simp only [tiK_eq, BT.putK_eq, forceN_eq] at e
        refine tysK_some hgood l (j + 1) hl' (fun x ti hx => ?_) e
        rcases BT.get_put_inv _ _ _ _ _ hx with ⟨rfl, rfl⟩ | ⟨_, hx⟩
        · exact hgood _ _ _ hi hd hok
        · exact ht x ti hx
      · simp only [forceN_eq] at e
        exact tysK_some hgood l (j + 1) hl' ht e
    · simp only [forceN_eq] at e
      exact tysK_some hgood l (j + 1) hl' ht e
omit hraw in
theorem fnsK_some {R : Type} {ok : Func → Bool} {k : BT Func → Option R} {r : R} :
    ∀ (l : List Func) (j : Nat) {t : BT Func}, P.funcs.toList.drop j = l → (∀ x f, t.get x = some f → P.funcs[x]? = some f ∧ ok f = true) → fnsK ok l j t k = some r → ∃ T, k T = some r ∧ ∀ x f, T.get x = some f → P.funcs[x]? = some f ∧ ok f = true
  | [], j, t, _, ht, e => ⟨t, e, ht⟩
  | f :: l, j, t, hl, ht, e => by
    have hi : P.funcs[j]? = some f := by
      have : (P.funcs.toList.drop j)[0]? = some f := by rw [hl]; rfl
      simpa using this
    have hl' : P.funcs.toList.drop (j + 1) = l := by
      have : (P.funcs.toList.drop j).drop 1 = l := by rw [hl]; rfl
      rw [List.drop_drop] at this
      exact this
    simp only [fnsK] at e
    split at e
    · rename_i hok
      simp only [BT.putK_eq, forceN_eq] at e
      refine fnsK_some l (j + 1) hl' (fun x g hx => ?_) e
      rcases BT.get_put_inv _ _ _ _ _ hx with ⟨rfl, rfl⟩ | ⟨_, hx⟩
      · exact ⟨hi, hok⟩
      · exact ht x g hx
    · simp only [forceN_eq] at e
      exact fnsK_some l (j + 1) hl' ht e
end
/-- May a function be run? -/
def okFn (f : Func) : Bool :=
  match f.name == "runtime.NumGoroutine" with
  | true => false
  | false => match f.body with
    | some c => okCode c
    | none => true
/-- What takes the place of calls is true of them. -/
structure OvrOk (P : Program) (ovr : FuncId → Option (List AT → AHeap → CR)) : Prop where
  fn : ∀ f nat, ovr f = some nat → ∃ fn, P.funcs[f]? = some fn ∧ (fn.name == "runtime.NumGoroutine") = false ∧ fn.body.isSome = true
  calls : ∀ (B : Nat → Prop) (w0 : World) f nat, ovr f = some nat → ∀ args h r, nat args h = some r → ∀ μ pd w avs, Rel ⟨okCode, B, w0⟩ μ pd h w → RTs μ args avs → CallsA P ⟨okCode, B, w0⟩ μ pd h w r f avs.toArray
theorem codeOk (B : Nat → Prop) (w0 : World) : CodeOk ⟨okCode, B, w0⟩ regionStatic := by
  refine ⟨fun a b h => ?_, fun c a b h => ?_, fun i b h => h, fun b h => h, fun b h => h, fun g ps a b h => ?_, fun id ops h => h⟩
  all_goals
    have h : (match okCode a with | true => okCode b | false => false) = true := h
    cases h1 : okCode a with
    | true => rw [h1] at h; exact ⟨h1, h⟩
    | false => rw [h1] at h; cases h
theorem Rel.start (ok : Code → Bool) (w : World) : Rel ⟨ok, fun c => w.heap.size ≤ c, w⟩ (fun _ => none) (fun _ => False) ⟨.e, 0⟩ w :=
  ⟨fun b o h => (by simp [BT.get_e] at h), fun b b' c K K' h => (by obtain ⟨o, h, _⟩ := h; simp [BT.get_e] at h), fun b c K h => (by cases h), fun b h => h.elim, Keeps.refl _ _, fun c hc => hc, fun b c K _ h => (by cases h)⟩
/-- An environment's calls are the program's. -/
theorem envK_callsA {R : Type} {P : Program} {ok : Func → Bool} {ovr : FuncId → Option (List AT → AHeap → CR)} {k : Env → Option R} {r : R} (hmix : P.follows .mixedOrders = true) (hovr : OvrOk P ovr) (hok : ∀ (x : FuncId) (f : Func), P.funcs[x]? = some f → ok f = true → okFn f = true) (e : envK P ok ovr k = some r) :
    ∃ E, k E = some r ∧ ∀ fuel f args h0 v, acall E (exec E fuel) f args h0 = some v → ∀ (mine : Nat → Prop) (w0 : World) μ pd w avs, Rel ⟨okCode, mine, w0⟩ μ pd h0 w → RTs μ args avs → CallsA P ⟨okCode, mine, w0⟩ μ pd h0 w v f avs.toArray := by
  unfold envK at e
  rw [BT.fromK_eq] at e
  have hraw : ∀ t i, (BT.fromL P.types.toList 0 .e).get t = some i → P.types[t]? = some i := fun t i h => by
    have := BT.get_from _ _ _ h
    simpa using this
  obtain ⟨tys, e, htys⟩ := tysK_some (P := P) (Good := fun t i => TypeOk P t i ∧ (i.flat ≠ [] → (∃ d, d ≤ 16 ∧ FlatT P d t i.flat) ∧ isAggD i.desc = true)) (fun j i d h1 h2 h3 => by
    have hi := info_of_types h1
    unfold descOk at h3
    split at h3 <;> try (cases h3; done)
    rename_i hbytes
    refine ⟨⟨underR_eq hraw h2, ⟨i, hi, rfl, fun z hz => ?_⟩, rfl, fun inf hinf => ?_, fun fs hfs f hf => ?_⟩, fun hne => ?_⟩
    · cases hz0 : i.zero with
      | none => rw [hz0] at hz; cases hz
      | some zv => rw [hz0] at hz; exact ⟨zv, rfl, fun μ => ofValue_sound hz⟩
    · rw [hi] at hinf
      injection hinf with hinf
      subst hinf
      exact ble_true hbytes
    · simp only [] at hfs
      subst hfs
      clear h1 h2 hi
      have go : ∀ (l : List Field), fieldsKnown (BT.fromL P.types.toList 0 .e) l = true → ∀ f ∈ l, ∃ inf, P.info? f.type = some inf := by
        intro l
        induction l with
        | nil => intro _ f hf; cases hf
        | cons g l ih =>
          intro h f hf
          simp only [fieldsKnown] at h
          split at h <;> try (cases h; done)
          rename_i inf hg
          rcases List.mem_cons.1 hf with rfl | hf
          · exact ⟨inf, info_of_types (hraw _ _ hg)⟩
          · exact ih h f hf
      exact go _ h3 f hf
    · exact flatOf_sound hraw hne) P.types.toList 0 (t := .e) rfl (fun x ti h => (by simp [BT.get_e] at h)) e
  obtain ⟨fns, e, hfns⟩ := fnsK_some (P := P) P.funcs.toList 0 (t := .e) rfl (fun x f h => (by simp [BT.get_e] at h)) e
  refine ⟨⟨tys, fns, ovr⟩, e, fun fuel f args h0 v hv mine w0 μ pd w avs hr ha => ?_⟩
  have hE : EnvOk P ⟨tys, fns, ovr⟩ := ⟨fun t i h => (htys t i h).1⟩
  have hF : FlatOk P ⟨tys, fns, ovr⟩ := ⟨fun t i h hne => ((htys t i h).2 hne).1, fun t i h hne => ((htys t i h).2 hne).2, by unfold Program.depth Made.depth; omega⟩
  have hN : FnsOk P ⟨tys, fns, ovr⟩ ⟨okCode, mine, w0⟩ := by
    refine ⟨fun f fn h => ?_, hovr.fn, hovr.calls _ _⟩
    obtain ⟨h1, h2⟩ := hfns f fn h
    have h2 := hok f fn h1 h2
    unfold okFn at h2
    split at h2 <;> try (cases h2; done)
    rename_i hn
    refine ⟨h1, hn, fun c hc => ?_⟩
    rw [hc] at h2
    exact h2
  exact acall_sound hE hN (run_sound hE hF hN (codeOk _ _) hmix fuel) hr ha hv
theorem envK_calls {R : Type} {P : Program} {ok : Func → Bool} {ovr : FuncId → Option (List AT → AHeap → CR)} {k : Env → Option R} {r : R} (hmix : P.follows .mixedOrders = true) (hovr : OvrOk P ovr) (hok : ∀ (x : FuncId) (f : Func), P.funcs[x]? = some f → ok f = true → okFn f = true) (e : envK P ok ovr k = some r) :
    ∃ E, k E = some r ∧ ∀ fuel f args v, acall E (exec E fuel) f args ⟨.e, 0⟩ = some v → ∀ w avs, RTs (fun _ => none) args avs →
      Calls P f avs.toArray w fun ex w' => ∃ u μ', ex = .returned u ∧ RT μ' v.a u ∧ RowKit.Below w.heap.size w w' := by
  obtain ⟨E, h1, h2⟩ := envK_callsA hmix hovr hok e
  refine ⟨E, h1, fun fuel f args v hv w avs ha => ?_⟩
  exact Calls.mono (h2 fuel f args ⟨.e, 0⟩ v hv (fun c => w.heap.size ≤ c) w _ _ w avs (Rel.start okCode w) ha) fun ex w' ⟨u, μ', q1, q2, q3, _⟩ => ⟨u, μ', q1, q2, q3.base.below⟩
/-- All functions may be run. -/
def okAll : List Func → Bool
  | [] => true
  | f :: l => match okFn f with
    | true => okAll l
    | false => false
theorem okAll_mem : ∀ {l : List Func}, okAll l = true → ∀ f ∈ l, okFn f = true
  | [], _, f, hf => by cases hf
  | g :: l, h, f, hf => by
    simp only [okAll] at h
    split at h <;> try (cases h; done)
    rename_i h1
    rcases List.mem_cons.1 hf with rfl | hf
    · exact h1
    · exact okAll_mem h f hf
theorem okAll_fn {P : Program} (h : okAll P.funcs.toList = true) (x : FuncId) (f : Func) (hx : P.funcs[x]? = some f) (_ : (true : Bool) = true) : okFn f = true :=
  okAll_mem h f (Array.mem_toList_iff.2 (Array.mem_of_getElem? hx))
end Go.Proofs.YtofjmfjgicdjjaaGreat.Ab
