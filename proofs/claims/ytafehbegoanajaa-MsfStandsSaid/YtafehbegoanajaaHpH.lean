/-
  Regions that draw their order: what only reads may be taken first; where the text's order stands for all.
-/
import Derived.Test.YtafehbegoanajaaHpG
namespace Go.Hp
open Go
set_option linter.unusedVariables false
set_option linter.unusedSimpArgs false

section
variable {P : Program} {ops : Array Oper} {S : Heap → Prop} {K : Env → Heap → Prop}
theorem Runs.mono {o : Oper} {ρ : Operand → Value} {w : World} {K K' : Value → Heap → Prop} (h : Runs P o ρ w K) (hk : ∀ v H, K v H → K' v H) : Runs P o ρ w K' := by
  obtain ⟨nx, w', h1, h2, h3⟩ := h
  refine ⟨nx, w', h1, ?_, h3⟩
  cases nx <;> simp only [nextHp] at h2 ⊢ <;> first | exact hk _ _ h2 | exact h2.mono hk | exact h2
theorem opR_mono {o : Oper} {ρ : Operand → Value} {H : Heap} {K K' : Value → Heap → Prop} (h : opR P o ρ H K) (hk : ∀ v H, K v H → K' v H) : opR P o ρ H K' :=
  fun w hw => (h w hw).mono hk
theorem opAtR_mono {o : Oper} {e : Env} {H : Heap} {K K' : Env → Heap → Prop} (h : opAtR P ops o e H K) (hk : ∀ e H, K e H → K' e H) : opAtR P ops o e H K' := by
  unfold opAtR at h ⊢
  split
  · rename_i hg; rw [hg] at h; exact opR_mono h fun _ _ => hk _ _
  · rename_i j want hg
    rw [hg] at h
    simp only [] at h
    split
    · rename_i hy; rw [if_pos hy] at h; exact opR_mono h fun _ _ => hk _ _
    · rename_i hy; rw [if_neg hy] at h; exact hk _ _ h
theorem Env.put_comm (e : Env) {x y : Option Tmp} (v u : Value) (h : ∀ d, x = some d → y ≠ some d) : (e.put x v).put y u = (e.put y u).put x v := by
  cases x with
  | none => rfl
  | some d =>
    cases y with
    | none => rfl
    | some d' =>
      have hne : d ≠ d' := fun h' => h d rfl (by rw [h'])
      funext i
      simp only [Env.put, Env.set]
      by_cases h1 : i = d
      · subst h1; simp [hne]
      · simp [h1]
theorem eval_put {e : Env} {d : Option Tmp} {v : Value} {x : Operand} (h : ∀ t, d = some t → x ≠ .tmp t) : Env.eval (e.put d v) x = Env.eval e x := by
  cases d with
  | none => rfl
  | some t =>
    cases x with
    | tmp t' =>
      have hne : t' ≠ t := fun h' => h t rfl (by rw [h'])
      show Env.set e t v t' = e t'
      unfold Env.set
      rw [if_neg hne]
    | _ => rfl
theorem exec_put (o : Oper) (hs : ∀ cs b, o.op ≠ .select cs b) (e : Env) (d : Option Tmp) (v : Value) (h : ∀ t, d = some t → t ∉ o.looksAt ops) : execOp (Env.eval (e.put d v)) o = execOp (Env.eval e) o :=
  execOp_congr o hs fun x hx => eval_put fun t ht hxt => h t ht (by
    subst hxt
    exact List.mem_append_left _ (List.mem_filterMap.2 ⟨.tmp t, by simpa using hx, rfl⟩))
theorem yielded_put (o : Oper) (e : Env) (d : Option Tmp) (v : Value) {j : Nat} {want : Bool} (hg : o.guard = some (j, want)) (h : ∀ t, d = some t → t ∉ o.looksAt ops) : yieldedE ops (e.put d v) j = yieldedE ops e j := by
  cases d with
  | none => rfl
  | some t =>
    unfold yieldedE
    cases ht : (ops[j]?).bind (·.dst) with
    | none => rfl
    | some t' =>
      have hne : t' ≠ t := fun e => h t rfl (by subst e; simp [Oper.looksAt, hg, ht])
      simp only []
      show (match Env.set e t v t' with | .bool b => some b | _ => none) = _
      unfold Env.set
      rw [if_neg hne]
      cases e t' <;> rfl
theorem opAtR_put {o : Oper} {e : Env} {d : Option Tmp} {v : Value} {H : Heap} (hs : ∀ cs b, o.op ≠ .select cs b) (h1 : ∀ t, d = some t → t ∉ o.looksAt ops) (h2 : ∀ t, d = some t → o.dst ≠ some t)
    (h : opAtR P ops o (e.put d v) H K) : opAtR P ops o e H fun e' H' => K (e'.put d v) H' := by
  unfold opAtR at h ⊢
  have he : ∀ K', opR P o (Env.eval (e.put d v)) H K' → opR P o (Env.eval e) H K' := fun K' h w hw => by
    have := h w hw
    unfold Runs at this ⊢
    rw [exec_put o hs e d v h1] at this
    exact this
  have hc : ∀ u, (e.put d v).put o.dst u = (e.put o.dst u).put d v := fun u => Env.put_comm e v u h2
  split
  · rename_i hg
    rw [hg] at h
    simp only [hc] at h
    exact he _ h
  · rename_i j want hg
    rw [hg] at h
    simp only [yielded_put o e d v hg h1, hc] at h
    split
    · rename_i hy; rw [if_pos hy] at h; exact he _ h
    · rename_i hy; rw [if_neg hy] at h; exact h
/-- In every heap of S operation o, in this state, yields v and leaves the heap. -/
def Still (P : Program) (ops : Array Oper) (S : Heap → Prop) (o : Oper) (e : Env) (v : Value) : Prop :=
  match o.guard with
  | none => ∀ H, S H → Rd P H (execOp (Env.eval e) o) (.value v)
  | some (j, want) => if yieldedE ops e j = some want then ∀ H, S H → Rd P H (execOp (Env.eval e) o) (.value v) else v = undef
theorem Still.opAtR {o : Oper} {e : Env} {v : Value} {H : Heap} (h : Still P ops S o e v) (hS : S H) (hk : K (e.put o.dst v) H) : opAtR P ops o e H K := by
  unfold Still at h
  unfold Hp.opAtR
  have run : (∀ H, S H → Rd P H (execOp (Env.eval e) o) (.value v)) → opR P o (Env.eval e) H fun v H' => K (e.put o.dst v) H' := fun h w hw => by
    have := h H hS
    subst hw
    exact ⟨_, w, this.run w rfl, hk, .refl w⟩
  split
  · rename_i hg; rw [hg] at h; exact run h
  · rename_i j want hg
    rw [hg] at h
    simp only [] at h
    split
    · rename_i hy; rw [if_pos hy] at h; exact run h
    · rename_i hy; rw [if_neg hy] at h; rw [← h]; exact hk
theorem Still.put {o oj : Oper} {e : Env} {v u : Value} (h : Still P ops S o e v) (hs : ∀ cs b, o.op ≠ .select cs b) (h3 : ∀ t, oj.dst = some t → t ∉ o.looksAt ops) : Still P ops S o (e.put oj.dst u) v := by
  unfold Still at h ⊢
  split
  · rename_i hg; rw [hg] at h; rw [exec_put o hs e _ u h3]; exact h
  · rename_i j want hg
    rw [hg] at h
    simp only [] at h
    rw [exec_put o hs e _ u h3, yielded_put o e _ u hg h3]
    exact h
theorem ready_set {i j : Nat} {listed : Array Bool} (hj : j ∈ Region.ready .any ops listed) (hne : j ≠ i) : j ∈ Region.ready .any ops (listed.setIfInBounds i true) := ready_mono hj hne
end
structure Ext (H H' : Heap) : Prop where
  size : H.size ≤ H'.size
  same : ∀ b, b < H.size → H'[b]? = H[b]?
theorem Ext.refl (H : Heap) : Ext H H := ⟨Nat.le_refl _, fun _ _ => rfl⟩
theorem Ext.trans {A B C : Heap} (h : Ext A B) (k : Ext B C) : Ext A C := ⟨Nat.le_trans h.size k.size, fun b hb => (k.same b (Nat.lt_of_lt_of_le hb h.size)).trans (h.same b hb)⟩
theorem Ext.push (H : Heap) (o : Obj) : Ext H (H.push o) := ⟨by simp, fun b hb => by rw [Array.getElem?_push, if_neg (by omega)]⟩
theorem Ext.nil (H : Heap) : Ext #[] H := ⟨Nat.zero_le _, fun b hb => absurd hb (by simp)⟩
/-- Its value hangs on no heap. -/
def pureOp : Op → Bool
  | .move _ | .assign _ | .pick .. | .nilCheck _ | .unOp .not .. | .unOp .neg .. | .fieldAddr .. | .field .. | .indexAddr .. | .slice .. | .extract .. | .makeFunc .. => true
  | _ => false
/-- It leaves what was there. -/
def smallOp (o : Op) : Bool := isRdOp o || match o with
  | .build .. | .alloc .. | .box .. | .buildSlice .. | .makeSlice .. | .makeMap _ none => true
  | _ => false
section
variable {P : Program} {ops : Array Oper}
theorem buildX_mono {t : TypeId} {parts : List (Nat × Value)} {K K' : Value → Prop} (h : buildX P t parts K) (hk : ∀ v, K v → K' v) : buildX P t parts K' := by
  unfold buildX at h ⊢
  cases ht : tl P t with
  | none => rw [ht] at h; exact h.elim
  | some ti =>
    rw [ht] at h
    simp only [] at h ⊢
    cases hd : ti.kind <;> rw [hd] at h <;> simp only [] at h ⊢
    case struct =>
      cases hf : flay P t with
      | none => rw [hf] at h; exact h.elim
      | some l =>
        rw [hf] at h
        simp only [] at h ⊢
        split at h
        · rename_i cs hc; exact hk _ h
        · exact h.elim
    case array =>
      cases he : elems P t with
      | none => rw [he] at h; exact h.elim
      | some x =>
        rw [he] at h
        simp only [] at h ⊢
        split at h
        · rename_i cs hc; exact hk _ h
        · exact h.elim
theorem opR_small {o : Oper} {ρ : Operand → Value} {H : Heap} {K : Value → Heap → Prop} (hs : smallOp o.op = true) (h : opX P o ρ H K) : opR P o ρ H fun v H' => Ext H H' ∧ K v H' := by
  cases hr : isRdOp o.op with
  | true =>
    unfold opX at h
    rw [hr] at h
    obtain ⟨v, h1, h2⟩ := rdX_sound h
    intro w hw
    subst hw
    exact ⟨_, w, h2.run w rfl, ⟨.refl _, h1⟩, .refl w⟩
  | false =>
    refine opX_mono ?_
    have hs' := hs
    unfold smallOp at hs'
    rw [hr, Bool.false_or] at hs'
    obtain ⟨dst, op, type, pos, after, guard⟩ := o
    unfold opX at h ⊢
    rw [hr] at h ⊢
    try simp only [] at h ⊢
    cases op <;> simp only [Bool.false_eq_true] at hs' h ⊢
    case build t parts => exact buildX_mono h fun v h => ⟨.refl _, h⟩
    case alloc t =>
      cases ht : tl P t with
      | none => rw [ht] at h; exact h.elim
      | some ti => rw [ht] at h; exact ⟨.push _ _, h⟩
    case box => exact ⟨.push _ _, h⟩
    case buildSlice t n parts =>
      cases he : elems P t with
      | none => rw [he] at h; exact h.elim
      | some x =>
        obtain ⟨m, e, sz⟩ := x
        rw [he] at h
        cases m with
        | some m => exact h.elim
        | none =>
          simp only [] at h ⊢
          cases ht : tl P e with
          | none => rw [ht] at h; exact h.elim
          | some te =>
            rw [ht] at h
            simp only [] at h ⊢
            refine ⟨h.1, ?_⟩
            have h2 := h.2
            split at h2
            · rename_i cs hc; exact ⟨.push _ _, h2⟩
            · exact h2.elim
    case makeSlice t l c =>
      cases he : elems P t with
      | none => rw [he] at h; exact h.elim
      | some x =>
        obtain ⟨m, e, sz⟩ := x
        rw [he] at h
        cases m with
        | some m => exact h.elim
        | none =>
          simp only [] at h ⊢
          cases ht : tl P e with
          | none => rw [ht] at h; exact h.elim
          | some te =>
            rw [ht] at h
            simp only [] at h ⊢
            unfold intX at h ⊢
            split at h
            · split at h
              · exact ⟨h.1, h.2.1, h.2.2.1, h.2.2.2.1, .push _ _, h.2.2.2.2⟩
              · exact h.elim
            · exact h.elim
    case makeMap t c =>
      cases c with
      | none => exact ⟨.push _ _, h⟩
      | some c => simp at hs'
theorem opAtR_small {o : Oper} {e : Env} {H : Heap} {K : Env → Heap → Prop} (h : opAt P ops o e H K) : opAtR P ops o e H fun e' H' => (smallOp o.op = true → Ext H H') ∧ K e' H' := by
  cases hs : smallOp o.op with
  | false => exact opAtR_mono (opAtR_of h) fun e H h => ⟨fun h' => (by cases h'), h⟩
  | true =>
    unfold opAt at h
    unfold opAtR
    split
    · rename_i hg; rw [hg] at h; exact opR_mono (opR_small hs h) fun v H' ⟨a, b⟩ => ⟨fun _ => a, b⟩
    · rename_i j want hg
      rw [hg] at h
      simp only [] at h
      split
      · rename_i hy; rw [if_pos hy] at h; exact opR_mono (opR_small hs h) fun v H' ⟨a, b⟩ => ⟨fun _ => a, b⟩
      · rename_i hy; rw [if_neg hy] at h; exact ⟨fun _ => .refl _, h⟩
theorem still_rd {o : Oper} {e : Env} {H : Heap} {K : Env → Heap → Prop} (hr : isRdOp o.op = true) (h : opAt P ops o e H K) : ∃ v, Still P ops (Ext (if pureOp o.op then #[] else H)) o e v ∧ K (e.put o.dst v) H := by
  have key : ∀ K' : Value → Heap → Prop, opX P o (Env.eval e) H K' → ∃ v, K' v H ∧ ∀ H', Ext (if pureOp o.op then #[] else H) H' → Rd P H' (execOp (Env.eval e) o) (.value v) := by
    intro K' hx
    unfold opX at hx
    rw [hr] at hx
    simp only [] at hx
    by_cases hp : pureOp o.op = true
    · rw [if_pos hp]
      have h0 : rdX P o (Env.eval e) #[] fun v => K' v H := by
        obtain ⟨dst, op, type, pos, after, guard⟩ := o
        cases op <;> first | exact hx | (simp [pureOp] at hp; done) | skip
        rename_i op t x
        cases op <;> first | exact hx | (simp [pureOp] at hp; done)
      obtain ⟨v, h1, h2⟩ := rdX_sound h0
      exact ⟨v, h1, fun H' hE => h2.more hE.size hE.same⟩
    · rw [if_neg hp]
      obtain ⟨v, h1, h2⟩ := rdX_sound hx
      exact ⟨v, h1, fun H' hE => h2.more hE.size hE.same⟩
  unfold opAt at h
  unfold Still
  split at h
  · rename_i hg
    rw [hg]
    obtain ⟨v, h1, h2⟩ := key _ h
    exact ⟨v, h2, h1⟩
  · rename_i j want hg
    rw [hg]
    simp only []
    split at h
    · rename_i hy
      obtain ⟨v, h1, h2⟩ := key _ h
      exact ⟨v, by rw [if_pos hy]; exact h2, h1⟩
    · rename_i hy
      exact ⟨_, by rw [if_neg hy], h⟩
variable (P ops) in
def anyE (K : Env → Heap → Prop) : Nat → Array Bool → Env → Heap → Prop
  | 0, listed, e, H => Region.ready .any ops listed = [] ∧ K e H
  | fuel + 1, listed, e, H => (Region.ready .any ops listed = [] → K e H) ∧
    ∀ i ∈ Region.ready .any ops listed, match ops[i]? with
      | none => anyE K fuel (listed.setIfInBounds i true) e H
      | some o => opAtR P ops o e H fun e' H' => (smallOp o.op = true → Ext H H') ∧ anyE K fuel (listed.setIfInBounds i true) e' H'
theorem anyH_of {K : Env → Heap → Prop} : ∀ (fuel : Nat) (listed : Array Bool) (e : Env) (H : Heap), anyE P ops K fuel listed e H → anyH P ops (fun _ => True) [] K fuel listed e H
  | 0, _, _, _, h => h
  | fuel + 1, listed, e, H, h => ⟨h.1, fun i hi => by
      have h2 := h.2 i hi
      cases ho : ops[i]? with
      | none => rw [ho] at h2; exact anyH_of fuel _ e H h2
      | some o => rw [ho] at h2; exact opAtR_mono h2 fun e' H' ⟨_, h⟩ => ⟨fun _ => trivial, anyH_of fuel _ e' H' h⟩⟩
variable {K : Env → Heap → Prop}
theorem anyE_first {i : Nat} {oi : Oper} {v : Value} {B : Heap} {L : List Nat} (hi : ops[i]? = some oi) (hsel : ∀ (j : Nat) (o : Oper) cs b, ops[j]? = some o → o.op ≠ .select cs b)
    (hiL : i ∈ L) (hL : ∀ j ∈ L, j ≠ i → ∀ oj, ops[j]? = some oj → ∃ x ∈ oj.after, Region.binds .any x = true ∧ x.on ∈ L) :
    ∀ (fuel : Nat) (listed : Array Bool) (e : Env) (H : Heap), (∀ j ∈ L, listed.getD j false = false) →
      (∀ j oj, ops[j]? = some oj → j ∉ L → listed.getD j true = false → oi.apart ops oj = true ∧ (B = #[] ∨ smallOp oj.op = true)) →
      i ∈ Region.ready .any ops listed → Still P ops (Ext B) oi e v → Ext B H → (∀ H', Ext H H' → smallOp oi.op = true → True) →
      anyE P ops K fuel (listed.setIfInBounds i true) (e.put oi.dst v) H → anyE P ops K (fuel + 1) listed e H := by
  have run : ∀ {fuel : Nat} {listed : Array Bool} {e : Env} {H : Heap}, Still P ops (Ext B) oi e v → Ext B H → anyE P ops K fuel (listed.setIfInBounds i true) (e.put oi.dst v) H →
      opAtR P ops oi e H fun e' H' => (smallOp oi.op = true → Ext H H') ∧ anyE P ops K fuel (listed.setIfInBounds i true) e' H' :=
    fun hy hS hh => hy.opAtR hS ⟨fun _ => .refl _, hh⟩
  intro fuel
  induction fuel with
  | zero =>
    intro listed e H _ _ hr hy hS _ hh
    refine ⟨fun h => (by rw [h] at hr; cases hr), fun j hj => ?_⟩
    by_cases hji : j = i
    · subst hji; simp only [hi]; exact run hy hS hh
    · have := ready_mono hj hji
      rw [hh.1] at this
      cases this
  | succ fuel ih =>
    intro listed e H hLl hfree hr hy hS hx hh
    refine ⟨fun h => (by rw [h] at hr; cases hr), fun j hj => ?_⟩
    by_cases hji : j = i
    · subst hji; simp only [hi]; exact run hy hS hh
    · have h1 := hh.2 j (ready_mono hj hji)
      obtain ⟨hjun, oj, hoj, hall⟩ := mem_ready.1 hj
      have hjL : j ∉ L := fun hm => by
        obtain ⟨x, hx, hb, hxL⟩ := hL j hm hji oj hoj
        have := hall x hx hb
        rw [hLl _ hxL] at this
        cases this
      obtain ⟨hap0, hsm⟩ := hfree j oj hoj hjL hjun
      have hap := Oper.apart_spec hap0
      have hLl' : ∀ k ∈ L, (listed.setIfInBounds j true).getD k false = false := fun k hk => by
        rw [getD_set_ne (i := j) (j := k) false (fun he => hjL (by rw [he]; exact hk))]
        exact hLl k hk
      have hfree' : ∀ k ok, ops[k]? = some ok → k ∉ L → (listed.setIfInBounds j true).getD k true = false → oi.apart ops ok = true ∧ (B = #[] ∨ smallOp ok.op = true) := fun k ok hk hkL hun => by
        refine hfree k ok hk hkL ?_
        by_cases hjk : j = k
        · subst hjk; exact hjun
        · rw [getD_set_ne true hjk] at hun; exact hun
      simp only [hoj] at h1 ⊢
      have h2 := opAtR_put (fun cs b => hsel j oj cs b hoj) hap.1 hap.2.1 h1
      have h3 : opAtR P ops oj e H fun e' H' => (∃ u, e' = e.put oj.dst u) ∧ (smallOp oj.op = true → Ext H H') ∧ anyE P ops K fuel ((listed.setIfInBounds i true).setIfInBounds j true) (e'.put oi.dst v) H' := by
        unfold opAtR at h2 ⊢
        split
        · rename_i hg; rw [hg] at h2; exact opR_mono h2 fun u _ h => ⟨⟨u, rfl⟩, h⟩
        · rename_i j' want hg
          rw [hg] at h2
          simp only [] at h2
          split
          · rename_i hy'; rw [if_pos hy'] at h2; exact opR_mono h2 fun u _ h => ⟨⟨u, rfl⟩, h⟩
          · rename_i hy'; rw [if_neg hy'] at h2; exact ⟨⟨_, rfl⟩, h2⟩
      refine opAtR_mono h3 ?_
      rintro e' H' ⟨⟨u, rfl⟩, hE, h4⟩
      have hS' : Ext B H' := by
        rcases hsm with rfl | hs
        · exact .nil _
        · exact hS.trans (hE hs)
      refine ⟨hE, ih (listed.setIfInBounds j true) _ H' hLl' hfree' (ready_mono hr (Ne.symm hji)) (hy.put (fun cs b => hsel i oi cs b hi) hap.2.2) hS' (fun _ _ _ => trivial) ?_⟩
      rw [Array.setIfInBounds_comm _ _ hji]
      exact h4
/-- What must come behind i. -/
def behind (ops : Array Oper) (i : Nat) : Nat → List Nat → List Nat
  | 0, L => L
  | n + 1, L => match (List.range ops.size).filter fun j => !L.contains j && match ops[j]? with
      | some oj => oj.after.any fun x => Region.binds .any x && L.contains x.on
      | none => false with
    | [] => L
    | new => behind ops i n (L ++ new)
def takeB (ops : Array Oper) (listed : Array Bool) (i : Nat) (oi : Oper) (L : List Nat) : Bool :=
  L.contains i && L.all (fun j => !listed.getD j false && (j == i || match ops[j]? with
      | some oj => oj.after.any fun x => Region.binds .any x && L.contains x.on
      | none => true)) &&
    (List.range ops.size).all fun j => L.contains j || listed.getD j true || match ops[j]? with
      | some oj => oi.apart ops oj && (pureOp oi.op || smallOp oj.op)
      | none => true
def lexEFrom (ops : Array Oper) : List Oper → Nat → Array Bool → Bool
  | [], _, listed => (Region.ready .any ops listed).isEmpty
  | o :: l, k, listed => (Region.ready .any ops listed).contains k && (isRdOp o.op && (takeB ops listed k o (behind ops k 1 [k]) || takeB ops listed k o (behind ops k ops.size [k])) || Region.ready .any ops listed == [k]) && lexEFrom ops l (k + 1) (listed.setIfInBounds k true)
/-- Text order stands for every order. -/
def lexE (ops : Array Oper) : Bool := Region.noSelect ops && lexEFrom ops ops.toList 0 (Array.replicate ops.size false)
theorem anyE_lex (hs : Region.noSelect ops = true) : ∀ (l : List Oper) (k : Nat) (listed : Array Bool) (e : Env) (H : Heap), (∀ j, l[j]? = ops[k + j]?) → lexEFrom ops l k listed = true → opsX P ops l e H K → anyE P ops K l.length listed e H
  | [], _, _, _, _, _, hB, h => ⟨by simpa [lexEFrom] using hB, h⟩
  | o :: l, k, listed, e, H, hl, hB, h => by
    have h0 : ops[k]? = some o := by simpa using (hl 0).symm
    simp only [lexEFrom, Bool.and_eq_true, Bool.or_eq_true, beq_iff_eq, List.contains_eq_mem, decide_eq_true_eq] at hB
    obtain ⟨⟨hr, hf⟩, hB'⟩ := hB
    have hl' : ∀ j, l[j]? = ops[k + 1 + j]? := fun j => by have := hl (j + 1); simpa [Nat.add_assoc, Nat.add_comm 1 j] using this
    unfold opsX at h
    rcases hf with ⟨h1, hf⟩ | hf
    · obtain ⟨L, hf⟩ : ∃ L, takeB ops listed k o L = true := hf.elim (fun h => ⟨_, h⟩) (fun h => ⟨_, h⟩)
      simp only [takeB, Bool.and_eq_true, List.all_eq_true, Bool.or_eq_true, Bool.not_eq_true', beq_iff_eq, List.contains_eq_mem, decide_eq_true_eq, List.mem_range] at hf
      obtain ⟨⟨h2, h3⟩, h4⟩ := hf
      obtain ⟨v, hst, hK⟩ := still_rd h1 h
      refine anyE_first (L := L) h0 (Region.noSelect_spec hs) h2 ?_ l.length listed e H (fun j hj => (h3 j hj).1) ?_ hr hst ?_ (fun _ _ _ => trivial) (anyE_lex hs l (k + 1) _ _ H hl' hB' hK)
      · intro j hj hjk oj hoj
        have := (h3 j hj).2
        rw [hoj] at this
        rcases this with h | h
        · exact absurd h hjk
        · obtain ⟨x, hx, hb⟩ := Array.any_eq_true'.1 h
          simp only [Bool.and_eq_true, decide_eq_true_eq] at hb
          exact ⟨x, hx, hb.1, hb.2⟩
      · intro j oj hoj hjL hun
        have hlt : j < ops.size := (Array.getElem?_eq_some_iff.1 hoj).1
        have := h4 j hlt
        rw [hoj] at this
        rcases this with (h | h) | h
        · exact absurd h hjL
        · rw [hun] at h; cases h
        · simp only [Bool.and_eq_true, Bool.or_eq_true] at h
          refine ⟨h.1, h.2.imp (fun h => ?_) id⟩
          rw [if_pos h]
      · split
        · exact .nil _
        · exact .refl _
    · refine ⟨fun h => (by rw [h] at hr; cases hr), fun j hj => ?_⟩
      rw [hf] at hj
      obtain rfl := List.mem_singleton.1 hj
      simp only [h0]
      exact opAtR_mono (opAtR_small h) fun e' H' ⟨a, b⟩ => ⟨a, anyE_lex hs l (j + 1) _ e' H' hl' hB' b⟩
theorem anyH_lex (h : lexE ops = true) {e : Env} {H : Heap} (hx : opsX P ops ops.toList e H K) : anyH P ops (fun _ => True) [] K ops.size (Array.replicate ops.size false) e H := by
  unfold lexE at h
  rw [Bool.and_eq_true] at h
  have := anyE_lex h.1 ops.toList 0 _ e H (fun j => by simp) h.2 hx
  rw [Array.length_toList] at this
  exact anyH_of _ _ e H this
end
end Go.Hp
