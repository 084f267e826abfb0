/-
  Regions that draw their order: an operation that reads may be taken first.
-/
import Derived.Test.YtkfcbgnodjgdcaaHpJ
namespace Go.Hp
open Go
set_option linter.unusedVariables false
set_option linter.unusedSimpArgs false

section
variable {P : Program} {ops : Array Oper} {S : Heap → Prop} {K : Env → Heap → Prop}
theorem Runs.mono {o : Oper} {ρ : Operand → Value} {w : World} {K K' : Value → Heap → Prop} (h : Runs P o ρ w K) (hk : ∀ v H, K v H → K' v H) : Runs P o ρ w K' := by
  obtain ⟨nx, w', h1, h2, h3⟩ := h
  refine ⟨nx, w', h1, ?_, h3⟩
  cases nx <;> simp only [nextHp] at h2 ⊢ <;> first | exact hk _ _ h2 | exact h2.mono hk | exact h2
theorem opR_mono {o : Oper} {ρ : Operand → Value} {H : Heap} {K K' : Value → Heap → Prop} (h : opR P o ρ H K) (hk : ∀ v H, K v H → K' v H) : opR P o ρ H K' :=
  fun w hw => (h w hw).mono hk
theorem opAtR_mono {o : Oper} {e : Env} {H : Heap} {K K' : Env → Heap → Prop} (h : opAtR P ops o e H K) (hk : ∀ e H, K e H → K' e H) : opAtR P ops o e H K' := by
  unfold opAtR at h ⊢
  split
  · rename_i hg; rw [hg] at h; exact opR_mono h fun _ _ => hk _ _
  · rename_i j want hg
    rw [hg] at h
    simp only [] at h
    split
    · rename_i hy; rw [if_pos hy] at h; exact opR_mono h fun _ _ => hk _ _
    · rename_i hy; rw [if_neg hy] at h; exact hk _ _ h
theorem Env.put_comm (e : Env) {x y : Option Tmp} (v u : Value) (h : ∀ d, x = some d → y ≠ some d) : (e.put x v).put y u = (e.put y u).put x v := by
  cases x with
  | none => rfl
  | some d =>
    cases y with
    | none => rfl
    | some d' =>
      have hne : d ≠ d' := fun h' => h d rfl (by rw [h'])
      funext i
      simp only [Env.put, Env.set]
      by_cases h1 : i = d
      · subst h1; simp [hne]
      · simp [h1]
theorem eval_put {e : Env} {d : Option Tmp} {v : Value} {x : Operand} (h : ∀ t, d = some t → x ≠ .tmp t) : Env.eval (e.put d v) x = Env.eval e x := by
  cases d with
  | none => rfl
  | some t =>
    cases x with
    | tmp t' =>
      have hne : t' ≠ t := fun h' => h t rfl (by rw [h'])
      show Env.set e t v t' = e t'
      unfold Env.set
      rw [if_neg hne]
    | _ => rfl
theorem exec_put (o : Oper) (hs : ∀ cs b, o.op ≠ .select cs b) (e : Env) (d : Option Tmp) (v : Value) (h : ∀ t, d = some t → t ∉ o.looksAt ops) : execOp (Env.eval (e.put d v)) o = execOp (Env.eval e) o :=
  execOp_congr o hs fun x hx => eval_put fun t ht hxt => h t ht (by
    subst hxt
    exact List.mem_append_left _ (List.mem_filterMap.2 ⟨.tmp t, by simpa using hx, rfl⟩))
theorem yielded_put (o : Oper) (e : Env) (d : Option Tmp) (v : Value) {j : Nat} {want : Bool} (hg : o.guard = some (j, want)) (h : ∀ t, d = some t → t ∉ o.looksAt ops) : yieldedE ops (e.put d v) j = yieldedE ops e j := by
  cases d with
  | none => rfl
  | some t =>
    unfold yieldedE
    cases ht : (ops[j]?).bind (·.dst) with
    | none => rfl
    | some t' =>
      have hne : t' ≠ t := fun e => h t rfl (by subst e; simp [Oper.looksAt, hg, ht])
      simp only []
      show (match Env.set e t v t' with | .bool b => some b | _ => none) = _
      unfold Env.set
      rw [if_neg hne]
      cases e t' <;> rfl
theorem opAtR_put {o : Oper} {e : Env} {d : Option Tmp} {v : Value} {H : Heap} (hs : ∀ cs b, o.op ≠ .select cs b) (h1 : ∀ t, d = some t → t ∉ o.looksAt ops) (h2 : ∀ t, d = some t → o.dst ≠ some t)
    (h : opAtR P ops o (e.put d v) H K) : opAtR P ops o e H fun e' H' => K (e'.put d v) H' := by
  unfold opAtR at h ⊢
  have he : ∀ K', opR P o (Env.eval (e.put d v)) H K' → opR P o (Env.eval e) H K' := fun K' h w hw => by
    have := h w hw
    unfold Runs at this ⊢
    rw [exec_put o hs e d v h1] at this
    exact this
  have hc : ∀ u, (e.put d v).put o.dst u = (e.put o.dst u).put d v := fun u => Env.put_comm e v u h2
  split
  · rename_i hg
    rw [hg] at h
    simp only [hc] at h
    exact he _ h
  · rename_i j want hg
    rw [hg] at h
    simp only [yielded_put o e d v hg h1, hc] at h
    split
    · rename_i hy; rw [if_pos hy] at h; exact he _ h
    · rename_i hy; rw [if_neg hy] at h; exact h
/-- In every heap of S operation o, in this state, yields v and leaves the heap. -/
def Still (P : Program) (ops : Array Oper) (S : Heap → Prop) (o : Oper) (e : Env) (v : Value) : Prop :=
  match o.guard with
  | none => ∀ H, S H → Rd P H (execOp (Env.eval e) o) (.value v)
  | some (j, want) => if yieldedE ops e j = some want then ∀ H, S H → Rd P H (execOp (Env.eval e) o) (.value v) else v = undef
theorem Still.opAtR {o : Oper} {e : Env} {v : Value} {H : Heap} (h : Still P ops S o e v) (hS : S H) (hk : K (e.put o.dst v) H) : opAtR P ops o e H K := by
  unfold Still at h
  unfold Hp.opAtR
  have run : (∀ H, S H → Rd P H (execOp (Env.eval e) o) (.value v)) → opR P o (Env.eval e) H fun v H' => K (e.put o.dst v) H' := fun h w hw => by
    have := h H hS
    subst hw
    exact ⟨_, w, this.run w rfl, hk, .refl w⟩
  split
  · rename_i hg; rw [hg] at h; exact run h
  · rename_i j want hg
    rw [hg] at h
    simp only [] at h
    split
    · rename_i hy; rw [if_pos hy] at h; exact run h
    · rename_i hy; rw [if_neg hy] at h; rw [← h]; exact hk
theorem Still.put {o oj : Oper} {e : Env} {v u : Value} (h : Still P ops S o e v) (hs : ∀ cs b, o.op ≠ .select cs b) (h3 : ∀ t, oj.dst = some t → t ∉ o.looksAt ops) : Still P ops S o (e.put oj.dst u) v := by
  unfold Still at h ⊢
  split
  · rename_i hg; rw [hg] at h; rw [exec_put o hs e _ u h3]; exact h
  · rename_i j want hg
    rw [hg] at h
    simp only [] at h
    rw [exec_put o hs e _ u h3, yielded_put o e _ u hg h3]
    exact h
theorem ready_set {i j : Nat} {listed : Array Bool} (hj : j ∈ Region.ready .any ops listed) (hne : j ≠ i) : j ∈ Region.ready .any ops (listed.setIfInBounds i true) := ready_mono hj hne
theorem anyH_first {i : Nat} {oi : Oper} {v : Value} (hi : ops[i]? = some oi) (hsel : ∀ (j : Nat) (o : Oper) cs b, ops[j]? = some o → o.op ≠ .select cs b) :
    ∀ (fuel : Nat) (listed : Array Bool) (e : Env) (H : Heap),
      (∀ j oj, ops[j]? = some oj → j ≠ i → listed.getD j true = false → (∀ x ∈ oj.after, Region.binds .any x = true → x.on ≠ i) → oi.apart ops oj = true) →
      i ∈ Region.ready .any ops listed → Still P ops S oi e v → S H →
      anyH P ops S K fuel (listed.setIfInBounds i true) (e.put oi.dst v) H → anyH P ops S K (fuel + 1) listed e H := by
  intro fuel
  induction fuel with
  | zero =>
    intro listed e H _ hr hy hS hh
    refine ⟨fun h => (by rw [h] at hr; cases hr), fun j hj => ?_⟩
    by_cases hji : j = i
    · subst hji; simp only [hi]; exact hy.opAtR hS ⟨hS, hh⟩
    · have := ready_mono hj hji
      rw [hh.1] at this
      cases this
  | succ fuel ih =>
    intro listed e H hfree hr hy hS hh
    refine ⟨fun h => (by rw [h] at hr; cases hr), fun j hj => ?_⟩
    by_cases hji : j = i
    · subst hji; simp only [hi]; exact hy.opAtR hS ⟨hS, hh⟩
    · have h1 := hh.2 j (ready_mono hj hji)
      obtain ⟨hjun, oj, hoj, hall⟩ := mem_ready.1 hj
      have hnot : ∀ x ∈ oj.after, Region.binds .any x = true → x.on ≠ i := fun x hx hb heq => by
        have h1 := hall x hx hb
        have h0 := (mem_ready.1 hr).1
        rw [heq] at h1
        rcases Nat.lt_or_ge i listed.size with h' | h'
        · simp [h'] at h0 h1; rw [h0] at h1; cases h1
        · simp [Array.getElem?_eq_none h'] at h1
      have hap := Oper.apart_spec (hfree j oj hoj hji hjun hnot)
      have hfree' : ∀ k ok, ops[k]? = some ok → k ≠ i → (listed.setIfInBounds j true).getD k true = false →
          (∀ x ∈ ok.after, Region.binds .any x = true → x.on ≠ i) → oi.apart ops ok = true := fun k ok hk hki hun hno => by
        refine hfree k ok hk hki ?_ hno
        by_cases hjk : j = k
        · subst hjk; exact hjun
        · rw [getD_set_ne true hjk] at hun; exact hun
      simp only [hoj] at h1 ⊢
      have h2 := opAtR_put (fun cs b => hsel j oj cs b hoj) hap.1 hap.2.1 h1
      -- the environment behind j is e.put oj.dst u
      have h3 : opAtR P ops oj e H fun e' H' => (∃ u, e' = e.put oj.dst u) ∧ S H' ∧ anyH P ops S K fuel ((listed.setIfInBounds i true).setIfInBounds j true) (e'.put oi.dst v) H' := by
        unfold opAtR at h2 ⊢
        split
        · rename_i hg; rw [hg] at h2; exact opR_mono h2 fun u _ h => ⟨⟨u, rfl⟩, h⟩
        · rename_i j' want hg
          rw [hg] at h2
          simp only [] at h2
          split
          · rename_i hy'; rw [if_pos hy'] at h2; exact opR_mono h2 fun u _ h => ⟨⟨u, rfl⟩, h⟩
          · rename_i hy'; rw [if_neg hy'] at h2; exact ⟨⟨_, rfl⟩, h2⟩
      refine opAtR_mono h3 ?_
      rintro e' H' ⟨⟨u, rfl⟩, hS', h4⟩
      refine ⟨hS', ih (listed.setIfInBounds j true) _ H' hfree' (ready_mono hr (Ne.symm hji)) (hy.put (fun cs b => hsel i oi cs b hi) hap.2.2) hS' ?_⟩
      rw [Array.setIfInBounds_comm _ _ hji]
      exact h4
/-- The next operation that only reads is taken first. -/
theorem anyH_take {i : Nat} {oi : Oper} {v : Value} {fuel : Nat} {listed : Array Bool} {e : Env} {H : Heap} (hi : ops[i]? = some oi) (hns : Region.noSelect ops = true) (hfree : Region.free .any ops listed i = true)
    (hready : (Region.ready .any ops listed).contains i = true) (hy : Still P ops S oi e v) (hS : S H) (h : anyH P ops S K fuel (listed.setIfInBounds i true) (e.put oi.dst v) H) : anyH P ops S K (fuel + 1) listed e H :=
  anyH_first hi (Region.noSelect_spec hns) fuel listed e H (Region.free_spec hi hfree) (by simpa using hready) hy hS h
theorem still_of {o : Oper} {e : Env} {v : Value} (hg : o.guard = none) (h : ∀ H, S H → rdX P o (Env.eval e) H (· = v)) : Still P ops S o e v := by
  unfold Still
  rw [hg]
  intro H hS
  obtain ⟨u, h1, h2⟩ := rdX_sound (h H hS)
  rw [← h1]; exact h2
/-- The one operation that may come up. -/
theorem anyH_one {i : Nat} {o : Oper} {fuel : Nat} {listed : Array Bool} {e : Env} {H : Heap} (hr : Region.ready .any ops listed = [i]) (ho : ops[i]? = some o) (hg : o.guard = none)
    (h : ∀ K' : Value → Heap → Prop, (∀ v H', S H' ∧ anyH P ops S K fuel (listed.setIfInBounds i true) (e.put o.dst v) H' → K' v H') → opX P o (Env.eval e) H K') : anyH P ops S K (fuel + 1) listed e H := by
  refine ⟨fun h => (by rw [hr] at h; cases h), fun j hj => ?_⟩
  rw [hr] at hj
  obtain rfl := List.mem_singleton.1 hj
  simp only [ho]
  refine opAtR_of ?_
  unfold opAt
  rw [hg]
  exact h _ fun _ _ h => h
theorem anyH_done {fuel : Nat} {listed : Array Bool} {e : Env} {H : Heap} (hr : Region.ready .any ops listed = []) (h : K e H) : anyH P ops S K fuel listed e H := by
  cases fuel with
  | zero => exact ⟨hr, h⟩
  | succ n => exact ⟨fun _ => h, fun i hi => by rw [hr] at hi; cases hi⟩
theorem x_draw {qs : List Nat} {id : Nat} {Q : HX → Env → Heap → Prop} {e : Env} {H : Heap} (hq : qs.contains id = false) (S : Heap → Prop) (hS : S H) (h : anyH P ops S (Q .normal) ops.size (Array.replicate ops.size false) e H) :
    codeX P qs (.region id ops true) Q e H := by
  unfold codeX
  rw [hq]
  exact ⟨S, hS, h⟩
end
end Go.Hp
