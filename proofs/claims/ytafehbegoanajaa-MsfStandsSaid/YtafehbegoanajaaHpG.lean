/-
  Regions, code and calls over a heap: sound for the model's own.
-/
import Derived.Test.YtafehbegoanajaaHpF
namespace Go.Hp
open Go
set_option linter.unusedVariables false
set_option linter.unusedSimpArgs false

def Env.set (e : Env) (d : Nat) (v : Value) : Env := fun i => if i = d then v else e i
def Env.put (e : Env) : Option Tmp → Value → Env
  | none, _ => e
  | some d, v => e.set d v
def Env.eval (e : Env) : Operand → Value
  | .tmp t => e t
  | .const v => v
  | .global g => .pointer (some ⟨g, 0, none⟩)
  | .func f => .func (.func f) #[] #[]
def envOf (a : Act) : Env := fun t => a.tmps.getD t undef
theorem eval_env (a : Act) : a.eval = Env.eval (envOf a) := by
  funext x; cases x <;> rfl
def opPlain : Op → Bool
  | .defer _ => false
  | _ => true
def dstOk (n : Nat) (o : Oper) : Bool := (match o.dst with | none => true | some d => decide (d < n)) && opPlain o.op
theorem env_put {a : Act} {o : Oper} {v : Value} (h : dstOk a.tmps.size o = true) : envOf (a.put o.dst v) = (envOf a).put o.dst v := by
  unfold dstOk at h
  replace h := (Bool.and_eq_true _ _ ▸ h).1
  cases hd : o.dst with
  | none => rfl
  | some d =>
    rw [hd] at h
    simp only [decide_eq_true_eq] at h
    funext t
    unfold envOf Act.put Env.put Env.set
    simp only [Array.getD_eq_getD_getElem?]
    by_cases ht : t = d
    · subst ht; simp [h]
    · rw [Array.getElem?_setIfInBounds_ne (Ne.symm ht), if_neg ht]
theorem size_put {a : Act} {d : Option Tmp} {v : Value} : (a.put d v).tmps.size = a.tmps.size := by
  cases d <;> simp [Act.put]
theorem defers_put {a : Act} {d : Option Tmp} {v : Value} : (a.put d v).defers = a.defers := by
  cases d <;> rfl
def yieldedE (ops : Array Oper) (e : Env) (j : Nat) : Option Bool :=
  match (ops[j]?).bind (·.dst) with
  | some d => match e d with
    | .bool b => some b
    | _ => none
  | none => none
theorem yielded_env (ops : Array Oper) (a : Act) : yielded ops a.tmps = yieldedE ops (envOf a) := by
  funext j
  unfold yielded yieldedE envOf
  cases (ops[j]?).bind (·.dst) with
  | none => rfl
  | some d =>
    simp only [Option.bind_some, Array.getD_eq_getD_getElem?]
    cases h : a.tmps[d]? with
    | none => rfl
    | some v => simp only [Option.getD_some]; cases v <;> rfl

section
variable (P : Program)
def opAt (ops : Array Oper) (o : Oper) (e : Env) (H : Heap) (K : Env → Heap → Prop) : Prop :=
  match o.guard with
  | none => opX P o (Env.eval e) H fun v H' => K (e.put o.dst v) H'
  | some (j, want) => if yieldedE ops e j = some want then opX P o (Env.eval e) H fun v H' => K (e.put o.dst v) H' else K (e.put o.dst undef) H
def opsX (ops : Array Oper) : List Oper → Env → Heap → (Env → Heap → Prop) → Prop
  | [], e, H, K => K e H
  | o :: rest, e, H, K => opAt P ops o e H fun e' H' => opsX ops rest e' H' K
/-- What one operation comes to, in every world with this heap. -/
def opR (o : Oper) (ρ : Operand → Value) (H : Heap) (K : Value → Heap → Prop) : Prop := ∀ w : World, w.heap = H → Runs P o ρ w K
def opAtR (ops : Array Oper) (o : Oper) (e : Env) (H : Heap) (K : Env → Heap → Prop) : Prop :=
  match o.guard with
  | none => opR P o (Env.eval e) H fun v H' => K (e.put o.dst v) H'
  | some (j, want) => if yieldedE ops e j = some want then opR P o (Env.eval e) H fun v H' => K (e.put o.dst v) H' else K (e.put o.dst undef) H
/-- A region that draws its order: whatever order; S holds of the heap behind each operation but those of Z. -/
def anyH (ops : Array Oper) (S : Heap → Prop) (Z : List Nat) (K : Env → Heap → Prop) : Nat → Array Bool → Env → Heap → Prop
  | 0, listed, e, H => Region.ready .any ops listed = [] ∧ K e H
  | fuel + 1, listed, e, H => (Region.ready .any ops listed = [] → K e H) ∧
    ∀ i ∈ Region.ready .any ops listed, match ops[i]? with
      | none => anyH ops S Z K fuel (listed.setIfInBounds i true) e H
      | some o => opAtR P ops o e H fun e' H' => (Z.contains i = false → S H') ∧ anyH ops S Z K fuel (listed.setIfInBounds i true) e' H'
inductive HX where
  | normal
  | exit (id : Nat)
  | ret
def HX.to : HX → Exit
  | .normal => .normal
  | .exit id => .exit id
  | .ret => .ret
def seqQ (K : Env → Heap → Prop) (Q : HX → Env → Heap → Prop) : HX → Env → Heap → Prop
  | .normal, e, H => K e H
  | .exit i, e, H => Q (.exit i) e H
  | .ret, e, H => Q .ret e H
def blockQ (id : Nat) (Q : HX → Env → Heap → Prop) : HX → Env → Heap → Prop
  | .normal, e, H => Q .normal e H
  | .exit i, e, H => if i = id then Q .normal e H else Q (.exit i) e H
  | .ret, e, H => Q .ret e H
def loopQ (I : Nat → Env → Heap → Prop) (m : Nat) (Q : HX → Env → Heap → Prop) : HX → Env → Heap → Prop
  | .normal, e, H => ∃ m', m' < m ∧ I m' e H
  | .exit i, e, H => Q (.exit i) e H
  | .ret, e, H => Q .ret e H
def assignedOps (ops : Array Oper) : List Nat := ops.toList.filterMap (·.dst)
def assigned : Code → List Nat
  | .region _ ops _ => assignedOps ops
  | .seq a b => assigned a ++ assigned b
  | .cond _ a b => assigned a ++ assigned b
  | .block _ b => assigned b
  | .loop b => assigned b
  | .scope b => assigned b
  | _ => []
/-- qs: the regions that draw their order and only read. -/
def codeX (qs : List Nat) : Code → (HX → Env → Heap → Prop) → Env → Heap → Prop
  | .skip, Q, e, H => Q .normal e H
  | .label _, Q, e, H => Q .normal e H
  | .region id ops draw, Q, e, H => if (draw && !qs.contains id) = true then (∃ (S : Heap → Prop) (Z : List Nat), S H ∧ anyH P ops S Z (Q .normal) ops.size (Array.replicate ops.size false) e H) else opsX P ops ops.toList e H (Q .normal)
  | .seq a b, Q, e, H => codeX qs a (seqQ (codeX qs b Q) Q) e H
  | .cond c a b, Q, e, H => boolX (Env.eval e c) fun t => (t = true → codeX qs a Q e H) ∧ (t = false → codeX qs b Q e H)
  | .block id b, Q, e, H => codeX qs b (blockQ id Q) e H
  | .loop b, Q, e, H => ∃ I : Nat → Env → Heap → Prop, (∃ m, I m e H) ∧ ∀ m e' H', I m e' H' → (∀ i, (assigned b).contains i = false → e' i = e i) → codeX qs b (loopQ I m Q) e' H'
  | .scope b, Q, e, H => codeX qs b Q e H
  | .exit id, Q, e, H => Q (.exit id) e H
  | .ret, Q, e, H => Q .ret e H
  | _, _, _, _ => False
end

section
variable {P : Program}
theorem opX_mono {o : Oper} {ρ : Operand → Value} {H : Heap} {K : Value → Heap → Prop} (h : opX P o ρ H K) (w : World) (hw : w.heap = H) : Runs P o ρ w K := by
  subst hw; exact opX_run h
structure At (n : Nat) (ds : List Deferred) (w0 : World) (e : Env) (H : Heap) (a : Act) (w : World) : Prop where
  env : envOf a = e
  heap : w.heap = H
  defers : a.defers = ds
  size : a.tmps.size = n
  like : Like w0 w
theorem At.put {n : Nat} {ds : List Deferred} {w0 : World} {e : Env} {H : Heap} {a : Act} {w : World} (h : At n ds w0 e H a w) {o : Oper} (ho : dstOk n o = true) (v : Value) {w' : World} (hl : Like w w') :
    At n ds w0 (e.put o.dst v) w'.heap (a.put o.dst v) w' :=
  ⟨by rw [env_put (by rw [h.size]; exact ho), h.env], rfl, by rw [defers_put, h.defers], by rw [size_put, h.size], h.like.trans hl⟩
def Off (A : List Nat) (e e' : Env) : Prop := ∀ i, A.contains i = false → e' i = e i
theorem Off.refl (A : List Nat) (e : Env) : Off A e e := fun _ _ => rfl
theorem Off.trans {A B : List Nat} {e e' e'' : Env} (h : Off A e e') (k : Off B e' e'') : Off (A ++ B) e e'' := fun i hi => by
  simp only [List.contains_eq_mem, List.mem_append, decide_eq_false_iff_not, not_or] at hi
  rw [k i (by simpa using hi.2), h i (by simpa using hi.1)]
theorem Off.mono {A B : List Nat} {e e' : Env} (h : Off A e e') (k : ∀ i, i ∈ A → i ∈ B) : Off B e e' := fun i hi => h i (by
  simp only [List.contains_eq_mem, decide_eq_false_iff_not] at hi ⊢
  exact fun h => hi (k i h))
theorem off_put (e : Env) (d : Option Tmp) (v : Value) : Off d.toList e (e.put d v) := fun i hi => by
  cases d with
  | none => rfl
  | some d =>
    simp only [Option.toList_some, List.contains_eq_mem, List.mem_singleton, decide_eq_false_iff_not] at hi
    exact if_neg hi
theorem opAtR_of {ops : Array Oper} {o : Oper} {e : Env} {H : Heap} {K : Env → Heap → Prop} (h : opAt P ops o e H K) : opAtR P ops o e H K := by
  unfold opAt at h
  unfold opAtR
  cases hg : o.guard with
  | none => rw [hg] at h; exact fun w hw => opX_mono h w hw
  | some g =>
    obtain ⟨j, want⟩ := g
    rw [hg] at h
    simp only [] at h ⊢
    split
    · rename_i hy; rw [if_pos hy] at h; exact fun w hw => opX_mono h w hw
    · rename_i hy; rw [if_neg hy] at h; exact h
theorem opAtR_sound {n : Nat} {r : Option Nat} {ds : List Deferred} {w0 : World} {ops : Array Oper} {o : Oper} {e : Env} {H : Heap} {K : Env → Heap → Prop} {a : Act} {w : World} {N : Act → World → Prop} {Q : Exit → Act → World → Prop}
    (hat : At n ds w0 e H a w) (ho : dstOk n o = true) (h : opAtR P ops o e H K) (hN : ∀ e' H' a' w', At n ds w0 e' H' a' w' → Off o.dst.toList e e' → K e' H' → N a' w') :
    (if Region.wanted o (yielded ops a.tmps) then o.wpIn (FW r) 0 P a w N Q else (∀ f, o.about P w a.eval = some f → (FW r).fn f) ∧ N (a.put o.dst undef) w) := by
  have run : ∀ K' : Value → Heap → Prop, opR P o (Env.eval e) H K' → (∀ v H', K' v H' → K (e.put o.dst v) H') → o.wpIn (FW r) 0 P a w N Q := by
    intro K' hx hk
    obtain ⟨nx, w', h1, h2, h3⟩ := hx w hat.heap
    rw [← hat.env, ← eval_env] at h1
    refine ⟨fun _ _ => trivial, ?_⟩
    have hne : ∀ c, o.op ≠ .defer c := fun c hc => by
      have := (Bool.and_eq_true _ _ ▸ ho).2
      rw [hc] at this
      cases this
    rw [Oper.semAt_eq _ _ _ hne, h1]
    cases nx <;> simp only [nextHp] at h2 <;> first | exact h2.elim | skip
    case value v => exact hN _ _ _ _ (hat.put ho v h3) (off_put _ _ _) (hk _ _ h2)
    case skip => exact hN _ _ _ _ (hat.put ho _ h3) (off_put _ _ _) (hk _ _ h2)
    case enter f args =>
      refine ⟨fun h => (by cases h), ?_⟩
      refine (callsIn_wide.2 (h2.2 w' rfl) : CallsIn (FW none) _ P f args w' _).mono ?_
      rintro _ w'' ⟨v, rfl, h4, h5⟩
      exact hN _ _ _ _ (hat.put ho v (h3.trans h5)) (off_put _ _ _) (hk _ _ h4)
    case round l f tmps as bd =>
      refine ⟨fun h => (by cases h), ?_⟩
      refine RoundIn.mono (F := FW none) (h2 w' rfl) ?_
      rintro _ w'' ⟨v, rfl, h4, h5⟩
      exact hN _ _ _ _ (hat.put ho v (h3.trans h5)) (off_put _ _ _) (hk _ _ h4)
  unfold opAtR at h
  cases hg : o.guard with
  | none =>
    rw [hg] at h
    rw [if_pos (by simp [Region.wanted, hg])]
    exact run _ h fun _ _ h => h
  | some g =>
    obtain ⟨j, want⟩ := g
    rw [hg] at h
    simp only [] at h
    have hw : Region.wanted o (yielded ops a.tmps) = (yieldedE ops e j == some want) := by
      unfold Region.wanted
      rw [hg, yielded_env, hat.env]
    rw [hw]
    by_cases hy : yieldedE ops e j = some want
    · rw [if_pos hy] at h
      rw [if_pos (by rw [hy]; simp)]
      exact run _ h fun _ _ h => h
    · rw [if_neg hy] at h
      rw [if_neg (by simpa using hy)]
      exact ⟨fun _ _ => trivial, hN _ _ _ _ (by have := hat.put ho undef (.refl w); rw [hat.heap] at this; exact this) (off_put _ _ _) h⟩
theorem off_step {A : List Nat} {o : Oper} {e e' e'' : Env} (h : ∀ d, o.dst = some d → d ∈ A) (k : Off A e e') (l : Off o.dst.toList e' e'') : Off A e e'' :=
  (k.trans l).mono fun i hi => by
    rcases List.mem_append.1 hi with hi | hi
    · exact hi
    · exact h i (by simpa using hi)
theorem opsX_sound {n : Nat} {r : Option Nat} {ds : List Deferred} {w0 : World} {ops : Array Oper} {A : List Nat} {e0 : Env} {Q : Exit → Act → World → Prop} {K : Env → Heap → Prop} (hQ : ∀ e' H' a' w', At n ds w0 e' H' a' w' → Off A e0 e' → K e' H' → Q .normal a' w') :
    ∀ (l : List Oper) (e : Env) (H : Heap) (a : Act) (w : World), (∀ o ∈ l, dstOk n o = true) → (∀ o ∈ l, ∀ d, o.dst = some d → d ∈ A) → Off A e0 e → At n ds w0 e H a w → opsX P ops l e H K → wpListIn (FW r) 0 P ops Q l a w
  | [], e, H, a, w, _, _, hoff, hat, h => hQ _ _ _ _ hat hoff h
  | o :: rest, e, H, a, w, hd, hA, hoff, hat, h => by
    unfold wpListIn
    exact opAtR_sound hat (hd o (.head _)) (opAtR_of h) fun e' H' a' w' hat' hoff' h' => opsX_sound hQ rest e' H' a' w' (fun o ho => hd o (.tail _ ho)) (fun o ho => hA o (.tail _ ho)) (off_step (hA o (.head _)) hoff hoff') hat' h'
theorem anyH_sound {n : Nat} {r : Option Nat} {ds : List Deferred} {w0 : World} {ops : Array Oper} {A : List Nat} {e0 : Env} {Q : Exit → Act → World → Prop} {S : Heap → Prop} {Z : List Nat} {K : Env → Heap → Prop} (hQ : ∀ e' H' a' w', At n ds w0 e' H' a' w' → Off A e0 e' → K e' H' → Q .normal a' w')
    (hd : ∀ o ∈ ops, dstOk n o = true) (hA : ∀ o ∈ ops, ∀ d, o.dst = some d → d ∈ A) :
    ∀ (fuel : Nat) (listed : Array Bool) (e : Env) (H : Heap) (a : Act) (w : World), Off A e0 e → At n ds w0 e H a w → anyH P ops S Z K fuel listed e H → wpAnyIn (FW r) 0 P .any ops Q fuel listed a w
  | 0, listed, e, H, a, w, hoff, hat, h => ⟨h.1, hQ _ _ _ _ hat hoff h.2⟩
  | fuel + 1, listed, e, H, a, w, hoff, hat, h => by
    refine ⟨fun hr => hQ _ _ _ _ hat hoff (h.1 hr), fun i hi => ?_⟩
    have h2 := h.2 i hi
    unfold wpOpIn
    cases ho : ops[i]? with
    | none =>
      rw [ho] at h2
      exact anyH_sound hQ hd hA fuel _ e H a w hoff hat h2
    | some o =>
      rw [ho] at h2
      have hm := Array.mem_of_getElem? ho
      exact opAtR_sound hat (hd o hm) h2 fun e' H' a' w' hat' hoff' h' => anyH_sound hQ hd hA fuel _ e' H' a' w' (off_step (hA o hm) hoff hoff') hat' h'.2
end
end Go.Hp
