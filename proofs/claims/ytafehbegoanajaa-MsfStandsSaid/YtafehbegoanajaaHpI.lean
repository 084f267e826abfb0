/-
  Code and calls over a heap: sound for the model's own.
-/
import Derived.Test.YtafehbegoanajaaHpH
namespace Go.Hp
open Go
set_option linter.unusedVariables false
set_option linter.unusedSimpArgs false

def codeOk (n : Nat) (qs : List Nat) : Code → Bool
  | .region id ops draw => ops.all (dstOk n) && (!(draw && qs.contains id) || lexE ops)
  | .seq a b => codeOk n qs a && codeOk n qs b
  | .cond _ a b => codeOk n qs a && codeOk n qs b
  | .block _ b => codeOk n qs b
  | .loop b => codeOk n qs b
  | .scope b => codeOk n qs b
  | _ => true
section
variable {P : Program}
def LQ (n : Nat) (ds : List Deferred) (w0 : World) (e0 : Env) (A : List Nat) (Q : HX → Env → Heap → Prop) : Exit → Act → World → Prop :=
  fun x a w => ∃ hx e H, x = HX.to hx ∧ At n ds w0 e H a w ∧ Off A e0 e ∧ Q hx e H
theorem LQ.mono {n : Nat} {ds : List Deferred} {w0 : World} {e0 e1 : Env} {A B : List Nat} {Q : HX → Env → Heap → Prop} {x : Exit} {a : Act} {w : World} (h : LQ n ds w0 e1 B Q x a w) (h0 : Off A e0 e1) (hB : ∀ i ∈ B, i ∈ A) : LQ n ds w0 e0 A Q x a w := by
  obtain ⟨hx, e, H, h1, h2, h3, h4⟩ := h
  exact ⟨hx, e, H, h1, h2, (h0.trans h3).mono fun i hi => by
    rcases List.mem_append.1 hi with hi | hi
    · exact hi
    · exact hB i hi, h4⟩
theorem mem_assignedOps {ops : Array Oper} : ∀ o ∈ ops, ∀ d, o.dst = some d → d ∈ assignedOps ops := fun o ho d hd =>
  List.mem_filterMap.2 ⟨o, by simpa using ho, hd⟩
theorem stepR_scope {b : Frame} {a : Act} {k : List Item} {cs : List Frame} {w : World} {c : Code} : step P (lone (b.atR a (.code (.scope c) :: k)) cs w) = .next (lone (b.atR a (.code c :: .inScope c :: k)) cs w) :=
  step_lone_go (by simp [stepG, stepG.exec, Frame.atR])
theorem stepR_inScope {b : Frame} {a : Act} {k : List Item} {cs : List Frame} {w : World} {c : Code} : step P (lone (b.atR a (.inScope c :: k)) cs w) = .next (lone (b.atR a k) cs w) :=
  step_lone_go (by simp [stepG, stepG.exec, Frame.atR])
theorem wpIn_scope_straight {F : Fence} {n : Nat} {c : Code} {Q : Exit → Act → World → Prop} {a : Act} {w : World} (h : c.wpIn F n P (Exit.noGoto Q) a w) : (Code.scope c).wpIn F n P Q a w := by
  intro b k cs hro hb hr
  have h0 : (lone (b.atR a (.code (.scope c) :: k)) cs w).fenced P F := fenced_calm hb hr rfl
  obtain ⟨e, a₁, w₁, hq, harr⟩ := h b (.inScope c :: k) cs hro hb hr
  cases e with
  | normal => exact ⟨.normal, a₁, w₁, hq, .head h0 stepR_scope (StepsIn.trans harr (.one (fenced_calm hb hr rfl) stepR_inScope))⟩
  | exit id =>
    have hx : exitTo id (.inScope c :: k) = exitTo id k := by simp [exitTo]
    exact ⟨.exit id, a₁, w₁, hq, fun k' hk => .head h0 stepR_scope (harr.1 k' (by rw [hx]; exact hk)),
      fun hr' hk => let ⟨k₁, h1, h2⟩ := harr.2 hr' (by rw [hx]; exact hk); ⟨k₁, h1, .head h0 stepR_scope h2⟩⟩
  | goto l => exact hq.elim
  | ret => exact ⟨_, a₁, w₁, hq, .of_steps (.one h0 stepR_scope) harr⟩
  | panic ch => exact ⟨_, a₁, w₁, hq, .of_steps (.one h0 stepR_scope) harr⟩
  | outgrown => exact ⟨_, a₁, w₁, hq, .of_steps (.one h0 stepR_scope) harr⟩
theorem codeX_soundIn (hm : P.follows .mixedOrders = true) {n : Nat} {r : Option Nat} {ds : List Deferred} {qs : List Nat} : ∀ (c : Code) (Q : HX → Env → Heap → Prop) (e : Env) (H : Heap) (w0 : World) (a : Act) (w : World),
    codeOk n qs c = true → At n ds w0 e H a w → codeX P qs c Q e H → c.wpIn (FW r) 0 P (LQ n ds w0 e (assigned c) Q) a w := by
  intro c
  induction c with
  | skip => exact fun Q e H w0 a w _ hat h => wpIn_skip ⟨.normal, e, H, rfl, hat, .refl _ _, h⟩
  | label l => exact fun Q e H w0 a w _ hat h => wpIn_label ⟨.normal, e, H, rfl, hat, .refl _ _, h⟩
  | exit id => exact fun Q e H w0 a w _ hat h => wpIn_exit ⟨.exit id, e, H, rfl, hat, .refl _ _, h⟩
  | ret => exact fun Q e H w0 a w _ hat h => wpIn_ret ⟨.ret, e, H, rfl, hat, .refl _ _, h⟩
  | region id ops draw =>
    intro Q e H w0 a w hok hat h
    simp only [codeOk, Bool.and_eq_true] at hok
    have hd : ∀ o ∈ ops, dstOk n o = true := fun o ho => (Array.all_eq_true_iff_forall_mem.1 hok.1) o ho
    have hQ : ∀ e' H' a' w', At n ds w0 e' H' a' w' → Off (assignedOps ops) e e' → Q .normal e' H' → LQ n ds w0 e (assigned (.region id ops draw)) Q .normal a' w' :=
      fun e' H' a' w' h1 h2 h3 => ⟨.normal, e', H', rfl, h1, h2, h3⟩
    unfold codeX at h
    cases draw with
    | false =>
      simp only [Bool.false_and, Bool.false_eq_true, if_false] at h
      exact wpIn_region_list (opsX_sound hQ ops.toList e H a w (fun o ho => hd o (by simpa using ho)) (fun o ho => mem_assignedOps o (by simpa using ho)) (.refl _ _) hat h)
    | true =>
      by_cases hq : qs.contains id = true
      · simp only [hq, Bool.not_true, Bool.and_false, Bool.false_eq_true, if_false] at h
        have hqb := hok.2
        simp only [hq, Bool.true_and, Bool.not_true, Bool.false_or] at hqb
        refine wpIn_region_any hm (anyH_sound hQ hd mem_assignedOps _ _ e H a _ (.refl _ _) ⟨hat.env, hat.heap, hat.defers, hat.size, hat.like.trans ⟨rfl, rfl, rfl⟩⟩ (anyH_lex hqb h))
      · simp only [Bool.not_eq_true] at hq
        simp only [hq, Bool.not_false, Bool.and_true, if_true] at h
        obtain ⟨S, Z, _, h⟩ := h
        refine wpIn_region_any hm (anyH_sound hQ hd mem_assignedOps _ _ e H a _ (.refl _ _) ⟨hat.env, hat.heap, hat.defers, hat.size, hat.like.trans ⟨rfl, rfl, rfl⟩⟩ h)
  | seq x y ihx ihy =>
    intro Q e H w0 a w hok hat h
    simp only [codeOk, Bool.and_eq_true] at hok
    refine wpIn_seq (wpIn_mono (ihx _ e H w0 a w hok.1 hat h) ?_)
    rintro x' a' w' ⟨hx, e', H', rfl, hat', hoff, hq⟩
    have hA : ∀ i ∈ assigned x, i ∈ assigned (.seq x y) := fun i hi => List.mem_append.2 (.inl hi)
    cases hx with
    | normal =>
      refine wpIn_mono (ihy Q e' H' w0 a' w' hok.2 hat' hq) ?_
      intro x'' a'' w'' hlq
      exact hlq.mono (hoff.mono hA) fun i hi => List.mem_append.2 (.inr hi)
    | exit i => exact ⟨.exit i, e', H', rfl, hat', hoff.mono hA, hq⟩
    | ret => exact ⟨.ret, e', H', rfl, hat', hoff.mono hA, hq⟩
  | cond c x y ihx ihy =>
    intro Q e H w0 a w hok hat h
    simp only [codeOk, Bool.and_eq_true] at hok
    unfold codeX boolX at h
    split at h
    · rename_i t ht
      refine wpIn_cond_split (t := t) (by rw [eval_env, hat.env]; exact ht) (fun ht' => ?_) (fun ht' => ?_)
      · exact wpIn_mono (ihx Q e H w0 a w hok.1 hat (h.1 ht')) fun x' a' w' hlq => hlq.mono (.refl _ _) fun i hi => List.mem_append.2 (.inl hi)
      · exact wpIn_mono (ihy Q e H w0 a w hok.2 hat (h.2 ht')) fun x' a' w' hlq => hlq.mono (.refl _ _) fun i hi => List.mem_append.2 (.inr hi)
    · exact h.elim
  | block id x ihx =>
    intro Q e H w0 a w hok hat h
    refine wpIn_block (wpIn_mono (ihx _ e H w0 a w hok hat h) ?_)
    rintro x' a' w' ⟨hx, e', H', rfl, hat', hoff, hq⟩
    cases hx with
    | normal => exact ⟨.normal, e', H', rfl, hat', hoff, hq⟩
    | exit i =>
      simp only [blockQ] at hq
      by_cases hi : i = id
      · rw [if_pos hi] at hq
        simp only [HX.to, Exit.inBlock]
        rw [if_pos hi]
        exact ⟨.normal, e', H', rfl, hat', hoff, hq⟩
      · rw [if_neg hi] at hq
        simp only [HX.to, Exit.inBlock]
        rw [if_neg hi]
        exact ⟨.exit i, e', H', rfl, hat', hoff, hq⟩
    | ret => exact ⟨.ret, e', H', rfl, hat', hoff, hq⟩
  | scope x ihx =>
    intro Q e H w0 a w hok hat h
    refine wpIn_scope_straight (wpIn_mono (ihx _ e H w0 a w hok hat h) ?_)
    rintro x' a' w' ⟨hx, e', H', rfl, hat', hoff, hq⟩
    cases hx <;> exact ⟨_, e', H', rfl, hat', hoff, hq⟩
  | loop x ihx =>
    intro Q e H w0 a w hok hat h
    obtain ⟨I, ⟨m, hI⟩, hround⟩ := h
    have key : ∀ m e1 H1 a1 w1, I m e1 H1 → Off (assigned x) e e1 → At n ds w0 e1 H1 a1 w1 → ∀ (b : Frame) (k : List Item) (cs : List Frame), b.roundOf = (FW r).round → (FW r).fn b.fn → (FW r).room (cs.length + 1 + 0) →
        ∃ e' a' w', LQ n ds w0 e (assigned (.loop x)) Q e' a' w' ∧ ArrivesIn (Machine.fenced P (FW r)) P (lone (b.atR a1 (.code x :: .inLoop x :: k)) cs w1) b k cs e' a' w' := by
      intro m
      induction m using Nat.strongRecOn with
      | _ m ih =>
        intro e1 H1 a1 w1 hI1 hoff1 hat1 b k cs hro hb hr
        obtain ⟨x', a', w', ⟨hx, e', H', rfl, hat', hoff', hq⟩, harr⟩ := ihx _ e1 H1 w0 a1 w1 hok hat1 (hround m e1 H1 hI1 hoff1) b (.inLoop x :: k) cs hro hb hr
        have hoff2 : Off (assigned x) e e' := (hoff1.trans hoff').mono fun i hi => by simpa using hi
        cases hx with
        | normal =>
          obtain ⟨m', hlt, hI'⟩ := hq
          obtain ⟨x2, a2, w2, hq2, harr2⟩ := ih m' hlt e' H' a' w' hI' hoff2 hat' b k cs hro hb hr
          exact ⟨x2, a2, w2, hq2, .of_steps (StepsIn.trans harr (.one (fenced_calm hb hr rfl) stepR_inLoop)) harr2⟩
        | exit id => exact ⟨_, a', w', ⟨.exit id, e', H', rfl, hat', hoff2, hq⟩, .pass (x := .inLoop x) rfl (fun _ _ => .inl (by simp [HX.to])) harr⟩
        | ret => exact ⟨_, a', w', ⟨.ret, e', H', rfl, hat', hoff2, hq⟩, .pass (x := .inLoop x) rfl (fun _ _ => .inl (by simp [HX.to])) harr⟩
    intro b k cs hro hb hr
    obtain ⟨x', a', w', hq, harr⟩ := key m e H a w hI (.refl _ _) hat b k cs hro hb hr
    exact ⟨x', a', w', hq, .of_steps (.one (fenced_calm hb hr rfl) stepR_loop) harr⟩
  | _ => exact fun Q e H w0 a w _ hat h => h.elim
theorem codeX_sound (hm : P.follows .mixedOrders = true) {n : Nat} {ds : List Deferred} {qs : List Nat} (c : Code) (Q : HX → Env → Heap → Prop) (e : Env) (H : Heap) (w0 : World) (a : Act) (w : World)
    (hok : codeOk n qs c = true) (hat : At n ds w0 e H a w) (h : codeX P qs c Q e H) : c.wp P (LQ n ds w0 e (assigned c) Q) a w :=
  wpIn_wide.1 (codeX_soundIn (r := none) hm c Q e H w0 a w hok hat h)
/-- The values that are handed back. -/
def resX (P : Program) : List ResultVar → Env → Heap → (List Value → Prop) → Prop
  | [], _, _, K => K []
  | .tmp t :: rs, e, H, K => resX P rs e H fun vs => K (e t :: vs)
  | .cell a t :: rs, e, H, K => ptrX (e a) fun p => match tl P t with
    | some ti => loadX ti H p fun v => resX P rs e H fun vs => K (v :: vs)
    | none => False
def outX (K : Value → Prop) : List Value → Prop
  | [v] => K v
  | vs => K (.tuple vs.toArray)
theorem rd_results : ∀ (rs : List ResultVar) (tmps : Array Value) (H : Heap) (K : List Value → Prop), resX P rs (fun t => tmps.getD t undef) H K →
    ∃ vs, K vs ∧ Rd P H (rs.mapM fun | .tmp t => pure (tmps.getD t undef) | .cell a t => do loadVar t (← asAddr (tmps.getD a undef)) : Sem (List Value)) vs
  | [], tmps, H, K, h => ⟨[], h, by simpa using Rd.ret _⟩
  | .tmp t :: rs, tmps, H, K, h => by
    obtain ⟨vs, h1, h2⟩ := rd_results rs tmps H _ h
    refine ⟨_, h1, ?_⟩
    rw [List.mapM_cons]
    exact Rd.bind (Rd.ret _) (Rd.bind h2 (Rd.ret _))
  | .cell a t :: rs, tmps, H, K, h => by
    obtain ⟨p, hp, h⟩ := ptrX_spec h
    split at h
    · rename_i ti ht
      obtain ⟨v, h1, h2⟩ := rd_loadVar ht h
      obtain ⟨vs, h3, h4⟩ := rd_results rs tmps H _ h1
      refine ⟨_, h3, ?_⟩
      rw [List.mapM_cons]
      refine Rd.bind (x := v) ?_ (Rd.bind h4 (Rd.ret _))
      simp only [] at hp ⊢
      rw [hp]
      exact Rd.bind (x := p) (Rd.ret _) h2
    · exact h.elim
def Env.init (args : Array Value) : Env := fun t => args.getD t undef
def endQ (P : Program) (rs : List ResultVar) (K : Value → Heap → Prop) : HX → Env → Heap → Prop
  | .exit _, _, _ => False
  | .normal, e, H => resX P rs e H (outX fun v => K v H)
  | .ret, e, H => resX P rs e H (outX fun v => K v H)
/-- A call, by its body. -/
theorem callsH_of (hm : P.follows .mixedOrders = true) {f : FuncId} {fn : Func} {c : Code} {args : Array Value} {H : Heap} {K : Value → Heap → Prop} (qs : List Nat) (n : Nat) (rs : List ResultVar)
    (hf : P.funcs[f]? = some fn) (hc : callable P f = true) (hb : fn.body = some c) (hn : fn.ntmps = n) (hrs : fn.results = rs.toArray) (hok : codeOk n qs c = true) (hargs : args.size ≤ n)
    (h : codeX P qs c (endQ P rs K) (Env.init args) H) : CallsH P f args H K := by
  refine ⟨hc, fun w hw => calls_of_wp hf hb ?_⟩
  have hat : At n [] w (Env.init args) H { tmps := args ++ Array.replicate (fn.ntmps - args.size) undef, defers := [] } w := by
    refine ⟨?_, hw, rfl, ?_, .refl _⟩
    · funext t
      unfold envOf Env.init
      simp only [Array.getD_eq_getD_getElem?, Array.getElem?_append]
      split
      · rfl
      · rename_i ht
        have hn : args[t]? = none := Array.getElem?_eq_none (by omega)
        rw [hn, Array.getElem?_replicate]
        split <;> rfl
    · simp [hn]; omega
  refine wp_mono (codeX_sound hm c _ _ H w _ w hok hat h) ?_
  rintro x a' w' ⟨hx, e', H', rfl, hat', _, hq⟩
  have fin : resX P rs e' H' (outX fun v => K v H') → a'.defers = [] ∧ ∃ v, (results fn a'.tmps).run P w' = .ok v w' ∧ (∃ v', Ending.returned v = .returned v' ∧ K v' w'.heap ∧ Like w w') := by
    intro hr
    refine ⟨hat'.defers, ?_⟩
    rw [← hat'.env] at hr
    obtain ⟨vs, h1, h2⟩ := rd_results rs a'.tmps H' _ hr
    have hres : Rd P H' (results fn a'.tmps) (if h : vs.toArray.size = 1 then vs.toArray[0] else .tuple vs.toArray) := by
      unfold results
      rw [hrs]
      refine Rd.bind (x := vs.toArray) ?_ (Rd.ret _)
      rw [List.mapM_toArray]
      exact Rd.bind h2 (Rd.ret _)
    have hk : K (if h : vs.toArray.size = 1 then vs.toArray[0] else .tuple vs.toArray) H' := by
      match vs, h1 with
      | [], h1 => exact h1
      | [v], h1 => exact h1
      | v :: v' :: vs, h1 =>
        rw [dif_neg (by simp)]
        exact h1
    exact ⟨_, hres.run w' hat'.heap, _, rfl, by rw [hat'.heap]; exact hk, hat'.like⟩
  cases hx with
  | normal => exact fin hq
  | ret => exact fin hq
  | exit i => exact hq.elim
end
end Go.Hp
