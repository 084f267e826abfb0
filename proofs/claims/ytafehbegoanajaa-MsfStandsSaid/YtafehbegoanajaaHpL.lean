/-
  Loops over functions: yield's rounds, the statement, functions that hold one: over a heap.
-/
import Derived.Test.YtafehbegoanajaaHpM
namespace Go.Hp
open Go
set_option linter.unusedVariables false
set_option linter.unusedSimpArgs false

section
variable {P : Program}
theorem putObj_heap (w : World) (r : Nat) (o : Obj) : (w.putObj r o).heap = w.heap.setIfInBounds r o := rfl
theorem like_putObj (w : World) (r : Nat) (o : Obj) : Like w (w.putObj r o) := ⟨rfl, rfl, rfl⟩
/-- A call of yield: the record is there; a round. -/
theorem hp_yield {l : Nat} {r : Loop} {args : Array Value} {H : Heap} {K : Value → Heap → Prop} (hl : H[l]? = some (.loop r)) (hs : args.size = r.params.size)
    (h : RoundH P l r.fn ((r.params.zip args).foldl (fun tmps (t, a) => tmps.setIfInBounds t a) r.tmps) r.assign r.body H K) : semHp P (Instr.yield l args) H (nextHp P K) := by
  unfold Instr.yield Instr.getLoop
  simp only [semHp_bind']
  refine ⟨_, hl, rfl, ?_⟩
  simp only [semHp, semHp_pure, hs, ne_eq, not_true_eq_false, if_false, semHp_bind']
  exact h
/-- How a round's body may be left. -/
def roundQ (l : Nat) (r : Loop) (K : Value → Heap → Prop) : HX → Env → Heap → Prop
  | .normal, _, H => H[l]? = some (.loop { r with state := .busy }) ∧ K (.bool true) (H.setIfInBounds l (.loop { r with state := .ready, pending := none }))
  | .ret, _, H => H[l]? = some (.loop { r with state := .busy }) ∧ K (.bool false) (H.setIfInBounds l (.loop { r with state := .done, pending := some .ret }))
  | .exit i, _, H => H[l]? = some (.loop { r with state := .busy }) ∧ K (.bool false) (H.setIfInBounds l (.loop { r with state := .done, pending := some (.exit i) }))
theorem round_of (hm : P.follows .mixedOrders = true) {l n : Nat} {r : Loop} {tmps : Array Value} {H : Heap} {K : Value → Heap → Prop} (qs : List Nat) (hl : H[l]? = some (.loop r)) (hr : r.state = .ready) (hn : tmps.size = n)
    (hoka : codeOk n qs r.assign = true) (hokb : codeOk n qs r.body = true) {e : Env} (he : (fun t => tmps.getD t undef) = e) {K1 : Env → Prop}
    (h1 : codeX P qs r.assign (fun x e1 H1 => x = .normal ∧ H1 = H ∧ K1 e1) e H)
    (h2 : ∀ e1, K1 e1 → codeX P qs r.body (roundQ l r K) e1 (H.setIfInBounds l (.loop { r with state := .busy }))) : RoundH P l r.fn tmps r.assign r.body H K := by
  intro w hw
  have hat : At n [] w e H { tmps := tmps, defers := [] } w := ⟨he, hw, rfl, hn, .refl _⟩
  refine roundIn_of_wpIn (F := FW none) trivial (wpIn_mono (codeX_soundIn (r := some l) hm r.assign _ e H w _ w hoka hat h1) ?_)
  rintro x a1 w1 ⟨hx, e1, H1, rfl, hat1, _, rfl, rfl, hK1⟩
  have hl1 : w1.heap[l]? = some (.loop r) := by rw [hat1.heap]; exact hl
  refine ⟨_, run_beginRound hl1 hr, ?_⟩
  have hat2 : At n [] w e1 (H1.setIfInBounds l (.loop { r with state := .busy })) a1 (w1.putObj l (.loop { r with state := .busy })) :=
    ⟨hat1.env, by rw [putObj_heap, hat1.heap], hat1.defers, hat1.size, hat1.like.trans (like_putObj _ _ _)⟩
  refine wpIn_mono (codeX_soundIn (r := some l) hm r.body _ e1 _ w a1 _ hokb hat2 (h2 e1 hK1)) ?_
  rintro x a3 w3 ⟨hx, e3, H3, rfl, hat3, _, hq⟩
  have fin : ∀ jump : Option Code, H3[l]? = some (.loop { r with state := .busy }) → ∀ v, v = .bool jump.isNone → K v (H3.setIfInBounds l (.loop { r with state := if jump.isNone then .ready else .done, pending := jump })) →
      ∃ v w', (Instr.endRound l jump).run P w3 = .ok v w' ∧ ∃ v', Ending.returned v = .returned v' ∧ K v' w'.heap ∧ Like w w' := fun jump hl3 v hv hk => by
    refine ⟨_, _, run_endRound jump (by rw [hat3.heap]; exact hl3), _, rfl, ?_, hat3.like.trans (like_putObj _ _ _)⟩
    rw [putObj_heap, hat3.heap, ← hv]
    exact hk
  cases hx with
  | normal => exact fin none hq.1 _ rfl hq.2
  | ret => exact fin (some .ret) hq.1 _ rfl hq.2
  | exit i => exact fin (some (.exit i)) hq.1 _ rfl hq.2
/-! ### functions that hold such a loop -/
def marks (ms : List Nat) : List Deferred := ms.map fun D => { target := .collected D, args := #[] }
def TopX (P : Program) (n : Nat) (c : Code) (Q : List Nat → HX → Env → Heap → Prop) (ms : List Nat) (e : Env) (H : Heap) : Prop :=
  ∀ (a : Act) (w w0 : World), At n (marks ms) w0 e H a w → c.wpIn (FW none) 0 P (fun x a' w' => ∃ ms' hx e' H', x = HX.to hx ∧ At n (marks ms') w0 e' H' a' w' ∧ Q ms' hx e' H') a w
variable {n : Nat} {ms : List Nat} {e : Env} {H : Heap} {Q : List Nat → HX → Env → Heap → Prop}
theorem top_of (hm : P.follows .mixedOrders = true) {c : Code} (qs : List Nat) (hok : codeOk n qs c = true) (h : codeX P qs c (fun x e' H' => (∀ i, (assigned c).contains i = false → e' i = e i) → Q ms x e' H') e H) : TopX P n c Q ms e H := by
  intro a w w0 hat
  refine wpIn_mono (codeX_soundIn (r := none) hm c _ e H w0 a w hok hat h) ?_
  rintro x a' w' ⟨hx, e', H', rfl, hat', hoff, hq⟩
  exact ⟨ms, hx, e', H', rfl, hat', hq hoff⟩
def topSeq (P : Program) (n : Nat) (y : Code) (Q : List Nat → HX → Env → Heap → Prop) : List Nat → HX → Env → Heap → Prop
  | ms, .normal, e, H => TopX P n y Q ms e H
  | ms, .exit i, e, H => Q ms (.exit i) e H
  | ms, .ret, e, H => Q ms .ret e H
theorem top_seq {x y : Code} (h : TopX P n x (topSeq P n y Q) ms e H) : TopX P n (.seq x y) Q ms e H := by
  intro a w w0 hat
  refine wpIn_seq (wpIn_mono (h a w w0 hat) ?_)
  rintro x' a' w' ⟨ms', hx, e', H', rfl, hat', hq⟩
  cases hx with
  | normal => exact hq a' w' w0 hat'
  | exit i => exact ⟨ms', .exit i, e', H', rfl, hat', hq⟩
  | ret => exact ⟨ms', .ret, e', H', rfl, hat', hq⟩
theorem top_block {id : Nat} {x : Code} (h : TopX P n x (fun ms hx e H => blockQ id (Q ms) hx e H) ms e H) : TopX P n (.block id x) Q ms e H := by
  intro a w w0 hat
  refine wpIn_block (wpIn_mono (h a w w0 hat) ?_)
  rintro x' a' w' ⟨ms', hx, e', H', rfl, hat', hq⟩
  cases hx with
  | normal => exact ⟨ms', .normal, e', H', rfl, hat', hq⟩
  | exit i =>
    simp only [blockQ] at hq
    by_cases hi : i = id
    · rw [if_pos hi] at hq
      simp only [HX.to, Exit.inBlock]
      rw [if_pos hi]
      exact ⟨ms', .normal, e', H', rfl, hat', hq⟩
    · rw [if_neg hi] at hq
      simp only [HX.to, Exit.inBlock]
      rw [if_neg hi]
      exact ⟨ms', .exit i, e', H', rfl, hat', hq⟩
  | ret => exact ⟨ms', .ret, e', H', rfl, hat', hq⟩
/-- What becomes of the pending jump. -/
def jumpQ (Q : HX → Env → Heap → Prop) (e : Env) (H : Heap) : Option Code → Prop
  | none => Q .normal e H
  | some .ret => Q .ret e H
  | some (.exit i) => Q (.exit i) e H
  | _ => False
def loopRec (fn : FuncId) (tmps : Array Value) (ps : Array Tmp) (assign body : Code) (D : Nat) : Loop := { state := .ready, pending := none, fn := fn, tmps := tmps, params := ps, assign := assign, body := body, defers := D }
theorem top_range {g : Operand} {ps : Array Tmp} {assign body : Code} {gf : FuncId} {lb : Array Value} (hg : Env.eval e g = .func (.func gf) #[] lb)
    (h : ∀ (fn : FuncId) (tmps : Array Value), (fun t => tmps.getD t undef) = e → tmps.size = n →
      CallsH P gf (#[.func (.yield (H.size + 1)) #[] #[]] ++ lb) ((H.push (.deferred (some []))).push (.loop (loopRec fn tmps ps assign body H.size))) fun v H' =>
        ∃ r', H'[H.size + 1]? = some (.loop r') ∧ r'.state ≠ .busy ∧ jumpQ (Q (H.size :: ms)) e (H'.setIfInBounds (H.size + 1) (.loop { r' with state := .exhausted })) r'.pending) :
    TopX P n (.rangeFunc g ps assign body) Q ms e H := by
  intro a w w0 hat
  refine wpIn_rangeFunc fun fn _ => ?_
  have hw : w.heap.size = H.size := by rw [hat.heap]
  have hc := h fn a.tmps hat.env hat.size
  obtain ⟨hcb, hc⟩ := hc
  obtain ⟨W1, hW1⟩ : ∃ W1, W1 = (w.alloc (.deferred (some []))).alloc (.loop (loopRec fn a.tmps ps assign body w.heap.size)) := ⟨_, rfl⟩
  refine ⟨w.heap.size + 1, [{ target := .collected w.heap.size, args := #[] }], W1, { target := .fn (.func gf) lb, args := #[.func (.yield (w.heap.size + 1)) #[] #[]] }, W1, gf,
    #[.func (.yield (w.heap.size + 1)) #[] #[]] ++ lb, W1, by rw [hW1]; exact run_enterLoop_outer fn a.tmps ps assign body, ?_, fun _ _ => trivial, ?_, fun h => (by cases h), ?_⟩
  · have hv : a.eval g = .func (.func gf) #[] lb := by rw [eval_env, hat.env]; exact hg
    simp only [resolve, hv]
    simp [go_sem, Deferred.ofValue, Sem.run_pure]
  · unfold callable at hcb
    simp only [invoke]
    unfold callFunc
    split at hcb
    · rename_i fn' hf
      simp only [Bool.and_eq_true, Bool.not_eq_true'] at hcb
      have h2 : fn'.body.isNone = false := by cases hb : fn'.body <;> simp [hb] at hcb ⊢
      have h3 : (fn'.name == "runtime.NumGoroutine") = false := hcb.2
      show Sem.run P (Go.program >>= fun p => _) W1 = _
      rw [Sem.run_bind]
      show Sem.run P (match P.funcs[gf]? with | none => _ | some fn => _) W1 = _
      rw [hf]
      show Sem.run P (if (fn'.name == "runtime.NumGoroutine") = true then _ else if fn'.body.isNone = true then _ else _) W1 = _
      rw [if_neg (by rw [h3]; simp), if_neg (by rw [h2]; simp)]
      rfl
    · cases hcb
  · have hs := hc ((w.alloc (.deferred (some []))).alloc (.loop (loopRec fn a.tmps ps assign body w.heap.size))) (by rw [hw]; show (w.heap.push _).push _ = _; rw [hat.heap])
    rw [← hW1] at hs
    rw [← hw] at hs
    refine (callsIn_wide.2 hs : CallsIn (FW none) _ P gf _ _ _).mono ?_
    rintro _ w' ⟨v, rfl, ⟨r', h1, h2, h3⟩, hlike⟩
    refine ⟨r'.pending, _, run_endLoop h1 h2, ?_⟩
    have hat' : At n (marks (H.size :: ms)) w0 e (w'.heap.setIfInBounds (H.size + 1) (.loop { r' with state := .exhausted })) { a with defers := [{ target := .collected w.heap.size, args := #[] }] ++ a.defers } (w'.putObj (w.heap.size + 1) (.loop { r' with state := .exhausted })) := by
      refine ⟨hat.env, by rw [putObj_heap, hw], ?_, hat.size, ?_⟩
      · show _ :: a.defers = _
        rw [hat.defers, hw]; rfl
      · exact hat.like.trans ((show Like w ((w.alloc (.deferred (some []))).alloc (.loop (loopRec fn a.tmps ps assign body w.heap.size))) from ⟨rfl, rfl, rfl⟩).trans ((hW1 ▸ hlike).trans (like_putObj _ _ _)))
    have fin : ∀ jump, jumpQ (Q (H.size :: ms)) e (w'.heap.setIfInBounds (H.size + 1) (.loop { r' with state := .exhausted })) jump → (match jump with
        | none => (fun x a' w' => ∃ ms' hx e' H', x = HX.to hx ∧ At n (marks ms') w0 e' H' a' w' ∧ Q ms' hx e' H') Exit.normal { a with defers := [{ target := .collected w.heap.size, args := #[] }] ++ a.defers } (w'.putObj (w.heap.size + 1) (.loop { r' with state := .exhausted }))
        | some c => Code.wpIn (FW none) 0 P c (fun x a' w' => ∃ ms' hx e' H', x = HX.to hx ∧ At n (marks ms') w0 e' H' a' w' ∧ Q ms' hx e' H') { a with defers := [{ target := .collected w.heap.size, args := #[] }] ++ a.defers } (w'.putObj (w.heap.size + 1) (.loop { r' with state := .exhausted }))) := by
      intro jump hj
      cases jump with
      | none => exact ⟨_, .normal, e, _, rfl, hat', hj⟩
      | some c =>
        cases c <;> simp only [jumpQ] at hj <;> first | exact hj.elim | skip
        · exact wpIn_exit ⟨_, .exit _, e, _, rfl, hat', hj⟩
        · exact wpIn_ret ⟨_, .ret, e, _, rfl, hat', hj⟩
    exact fin _ (by rw [hw] at h3; exact h3)
/-- The marks are come to: their blocks are shut. -/
def shutM : List Nat → Heap → Heap
  | [], H => H
  | D :: ms, H => shutM ms (H.setIfInBounds D (.deferred none))
def okM : List Nat → Heap → Prop
  | [], _ => True
  | D :: ms, H => H[D]? = some (.deferred (some [])) ∧ okM ms (H.setIfInBounds D (.deferred none))
def topEnd (P : Program) (rs : List ResultVar) (K : Value → Heap → Prop) : List Nat → HX → Env → Heap → Prop := fun ms x e H =>
  okM ms H ∧ endQ P rs K x e (shutM ms H)
theorem callsH_top {f : FuncId} {fn : Func} {c : Code} {args : Array Value} {H : Heap} {K : Value → Heap → Prop} (n : Nat) (rs : List ResultVar)
    (hf : P.funcs[f]? = some fn) (hc : callable P f = true) (hb : fn.body = some c) (hn : fn.ntmps = n) (hrs : fn.results = rs.toArray) (hargs : args.size ≤ n)
    (h : TopX P n c (topEnd P rs K) [] (Env.init args) H) : CallsH P f args H K := by
  refine ⟨hc, fun w hw => ?_⟩
  have hat : At n (marks []) w (Env.init args) H { tmps := args ++ Array.replicate (fn.ntmps - args.size) undef, defers := [] } w := by
    refine ⟨?_, hw, rfl, ?_, .refl _⟩
    · funext t
      unfold envOf Env.init
      simp only [Array.getD_eq_getD_getElem?, Array.getElem?_append]
      split
      · rfl
      · rename_i ht
        have hn : args[t]? = none := Array.getElem?_eq_none (by omega)
        rw [hn, Array.getElem?_replicate]
        split <;> rfl
    · simp [hn]; omega
  refine (callsIn_wide (n := 0)).1 (callsIn_of_wp_marks (F := FW none) hf hb trivial (wpIn_mono (h _ w w hat) ?_))
  rintro x a' w' ⟨ms', hx, e', H', rfl, hat', hok, hq⟩
  have fin : ∀ (ms : List Nat) (w' : World) (H' : Heap), w'.heap = H' → Like w w' → okM ms H' → resX P rs e' (shutM ms H') (outX fun v => K v (shutM ms H')) →
      LeavesInM (FW none) 0 P fn a'.tmps (fun e w' => ∃ v', e = .returned v' ∧ K v' w'.heap ∧ Like w w') (marks ms) .returning w' := by
    intro ms
    induction ms with
    | nil =>
      intro w' H' hw' hlike _ hr
      rw [← hat'.env] at hr
      obtain ⟨vs, h1, h2⟩ := rd_results rs a'.tmps H' _ hr
      have hres : Rd P H' (results fn a'.tmps) (if h : vs.toArray.size = 1 then vs.toArray[0] else .tuple vs.toArray) := by
        unfold results
        rw [hrs]
        refine Rd.bind (x := vs.toArray) ?_ (Rd.ret _)
        rw [List.mapM_toArray]
        exact Rd.bind h2 (Rd.ret _)
      have hk : K (if h : vs.toArray.size = 1 then vs.toArray[0] else .tuple vs.toArray) H' := by
        match vs, h1 with
        | [], h1 => exact h1
        | [v], h1 => exact h1
        | v :: v' :: vs, h1 =>
          rw [dif_neg (by simp)]
          exact h1
      exact ⟨_, hres.run w' hw', _, rfl, by rw [hw']; exact hk, hlike⟩
    | cons D ms ih =>
      intro w' H' hw' hlike hok hr
      refine ⟨by simp, .inl ⟨D, _, rfl, run_takeDeferred (by rw [hw']; exact hok.1), ih _ _ (by rw [putObj_heap, hw']) (hlike.trans (like_putObj _ _ _)) hok.2 hr⟩⟩
  cases hx with
  | normal =>
    show LeavesInM _ _ _ _ _ _ _ _ _
    rw [hat'.defers]
    exact fin ms' w' H' hat'.heap hat'.like hok hq
  | ret =>
    show LeavesInM _ _ _ _ _ _ _ _ _
    rw [hat'.defers]
    exact fin ms' w' H' hat'.heap hat'.like hok hq
  | exit i => exact hq.elim
/-! ### a loop that no round leaves -/
def busy (r : Loop) : Loop := { r with state := .busy }
structure RecAt (n : Nat) (r : Loop) (ps : Array Tmp) (as bd : Code) (e : Env) : Prop where
  ready : r.state = .ready
  none : r.pending = none
  ps : r.params = ps
  as : r.assign = as
  bd : r.body = bd
  env : (fun t => r.tmps.getD t undef) = e
  size : r.tmps.size = n
theorem env_setL : ∀ (l : List (Nat × Value)) (tmps : Array Value), (∀ x ∈ l, x.1 < tmps.size) → (fun t => (l.foldl (fun tmps x => tmps.setIfInBounds x.1 x.2) tmps).getD t undef) = l.foldl (fun e x => Env.set e x.1 x.2) (fun t => tmps.getD t undef) ∧ (l.foldl (fun tmps x => tmps.setIfInBounds x.1 x.2) tmps).size = tmps.size
  | [], tmps, _ => ⟨rfl, rfl⟩
  | (p, v) :: l, tmps, h => by
    have h1 : p < tmps.size := h (p, v) (.head _)
    obtain ⟨a, b⟩ := env_setL l (tmps.setIfInBounds p v) (fun x hx => by simpa using h x (.tail _ hx))
    refine ⟨?_, by rw [List.foldl_cons, b]; simp⟩
    rw [List.foldl_cons, List.foldl_cons, a]
    congr 1
    funext t
    unfold Env.set
    simp only [Array.getD_eq_getD_getElem?]
    by_cases ht : t = p
    · subst ht; simp [h1]
    · rw [Array.getElem?_setIfInBounds_ne (Ne.symm ht), if_neg ht]
theorem setIB_same {H : Heap} {l : Nat} {o o' : Obj} : (H.setIfInBounds l o).setIfInBounds l o' = H.setIfInBounds l o' := by
  apply Array.ext'
  simp
/-- A round. -/
theorem hp_round (hm : P.follows .mixedOrders = true) {l : Nat} {r : Loop} {ps : Array Tmp} {as bd : Code} {args : Array Value} {K : Value → Heap → Prop} (qs : List Nat) (hR : RecAt n r ps as bd e) (hl : H[l]? = some (.loop r))
    (hs : args.size = ps.size) (hp : ∀ x ∈ (ps.zip args).toList, x.1 < n) (hoka : codeOk n qs as = true) (hokb : codeOk n qs bd = true) (K1 : Env → Prop)
    (h1 : codeX P qs as (fun x e1 H1 => x = .normal ∧ H1 = H ∧ K1 e1) ((ps.zip args).toList.foldl (fun e x => Env.put e (some x.1) x.2) e) H)
    (h2 : ∀ e1, K1 e1 → codeX P qs bd (roundQ l r K) e1 (H.setIfInBounds l (.loop (busy r)))) : semHp P (Instr.yield l args) H (nextHp P K) := by
  obtain ⟨r1, r2, rfl, rfl, rfl, r6, r7⟩ := hR
  refine hp_yield hl hs ?_
  have e0 : (r.params.zip args).foldl (fun tmps x => tmps.setIfInBounds x.1 x.2) r.tmps = (r.params.zip args).toList.foldl (fun tmps x => tmps.setIfInBounds x.1 x.2) r.tmps := by rw [Array.foldl_toList]
  obtain ⟨a, b⟩ := env_setL (r.params.zip args).toList r.tmps (fun x hx => by rw [r7]; exact hp x hx)
  refine round_of hm (n := n) (e := (r.params.zip args).toList.foldl (fun e x => Env.put e (some x.1) x.2) e) qs hl r1 (by rw [e0, b, r7]) hoka hokb (by rw [e0, a, r6]; rfl) h1 h2
theorem roundQ_normal {l : Nat} {r : Loop} {ps : Array Tmp} {as bd : Code} {K : Value → Heap → Prop} {e1 : Env} (hR : RecAt n r ps as bd e) (h1 : H[l]? = some (.loop (busy r))) (h2 : K (.bool true) (H.setIfInBounds l (.loop r))) : roundQ l r K .normal e1 H := by
  refine ⟨h1, ?_⟩
  have : ({ r with state := .ready, pending := none } : Loop) = r := by
    have r1 := hR.ready
    have r2 := hR.none
    cases r
    simp only at r1 r2
    subst r1 r2
    rfl
  rw [this]
  exact h2
theorem top_rangeN {g : Operand} {ps : Array Tmp} {as bd : Code} {gf : FuncId} {lb : Array Value} (hg : Env.eval e g = .func (.func gf) #[] lb)
    (h : ∀ (r : Loop) (H4 : Heap), RecAt n r ps as bd e → H4[H.size]? = some (.deferred (some [])) → H4[H.size + 1]? = some (.loop r) → Fr (fun _ => False) H H4 → H4.size = H.size + 2 →
      CallsH P gf (#[.func (.yield (H.size + 1)) #[] #[]] ++ lb) H4 fun v H' => H'[H.size + 1]? = some (.loop r) ∧ Q (H.size :: ms) .normal e (H'.setIfInBounds (H.size + 1) (.loop { r with state := .exhausted }))) :
    TopX P n (.rangeFunc g ps as bd) Q ms e H := by
  refine top_range hg fun fn tmps htm hts => ?_
  refine (h (loopRec fn tmps ps as bd H.size) _ ⟨rfl, rfl, rfl, rfl, rfl, htm, hts⟩ ?_ ?_ ?_ ?_).mono ?_
  · rw [Array.getElem?_push, if_neg (by simp), Array.getElem?_push, if_pos rfl]
  · rw [Array.getElem?_push, if_pos (by simp)]
  · exact ((Fr.refl _ _).push _).push _
  · simp
  · rintro v H' ⟨h1, h2⟩
    exact ⟨_, h1, by simp [loopRec], h2⟩
end
end Go.Hp
