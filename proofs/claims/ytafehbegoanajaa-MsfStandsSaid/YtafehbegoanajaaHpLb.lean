/-
  Rounds whose first part makes variables of its own.
-/
import Derived.Test.YtafehbegoanajaaHpL
namespace Go.Hp
open Go
set_option linter.unusedVariables false
set_option linter.unusedSimpArgs false
section
variable {P : Program} {n : Nat} {e : Env} {H : Heap}
theorem round_ofB (hm : P.follows .mixedOrders = true) {l n : Nat} {r : Loop} {tmps : Array Value} {H : Heap} {K : Value → Heap → Prop} (qs : List Nat) (hr : r.state = .ready) (hn : tmps.size = n)
    (hoka : codeOk n qs r.assign = true) (hokb : codeOk n qs r.body = true) {e : Env} (he : (fun t => tmps.getD t undef) = e) {K1 : Env → Heap → Prop}
    (h1 : codeX P qs r.assign (fun x e1 H1 => x = .normal ∧ H1[l]? = some (.loop r) ∧ K1 e1 H1) e H)
    (h2 : ∀ e1 H1, K1 e1 H1 → codeX P qs r.body (roundQ l r K) e1 (H1.setIfInBounds l (.loop { r with state := .busy }))) : RoundH P l r.fn tmps r.assign r.body H K := by
  intro w hw
  have hat : At n [] w e H { tmps := tmps, defers := [] } w := ⟨he, hw, rfl, hn, .refl _⟩
  refine roundIn_of_wpIn (F := FW none) trivial (wpIn_mono (codeX_soundIn (r := some l) hm r.assign _ e H w _ w hoka hat h1) ?_)
  rintro x a1 w1 ⟨hx, e1, H1, rfl, hat1, _, rfl, hl1', hK1⟩
  have hl1 : w1.heap[l]? = some (.loop r) := by rw [hat1.heap]; exact hl1'
  refine ⟨_, run_beginRound hl1 hr, ?_⟩
  have hat2 : At n [] w e1 (H1.setIfInBounds l (.loop { r with state := .busy })) a1 (w1.putObj l (.loop { r with state := .busy })) :=
    ⟨hat1.env, by rw [putObj_heap, hat1.heap], hat1.defers, hat1.size, hat1.like.trans (like_putObj _ _ _)⟩
  refine wpIn_mono (codeX_soundIn (r := some l) hm r.body _ e1 _ w a1 _ hokb hat2 (h2 e1 H1 hK1)) ?_
  rintro x a3 w3 ⟨hx, e3, H3, rfl, hat3, _, hq⟩
  have fin : ∀ jump : Option Code, H3[l]? = some (.loop { r with state := .busy }) → ∀ v, v = .bool jump.isNone → K v (H3.setIfInBounds l (.loop { r with state := if jump.isNone then .ready else .done, pending := jump })) →
      ∃ v w', (Instr.endRound l jump).run P w3 = .ok v w' ∧ ∃ v', Ending.returned v = .returned v' ∧ K v' w'.heap ∧ Like w w' := fun jump hl3 v hv hk => by
    refine ⟨_, _, run_endRound jump (by rw [hat3.heap]; exact hl3), _, rfl, ?_, hat3.like.trans (like_putObj _ _ _)⟩
    rw [putObj_heap, hat3.heap, ← hv]
    exact hk
  cases hx with
  | normal => exact fin none hq.1 _ rfl hq.2
  | ret => exact fin (some .ret) hq.1 _ rfl hq.2
  | exit i => exact fin (some (.exit i)) hq.1 _ rfl hq.2
theorem hp_roundB (hm : P.follows .mixedOrders = true) {l : Nat} {r : Loop} {ps : Array Tmp} {as bd : Code} {args : Array Value} {K : Value → Heap → Prop} (qs : List Nat) (hR : RecAt n r ps as bd e) (hl : H[l]? = some (.loop r))
    (hs : args.size = ps.size) (hp : ∀ x ∈ (ps.zip args).toList, x.1 < n) (hoka : codeOk n qs as = true) (hokb : codeOk n qs bd = true) (K1 : Env → Heap → Prop)
    (h1 : codeX P qs as (fun x e1 H1 => x = .normal ∧ H1[l]? = some (.loop r) ∧ K1 e1 H1) ((ps.zip args).toList.foldl (fun e x => Env.put e (some x.1) x.2) e) H)
    (h2 : ∀ e1 H1, K1 e1 H1 → codeX P qs bd (roundQ l r K) e1 (H1.setIfInBounds l (.loop (busy r)))) : semHp P (Instr.yield l args) H (nextHp P K) := by
  obtain ⟨r1, r2, rfl, rfl, rfl, r6, r7⟩ := hR
  refine hp_yield hl hs ?_
  have e0 : (r.params.zip args).foldl (fun tmps x => tmps.setIfInBounds x.1 x.2) r.tmps = (r.params.zip args).toList.foldl (fun tmps x => tmps.setIfInBounds x.1 x.2) r.tmps := by rw [Array.foldl_toList]
  obtain ⟨a, b⟩ := env_setL (r.params.zip args).toList r.tmps (fun x hx => by rw [r7]; exact hp x hx)
  refine round_ofB hm (n := n) (e := (r.params.zip args).toList.foldl (fun e x => Env.put e (some x.1) x.2) e) qs r1 (by rw [e0, b, r7]) hoka hokb (by rw [e0, a, r6]; rfl) h1 h2
end
end Go.Hp
