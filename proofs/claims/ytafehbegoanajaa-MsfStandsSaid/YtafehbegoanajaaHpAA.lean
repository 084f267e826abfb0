/-
  Regions that draw their order: two effects, neither ahead of the other (a call and an alloc).
-/
import Derived.Test.YtafehbegoanajaaHpK
namespace Go.Hp
open Go
set_option linter.unusedVariables false
set_option linter.unusedSimpArgs false
section
variable {P : Program} {ops : Array Oper} {S : Heap → Prop} {K : Env → Heap → Prop}
def lstd (listed : Array Bool) : List Nat → Array Bool
  | [] => listed
  | i :: rest => lstd (listed.setIfInBounds i true) rest
def lexPre (ops : Array Oper) : List Nat → Array Bool → Bool
  | [], _ => true
  | i :: rest, listed => (match ops[i]? with
    | none => false
    | some o => isRdOp o.op && takeS ops listed [] i) && lexPre ops rest (listed.setIfInBounds i true)
theorem anyH_pre {K' : Env → Heap → Prop} {fuel : Nat} : ∀ (pre : List Nat) (listed : Array Bool) (e : Env) (H : Heap), lexPre ops pre listed = true → S H → opsS P ops S [] pre e H K' →
    (∀ e1, K' e1 H → anyH P ops S [] K fuel (lstd listed pre) e1 H) → anyH P ops S [] K (pre.length + fuel) listed e H
  | [], listed, e, H, _, _, h, hk => by
    rw [List.length_nil, Nat.zero_add]
    exact hk e h
  | i :: rest, listed, e, H, hB, hS, h, hk => by
    unfold lexPre at hB
    rw [Bool.and_eq_true] at hB
    obtain ⟨hB, hB'⟩ := hB
    unfold opsS at h
    cases h0 : ops[i]? with
    | none => rw [h0] at hB; cases hB
    | some o =>
      rw [h0] at hB h
      simp only [] at hB h
      rw [Bool.and_eq_true] at hB
      have hc : (isRdOp o.op && !([] : List Nat).contains i) = true := by rw [hB.1]; rfl
      rw [if_pos hc] at h
      obtain ⟨v, h1, h2⟩ := h
      rw [List.length_cons, Nat.add_right_comm]
      exact anyH_take h0 hB.2 h1 hS (anyH_pre rest _ _ H hB' hS h2 hk)
def notRd (ops : Array Oper) (i : Nat) : Bool := match ops[i]? with
  | none => false
  | some o => !isRdOp o.op
def lexA (ops : Array Oper) (pre : List Nat) (i j : Nat) (r1 r2 : List Nat) : Bool :=
  lexPre ops pre (Array.replicate ops.size false) && (Region.ready .any ops (lstd (Array.replicate ops.size false) pre) == [i, j]) && notRd ops i && notRd ops j &&
    lexSFrom ops [] r1 ((lstd (Array.replicate ops.size false) pre).setIfInBounds i true) && lexSFrom ops [] r2 ((lstd (Array.replicate ops.size false) pre).setIfInBounds j true) &&
    (pre.length + (r1.length + 1) == ops.size) && (r2.length == r1.length)
theorem anyH_eff {i : Nat} {r : List Nat} {listed : Array Bool} {e : Env} {H : Heap} (hn : notRd ops i = true) (hl : lexSFrom ops [] r (listed.setIfInBounds i true) = true) (h : opsS P ops S [] (i :: r) e H K) :
    match ops[i]? with
      | none => anyH P ops S [] K r.length (listed.setIfInBounds i true) e H
      | some oi => opAtR P ops oi e H fun e' H' => (([] : List Nat).contains i = false → S H') ∧ anyH P ops S [] K r.length (listed.setIfInBounds i true) e' H' := by
  unfold notRd at hn
  unfold opsS at h
  cases h0 : ops[i]? with
  | none => rw [h0] at hn; cases hn
  | some o =>
    rw [h0] at hn h
    simp only [] at hn h ⊢
    have hc : (isRdOp o.op && !([] : List Nat).contains i) ≠ true := by
      rw [Bool.not_eq_true'] at hn
      rw [hn]; simp
    rw [if_neg hc] at h
    exact opAtR_mono (opAtR_of h) fun e' H' ⟨a, b⟩ => ⟨a, anyH_lexS r _ e' H' hl (fun _ => a rfl) b⟩
theorem x_drawA {qs : List Nat} {id : Nat} {l : List Oper} {Q : HX → Env → Heap → Prop} {e : Env} {H : Heap} (pre : List Nat) (i j : Nat) (r1 r2 : List Nat) (hq : qs.contains id = false) (hl : lexA l.toArray pre i j r1 r2 = true) (S : Heap → Prop) (hS : S H)
    (h : opsS P l.toArray S [] pre e H fun e1 H1 => opsS P l.toArray S [] (i :: r1) e1 H1 (Q .normal) ∧ opsS P l.toArray S [] (j :: r2) e1 H1 (Q .normal)) : codeX P qs (.region id l.toArray true) Q e H := by
  refine x_draw hq S [] hS ?_
  simp only [lexA, Bool.and_eq_true, beq_iff_eq] at hl
  obtain ⟨⟨⟨⟨⟨⟨⟨h1, h2⟩, h3⟩, h4⟩, h5⟩, h6⟩, h7⟩, h8⟩ := hl
  have := anyH_pre (P := P) (K := Q .normal) (fuel := r1.length + 1) pre (Array.replicate l.toArray.size false) e H h1 hS h fun e1 hk => by
    refine ⟨fun h => (by rw [h2] at h; cases h), fun k hk' => ?_⟩
    rw [h2] at hk'
    rcases List.mem_cons.1 hk' with rfl | hk'
    · have := anyH_eff h3 h5 hk.1
      exact this
    · obtain rfl := List.mem_singleton.1 hk'
      have := anyH_eff h4 h6 hk.2
      rw [h8] at this
      exact this
  rw [h7] at this
  exact this
end
end Go.Hp
