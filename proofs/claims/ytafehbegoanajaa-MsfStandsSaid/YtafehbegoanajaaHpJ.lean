/-
  Steps of a walk: one operation at a time, what follows behind a variable.
-/
import Derived.Test.YtafehbegoanajaaHpI
namespace Go.Hp
open Go
set_option linter.unusedVariables false

section
variable {K : Env → Heap → Prop} {Q : HX → Env → Heap → Prop} {e : Env} {H : Heap} {i id : Nat}
theorem seq_normal (h : K e H) : seqQ K Q .normal e H := h
theorem seq_exit (h : Q (.exit i) e H) : seqQ K Q (.exit i) e H := h
theorem seq_ret (h : Q .ret e H) : seqQ K Q .ret e H := h
theorem block_normal (h : Q .normal e H) : blockQ id Q .normal e H := h
theorem block_ret (h : Q .ret e H) : blockQ id Q .ret e H := h
theorem block_exit (h : Q .normal e H) : blockQ id Q (.exit id) e H := by
  show (if id = id then Q .normal e H else Q (.exit id) e H)
  rw [if_pos rfl]; exact h
theorem block_exit_ne (hi : i ≠ id) (h : Q (.exit i) e H) : blockQ id Q (.exit i) e H := by
  show (if i = id then Q .normal e H else Q (.exit i) e H)
  rw [if_neg hi]; exact h
end
theorem end_ret {P : Program} {rs : List ResultVar} {K : Value → Heap → Prop} {e : Env} {H : Heap} (h : resX P rs e H (outX fun v => K v H)) : endQ P rs K .ret e H := h
theorem end_normal {P : Program} {rs : List ResultVar} {K : Value → Heap → Prop} {e : Env} {H : Heap} (h : resX P rs e H (outX fun v => K v H)) : endQ P rs K .normal e H := h
theorem put_get {e : Env} {d i : Nat} {v : Value} : (e.put (some d) v) i = if i = d then v else e i := rfl
theorem put_none {e : Env} {v : Value} : e.put none v = e := rfl
/-- The loops of a code, in the text's order, each ahead of those within it. -/
def loops : Code → List Code
  | .loop b => .loop b :: loops b
  | .seq a b => loops a ++ loops b
  | .cond _ a b => loops a ++ loops b
  | .block _ b => loops b
  | .scope b => loops b
  | _ => []
def loopAt (c : Option Code) (k : Nat) : Code := (loops (c.getD .skip)).getD k .skip
theorem ex_slice {a : Option Addr} {n c : Nat} {K : Option Addr → Nat → Nat → Prop} : (∃ p m d, Value.slice a n c = .slice p m d ∧ K p m d) = K a n c := by
  apply propext
  constructor
  · rintro ⟨p, m, d, h, k⟩
    simp only [Value.slice.injEq] at h
    obtain ⟨rfl, rfl, rfl⟩ := h
    exact k
  · exact fun k => ⟨_, _, _, rfl, k⟩
section
variable {P : Program} {qs : List Nat} {Q : HX → Env → Heap → Prop} {e : Env} {H : Heap}
theorem x_seq {a b : Code} (h : ∀ K : Env → Heap → Prop, (∀ e H, codeX P qs b Q e H → K e H) → codeX P qs a (seqQ K Q) e H) : codeX P qs (.seq a b) Q e H :=
  h (codeX P qs b Q) (fun _ _ h => h)
theorem x_block {id : Nat} {b : Code} (h : codeX P qs b (blockQ id Q) e H) : codeX P qs (.block id b) Q e H := h
theorem x_skip (h : Q .normal e H) : codeX P qs .skip Q e H := h
theorem x_label {l : Nat} (h : Q .normal e H) : codeX P qs (.label l) Q e H := h
theorem x_exit {id : Nat} (h : Q (.exit id) e H) : codeX P qs (.exit id) Q e H := h
theorem x_ret (h : Q .ret e H) : codeX P qs .ret Q e H := h
theorem x_loop {b : Code} (I : Nat → Env → Heap → Prop) (m₀ : Nat) (h₀ : I m₀ e H)
    (hr : ∀ m e' H', I m e' H' → (∀ i, (assigned b).contains i = false → e' i = e i) → codeX P qs b (loopQ I m Q) e' H') : codeX P qs (.loop b) Q e H := ⟨I, ⟨m₀, h₀⟩, hr⟩
theorem loop_normal {I : Nat → Env → Heap → Prop} {m m' : Nat} (hm : m' < m) (h : I m' e H) : loopQ I m Q .normal e H := ⟨m', hm, h⟩
theorem loop_exit {I : Nat → Env → Heap → Prop} {m i : Nat} (h : Q (.exit i) e H) : loopQ I m Q (.exit i) e H := h
theorem loop_ret {I : Nat → Env → Heap → Prop} {m : Nat} (h : Q .ret e H) : loopQ I m Q .ret e H := h
theorem x_scope {b : Code} (h : codeX P qs b Q e H) : codeX P qs (.scope b) Q e H := h
theorem x_cond {c : Operand} {a b : Code} {t : Bool} (hc : Env.eval e c = .bool t) (h1 : t = true → codeX P qs a Q e H) (h2 : t = false → codeX P qs b Q e H) : codeX P qs (.cond c a b) Q e H := by
  unfold codeX; rw [hc]; exact ⟨h1, h2⟩
theorem x_cond_true {c : Operand} {a b : Code} (hc : Env.eval e c = .bool true) (h1 : codeX P qs a Q e H) : codeX P qs (.cond c a b) Q e H :=
  x_cond hc (fun _ => h1) (fun h => by cases h)
theorem x_cond_false {c : Operand} {a b : Code} (hc : Env.eval e c = .bool false) (h1 : codeX P qs b Q e H) : codeX P qs (.cond c a b) Q e H :=
  x_cond hc (fun h => by cases h) (fun _ => h1)
theorem x_reg {id : Nat} {ops : Array Oper} {draw : Bool} (hq : (draw && !qs.contains id) = false) (h : opsX P ops ops.toList e H (Q .normal)) : codeX P qs (.region id ops draw) Q e H := by
  unfold codeX; rw [hq]; exact h
theorem x_reg_lit {id : Nat} {l : List Oper} {draw : Bool} (hq : (draw && !qs.contains id) = false) (h : opsX P l.toArray l e H (Q .normal)) : codeX P qs (.region id l.toArray draw) Q e H :=
  x_reg hq h
variable {ops : Array Oper} {K : Env → Heap → Prop}
theorem x_nil (h : K e H) : opsX P ops [] e H K := h
theorem x_op {d : Option Tmp} {op : Op} {t : TypeId} {pos : String} {after : Array Edge} {rest : List Oper} (h : ∀ K' : Value → Heap → Prop, (∀ v H, opsX P ops rest (e.put d v) H K → K' v H) → opX P ⟨d, op, t, pos, after, none⟩ (Env.eval e) H K') : opsX P ops (⟨d, op, t, pos, after, none⟩ :: rest) e H K :=
  h (fun v H' => opsX P ops rest (e.put d v) H' K) (fun _ _ h => h)
theorem x_guard {d : Option Tmp} {op : Op} {t : TypeId} {pos : String} {after : Array Edge} {rest : List Oper} {j : Nat} {w b : Bool} (hy : yieldedE ops e j = some b)
    (h1 : b = w → ∀ K' : Value → Heap → Prop, (∀ v H, opsX P ops rest (e.put d v) H K → K' v H) → opX P ⟨d, op, t, pos, after, some (j, w)⟩ (Env.eval e) H K') (h2 : b ≠ w → opsX P ops rest (e.put d undef) H K) :
    opsX P ops (⟨d, op, t, pos, after, some (j, w)⟩ :: rest) e H K := by
  unfold opsX opAt
  simp only []
  rw [hy]
  by_cases hb : b = w
  · rw [if_pos (by rw [hb])]; exact h1 hb _ (fun _ _ h => h)
  · rw [if_neg (by simpa using hb)]; exact h2 hb
theorem x_guard_yes {d : Option Tmp} {op : Op} {t : TypeId} {pos : String} {after : Array Edge} {rest : List Oper} {j : Nat} {w : Bool} (hy : yieldedE ops e j = some w)
    (h : ∀ K' : Value → Heap → Prop, (∀ v H, opsX P ops rest (e.put d v) H K → K' v H) → opX P ⟨d, op, t, pos, after, some (j, w)⟩ (Env.eval e) H K') :
    opsX P ops (⟨d, op, t, pos, after, some (j, w)⟩ :: rest) e H K := x_guard hy (fun _ => h) (fun h => absurd rfl h)
theorem x_guard_no {d : Option Tmp} {op : Op} {t : TypeId} {pos : String} {after : Array Edge} {rest : List Oper} {j : Nat} {w : Bool} (hy : yieldedE ops e j = some (!w))
    (h : opsX P ops rest (e.put d undef) H K) : opsX P ops (⟨d, op, t, pos, after, some (j, w)⟩ :: rest) e H K := x_guard hy (fun h => absurd h (by cases w <;> decide)) (fun _ => h)
theorem x_guard_none {d : Option Tmp} {op : Op} {t : TypeId} {pos : String} {after : Array Edge} {rest : List Oper} {j : Nat} {w : Bool} (hy : yieldedE ops e j = none)
    (h2 : opsX P ops rest (e.put d undef) H K) : opsX P ops (⟨d, op, t, pos, after, some (j, w)⟩ :: rest) e H K := by
  unfold opsX opAt
  simp only []
  rw [hy]
  rw [if_neg (by simp)]; exact h2
end
/-! ### the same, by short names -/
set_option linter.defProp false
def jA := @seq_normal
def jB := @seq_ret
def jC := @seq_exit
def jD := @block_normal
def jE := @block_ret
def jF := @block_exit_ne
def jG := @block_exit
def jH := @loop_exit
def jI := @loop_ret
def jJ := @x_seq
def jK := @x_nil
def jL := @x_block
def jM := @x_skip
def jN := @x_exit
def jO := @x_ret
def jP := @x_label
def jQ := @x_scope
def jR := @x_reg_lit
def jS := @x_op
def jT := @end_ret
def jU := @end_normal
def jV := @x_guard_yes
def jW := @x_guard_no
def jX := @x_guard_none
def jY := @x_cond_true
def jZ := @x_cond_false
end Go.Hp
