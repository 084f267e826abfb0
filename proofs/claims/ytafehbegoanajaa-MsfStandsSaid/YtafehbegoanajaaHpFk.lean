/-
  Regions that draw their order: trees of orders, where two effects may come up again and again.
-/
import Derived.Test.YtafehbegoanajaaHpAA
namespace Go.Hp
open Go
set_option linter.unusedVariables false
set_option linter.unusedSimpArgs false
section
variable {P : Program} {ops : Array Oper} {S : Heap → Prop} {K : Env → Heap → Prop}
/-- An order; or, behind reads, either of two effects, and how it goes on. -/
inductive Sch where
  | lin (Z l : List Nat)
  | fork (pre : List Nat) (i : Nat) (a : Sch) (j : Nat) (b : Sch)
  | fork3 (pre : List Nat) (i : Nat) (a : Sch) (j : Nat) (b : Sch) (k : Nat) (c : Sch)
  | fork4 (pre : List Nat) (i : Nat) (a : Sch) (j : Nat) (b : Sch) (k : Nat) (c : Sch) (m : Nat) (d : Sch)
def opsT (P : Program) (ops : Array Oper) (S : Heap → Prop) (K : Env → Heap → Prop) : Sch → Env → Heap → Prop
  | .lin Z l, e, H => opsS P ops S Z l e H K
  | .fork pre i a j b, e, H => opsS P ops S [] pre e H fun e1 H1 => opsS P ops S [] [i] e1 H1 (opsT P ops S K a) ∧ opsS P ops S [] [j] e1 H1 (opsT P ops S K b)
  | .fork3 pre i a j b k c, e, H => opsS P ops S [] pre e H fun e1 H1 => opsS P ops S [] [i] e1 H1 (opsT P ops S K a) ∧ opsS P ops S [] [j] e1 H1 (opsT P ops S K b) ∧ opsS P ops S [] [k] e1 H1 (opsT P ops S K c)
  | .fork4 pre i a j b k c m d, e, H => opsS P ops S [] pre e H fun e1 H1 => opsS P ops S [] [i] e1 H1 (opsT P ops S K a) ∧ opsS P ops S [] [j] e1 H1 (opsT P ops S K b) ∧ opsS P ops S [] [k] e1 H1 (opsT P ops S K c) ∧ opsS P ops S [] [m] e1 H1 (opsT P ops S K d)
def lexT (ops : Array Oper) : Sch → Array Bool → Nat → Bool
  | .lin Z l, listed, fuel => lexSFrom ops Z l listed && fuel == l.length
  | .fork pre i a j b, listed, fuel => lexPre ops pre listed && (Region.ready .any ops (lstd listed pre) == [i, j]) && notRd ops i && notRd ops j && decide (pre.length + 1 ≤ fuel) &&
      lexT ops a ((lstd listed pre).setIfInBounds i true) (fuel - (pre.length + 1)) && lexT ops b ((lstd listed pre).setIfInBounds j true) (fuel - (pre.length + 1))
  | .fork3 pre i a j b k c, listed, fuel => lexPre ops pre listed && (Region.ready .any ops (lstd listed pre) == [i, j, k]) && notRd ops i && notRd ops j && notRd ops k && decide (pre.length + 1 ≤ fuel) &&
      lexT ops a ((lstd listed pre).setIfInBounds i true) (fuel - (pre.length + 1)) && lexT ops b ((lstd listed pre).setIfInBounds j true) (fuel - (pre.length + 1)) && lexT ops c ((lstd listed pre).setIfInBounds k true) (fuel - (pre.length + 1))
  | .fork4 pre i a j b k c m d, listed, fuel => lexPre ops pre listed && (Region.ready .any ops (lstd listed pre) == [i, j, k, m]) && notRd ops i && notRd ops j && notRd ops k && notRd ops m && decide (pre.length + 1 ≤ fuel) &&
      lexT ops a ((lstd listed pre).setIfInBounds i true) (fuel - (pre.length + 1)) && lexT ops b ((lstd listed pre).setIfInBounds j true) (fuel - (pre.length + 1)) && lexT ops c ((lstd listed pre).setIfInBounds k true) (fuel - (pre.length + 1)) && lexT ops d ((lstd listed pre).setIfInBounds m true) (fuel - (pre.length + 1))
/-- Behind which no heap needs to be as told. -/
def zOf : Sch → List Nat
  | .lin Z _ => Z
  | _ => []
theorem anyH_z {Z Z' : List Nat} (hz : ∀ i, Z.contains i = true → Z'.contains i = true) : ∀ (fuel : Nat) (listed : Array Bool) (e : Env) (H : Heap), anyH P ops S Z K fuel listed e H → anyH P ops S Z' K fuel listed e H
  | 0, _, _, _, h => h
  | fuel + 1, listed, e, H, h => by
    refine ⟨h.1, fun i hi => ?_⟩
    have h2 := h.2 i hi
    cases ho : ops[i]? with
    | none =>
      rw [ho] at h2
      exact anyH_z hz fuel _ e H h2
    | some o =>
      rw [ho] at h2
      exact opAtR_mono h2 fun e' H' ⟨a, b⟩ => ⟨fun hc => a (by
        cases hZ : Z.contains i with
        | false => rfl
        | true => rw [hz i hZ] at hc; cases hc), anyH_z hz fuel _ e' H' b⟩
theorem anyH_eff' {i : Nat} {listed : Array Bool} {e : Env} {H : Heap} {fuel : Nat} {Z : List Nat} {K' : Env → Heap → Prop} (hn : notRd ops i = true)
    (h : opsS P ops S [] [i] e H K') (hk : ∀ e' H', S H' → K' e' H' → anyH P ops S Z K fuel (listed.setIfInBounds i true) e' H') :
    match ops[i]? with
      | none => anyH P ops S Z K fuel (listed.setIfInBounds i true) e H
      | some oi => opAtR P ops oi e H fun e' H' => (Z.contains i = false → S H') ∧ anyH P ops S Z K fuel (listed.setIfInBounds i true) e' H' := by
  unfold notRd at hn
  unfold opsS at h
  cases h0 : ops[i]? with
  | none => rw [h0] at hn; cases hn
  | some o =>
    rw [h0] at hn h
    simp only [] at hn h ⊢
    have hc : (isRdOp o.op && !([] : List Nat).contains i) ≠ true := by
      rw [Bool.not_eq_true'] at hn
      rw [hn]; simp
    rw [if_neg hc] at h
    refine opAtR_mono (opAtR_of h) fun e' H' ⟨a, b⟩ => ⟨fun _ => a rfl, hk e' H' (a rfl) b⟩
/-- All operations that are set free from S in some branch. -/
def allZ : Sch → List Nat
  | .lin Z _ => Z
  | .fork _ _ a _ b => allZ a ++ allZ b
  | .fork3 _ _ a _ b _ c => allZ a ++ allZ b ++ allZ c
  | .fork4 _ _ a _ b _ c _ d => allZ a ++ allZ b ++ allZ c ++ allZ d
theorem anyH_zero {Z : List Nat} : ∀ (fuel : Nat) (listed : Array Bool) (e : Env) (H : Heap), anyH P ops S [] K fuel listed e H → anyH P ops S Z K fuel listed e H :=
  fun fuel listed e H h => anyH_z (fun i hi => by simp at hi) fuel listed e H h
theorem anyH_pre' {K' : Env → Heap → Prop} {fuel : Nat} {Z : List Nat} : ∀ (pre : List Nat) (listed : Array Bool) (e : Env) (H : Heap), lexPre ops pre listed = true → S H → opsS P ops S [] pre e H K' →
    (∀ e1, K' e1 H → anyH P ops S [] K fuel (lstd listed pre) e1 H) → anyH P ops S [] K (pre.length + fuel) listed e H := fun pre listed e H h1 hS h2 h3 => anyH_pre pre listed e H h1 hS h2 h3
theorem anyH_lexT : ∀ (t : Sch) (listed : Array Bool) (fuel : Nat) (e : Env) (H : Heap), lexT ops t listed fuel = true → allZ t = [] → S H → opsT P ops S K t e H → anyH P ops S [] K fuel listed e H
  | .lin Z l, listed, fuel, e, H, hl, hz, hS, h => by
    unfold lexT at hl
    rw [Bool.and_eq_true, beq_iff_eq] at hl
    obtain ⟨hl, rfl⟩ := hl
    have hz' : Z = [] := hz
    subst hz'
    exact anyH_lexS l listed e H hl (fun _ => hS) h
  | .fork pre i a j b, listed, fuel, e, H, hl, hz, hS, h => by
    simp only [lexT, Bool.and_eq_true, beq_iff_eq, decide_eq_true_eq] at hl
    obtain ⟨⟨⟨⟨⟨⟨h1, h2⟩, h3⟩, h4⟩, h5⟩, h6⟩, h7⟩ := hl
    have hz' : allZ a = [] ∧ allZ b = [] := List.append_eq_nil_iff.1 hz
    have e1 : fuel = pre.length + ((fuel - (pre.length + 1)) + 1) := by omega
    rw [e1]
    refine anyH_pre pre listed e H h1 hS h fun e1 hk => ?_
    refine ⟨fun h => (by rw [h2] at h; cases h), fun k hk' => ?_⟩
    rw [h2] at hk'
    rcases List.mem_cons.1 hk' with rfl | hk'
    · exact anyH_eff' h3 hk.1 fun e' H' hS' h' => anyH_lexT a _ _ e' H' h6 hz'.1 hS' h'
    · obtain rfl := List.mem_singleton.1 hk'
      exact anyH_eff' h4 hk.2 fun e' H' hS' h' => anyH_lexT b _ _ e' H' h7 hz'.2 hS' h'
  | .fork3 pre i a j b k c, listed, fuel, e, H, hl, hz, hS, h => by
    simp only [lexT, Bool.and_eq_true, beq_iff_eq, decide_eq_true_eq] at hl
    obtain ⟨⟨⟨⟨⟨⟨⟨⟨h1, h2⟩, h3⟩, h4⟩, h4'⟩, h5⟩, h6⟩, h7⟩, h8⟩ := hl
    have hz' : (allZ a = [] ∧ allZ b = []) ∧ allZ c = [] := by
      have := List.append_eq_nil_iff.1 hz
      exact ⟨List.append_eq_nil_iff.1 this.1, this.2⟩
    have e1 : fuel = pre.length + ((fuel - (pre.length + 1)) + 1) := by omega
    rw [e1]
    refine anyH_pre pre listed e H h1 hS h fun e1 hk => ?_
    refine ⟨fun h => (by rw [h2] at h; cases h), fun k' hk' => ?_⟩
    rw [h2] at hk'
    rcases List.mem_cons.1 hk' with rfl | hk'
    · exact anyH_eff' h3 hk.1 fun e' H' hS' h' => anyH_lexT a _ _ e' H' h6 hz'.1.1 hS' h'
    · rcases List.mem_cons.1 hk' with rfl | hk'
      · exact anyH_eff' h4 hk.2.1 fun e' H' hS' h' => anyH_lexT b _ _ e' H' h7 hz'.1.2 hS' h'
      · obtain rfl := List.mem_singleton.1 hk'
        exact anyH_eff' h4' hk.2.2 fun e' H' hS' h' => anyH_lexT c _ _ e' H' h8 hz'.2 hS' h'
  | .fork4 pre i a j b k c m d, listed, fuel, e, H, hl, hz, hS, h => by
    simp only [lexT, Bool.and_eq_true, beq_iff_eq, decide_eq_true_eq] at hl
    obtain ⟨⟨⟨⟨⟨⟨⟨⟨⟨⟨h1, h2⟩, h3⟩, h4⟩, h4'⟩, h4''⟩, h5⟩, h6⟩, h7⟩, h8⟩, h9⟩ := hl
    have hz' : ((allZ a = [] ∧ allZ b = []) ∧ allZ c = []) ∧ allZ d = [] := by
      have := List.append_eq_nil_iff.1 hz
      have h2 := List.append_eq_nil_iff.1 this.1
      exact ⟨⟨List.append_eq_nil_iff.1 h2.1, h2.2⟩, this.2⟩
    have e1 : fuel = pre.length + ((fuel - (pre.length + 1)) + 1) := by omega
    rw [e1]
    refine anyH_pre pre listed e H h1 hS h fun e1 hk => ?_
    refine ⟨fun h => (by rw [h2] at h; cases h), fun k' hk' => ?_⟩
    rw [h2] at hk'
    rcases List.mem_cons.1 hk' with rfl | hk'
    · exact anyH_eff' h3 hk.1 fun e' H' hS' h' => anyH_lexT a _ _ e' H' h6 hz'.1.1.1 hS' h'
    · rcases List.mem_cons.1 hk' with rfl | hk'
      · exact anyH_eff' h4 hk.2.1 fun e' H' hS' h' => anyH_lexT b _ _ e' H' h7 hz'.1.1.2 hS' h'
      · rcases List.mem_cons.1 hk' with rfl | hk'
        · exact anyH_eff' h4' hk.2.2.1 fun e' H' hS' h' => anyH_lexT c _ _ e' H' h8 hz'.1.2 hS' h'
        · obtain rfl := List.mem_singleton.1 hk'
          exact anyH_eff' h4'' hk.2.2.2 fun e' H' hS' h' => anyH_lexT d _ _ e' H' h9 hz'.2 hS' h'
theorem x_drawF {qs : List Nat} {id : Nat} {l : List Oper} {Q : HX → Env → Heap → Prop} {e : Env} {H : Heap} (t : Sch) (hq : qs.contains id = false) (hl : (lexT l.toArray t (Array.replicate l.toArray.size false) l.toArray.size && decide (allZ t = [])) = true) (S : Heap → Prop) (hS : S H)
    (h : opsT P l.toArray S (Q .normal) t e H) : codeX P qs (.region id l.toArray true) Q e H := by
  rw [Bool.and_eq_true, decide_eq_true_eq] at hl
  exact x_draw hq S [] hS (anyH_lexT t _ _ e H hl.1 hl.2 hS h)
theorem xf_lin {Z l : List Nat} {e : Env} {H : Heap} (h : opsS P ops S Z l e H K) : opsT P ops S K (.lin Z l) e H := h
theorem xf_fork {pre : List Nat} {i j : Nat} {a b : Sch} {e : Env} {H : Heap} (h : opsS P ops S [] pre e H fun e1 H1 => opsS P ops S [] [i] e1 H1 (opsT P ops S K a) ∧ opsS P ops S [] [j] e1 H1 (opsT P ops S K b)) : opsT P ops S K (.fork pre i a j b) e H := h
theorem xf_fork3 {pre : List Nat} {i j k : Nat} {a b c : Sch} {e : Env} {H : Heap} (h : opsS P ops S [] pre e H fun e1 H1 => opsS P ops S [] [i] e1 H1 (opsT P ops S K a) ∧ opsS P ops S [] [j] e1 H1 (opsT P ops S K b) ∧ opsS P ops S [] [k] e1 H1 (opsT P ops S K c)) : opsT P ops S K (.fork3 pre i a j b k c) e H := h
theorem xf_fork4 {pre : List Nat} {i j k m : Nat} {a b c d : Sch} {e : Env} {H : Heap} (h : opsS P ops S [] pre e H fun e1 H1 => opsS P ops S [] [i] e1 H1 (opsT P ops S K a) ∧ opsS P ops S [] [j] e1 H1 (opsT P ops S K b) ∧ opsS P ops S [] [k] e1 H1 (opsT P ops S K c) ∧ opsS P ops S [] [m] e1 H1 (opsT P ops S K d)) : opsT P ops S K (.fork4 pre i a j b k c m d) e H := h

/-! ### what looks at no memory may be taken first, whatever is written -/
theorem anyH_firstL {Z : List Nat} {i : Nat} {oi : Oper} {v : Value} {L : List Nat} (hi : ops[i]? = some oi) (hsel : ∀ (j : Nat) (o : Oper) cs b, ops[j]? = some o → o.op ≠ .select cs b)
    (hiL : i ∈ L) (hL : ∀ j ∈ L, j ≠ i → ∀ oj, ops[j]? = some oj → ∃ x ∈ oj.after, Region.binds .any x = true ∧ x.on ∈ L) :
    ∀ (fuel : Nat) (listed : Array Bool) (e : Env) (H : Heap), (∀ j ∈ L, listed.getD j false = false) →
      (∀ j oj, ops[j]? = some oj → j ∉ L → listed.getD j true = false → oi.apart ops oj = true) →
      (∀ j ∈ Z, j ∈ L ∨ listed.getD j true = true) → i ∈ Region.ready .any ops listed → Still P ops S oi e v → S H →
      anyH P ops S Z K fuel (listed.setIfInBounds i true) (e.put oi.dst v) H → anyH P ops S Z K (fuel + 1) listed e H := by
  intro fuel
  induction fuel with
  | zero =>
    intro listed e H _ _ _ hr hy hS hh
    refine ⟨fun h => (by rw [h] at hr; cases hr), fun j hj => ?_⟩
    by_cases hji : j = i
    · subst hji; simp only [hi]; exact hy.opAtR hS ⟨fun _ => hS, hh⟩
    · have := ready_mono hj hji
      rw [hh.1] at this
      cases this
  | succ fuel ih =>
    intro listed e H hLl hfree hZ hr hy hS hh
    refine ⟨fun h => (by rw [h] at hr; cases hr), fun j hj => ?_⟩
    by_cases hji : j = i
    · subst hji; simp only [hi]; exact hy.opAtR hS ⟨fun _ => hS, hh⟩
    · have h1 := hh.2 j (ready_mono hj hji)
      obtain ⟨hjun, oj, hoj, hall⟩ := mem_ready.1 hj
      have hjL : j ∉ L := fun hm => by
        obtain ⟨x, hx, hb, hxL⟩ := hL j hm hji oj hoj
        have := hall x hx hb
        rw [hLl _ hxL] at this
        cases this
      have hjZ : Z.contains j = false := by
        simp only [List.contains_eq_mem, decide_eq_false_iff_not]
        exact fun h => (hZ j h).elim hjL fun h' => (by rw [hjun] at h'; cases h')
      have hap := Oper.apart_spec (hfree j oj hoj hjL hjun)
      have hLl' : ∀ k ∈ L, (listed.setIfInBounds j true).getD k false = false := fun k hk => by
        rw [getD_set_ne (i := j) (j := k) false (fun he => hjL (by rw [he]; exact hk))]
        exact hLl k hk
      have hfree' : ∀ k ok, ops[k]? = some ok → k ∉ L → (listed.setIfInBounds j true).getD k true = false → oi.apart ops ok = true := fun k ok hk hkL hun => by
        refine hfree k ok hk hkL ?_
        by_cases hjk : j = k
        · subst hjk; exact hjun
        · rw [getD_set_ne true hjk] at hun; exact hun
      have hZ' : ∀ k ∈ Z, k ∈ L ∨ (listed.setIfInBounds j true).getD k true = true := fun k hk => (hZ k hk).imp id fun h => by
        by_cases hjk : j = k
        · subst hjk
          rw [hjun] at h; cases h
        · rw [getD_set_ne true hjk]; exact h
      simp only [hoj] at h1 ⊢
      have h2 := opAtR_put (fun cs b => hsel j oj cs b hoj) hap.1 hap.2.1 h1
      have h3 : opAtR P ops oj e H fun e' H' => (∃ u, e' = e.put oj.dst u) ∧ (Z.contains j = false → S H') ∧ anyH P ops S Z K fuel ((listed.setIfInBounds i true).setIfInBounds j true) (e'.put oi.dst v) H' := by
        unfold opAtR at h2 ⊢
        split
        · rename_i hg; rw [hg] at h2; exact opR_mono h2 fun u _ h => ⟨⟨u, rfl⟩, h⟩
        · rename_i j' want hg
          rw [hg] at h2
          simp only [] at h2
          split
          · rename_i hy'; rw [if_pos hy'] at h2; exact opR_mono h2 fun u _ h => ⟨⟨u, rfl⟩, h⟩
          · rename_i hy'; rw [if_neg hy'] at h2; exact ⟨⟨_, rfl⟩, h2⟩
      refine opAtR_mono h3 ?_
      rintro e' H' ⟨⟨u, rfl⟩, hS', h4⟩
      refine ⟨hS', ih (listed.setIfInBounds j true) _ H' hLl' hfree' hZ' (ready_mono hr (Ne.symm hji)) (hy.put (fun cs b => hsel i oi cs b hi) hap.2.2) (hS' hjZ) ?_⟩
      rw [Array.setIfInBounds_comm _ _ hji]
      exact h4

theorem anyH_firstF {Z : List Nat} {i : Nat} {oi : Oper} {v : Value} {L : List Nat} (hi : ops[i]? = some oi) (hsel : ∀ (j : Nat) (o : Oper) cs b, ops[j]? = some o → o.op ≠ .select cs b)
    (hiL : i ∈ L) (hL : ∀ j ∈ L, j ≠ i → ∀ oj, ops[j]? = some oj → ∃ x ∈ oj.after, Region.binds .any x = true ∧ x.on ∈ L) (hZ : Z.contains i = true) :
    ∀ (fuel : Nat) (listed : Array Bool) (e : Env) (H : Heap), (∀ j ∈ L, listed.getD j false = false) →
      (∀ j oj, ops[j]? = some oj → j ∉ L → listed.getD j true = false → oi.apart ops oj = true) →
      i ∈ Region.ready .any ops listed → Still P ops (fun _ => True) oi e v →
      anyH P ops S Z K fuel (listed.setIfInBounds i true) (e.put oi.dst v) H → anyH P ops S Z K (fuel + 1) listed e H := by
  intro fuel
  induction fuel with
  | zero =>
    intro listed e H _ _ hr hy hh
    refine ⟨fun h => (by rw [h] at hr; cases hr), fun j hj => ?_⟩
    by_cases hji : j = i
    · subst hji; simp only [hi]; exact hy.opAtR trivial ⟨fun h => (by rw [hZ] at h; cases h), hh⟩
    · have := ready_mono hj hji
      rw [hh.1] at this
      cases this
  | succ fuel ih =>
    intro listed e H hLl hfree hr hy hh
    refine ⟨fun h => (by rw [h] at hr; cases hr), fun j hj => ?_⟩
    by_cases hji : j = i
    · subst hji; simp only [hi]; exact hy.opAtR trivial ⟨fun h => (by rw [hZ] at h; cases h), hh⟩
    · have h1 := hh.2 j (ready_mono hj hji)
      obtain ⟨hjun, oj, hoj, hall⟩ := mem_ready.1 hj
      have hjL : j ∉ L := fun hm => by
        obtain ⟨x, hx, hb, hxL⟩ := hL j hm hji oj hoj
        have := hall x hx hb
        rw [hLl _ hxL] at this
        cases this
      have hap := Oper.apart_spec (hfree j oj hoj hjL hjun)
      have hLl' : ∀ k ∈ L, (listed.setIfInBounds j true).getD k false = false := fun k hk => by
        rw [getD_set_ne (i := j) (j := k) false (fun he => hjL (by rw [he]; exact hk))]
        exact hLl k hk
      have hfree' : ∀ k ok, ops[k]? = some ok → k ∉ L → (listed.setIfInBounds j true).getD k true = false → oi.apart ops ok = true := fun k ok hk hkL hun => by
        refine hfree k ok hk hkL ?_
        by_cases hjk : j = k
        · subst hjk; exact hjun
        · rw [getD_set_ne true hjk] at hun; exact hun
      simp only [hoj] at h1 ⊢
      have h2 := opAtR_put (fun cs b => hsel j oj cs b hoj) hap.1 hap.2.1 h1
      have h3 : opAtR P ops oj e H fun e' H' => (∃ u, e' = e.put oj.dst u) ∧ (Z.contains j = false → S H') ∧ anyH P ops S Z K fuel ((listed.setIfInBounds i true).setIfInBounds j true) (e'.put oi.dst v) H' := by
        unfold opAtR at h2 ⊢
        split
        · rename_i hg; rw [hg] at h2; exact opR_mono h2 fun u _ h => ⟨⟨u, rfl⟩, h⟩
        · rename_i j' want hg
          rw [hg] at h2
          simp only [] at h2
          split
          · rename_i hy'; rw [if_pos hy'] at h2; exact opR_mono h2 fun u _ h => ⟨⟨u, rfl⟩, h⟩
          · rename_i hy'; rw [if_neg hy'] at h2; exact ⟨⟨_, rfl⟩, h2⟩
      refine opAtR_mono h3 ?_
      rintro e' H' ⟨⟨u, rfl⟩, hS', h4⟩
      refine ⟨hS', ih (listed.setIfInBounds j true) _ H' hLl' hfree' (ready_mono hr (Ne.symm hji)) (hy.put (fun cs b => hsel i oi cs b hi) hap.2.2) ?_⟩
      rw [Array.setIfInBounds_comm _ _ hji]
      exact h4
theorem takeS_spec {i : Nat} {oi : Oper} {Z : List Nat} {listed : Array Bool} (hi : ops[i]? = some oi) (ht : takeS ops listed Z i = true) :
    (∀ (j : Nat) (o : Oper) cs b, ops[j]? = some o → o.op ≠ .select cs b) ∧ i ∈ behind ops i ops.size [i] ∧
      (∀ j ∈ behind ops i ops.size [i], j ≠ i → ∀ oj, ops[j]? = some oj → ∃ x ∈ oj.after, Region.binds .any x = true ∧ x.on ∈ behind ops i ops.size [i]) ∧ (∀ j ∈ Z, j ∈ behind ops i ops.size [i]) ∧
      (∀ j ∈ behind ops i ops.size [i], listed.getD j false = false) ∧ (∀ j oj, ops[j]? = some oj → j ∉ behind ops i ops.size [i] → listed.getD j true = false → oi.apart ops oj = true) ∧ i ∈ Region.ready .any ops listed := by
  simp only [takeS, Bool.and_eq_true, List.all_eq_true, Bool.or_eq_true, Bool.not_eq_true', beq_iff_eq, List.contains_eq_mem, decide_eq_true_eq, List.mem_range] at ht
  obtain ⟨⟨⟨⟨⟨h0, h1⟩, h2⟩, h3⟩, h4⟩, h5⟩ := ht
  refine ⟨Region.noSelect_spec h0, h2, ?_, h4, fun j hj => (h3 j hj).1, ?_, h1⟩
  · intro j hj hjk oj hoj
    have := (h3 j hj).2
    rw [hoj] at this
    rcases this with h | h
    · exact absurd h hjk
    · obtain ⟨x, hx, hb⟩ := Array.any_eq_true'.1 h
      simp only [Bool.and_eq_true, decide_eq_true_eq] at hb
      exact ⟨x, hx, hb.1, hb.2⟩
  · intro j oj hoj hjL hun
    have hlt : j < ops.size := (Array.getElem?_eq_some_iff.1 hoj).1
    have := h5 j hlt
    rw [hoj, hi] at this
    rcases this with (h | h) | h
    · exact absurd h hjL
    · rw [hun] at h; cases h
    · exact h
/-- In the order given; those of G look at no memory that is written: they are taken first; Z: behind which (and of G) no heap need be as told. -/
def opsG (P : Program) (ops : Array Oper) (S : Heap → Prop) (Z G : List Nat) : List Nat → Env → Heap → (Env → Heap → Prop) → Prop
  | [], e, H, K => K e H
  | i :: rest, e, H, K => match ops[i]? with
    | none => False
    | some o => if G.contains i = true then ∃ v, Still P ops (fun _ => True) o e v ∧ opsG P ops S Z G rest (e.put o.dst v) H K
      else if (isRdOp o.op && !Z.contains i) = true then ∃ v, Still P ops S o e v ∧ opsG P ops S Z G rest (e.put o.dst v) H K
      else opAt P ops o e H fun e' H' => (Z.contains i = false → S H') ∧ opsG P ops S Z G rest e' H' K
def lexGFrom (ops : Array Oper) (Z G : List Nat) : List Nat → Array Bool → Bool → Bool
  | [], listed, _ => (Region.ready .any ops listed).isEmpty
  | i :: rest, listed, live => (match ops[i]? with
    | none => false
    | some o => if G.contains i then takeS ops listed [] i && lexGFrom ops Z G rest (listed.setIfInBounds i true) live
      else if isRdOp o.op && !Z.contains i then live && takeS ops listed ((Z ++ G).filter fun j => !listed.getD j true) i && lexGFrom ops Z G rest (listed.setIfInBounds i true) live
      else Region.ready .any ops listed == [i] && lexGFrom ops Z G rest (listed.setIfInBounds i true) (!Z.contains i))
theorem anyH_lexG {Z G : List Nat} : ∀ (ord : List Nat) (listed : Array Bool) (live : Bool) (e : Env) (H : Heap), lexGFrom ops Z G ord listed live = true → (live = true → S H) → opsG P ops S Z G ord e H K → anyH P ops S (Z ++ G) K ord.length listed e H
  | [], _, _, _, _, hB, _, h => ⟨by simpa [lexGFrom] using hB, h⟩
  | i :: rest, listed, live, e, H, hB, hS, h => by
    unfold lexGFrom at hB
    unfold opsG at h
    cases h0 : ops[i]? with
    | none => rw [h0] at hB; cases hB
    | some o =>
      rw [h0] at hB h
      simp only [] at hB h
      by_cases hg : G.contains i = true
      · rw [if_pos hg] at h hB
        rw [Bool.and_eq_true] at hB
        obtain ⟨v, h1, h2⟩ := h
        obtain ⟨t1, t2, t3, t4, t5, t6, t7⟩ := takeS_spec h0 hB.1
        have hz : (Z ++ G).contains i = true := by
          simp only [List.contains_eq_mem, List.mem_append, decide_eq_true_eq] at hg ⊢
          exact .inr hg
        exact anyH_firstF h0 t1 t2 t3 hz _ _ _ _ t5 t6 t7 h1 (anyH_lexG rest _ live _ H hB.2 hS h2)
      · rw [if_neg hg] at h hB
        by_cases hc : (isRdOp o.op && !Z.contains i) = true
        · rw [if_pos hc] at h hB
          simp only [Bool.and_eq_true, Bool.not_eq_true'] at hc hB
          obtain ⟨v, h1, h2⟩ := h
          obtain ⟨t1, t2, t3, t4, t5, t6, t7⟩ := takeS_spec h0 hB.1.2
          refine anyH_firstL h0 t1 t2 t3 _ _ _ _ t5 t6 (fun j hj => ?_) t7 h1 (hS hB.1.1) (anyH_lexG rest _ live _ H hB.2 hS h2)
          by_cases hl : listed.getD j true = true
          · exact .inr hl
          · exact .inl (t4 j (List.mem_filter.2 ⟨hj, by simpa using hl⟩))
        · rw [if_neg hc] at h hB
          rw [Bool.and_eq_true, beq_iff_eq] at hB
          obtain ⟨hB, hB'⟩ := hB
          refine ⟨fun h => (by rw [h] at hB; cases hB), fun j hj => ?_⟩
          rw [hB] at hj
          obtain rfl := List.mem_singleton.1 hj
          simp only [h0]
          refine opAtR_mono (opAtR_of h) fun e' H' ⟨a, b⟩ => ⟨fun hz => a ?_, anyH_lexG rest _ _ e' H' hB' (fun hl => a (by simpa using hl)) b⟩
          simp only [List.contains_eq_mem, List.mem_append, decide_eq_false_iff_not, not_or] at hz ⊢
          exact hz.1
theorem x_drawG {qs : List Nat} {id : Nat} {l : List Oper} {Q : HX → Env → Heap → Prop} {e : Env} {H : Heap} (Z G ord : List Nat) (hq : qs.contains id = false) (hl : (lexGFrom l.toArray Z G ord (Array.replicate l.toArray.size false) true && (ord.length == l.toArray.size)) = true) (S : Heap → Prop) (hS : S H)
    (h : opsG P l.toArray S Z G ord e H (Q .normal)) : codeX P qs (.region id l.toArray true) Q e H := by
  refine x_draw hq S (Z ++ G) hS ?_
  rw [Bool.and_eq_true, beq_iff_eq] at hl
  have := anyH_lexG (K := Q .normal) (ops := l.toArray) ord _ true e H hl.1 (fun _ => hS) h
  rw [hl.2] at this
  exact this
section
variable {Z G : List Nat}
theorem xg_nil {e : Env} {H : Heap} (h : K e H) : opsG P ops S Z G [] e H K := h
theorem xg_free {l : List Oper} {i : Nat} {d : Option Tmp} {op : Op} {t : TypeId} {pos : String} {after : Array Edge} {rest : List Nat} {e : Env} {H : Heap} {v : Value} (hi : l[i]? = some ⟨d, op, t, pos, after, none⟩) (hg : G.contains i = true) (h1 : ∀ H', rdX P ⟨d, op, t, pos, after, none⟩ (Env.eval e) H' (· = v))
    (h2 : opsG P l.toArray S Z G rest (e.put d v) H K) : opsG P l.toArray S Z G (i :: rest) e H K := by
  unfold opsG
  rw [List.getElem?_toArray, hi]
  simp only []
  rw [if_pos hg]
  exact ⟨v, still_of rfl fun H' _ => h1 H', h2⟩
theorem xg_rd {l : List Oper} {i : Nat} {d : Option Tmp} {op : Op} {t : TypeId} {pos : String} {after : Array Edge} {rest : List Nat} {e : Env} {H : Heap} {v : Value} (hi : l[i]? = some ⟨d, op, t, pos, after, none⟩) (hg : G.contains i = false) (hr : (isRdOp op && !Z.contains i) = true) (h1 : ∀ H', S H' → rdX P ⟨d, op, t, pos, after, none⟩ (Env.eval e) H' (· = v))
    (h2 : opsG P l.toArray S Z G rest (e.put d v) H K) : opsG P l.toArray S Z G (i :: rest) e H K := by
  unfold opsG
  rw [List.getElem?_toArray, hi]
  simp only []
  rw [if_neg (by rw [hg]; simp), if_pos hr]
  exact ⟨v, still_of rfl h1, h2⟩
theorem xg_op {l : List Oper} {i : Nat} {d : Option Tmp} {op : Op} {t : TypeId} {pos : String} {after : Array Edge} {rest : List Nat} {e : Env} {H : Heap} (hi : l[i]? = some ⟨d, op, t, pos, after, none⟩) (hg : G.contains i = false) (hr : (isRdOp op && !Z.contains i) = false)
    (h : ∀ K' : Value → Heap → Prop, (∀ v H', (Z.contains i = false → S H') ∧ opsG P l.toArray S Z G rest (e.put d v) H' K → K' v H') → opX P ⟨d, op, t, pos, after, none⟩ (Env.eval e) H K') : opsG P l.toArray S Z G (i :: rest) e H K := by
  unfold opsG
  rw [List.getElem?_toArray, hi]
  simp only []
  rw [if_neg (by rw [hg]; simp), if_neg (by rw [hr]; simp)]
  exact h _ fun _ _ h => h
theorem xg_tail {i : Nat} {rest : List Nat} {e : Env} {H : Heap} (hz : Z.contains i = true) (h : opsG P ops S Z G rest e H K) : (Z.contains i = false → S H) ∧ opsG P ops S Z G rest e H K :=
  ⟨fun hk => (by rw [hz] at hk; cases hk), h⟩
theorem xg_keep {i : Nat} {rest : List Nat} {e : Env} {H : Heap} (hS : S H) (h : opsG P ops S Z G rest e H K) : (Z.contains i = false → S H) ∧ opsG P ops S Z G rest e H K := ⟨fun _ => hS, h⟩
end
end
end Go.Hp
