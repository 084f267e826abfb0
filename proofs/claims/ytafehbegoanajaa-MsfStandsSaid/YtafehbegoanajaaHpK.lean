/-
  Regions that draw their order: an operation that reads may be taken first.
-/
import Derived.Test.YtafehbegoanajaaHpJ
namespace Go.Hp
open Go
set_option linter.unusedVariables false
set_option linter.unusedSimpArgs false

section
variable {P : Program} {ops : Array Oper} {S : Heap → Prop} {Z : List Nat} {K : Env → Heap → Prop}
theorem anyH_first {i : Nat} {oi : Oper} {v : Value} {L : List Nat} (hi : ops[i]? = some oi) (hsel : ∀ (j : Nat) (o : Oper) cs b, ops[j]? = some o → o.op ≠ .select cs b)
    (hiL : i ∈ L) (hL : ∀ j ∈ L, j ≠ i → ∀ oj, ops[j]? = some oj → ∃ x ∈ oj.after, Region.binds .any x = true ∧ x.on ∈ L) (hZ : ∀ j ∈ Z, j ∈ L) :
    ∀ (fuel : Nat) (listed : Array Bool) (e : Env) (H : Heap), (∀ j ∈ L, listed.getD j false = false) →
      (∀ j oj, ops[j]? = some oj → j ∉ L → listed.getD j true = false → oi.apart ops oj = true) →
      i ∈ Region.ready .any ops listed → Still P ops S oi e v → S H →
      anyH P ops S Z K fuel (listed.setIfInBounds i true) (e.put oi.dst v) H → anyH P ops S Z K (fuel + 1) listed e H := by
  intro fuel
  induction fuel with
  | zero =>
    intro listed e H _ _ hr hy hS hh
    refine ⟨fun h => (by rw [h] at hr; cases hr), fun j hj => ?_⟩
    by_cases hji : j = i
    · subst hji; simp only [hi]; exact hy.opAtR hS ⟨fun _ => hS, hh⟩
    · have := ready_mono hj hji
      rw [hh.1] at this
      cases this
  | succ fuel ih =>
    intro listed e H hLl hfree hr hy hS hh
    refine ⟨fun h => (by rw [h] at hr; cases hr), fun j hj => ?_⟩
    by_cases hji : j = i
    · subst hji; simp only [hi]; exact hy.opAtR hS ⟨fun _ => hS, hh⟩
    · have h1 := hh.2 j (ready_mono hj hji)
      obtain ⟨hjun, oj, hoj, hall⟩ := mem_ready.1 hj
      have hjL : j ∉ L := fun hm => by
        obtain ⟨x, hx, hb, hxL⟩ := hL j hm hji oj hoj
        have := hall x hx hb
        rw [hLl _ hxL] at this
        cases this
      have hjZ : Z.contains j = false := by
        simp only [List.contains_eq_mem, decide_eq_false_iff_not]
        exact fun h => hjL (hZ j h)
      have hap := Oper.apart_spec (hfree j oj hoj hjL hjun)
      have hLl' : ∀ k ∈ L, (listed.setIfInBounds j true).getD k false = false := fun k hk => by
        rw [getD_set_ne (i := j) (j := k) false (fun he => hjL (by rw [he]; exact hk))]
        exact hLl k hk
      have hfree' : ∀ k ok, ops[k]? = some ok → k ∉ L → (listed.setIfInBounds j true).getD k true = false → oi.apart ops ok = true := fun k ok hk hkL hun => by
        refine hfree k ok hk hkL ?_
        by_cases hjk : j = k
        · subst hjk; exact hjun
        · rw [getD_set_ne true hjk] at hun; exact hun
      simp only [hoj] at h1 ⊢
      have h2 := opAtR_put (fun cs b => hsel j oj cs b hoj) hap.1 hap.2.1 h1
      have h3 : opAtR P ops oj e H fun e' H' => (∃ u, e' = e.put oj.dst u) ∧ (Z.contains j = false → S H') ∧ anyH P ops S Z K fuel ((listed.setIfInBounds i true).setIfInBounds j true) (e'.put oi.dst v) H' := by
        unfold opAtR at h2 ⊢
        split
        · rename_i hg; rw [hg] at h2; exact opR_mono h2 fun u _ h => ⟨⟨u, rfl⟩, h⟩
        · rename_i j' want hg
          rw [hg] at h2
          simp only [] at h2
          split
          · rename_i hy'; rw [if_pos hy'] at h2; exact opR_mono h2 fun u _ h => ⟨⟨u, rfl⟩, h⟩
          · rename_i hy'; rw [if_neg hy'] at h2; exact ⟨⟨_, rfl⟩, h2⟩
      refine opAtR_mono h3 ?_
      rintro e' H' ⟨⟨u, rfl⟩, hS', h4⟩
      refine ⟨hS', ih (listed.setIfInBounds j true) _ H' hLl' hfree' (ready_mono hr (Ne.symm hji)) (hy.put (fun cs b => hsel i oi cs b hi) hap.2.2) (hS' hjZ) ?_⟩
      rw [Array.setIfInBounds_comm _ _ hji]
      exact h4
def takeS (ops : Array Oper) (listed : Array Bool) (Z : List Nat) (i : Nat) : Bool :=
  let L := behind ops i ops.size [i]
  Region.noSelect ops && (Region.ready .any ops listed).contains i && L.contains i && L.all (fun j => !listed.getD j false && (j == i || match ops[j]? with
      | some oj => oj.after.any fun x => Region.binds .any x && L.contains x.on
      | none => true)) && Z.all (fun j => L.contains j) &&
    (List.range ops.size).all fun j => L.contains j || listed.getD j true || match ops[i]?, ops[j]? with
      | some oi, some oj => oi.apart ops oj
      | _, _ => true
/-- The next operation that only reads is taken first. -/
theorem anyH_take {i : Nat} {oi : Oper} {v : Value} {fuel : Nat} {listed : Array Bool} {e : Env} {H : Heap} (hi : ops[i]? = some oi) (ht : takeS ops listed Z i = true)
    (hy : Still P ops S oi e v) (hS : S H) (h : anyH P ops S Z K fuel (listed.setIfInBounds i true) (e.put oi.dst v) H) : anyH P ops S Z K (fuel + 1) listed e H := by
  simp only [takeS, Bool.and_eq_true, List.all_eq_true, Bool.or_eq_true, Bool.not_eq_true', beq_iff_eq, List.contains_eq_mem, decide_eq_true_eq, List.mem_range] at ht
  obtain ⟨⟨⟨⟨⟨h0, h1⟩, h2⟩, h3⟩, h4⟩, h5⟩ := ht
  refine anyH_first (L := behind ops i ops.size [i]) hi (Region.noSelect_spec h0) h2 ?_ h4 fuel listed e H (fun j hj => (h3 j hj).1) ?_ h1 hy hS h
  · intro j hj hjk oj hoj
    have := (h3 j hj).2
    rw [hoj] at this
    rcases this with h | h
    · exact absurd h hjk
    · obtain ⟨x, hx, hb⟩ := Array.any_eq_true'.1 h
      simp only [Bool.and_eq_true, decide_eq_true_eq] at hb
      exact ⟨x, hx, hb.1, hb.2⟩
  · intro j oj hoj hjL hun
    have hlt : j < ops.size := (Array.getElem?_eq_some_iff.1 hoj).1
    have := h5 j hlt
    rw [hoj, hi] at this
    rcases this with (h | h) | h
    · exact absurd h hjL
    · rw [hun] at h; cases h
    · exact h
theorem still_of {o : Oper} {e : Env} {v : Value} (hg : o.guard = none) (h : ∀ H, S H → rdX P o (Env.eval e) H (· = v)) : Still P ops S o e v := by
  unfold Still
  rw [hg]
  intro H hS
  obtain ⟨u, h1, h2⟩ := rdX_sound (h H hS)
  rw [← h1]; exact h2
/-- The one operation that may come up. -/
theorem anyH_one {i : Nat} {o : Oper} {fuel : Nat} {listed : Array Bool} {e : Env} {H : Heap} (hr : Region.ready .any ops listed = [i]) (ho : ops[i]? = some o) (hg : o.guard = none)
    (h : ∀ K' : Value → Heap → Prop, (∀ v H', (Z.contains i = false → S H') ∧ anyH P ops S Z K fuel (listed.setIfInBounds i true) (e.put o.dst v) H' → K' v H') → opX P o (Env.eval e) H K') : anyH P ops S Z K (fuel + 1) listed e H := by
  refine ⟨fun h => (by rw [h] at hr; cases hr), fun j hj => ?_⟩
  rw [hr] at hj
  obtain rfl := List.mem_singleton.1 hj
  simp only [ho]
  refine opAtR_of ?_
  unfold opAt
  rw [hg]
  exact h _ fun _ _ h => h
theorem anyH_done {fuel : Nat} {listed : Array Bool} {e : Env} {H : Heap} (hr : Region.ready .any ops listed = []) (h : K e H) : anyH P ops S Z K fuel listed e H := by
  cases fuel with
  | zero => exact ⟨hr, h⟩
  | succ n => exact ⟨fun _ => h, fun i hi => by rw [hr] at hi; cases hi⟩
theorem x_draw {qs : List Nat} {id : Nat} {Q : HX → Env → Heap → Prop} {e : Env} {H : Heap} (hq : qs.contains id = false) (S : Heap → Prop) (Z : List Nat) (hS : S H) (h : anyH P ops S Z (Q .normal) ops.size (Array.replicate ops.size false) e H) :
    codeX P qs (.region id ops true) Q e H := by
  unfold codeX
  rw [hq]
  exact ⟨S, Z, hS, h⟩
/-- In the order given, the reads of which stand in every heap of S; the operations of Z come last: nothing else may come up. -/
def opsS (P : Program) (ops : Array Oper) (S : Heap → Prop) (Z : List Nat) : List Nat → Env → Heap → (Env → Heap → Prop) → Prop
  | [], e, H, K => K e H
  | i :: rest, e, H, K => match ops[i]? with
    | none => False
    | some o => if (isRdOp o.op && !Z.contains i) = true then ∃ v, Still P ops S o e v ∧ opsS P ops S Z rest (e.put o.dst v) H K
      else opAt P ops o e H fun e' H' => (Z.contains i = false → S H') ∧ opsS P ops S Z rest e' H' K
def lexSFrom (ops : Array Oper) (Z : List Nat) : List Nat → Array Bool → Bool
  | [], listed => (Region.ready .any ops listed).isEmpty
  | i :: rest, listed => (match ops[i]? with
    | none => false
    | some o => if isRdOp o.op && !Z.contains i then takeS ops listed Z i else Region.ready .any ops listed == [i] && (!Z.contains i || rest.all fun j => Z.contains j)) && lexSFrom ops Z rest (listed.setIfInBounds i true)
def lexS (ops : Array Oper) (Z ord : List Nat) : Bool := ord.length == ops.size && lexSFrom ops Z ord (Array.replicate ops.size false)
theorem anyH_lexS : ∀ (ord : List Nat) (listed : Array Bool) (e : Env) (H : Heap), lexSFrom ops Z ord listed = true → ((∃ i rest, ord = i :: rest ∧ Z.contains i = false) → S H) → opsS P ops S Z ord e H K → anyH P ops S Z K ord.length listed e H
  | [], _, _, _, hB, _, h => ⟨by simpa [lexSFrom] using hB, h⟩
  | i :: rest, listed, e, H, hB, hS, h => by
    unfold lexSFrom at hB
    rw [Bool.and_eq_true] at hB
    obtain ⟨hB, hB'⟩ := hB
    unfold opsS at h
    cases h0 : ops[i]? with
    | none => rw [h0] at hB; cases hB
    | some o =>
      rw [h0] at hB h
      simp only [] at hB h
      by_cases hc : (isRdOp o.op && !Z.contains i) = true
      · rw [if_pos hc] at h hB
        simp only [Bool.and_eq_true, Bool.not_eq_true'] at hc
        obtain ⟨v, h1, h2⟩ := h
        have hSH := hS ⟨i, rest, rfl, hc.2⟩
        exact anyH_take h0 hB h1 hSH (anyH_lexS rest _ _ H hB' (fun _ => hSH) h2)
      · rw [if_neg hc] at h hB
        rw [Bool.and_eq_true, beq_iff_eq] at hB
        obtain ⟨hB, hZ⟩ := hB
        refine ⟨fun h => (by rw [h] at hB; cases hB), fun j hj => ?_⟩
        rw [hB] at hj
        obtain rfl := List.mem_singleton.1 hj
        simp only [h0]
        refine opAtR_mono (opAtR_of h) fun e' H' ⟨a, b⟩ => ⟨a, anyH_lexS rest _ e' H' hB' ?_ b⟩
        rintro ⟨k, rest', rfl, hk⟩
        refine a ?_
        rw [Bool.or_eq_true] at hZ
        rcases hZ with hZ | hZ
        · simpa using hZ
        · have := List.all_eq_true.1 hZ k (.head _)
          rw [hk] at this
          cases this
theorem x_drawS {qs : List Nat} {id : Nat} {l : List Oper} {Q : HX → Env → Heap → Prop} {e : Env} {H : Heap} (Z ord : List Nat) (hq : qs.contains id = false) (hl : lexS l.toArray Z ord = true) (S : Heap → Prop) (hS : S H) (h : opsS P l.toArray S Z ord e H (Q .normal)) :
    codeX P qs (.region id l.toArray true) Q e H := by
  refine x_draw hq S Z hS ?_
  unfold lexS at hl
  rw [Bool.and_eq_true, beq_iff_eq] at hl
  have := anyH_lexS (K := Q .normal) (ops := l.toArray) ord _ e H hl.2 (fun _ => hS) h
  rw [hl.1] at this
  exact this
theorem xs_nil {e : Env} {H : Heap} (h : K e H) : opsS P ops S Z [] e H K := h
theorem xs_rd {l : List Oper} {i : Nat} {d : Option Tmp} {op : Op} {t : TypeId} {pos : String} {after : Array Edge} {rest : List Nat} {e : Env} {H : Heap} {v : Value} (hi : l[i]? = some ⟨d, op, t, pos, after, none⟩) (hr : (isRdOp op && !Z.contains i) = true) (h1 : ∀ H', S H' → rdX P ⟨d, op, t, pos, after, none⟩ (Env.eval e) H' (· = v))
    (h2 : opsS P l.toArray S Z rest (e.put d v) H K) : opsS P l.toArray S Z (i :: rest) e H K := by
  unfold opsS
  rw [List.getElem?_toArray, hi]
  simp only []
  rw [if_pos hr]
  exact ⟨v, still_of rfl h1, h2⟩
theorem xs_guard_yes {l : List Oper} {i : Nat} {d : Option Tmp} {op : Op} {t : TypeId} {pos : String} {after : Array Edge} {rest : List Nat} {e : Env} {H : Heap} {v : Value} {j : Nat} {w : Bool} (hi : l[i]? = some ⟨d, op, t, pos, after, some (j, w)⟩) (hr : (isRdOp op && !Z.contains i) = true) (hy : yieldedE l.toArray e j = some w)
    (h1 : ∀ H', S H' → rdX P ⟨d, op, t, pos, after, some (j, w)⟩ (Env.eval e) H' (· = v))
    (h2 : opsS P l.toArray S Z rest (e.put d v) H K) : opsS P l.toArray S Z (i :: rest) e H K := by
  unfold opsS
  rw [List.getElem?_toArray, hi]
  simp only []
  rw [if_pos hr]
  refine ⟨v, ?_, h2⟩
  unfold Still
  simp only []
  rw [if_pos hy]
  intro H hS
  obtain ⟨u, h3, h4⟩ := rdX_sound (h1 H hS)
  rw [← h3]; exact h4
theorem xs_guard_no {l : List Oper} {i : Nat} {d : Option Tmp} {op : Op} {t : TypeId} {pos : String} {after : Array Edge} {rest : List Nat} {e : Env} {H : Heap} {j : Nat} {w : Bool} (hi : l[i]? = some ⟨d, op, t, pos, after, some (j, w)⟩) (hy : yieldedE l.toArray e j = some (!w)) (hS : S H)
    (h2 : opsS P l.toArray S Z rest (e.put d undef) H K) : opsS P l.toArray S Z (i :: rest) e H K := by
  have hne : ¬ yieldedE l.toArray e j = some w := by rw [hy]; cases w <;> simp
  unfold opsS
  rw [List.getElem?_toArray, hi]
  simp only []
  by_cases hr : (isRdOp op && !Z.contains i) = true
  · rw [if_pos hr]
    refine ⟨undef, ?_, h2⟩
    unfold Still
    simp only []
    rw [if_neg hne]
    trivial
  · rw [if_neg hr]
    unfold opAt
    simp only []
    rw [if_neg hne]
    exact ⟨fun _ => hS, h2⟩
theorem xs_op {l : List Oper} {i : Nat} {d : Option Tmp} {op : Op} {t : TypeId} {pos : String} {after : Array Edge} {rest : List Nat} {e : Env} {H : Heap} (hi : l[i]? = some ⟨d, op, t, pos, after, none⟩) (hr : (isRdOp op && !Z.contains i) = false)
    (h : ∀ K' : Value → Heap → Prop, (∀ v H', (Z.contains i = false → S H') ∧ opsS P l.toArray S Z rest (e.put d v) H' K → K' v H') → opX P ⟨d, op, t, pos, after, none⟩ (Env.eval e) H K') : opsS P l.toArray S Z (i :: rest) e H K := by
  unfold opsS
  rw [List.getElem?_toArray, hi]
  simp only []
  rw [if_neg (by rw [hr]; simp)]
  exact h _ fun _ _ h => h
theorem xs_op_yes {l : List Oper} {i : Nat} {d : Option Tmp} {op : Op} {t : TypeId} {pos : String} {after : Array Edge} {rest : List Nat} {e : Env} {H : Heap} {j : Nat} {w : Bool} (hi : l[i]? = some ⟨d, op, t, pos, after, some (j, w)⟩) (hr : (isRdOp op && !Z.contains i) = false) (hy : yieldedE l.toArray e j = some w)
    (h : ∀ K' : Value → Heap → Prop, (∀ v H', (Z.contains i = false → S H') ∧ opsS P l.toArray S Z rest (e.put d v) H' K → K' v H') → opX P ⟨d, op, t, pos, after, some (j, w)⟩ (Env.eval e) H K') : opsS P l.toArray S Z (i :: rest) e H K := by
  unfold opsS
  rw [List.getElem?_toArray, hi]
  simp only []
  rw [if_neg (by rw [hr]; simp)]
  unfold opAt
  simp only []
  rw [if_pos hy]
  exact h _ fun _ _ h => h
theorem xs_tail {i : Nat} {rest : List Nat} {e : Env} {H : Heap} (hz : Z.contains i = true) (h : opsS P ops S Z rest e H K) : (Z.contains i = false → S H) ∧ opsS P ops S Z rest e H K :=
  ⟨fun hk => (by rw [hz] at hk; cases hk), h⟩
theorem xs_keep {i : Nat} {rest : List Nat} {e : Env} {H : Heap} (hS : S H) (h : opsS P ops S Z rest e H K) : (Z.contains i = false → S H) ∧ opsS P ops S Z rest e H K := ⟨fun _ => hS, h⟩
end
end Go.Hp
