/-
  The document's arena beside an arena: the same handles; Put, Drop, Has, Len, All told by what an arena is.
-/
import Derived.Test.YtkfcbgnodjgdcaaRfB
import Derived.Test.YtkfcbgnodjgdcaaArP
namespace Go.Hp
open Go
set_option linter.unusedVariables false
/-- The document's arena of one that keeps things. -/
def rfOf (A : Ar) : Rf := ⟨A.room, A.vals.map (·.isSome), A.free.reverse⟩
def Ar.hasB (A : Ar) (i : Int) : Bool := decide (1 ≤ i) && (A.get i.toNat).isSome
/-- Put: what is there then, the handle, the error. -/
def Ar.put (A : Ar) (v : List Value) : Ar × Nat × Int :=
  if A.many = A.room then (A, 0, 20) else match A.free with
    | h :: _ => (A.putOld h v, h, 0)
    | [] => (A.putNew v, A.vals.length, 0)
def Ar.dropI (A : Ar) (i : Int) : Ar × Int := if A.hasB i then (A.drop i.toNat, 0) else (A, 21)
theorem rfOf_hasB (A : Ar) (i : Int) : (rfOf A).hasB i = A.hasB i := by
  unfold Rf.hasB Ar.hasB rfOf Ar.get
  congr 1
  simp only [List.getD_eq_getElem?_getD, List.getElem?_map]
  cases A.vals[i.toNat]? with
  | none => rfl
  | some x => rfl
theorem rfOf_count {A : Ar} {k : Nat} (ok : A.Ok k) : (rfOf A).count = A.many := by
  have h0 := ok.zero
  unfold Rf.count rfOf Ar.many
  obtain ⟨x, xs, hx⟩ : ∃ x xs, A.vals = x :: xs := by
    cases h : A.vals with
    | nil => rw [h] at h0; cases h0
    | cons x xs => exact ⟨x, xs, rfl⟩
  rw [hx] at h0 ⊢
  simp only [List.getElem?_cons_zero, Option.some.injEq] at h0
  subst h0
  simp only [List.map_cons, List.drop_succ_cons, List.drop_zero]
  rw [List.countP_map, List.countP_eq_length_filter, List.filter_cons]
  rfl
theorem rfOf_ok {A : Ar} {k : Nat} (ok : A.Ok k) : (rfOf A).Ok := by
  have hl := ok.len_le
  have hc := A.count_free ok
  refine ⟨?_, by simpa [rfOf] using ok.size, ok.room, fun h hh => ?_, ?_⟩
  · intro e
    have h0 := ok.zero
    simp [rfOf] at e
    rw [e] at h0; cases h0
  · simp only [rfOf, List.mem_reverse, List.length_map] at hh ⊢
    have := (ok.mem h).1 hh
    exact ⟨this.1, this.2.1⟩
  · simp only [rfOf, List.length_reverse]; omega
theorem rfOf_putOld {A : Ar} {h : Nat} {fs : List Nat} {v : List Value} (hf : A.free = h :: fs) : rfOf (A.putOld h v) = (rfOf A).old h := by
  unfold rfOf Ar.putOld Rf.old
  simp [hf, List.map_set]
theorem rfOf_putNew {A : Ar} {v : List Value} : rfOf (A.putNew v) = (rfOf A).more := by
  unfold rfOf Ar.putNew Rf.more
  simp
theorem rfOf_drop {A : Ar} {h : Nat} : rfOf (A.drop h) = (rfOf A).dropped h := by
  unfold rfOf Ar.drop Rf.dropped
  simp [List.map_set]
theorem rfOf_set {A : Ar} {h : Nat} {u v : List Value} (hg : A.get h = some u) : rfOf (A.set h v) = rfOf A := by
  have hh := Ar.get_some_lt hg
  unfold rfOf Ar.set
  simp only [List.map_set, Option.isSome_some]
  congr 1
  apply List.ext_getElem?
  intro i
  rw [List.getElem?_set]
  by_cases hi : h = i
  · subst hi
    rw [if_pos rfl, if_pos (by simpa using hh), List.getElem?_map, Ar.get_eq hh, hg]
    rfl
  · rw [if_neg hi]
theorem Ar.Ok.put {A : Ar} {k : Nat} {v : List Value} (ok : A.Ok k) (hv : v.length = k) : (A.put v).1.Ok k := by
  unfold Ar.put
  have hm := ok.most
  by_cases h : A.many = A.room
  · rw [if_pos h]; exact ok
  · rw [if_neg h]
    split
    · rename_i h' fs hf
      exact ok.putOld hf (by omega) hv
    · rename_i hf
      exact ok.putNew hf (by omega) hv
theorem Ar.hasB_nat {A : Ar} {i : Int} (h : A.hasB i = true) : ∃ (n : Nat) (u : List Value), i = n ∧ A.get n = some u := by
  unfold Ar.hasB at h
  rw [Bool.and_eq_true, decide_eq_true_iff] at h
  refine ⟨i.toNat, (A.get i.toNat).get h.2, by omega, by simp⟩
theorem Ar.Ok.dropI {A : Ar} {k : Nat} {i : Int} (ok : A.Ok k) : (A.dropI i).1.Ok k := by
  unfold Ar.dropI
  by_cases h : A.hasB i = true
  · obtain ⟨n, u, rfl, hg⟩ := Ar.hasB_nat h
    rw [if_pos h]
    exact ok.drop hg
  · rw [if_neg h]; exact ok
end Go.Hp
namespace Go.Proofs.Ytkfcbgnodjgdcaa
open Go Go.Hp
set_option linter.all false
set_option maxRecDepth 100000
set_option maxHeartbeats 1600000
section
variable {H : Heap} {q : Nat} {T : Nat → Prop} {A : Ar} {K : Value → Heap → Prop}
theorem rfa_put {k : Nat} {v : List Value} (hM : RfM H q T (rfOf A)) (ok : A.Ok k)
    (fin : ∀ H' T', RfM H' q T' (rfOf (A.put v).1) → Fr T H H' → (∀ b, T' b → T b ∨ H.size ≤ b) → K (.tuple #[.int .i64 (A.put v).2.1, .int .i64 (A.put v).2.2]) H') :
    CallsH Try.prog 47 #[.pointer (some ⟨q, 0, none⟩)] H K := by
  have hc := rfOf_count ok
  have hm := ok.most
  unfold Ar.put at fin
  by_cases h : A.many = A.room
  · rw [if_pos h] at fin
    exact rf_full hM (by rw [hc, h]; exact Nat.le_refl _) (fin H T hM (Fr.refl _ _) fun b hb => .inl hb)
  · rw [if_neg h] at fin
    have hlt : (rfOf A).count < (rfOf A).room := by rw [hc]; show A.many < A.room; omega
    cases hf : A.free with
    | cons h fs =>
      rw [hf] at fin
      refine rf_old hM hlt (fs := fs.reverse) (h := h) (by simp [rfOf, hf]) fun H' h1 h2 => fin H' T ?_ h2 fun b hb => .inl hb
      rw [rfOf_putOld hf]; exact h1
    | nil =>
      rw [hf] at fin
      have hcf := A.count_free ok
      rw [hf] at hcf
      simp only [List.length_nil] at hcf
      have hl : (rfOf A).used.length = A.vals.length := by simp [rfOf]
      refine rf_more hM hlt (by simp [rfOf, hf]) (by rw [hl]; show _ ≤ A.room; omega) fun H' T' h1 h2 h3 => ?_
      rw [hl]
      refine fin H' T' ?_ h2 h3
      rw [rfOf_putNew]; exact h1
theorem rfa_drop {k : Nat} {i : Int} (hM : RfM H q T (rfOf A)) (ok : A.Ok k)
    (fin : ∀ H' T', RfM H' q T' (rfOf (A.dropI i).1) → Fr T H H' → (∀ b, T' b → T b ∨ H.size ≤ b) → K (.int .i64 (A.dropI i).2) H') :
    CallsH Try.prog 35 #[.pointer (some ⟨q, 0, none⟩), .int .i64 i] H K := by
  unfold Ar.dropI at fin
  by_cases h : A.hasB i = true
  · rw [if_pos h] at fin
    obtain ⟨n, u, rfl, hg⟩ := Ar.hasB_nat h
    have hcf := A.count_free ok
    have hl := ok.len_le
    have hm1 := Ar.many_drop hg
    refine rf_drop hM (by rw [rfOf_hasB]; exact h) (by simp only [rfOf, List.length_reverse]; omega) fun H' T' h1 h2 h3 => fin H' T' ?_ h2 h3
    rw [Int.toNat_natCast, rfOf_drop]; exact h1
  · rw [if_neg h] at fin
    exact rf_drop_none hM (by rw [rfOf_hasB]; simpa using h) (fin H T hM (Fr.refl _ _) fun b hb => .inl hb)
theorem rfa_has {i : Int} (hM : RfM H q T (rfOf A)) (fin : K (.bool (A.hasB i)) H) :
    CallsH Try.prog 48 #[.pointer (some ⟨q, 0, none⟩), .int .i64 i] H K := by
  rw [← rfOf_hasB] at fin
  exact rf_has hM fin
theorem rfa_len {k : Nat} (hM : RfM H q T (rfOf A)) (ok : A.Ok k) (fin : K (.int .i64 (A.many : Nat)) H) :
    CallsH Try.prog 38 #[.pointer (some ⟨q, 0, none⟩)] H K := by
  rw [← rfOf_count ok] at fin
  exact rf_len hM fin
end
end Go.Proofs.Ytkfcbgnodjgdcaa
