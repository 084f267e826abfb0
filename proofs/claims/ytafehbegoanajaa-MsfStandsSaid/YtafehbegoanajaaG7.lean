/-
  MsfStands: an edge's place; how many numbers are not among others; what a call changes.
  MsfStands: what stands of a forest and of a list of edges.
  Calls of a script of law07, as they came in.
-/
import Derived.Test.YtafehbegoanajaaG6
namespace Go.Ms
open Go Go.Hp Go.Li Go.Br
open Go.Proofs.Ytafehbegoanajaa (inB okArg inB_of)
section
variable {n : Nat} {l F F' : List Ed} {a b : Nat} {x y e : Ed}
theorem con_cn (h : ∀ e ∈ l, ∃ u v : Nat, e.u = (u : Int) ∧ e.v = (v : Int)) : Con (Al l) a b ↔ Cn (In l) a b := by
 constructor
 ·refine Con.lift fun p q ⟨j, e, he, hor⟩ => ?_
  have hm := List.mem_of_getElem? he
  rcases hor with ⟨h1, h2⟩ | ⟨h1, h2⟩
  ·have := Cn.edge (S := In l) hm
   rw [h1, h2] at this
   simpa using this
  ·have := (Cn.edge (S := In l) hm).symm
   rw [h1, h2] at this
   simpa using this
 ·refine Con.lift fun p q ⟨e, he, h1, h2⟩ => ?_
  obtain ⟨u, v, eu, ev⟩ := h e he
  obtain ⟨j, hj⟩ := List.mem_iff_getElem?.1 he
  refine .one ⟨j, e, hj, .inl ⟨?_, ?_⟩⟩
  ·rw [h1, eu]; simp
  ·rw [h2, ev]; simp
theorem Fp.ends4 (h : Fp n l F) : ∀ e ∈ l, ∃ u v : Nat, e.u = (u : Int) ∧ e.v = (v : Int) ∧ u < n ∧ v < n := fun e he => by
 obtain ⟨⟨u, v, eu, ev, h1, h2, _⟩, _⟩ := h.ok e he
 exact ⟨u, v, eu, ev, h1, h2⟩
theorem Stp.ids (h : Stp F F') (hn : (F.map (·.id)).Nodup) : ∃ p q : Int, (∀ e ∈ F, e ∈ F' ∨ e.id = p) ∧ ∀ e ∈ F', e ∈ F ∨ e.id = q := by
 rcases h with rfl | ⟨x, rfl⟩ | ⟨i, y, hi, rfl⟩ | ⟨i, y, x, hi, rfl⟩
 ·exact ⟨0, 0, fun e he => .inl he, fun e he => .inl he⟩
 ·exact ⟨0, x.id, fun e he => .inl (List.mem_append_left _ he), fun e he => (List.mem_append.1 he).imp_right fun h => by rw [List.mem_singleton.1 h]⟩
 ·refine ⟨y.id, 0, fun e he => ?_, fun e he => .inl ((mem_wo hn hi).1 he).1⟩
  by_cases h : e = y
  ·exact .inr (by rw [h])
  ·exact .inl ((mem_wo hn hi).2 ⟨he, h⟩)
 ·refine ⟨y.id, x.id, fun e he => ?_, fun e he => (List.mem_append.1 he).imp (fun h => ((mem_wo hn hi).1 h).1) fun h => by rw [List.mem_singleton.1 h]⟩
  by_cases h : e = y
  ·exact .inr (by rw [h])
  ·exact .inl (List.mem_append_left _ ((mem_wo hn hi).2 ⟨he, h⟩))
def wout (xs ys : List Int) : Nat := (xs.filter fun x => decide (x ∉ ys)).length
theorem one_le {xs : List Int} (hn : xs.Nodup) {p : Int} (h : ∀ x ∈ xs, x = p) : xs.length ≤ 1 := by
 match xs, hn, h with
 | [], _, _ => simp
 | [x], _, _ => simp
 | x :: y :: r, hn, h =>
  have h1 := h x (.head _)
  have h2 := h y (.tail _ (.head _))
  rw [List.nodup_cons] at hn
  exact absurd (show x ∈ y :: r by rw [h1, ← h2]; exact .head _) hn.1
theorem Stp.few {xs ys : List Int} (h : Stp F F') (hn : (F.map (·.id)).Nodup) (hx : IdsOf F xs) (hy : IdsOf F' ys) : wout xs ys ≤ 1 ∧ wout ys xs ≤ 1 := by
 obtain ⟨p, q, h1, h2⟩ := h.ids hn
 have nx : xs.Nodup := hx.srt.imp fun h => by omega
 have ny : ys.Nodup := hy.srt.imp fun h => by omega
 constructor
 ·refine one_le (p := p) (nx.sublist List.filter_sublist) fun x hm => ?_
  obtain ⟨hm, hno⟩ := List.mem_filter.1 hm
  obtain ⟨e, he, rfl⟩ := (hx.mem x).1 hm
  exact (h1 e he).resolve_left fun he' => (of_decide_eq_true hno) ((hy.mem _).2 ⟨e, he', rfl⟩)
 ·refine one_le (p := q) (ny.sublist List.filter_sublist) fun x hm => ?_
  obtain ⟨hm, hno⟩ := List.mem_filter.1 hm
  obtain ⟨e, he, rfl⟩ := (hy.mem x).1 hm
  exact (h2 e he).resolve_left fun he' => (of_decide_eq_true hno) ((hx.mem _).2 ⟨e, he', rfl⟩)
theorem insMay {k w : Int} {u v : Nat} (hu : u < n) (hv : v < n) (k0 : 0 ≤ k) (k1 : k < 1000) (w0 : -6 ≤ w) (w1 : w ≤ 6) (hlen : l.length ≤ 190) : (insC n l k u v w = 0 ↔ u ≠ v ∧ byId l k = none) := by
 have h1 : ¬ ((inB n (u : Int) && inB n (v : Int)) = false) := by rw [inB_of hu, inB_of hv]; decide
 have h2 : ¬ (okArg k w = false) := by unfold okArg; simp; omega
 unfold insC
 rw [if_neg h1, if_neg h2]
 cases hb : byId l k with
 | some z => simp
 | none =>
  by_cases h : u = v
  ·simp [h]
  ·have h3 : ¬ l.length = 192 := by omega
   have h4 : ¬ (u : Int) = (v : Int) := by omega
   simp [h, h3, h4]
end
end Go.Ms
namespace Go.Proofs.Ytafehbegoanajaa
open Go Go.Hp Go.Li Go.Br Go.Ms
set_option linter.all false
set_option maxRecDepth 100000
set_option maxHeartbeats 3200000
section
variable {H : Heap} {L : Value → Heap → Prop}
theorem lheavier_ok {a b : Ed} (fin : ∀ H', Fr (fun _ => False) H H' → L (.bool (heavy a b)) H') :
  CallsH Try.prog 15 #[a.val, b.val] H L := by
 simp only [Ed.val]
 refine call15 (by simp) ?_
 simp only [Try.f15, Option.getD_some]
 unfold heavy at fin
 by_cases h1 : a.w > b.w
 ·have t1 : (b.w < a.w) = True := by simp; omega
  rw [decide_eq_true h1, Bool.true_or] at fin
  repeat' (first|(with_reducible first|refine jA ?_|(refine hK _ _ ?_;clear hK K)|refine jJ fun K hK=>?_|refine jK ?_|refine jL ?_|refine jM ?_|refine jN ?_|refine jO ?_|refine jP ?_|refine jQ ?_|(refine jB ?_;clear hK K)|(refine jC ?_;clear hK K)|refine jD ?_|refine jE ?_|refine jG ?_|refine jH ?_|refine jI ?_)|((with_reducible refine jR ?hq ?_);case hq=>rfl)|((first|(with_reducible first|refine jS fun K hK=>?_|refine jT ?_|refine jU ?_)|((with_reducible refine jV ?hy fun K hK=>?_);case hy=>rfl));simp only [go_sem, Nat.reduceEqDiff, Nat.reduceAdd, Nat.reduceMul, Nat.reduceLeDiff, Nat.reduceLT, Int.reduceLT, Int.reduceLE, Int.reduceEq, Int.reduceNeg, Int.reduceToNat, Nat.reducePow, reduceIte, reduceCtorEq, t1, Array.size_push, hcell_push, hcell_top, okW_push, okW_top, hcell_hset_ne, hcell_hset_off, hcell_hset_eq, okW_hset, hset_size, Array.size_push, Nat.lt_add_one, ne_add_one, add_one_ne, Nat.add_assoc, add_same, add_lt_same, Nat.reduceEqDiff, lt_add_k, add_k_ne, ne_add_k])|((with_reducible first|refine jW ?hy ?_|refine jY ?hy ?_);case hy=>rfl)|((with_reducible first|refine jX ?hy ?_|refine jZ ?hy ?_);case hy=>rfl)|((with_reducible refine jF ?hy ?_);case hy=>decide))
  exact fin _ (((Fr.refl _ _).push _).push _)
 ·have t1 : (b.w < a.w) = False := by simp; omega
  rw [decide_eq_false h1, Bool.false_or] at fin
  by_cases h2 : a.w = b.w
  ·have t2 : (a.w == b.w) = true := by simp [h2]
   rw [decide_eq_true h2, Bool.true_and] at fin
   by_cases h3 : a.id > b.id
   ·have t3 : (b.id < a.id) = True := by simp; omega
    rw [decide_eq_true h3] at fin
    repeat' (first|(with_reducible first|refine jA ?_|(refine hK _ _ ?_;clear hK K)|refine jJ fun K hK=>?_|refine jK ?_|refine jL ?_|refine jM ?_|refine jN ?_|refine jO ?_|refine jP ?_|refine jQ ?_|(refine jB ?_;clear hK K)|(refine jC ?_;clear hK K)|refine jD ?_|refine jE ?_|refine jG ?_|refine jH ?_|refine jI ?_)|((with_reducible refine jR ?hq ?_);case hq=>rfl)|((first|(with_reducible first|refine jS fun K hK=>?_|refine jT ?_|refine jU ?_)|((with_reducible refine jV ?hy fun K hK=>?_);case hy=>rfl));simp only [go_sem, Nat.reduceEqDiff, Nat.reduceAdd, Nat.reduceMul, Nat.reduceLeDiff, Nat.reduceLT, Int.reduceLT, Int.reduceLE, Int.reduceEq, Int.reduceNeg, Int.reduceToNat, Nat.reducePow, reduceIte, reduceCtorEq, t1, t2, t3, Array.size_push, hcell_push, hcell_top, okW_push, okW_top, hcell_hset_ne, hcell_hset_off, hcell_hset_eq, okW_hset, hset_size, Array.size_push, Nat.lt_add_one, ne_add_one, add_one_ne, Nat.add_assoc, add_same, add_lt_same, Nat.reduceEqDiff, lt_add_k, add_k_ne, ne_add_k])|((with_reducible first|refine jW ?hy ?_|refine jY ?hy ?_);case hy=>rfl)|((with_reducible first|refine jX ?hy ?_|refine jZ ?hy ?_);case hy=>rfl)|((with_reducible refine jF ?hy ?_);case hy=>decide))
    exact fin _ (((Fr.refl _ _).push _).push _)
   ·have t3 : (b.id < a.id) = False := by simp; omega
    rw [decide_eq_false h3] at fin
    repeat' (first|(with_reducible first|refine jA ?_|(refine hK _ _ ?_;clear hK K)|refine jJ fun K hK=>?_|refine jK ?_|refine jL ?_|refine jM ?_|refine jN ?_|refine jO ?_|refine jP ?_|refine jQ ?_|(refine jB ?_;clear hK K)|(refine jC ?_;clear hK K)|refine jD ?_|refine jE ?_|refine jG ?_|refine jH ?_|refine jI ?_)|((with_reducible refine jR ?hq ?_);case hq=>rfl)|((first|(with_reducible first|refine jS fun K hK=>?_|refine jT ?_|refine jU ?_)|((with_reducible refine jV ?hy fun K hK=>?_);case hy=>rfl));simp only [go_sem, Nat.reduceEqDiff, Nat.reduceAdd, Nat.reduceMul, Nat.reduceLeDiff, Nat.reduceLT, Int.reduceLT, Int.reduceLE, Int.reduceEq, Int.reduceNeg, Int.reduceToNat, Nat.reducePow, reduceIte, reduceCtorEq, t1, t2, t3, Array.size_push, hcell_push, hcell_top, okW_push, okW_top, hcell_hset_ne, hcell_hset_off, hcell_hset_eq, okW_hset, hset_size, Array.size_push, Nat.lt_add_one, ne_add_one, add_one_ne, Nat.add_assoc, add_same, add_lt_same, Nat.reduceEqDiff, lt_add_k, add_k_ne, ne_add_k])|((with_reducible first|refine jW ?hy ?_|refine jY ?hy ?_);case hy=>rfl)|((with_reducible first|refine jX ?hy ?_|refine jZ ?hy ?_);case hy=>rfl)|((with_reducible refine jF ?hy ?_);case hy=>decide))
    exact fin _ (((Fr.refl _ _).push _).push _)
  ·have t2 : (a.w == b.w) = false := beq_false_of_ne h2
   rw [decide_eq_false h2, Bool.false_and] at fin
   repeat' (first|(with_reducible first|refine jA ?_|(refine hK _ _ ?_;clear hK K)|refine jJ fun K hK=>?_|refine jK ?_|refine jL ?_|refine jM ?_|refine jN ?_|refine jO ?_|refine jP ?_|refine jQ ?_|(refine jB ?_;clear hK K)|(refine jC ?_;clear hK K)|refine jD ?_|refine jE ?_|refine jG ?_|refine jH ?_|refine jI ?_)|((with_reducible refine jR ?hq ?_);case hq=>rfl)|((first|(with_reducible first|refine jS fun K hK=>?_|refine jT ?_|refine jU ?_)|((with_reducible refine jV ?hy fun K hK=>?_);case hy=>rfl));simp only [go_sem, Nat.reduceEqDiff, Nat.reduceAdd, Nat.reduceMul, Nat.reduceLeDiff, Nat.reduceLT, Int.reduceLT, Int.reduceLE, Int.reduceEq, Int.reduceNeg, Int.reduceToNat, Nat.reducePow, reduceIte, reduceCtorEq, t1, t2, Array.size_push, hcell_push, hcell_top, okW_push, okW_top, hcell_hset_ne, hcell_hset_off, hcell_hset_eq, okW_hset, hset_size, Array.size_push, Nat.lt_add_one, ne_add_one, add_one_ne, Nat.add_assoc, add_same, add_lt_same, Nat.reduceEqDiff, lt_add_k, add_k_ne, ne_add_k])|((with_reducible first|refine jW ?hy ?_|refine jY ?hy ?_);case hy=>rfl)|((with_reducible first|refine jX ?hy ?_|refine jZ ?hy ?_);case hy=>rfl)|((with_reducible refine jF ?hy ?_);case hy=>decide))
   exact fin _ (((Fr.refl _ _).push _).push _)
theorem place_ok {l : List Ed} {B : Option Nat} {a : Option Addr} {c : Nat} {id0 : Int} (hl : SR Ed.cells 4 H B (.slice a l.length c) l) (hlen : l.length ≤ 1000) (fin : ∀ r : Int, (r < 0 ↔ Ms.byId l id0 = none) → L (.int .i64 r) H) :
  CallsH Try.prog 24 #[.slice a l.length c, .int .i64 id0] H L := by
 refine call24 (by simp) ?_
 simp only [Try.f24, Option.getD_some]
 repeat' (first|(with_reducible first|refine jA ?_|(refine hK _ _ ?_;clear hK K)|refine jJ fun K hK=>?_|refine jK ?_|refine jL ?_|refine jM ?_|refine jN ?_|refine jO ?_|refine jP ?_|refine jQ ?_|(refine jB ?_;clear hK K)|(refine jC ?_;clear hK K)|refine jD ?_|refine jE ?_|refine jG ?_|refine jH ?_|refine jI ?_)|((with_reducible refine jR ?hq ?_);case hq=>rfl)|((first|(with_reducible first|refine jS fun K hK=>?_|refine jT ?_|refine jU ?_)|((with_reducible refine jV ?hy fun K hK=>?_);case hy=>rfl));simp only [go_sem, Nat.reduceEqDiff, Nat.reduceAdd, Nat.reduceMul, Nat.reduceLeDiff, Nat.reduceLT, Int.reduceLT, Int.reduceLE, Int.reduceEq, Int.reduceNeg, Int.reduceToNat, Nat.reducePow, reduceIte, reduceCtorEq])|((with_reducible first|refine jW ?hy ?_|refine jY ?hy ?_);case hy=>rfl)|((with_reducible first|refine jX ?hy ?_|refine jZ ?hy ?_);case hy=>rfl)|((with_reducible refine jF ?hy ?_);case hy=>decide))
 refine x_loop (fun m e' H' => ∃ i : Nat, e' 5 = .int .i64 (i : Nat) ∧ i ≤ l.length ∧ H' = H ∧ (∀ e ∈ l.take i, e.id ≠ id0) ∧ m = l.length - i) l.length ⟨0, rfl, Nat.zero_le _, rfl, by simp, rfl⟩ ?_
 rintro m e1 H1 ⟨i, i5, hi, rfl, hno, hm⟩ hoff
 have i0 : e1 0 = .slice a l.length c := (hoff 0 rfl).trans rfl
 have i1 : e1 1 = .int .i64 id0 := (hoff 1 rfl).trans rfl
 clear hoff
 by_cases hlt : i < l.length
 ·have t1 : ((i : Int) < (l.length : Int)) = True := eq_true (by omega)
  have t1' : (i < l.length) = True := eq_true hlt
  have ew : IntKind.i64.wrap ((i : Int) + 1) = ((i + 1 : Nat) : Int) := by rw [wrap_i64] <;> omega
  obtain ⟨x, hx⟩ : ∃ x, l[i]? = some x := ⟨_, List.getElem?_eq_getElem hlt⟩
  obtain ⟨gl, cl', hBl, hvl, _, hcc⟩ := hl.at edC_len hx
  simp only [Value.slice.injEq] at hvl
  obtain ⟨rfl, _, rfl⟩ := hvl
  have x0 := hcc 0 _ rfl
  rw [Nat.add_zero] at x0
  by_cases hid : x.id = id0
  ·have t3 : (x.id == id0) = true := by simp [hid]
   repeat' (first|(with_reducible first|refine jA ?_|(refine hK _ _ ?_;clear hK K)|refine jJ fun K hK=>?_|refine jK ?_|refine jL ?_|refine jM ?_|refine jN ?_|refine jO ?_|refine jP ?_|refine jQ ?_|(refine jB ?_;clear hK K)|(refine jC ?_;clear hK K)|refine jD ?_|refine jE ?_|refine jG ?_|refine jH ?_|refine jI ?_)|((with_reducible refine jR ?hq ?_);case hq=>rfl)|((first|(with_reducible first|refine jS fun K hK=>?_|refine jT ?_|refine jU ?_)|((with_reducible refine jV ?hy fun K hK=>?_);case hy=>rfl));simp only [go_sem, Nat.reduceEqDiff, Nat.reduceAdd, Nat.reduceMul, Nat.reduceLeDiff, Nat.reduceLT, Int.reduceLT, Int.reduceLE, Int.reduceEq, Int.reduceNeg, Int.reduceToNat, Nat.reducePow, reduceIte, reduceCtorEq, i0, i1, i5, t1, t1', x0, t3])|((with_reducible first|refine jW ?hy ?_|refine jY ?hy ?_);case hy=>rfl)|((with_reducible first|refine jX ?hy ?_|refine jZ ?hy ?_);case hy=>rfl)|((with_reducible refine jF ?hy ?_);case hy=>decide))
   refine fin _ ⟨fun h => absurd h (by omega), fun h => ?_⟩
   exact absurd hid (byId_none.1 h x (List.mem_of_getElem? hx))
  ·have t3 : (x.id == id0) = false := by simp [hid]
   repeat' (first|(with_reducible first|refine jA ?_|(refine hK _ _ ?_;clear hK K)|refine jJ fun K hK=>?_|refine jK ?_|refine jL ?_|refine jM ?_|refine jN ?_|refine jO ?_|refine jP ?_|refine jQ ?_|(refine jB ?_;clear hK K)|(refine jC ?_;clear hK K)|refine jD ?_|refine jE ?_|refine jG ?_|refine jH ?_|refine jI ?_)|((with_reducible refine jR ?hq ?_);case hq=>rfl)|((first|(with_reducible first|refine jS fun K hK=>?_|refine jT ?_|refine jU ?_)|((with_reducible refine jV ?hy fun K hK=>?_);case hy=>rfl));simp only [go_sem, Nat.reduceEqDiff, Nat.reduceAdd, Nat.reduceMul, Nat.reduceLeDiff, Nat.reduceLT, Int.reduceLT, Int.reduceLE, Int.reduceEq, Int.reduceNeg, Int.reduceToNat, Nat.reducePow, reduceIte, reduceCtorEq, i0, i1, i5, t1, t1', x0, t3, ew])|((with_reducible first|refine jW ?hy ?_|refine jY ?hy ?_);case hy=>rfl)|((with_reducible first|refine jX ?hy ?_|refine jZ ?hy ?_);case hy=>rfl)|((with_reducible refine jF ?hy ?_);case hy=>decide))
   refine loop_normal (m' := l.length - (i + 1)) (by omega) ⟨i + 1, rfl, by omega, rfl, fun e he => ?_, rfl⟩
   rw [List.take_add_one, hx] at he
   rcases List.mem_append.1 he with he | he
   ·exact hno e he
   ·simp at he; rw [he]; exact hid
 ·have t1 : ((i : Int) < (l.length : Int)) = False := eq_false (by omega)
  have t1' : (i < l.length) = False := eq_false hlt
  repeat' (first|(with_reducible first|refine jA ?_|(refine hK _ _ ?_;clear hK K)|refine jJ fun K hK=>?_|refine jK ?_|refine jL ?_|refine jM ?_|refine jN ?_|refine jO ?_|refine jP ?_|refine jQ ?_|(refine jB ?_;clear hK K)|(refine jC ?_;clear hK K)|refine jD ?_|refine jE ?_|refine jG ?_|refine jH ?_|refine jI ?_)|((with_reducible refine jR ?hq ?_);case hq=>rfl)|((first|(with_reducible first|refine jS fun K hK=>?_|refine jT ?_|refine jU ?_)|((with_reducible refine jV ?hy fun K hK=>?_);case hy=>rfl));simp only [go_sem, Nat.reduceEqDiff, Nat.reduceAdd, Nat.reduceMul, Nat.reduceLeDiff, Nat.reduceLT, Int.reduceLT, Int.reduceLE, Int.reduceEq, Int.reduceNeg, Int.reduceToNat, Nat.reducePow, reduceIte, reduceCtorEq, i0, i5, t1, t1'])|((with_reducible first|refine jW ?hy ?_|refine jY ?hy ?_);case hy=>rfl)|((with_reducible first|refine jX ?hy ?_|refine jZ ?hy ?_);case hy=>rfl)|((with_reducible refine jF ?hy ?_);case hy=>decide))
  refine fin _ ⟨fun _ => byId_none.2 fun e he => hno e (by rw [List.take_of_length_le (by omega)]; exact he), fun _ => by omega⟩
theorem without_ok {xs ys : List Int} {B B' : Option Nat} {a a' : Option Addr} {c c' : Nat} (hx : IR H B (.slice a xs.length c) xs) (hy : IR H B' (.slice a' ys.length c') ys) (lx : xs.length ≤ 1000) (ly : ys.length ≤ 1000) (fin : L (.int .i64 (wout xs ys : Nat)) H) :
  CallsH Try.prog 25 #[.slice a xs.length c, .slice a' ys.length c'] H L := by
 refine call25 (by simp) ?_
 simp only [Try.f25, Option.getD_some]
 repeat' (first|(with_reducible first|refine jA ?_|(refine hK _ _ ?_;clear hK K)|refine jJ fun K hK=>?_|refine jK ?_|refine jL ?_|refine jM ?_|refine jN ?_|refine jO ?_|refine jP ?_|refine jQ ?_|(refine jB ?_;clear hK K)|(refine jC ?_;clear hK K)|refine jD ?_|refine jE ?_|refine jG ?_|refine jH ?_|refine jI ?_)|((with_reducible refine jR ?hq ?_);case hq=>rfl)|((first|(with_reducible first|refine jS fun K hK=>?_|refine jT ?_|refine jU ?_)|((with_reducible refine jV ?hy fun K hK=>?_);case hy=>rfl));simp only [go_sem, Nat.reduceEqDiff, Nat.reduceAdd, Nat.reduceMul, Nat.reduceLeDiff, Nat.reduceLT, Int.reduceLT, Int.reduceLE, Int.reduceEq, Int.reduceNeg, Int.reduceToNat, Nat.reducePow, reduceIte, reduceCtorEq])|((with_reducible first|refine jW ?hy ?_|refine jY ?hy ?_);case hy=>rfl)|((with_reducible first|refine jX ?hy ?_|refine jZ ?hy ?_);case hy=>rfl)|((with_reducible refine jF ?hy ?_);case hy=>decide))
 refine x_loop (fun m e' H' => ∃ i : Nat, e' 6 = .int .i64 (i : Nat) ∧ e' 5 = .int .i64 (wout (xs.take i) ys : Nat) ∧ i ≤ xs.length ∧ H' = H ∧ m = xs.length - i) xs.length ⟨0, rfl, rfl, Nat.zero_le _, rfl, rfl⟩ ?_
 rintro m e1 H1 ⟨i, i6, i5, hi, rfl, hm⟩ hoff
 have i0 : e1 0 = .slice a xs.length c := (hoff 0 rfl).trans rfl
 have i1 : e1 1 = .slice a' ys.length c' := (hoff 1 rfl).trans rfl
 clear hoff
 by_cases hlt : i < xs.length
 ·have t1 : ((i : Int) < (xs.length : Int)) = True := eq_true (by omega)
  have t1' : (i < xs.length) = True := eq_true hlt
  have ew : IntKind.i64.wrap ((i : Int) + 1) = ((i + 1 : Nat) : Int) := by rw [wrap_i64] <;> omega
  obtain ⟨x, hxi⟩ : ∃ x, xs[i]? = some x := ⟨_, List.getElem?_eq_getElem hlt⟩
  have tk : wout (xs.take (i + 1)) ys = wout (xs.take i) ys + if x ∈ ys then 0 else 1 := by
   unfold wout
   rw [List.take_add_one, hxi, Option.toList_some, List.filter_append, List.length_append]
   by_cases h : x ∈ ys <;> simp [h]
  have hw : wout (xs.take i) ys ≤ i := Nat.le_trans (List.length_filter_le ..) (by rw [List.length_take]; omega)
  obtain ⟨g, c1, _, hv, hc, _⟩ := hx.rowAt hlt
  simp only [Value.slice.injEq] at hv
  obtain ⟨rfl, _, rfl⟩ := hv
  have cx := hc i x hxi
  repeat' (first|(with_reducible first|refine jA ?_|(refine hK _ _ ?_;clear hK K)|refine jJ fun K hK=>?_|refine jK ?_|refine jL ?_|refine jM ?_|refine jN ?_|refine jO ?_|refine jP ?_|refine jQ ?_|(refine jB ?_;clear hK K)|(refine jC ?_;clear hK K)|refine jD ?_|refine jE ?_|refine jG ?_|refine jH ?_|refine jI ?_)|((with_reducible refine jR ?hq ?_);case hq=>rfl)|((first|(with_reducible first|refine jS fun K hK=>?_|refine jT ?_|refine jU ?_)|((with_reducible refine jV ?hy fun K hK=>?_);case hy=>rfl));simp only [go_sem, Nat.reduceEqDiff, Nat.reduceAdd, Nat.reduceMul, Nat.reduceLeDiff, Nat.reduceLT, Int.reduceLT, Int.reduceLE, Int.reduceEq, Int.reduceNeg, Int.reduceToNat, Nat.reducePow, reduceIte, reduceCtorEq, i0, i6, t1, t1'])|((with_reducible first|refine jW ?hy ?_|refine jY ?hy ?_);case hy=>rfl)|((with_reducible first|refine jX ?hy ?_|refine jZ ?hy ?_);case hy=>rfl)|((with_reducible refine jF ?hy ?_);case hy=>decide))
  refine x_loop (fun m e' H' => ∃ k : Nat, e' 8 = .int .i64 (k : Nat) ∧ e' 7 = .bool (decide (x ∈ ys.take k)) ∧ k ≤ ys.length ∧ H' = H1 ∧ m = ys.length - k) ys.length ⟨0, rfl, by simp; rfl, Nat.zero_le _, rfl, rfl⟩ ?_
  rintro m2 e2 H2 ⟨k, k8, k7, hk, rfl, hm2⟩ hoff
  have j0 : e2 0 = .slice (some ⟨g, 0, none⟩) xs.length c := (hoff 0 rfl).trans i0
  have j1 : e2 1 = .slice a' ys.length c' := (hoff 1 rfl).trans i1
  have j5 := (hoff 5 rfl).trans i5
  have j6 := (hoff 6 rfl).trans i6
  clear hoff
  by_cases hlt2 : k < ys.length
  ·have u1 : ((k : Int) < (ys.length : Int)) = True := eq_true (by omega)
   have u1' : (k < ys.length) = True := eq_true hlt2
   have ew2 : IntKind.i64.wrap ((k : Int) + 1) = ((k + 1 : Nat) : Int) := by rw [wrap_i64] <;> omega
   obtain ⟨y, hyi⟩ : ∃ y, ys[k]? = some y := ⟨_, List.getElem?_eq_getElem hlt2⟩
   obtain ⟨g', c2, _, hv, hc', _⟩ := hy.rowAt hlt2
   simp only [Value.slice.injEq] at hv
   obtain ⟨rfl, _, rfl⟩ := hv
   have cy := hc' k y hyi
   have tk2 : x ∈ ys.take (k + 1) ↔ x ∈ ys.take k ∨ x = y := by rw [List.take_add_one, hyi, List.mem_append]; simp
   by_cases hin : x ∈ ys.take k
   ·have d1 : decide (x ∈ ys.take k) = true := decide_eq_true hin
    rw [d1] at k7
    repeat' (first|(with_reducible first|refine jA ?_|(refine hK _ _ ?_;clear hK K)|refine jJ fun K hK=>?_|refine jK ?_|refine jL ?_|refine jM ?_|refine jN ?_|refine jO ?_|refine jP ?_|refine jQ ?_|(refine jB ?_;clear hK K)|(refine jC ?_;clear hK K)|refine jD ?_|refine jE ?_|refine jG ?_|refine jH ?_|refine jI ?_)|((with_reducible refine jR ?hq ?_);case hq=>rfl)|((first|(with_reducible first|refine jS fun K hK=>?_|refine jT ?_|refine jU ?_)|((with_reducible refine jV ?hy fun K hK=>?_);case hy=>rfl));simp only [go_sem, Nat.reduceEqDiff, Nat.reduceAdd, Nat.reduceMul, Nat.reduceLeDiff, Nat.reduceLT, Int.reduceLT, Int.reduceLE, Int.reduceEq, Int.reduceNeg, Int.reduceToNat, Nat.reducePow, reduceIte, reduceCtorEq, j1, k8, k7, u1, u1', ew2])|((with_reducible first|refine jW ?hy ?_|refine jY ?hy ?_);case hy=>rfl)|((with_reducible first|refine jX ?hy ?_|refine jZ ?hy ?_);case hy=>rfl)|((with_reducible refine jF ?hy ?_);case hy=>decide))
    exact loop_normal (m' := ys.length - (k + 1)) (by omega) ⟨k + 1, rfl, by rw [decide_eq_true (tk2.2 (.inl hin))]; rfl, by omega, rfl, rfl⟩
   ·have d1 : decide (x ∈ ys.take k) = false := decide_eq_false hin
    rw [d1] at k7
    have d2 : (x == y) = decide (x ∈ ys.take (k + 1)) := by
     by_cases h : x = y
     ·rw [decide_eq_true (tk2.2 (.inr h))]; simp [h]
     ·rw [decide_eq_false fun hh => (tk2.1 hh).elim hin h]; simp [h]
    repeat' (first|(with_reducible first|refine jA ?_|(refine hK _ _ ?_;clear hK K)|refine jJ fun K hK=>?_|refine jK ?_|refine jL ?_|refine jM ?_|refine jN ?_|refine jO ?_|refine jP ?_|refine jQ ?_|(refine jB ?_;clear hK K)|(refine jC ?_;clear hK K)|refine jD ?_|refine jE ?_|refine jG ?_|refine jH ?_|refine jI ?_)|((with_reducible refine jR ?hq ?_);case hq=>rfl)|((first|(with_reducible first|refine jS fun K hK=>?_|refine jT ?_|refine jU ?_)|((with_reducible refine jV ?hy fun K hK=>?_);case hy=>rfl));simp only [go_sem, Nat.reduceEqDiff, Nat.reduceAdd, Nat.reduceMul, Nat.reduceLeDiff, Nat.reduceLT, Int.reduceLT, Int.reduceLE, Int.reduceEq, Int.reduceNeg, Int.reduceToNat, Nat.reducePow, reduceIte, reduceCtorEq, j0, j1, j6, k8, k7, u1, u1', t1', cx, cy, ew2])|((with_reducible first|refine jW ?hy ?_|refine jY ?hy ?_);case hy=>rfl)|((with_reducible first|refine jX ?hy ?_|refine jZ ?hy ?_);case hy=>rfl)|((with_reducible refine jF ?hy ?_);case hy=>decide))
    exact loop_normal (m' := ys.length - (k + 1)) (by omega) ⟨k + 1, rfl, by rw [← d2]; rfl, by omega, rfl, rfl⟩
  ·have u1 : ((k : Int) < (ys.length : Int)) = False := eq_false (by omega)
   have u1' : (k < ys.length) = False := eq_false hlt2
   rw [List.take_of_length_le (by omega)] at k7
   by_cases hin : x ∈ ys
   ·rw [decide_eq_true hin] at k7
    rw [if_pos hin] at tk
    repeat' (first|(with_reducible first|refine jA ?_|(refine hK _ _ ?_;clear hK K)|refine jJ fun K hK=>?_|refine jK ?_|refine jL ?_|refine jM ?_|refine jN ?_|refine jO ?_|refine jP ?_|refine jQ ?_|(refine jB ?_;clear hK K)|(refine jC ?_;clear hK K)|refine jD ?_|refine jE ?_|refine jG ?_|refine jH ?_|refine jI ?_)|((with_reducible refine jR ?hq ?_);case hq=>rfl)|((first|(with_reducible first|refine jS fun K hK=>?_|refine jT ?_|refine jU ?_)|((with_reducible refine jV ?hy fun K hK=>?_);case hy=>rfl));simp only [go_sem, Nat.reduceEqDiff, Nat.reduceAdd, Nat.reduceMul, Nat.reduceLeDiff, Nat.reduceLT, Int.reduceLT, Int.reduceLE, Int.reduceEq, Int.reduceNeg, Int.reduceToNat, Nat.reducePow, reduceIte, reduceCtorEq, j1, k8, k7, u1, u1', j6, ew])|((with_reducible first|refine jW ?hy ?_|refine jY ?hy ?_);case hy=>rfl)|((with_reducible first|refine jX ?hy ?_|refine jZ ?hy ?_);case hy=>rfl)|((with_reducible refine jF ?hy ?_);case hy=>decide))
    exact loop_normal (m' := xs.length - (i + 1)) (by omega) ⟨i + 1, rfl, by rw [tk]; exact j5, by omega, rfl, rfl⟩
   ·rw [decide_eq_false hin] at k7
    rw [if_neg hin] at tk
    have ew5 : IntKind.i64.wrap ((wout (xs.take i) ys : Int) + 1) = ((wout (xs.take i) ys + 1 : Nat) : Int) := by rw [wrap_i64] <;> omega
    repeat' (first|(with_reducible first|refine jA ?_|(refine hK _ _ ?_;clear hK K)|refine jJ fun K hK=>?_|refine jK ?_|refine jL ?_|refine jM ?_|refine jN ?_|refine jO ?_|refine jP ?_|refine jQ ?_|(refine jB ?_;clear hK K)|(refine jC ?_;clear hK K)|refine jD ?_|refine jE ?_|refine jG ?_|refine jH ?_|refine jI ?_)|((with_reducible refine jR ?hq ?_);case hq=>rfl)|((first|(with_reducible first|refine jS fun K hK=>?_|refine jT ?_|refine jU ?_)|((with_reducible refine jV ?hy fun K hK=>?_);case hy=>rfl));simp only [go_sem, Nat.reduceEqDiff, Nat.reduceAdd, Nat.reduceMul, Nat.reduceLeDiff, Nat.reduceLT, Int.reduceLT, Int.reduceLE, Int.reduceEq, Int.reduceNeg, Int.reduceToNat, Nat.reducePow, reduceIte, reduceCtorEq, j1, k8, k7, u1, u1', j5, j6, ew, ew5])|((with_reducible first|refine jW ?hy ?_|refine jY ?hy ?_);case hy=>rfl)|((with_reducible first|refine jX ?hy ?_|refine jZ ?hy ?_);case hy=>rfl)|((with_reducible refine jF ?hy ?_);case hy=>decide))
    exact loop_normal (m' := xs.length - (i + 1)) (by omega) ⟨i + 1, rfl, by rw [tk]; rfl, by omega, rfl, rfl⟩
 ·have t1 : ((i : Int) < (xs.length : Int)) = False := eq_false (by omega)
  have t1' : (i < xs.length) = False := eq_false hlt
  rw [List.take_of_length_le (by omega)] at i5
  repeat' (first|(with_reducible first|refine jA ?_|(refine hK _ _ ?_;clear hK K)|refine jJ fun K hK=>?_|refine jK ?_|refine jL ?_|refine jM ?_|refine jN ?_|refine jO ?_|refine jP ?_|refine jQ ?_|(refine jB ?_;clear hK K)|(refine jC ?_;clear hK K)|refine jD ?_|refine jE ?_|refine jG ?_|refine jH ?_|refine jI ?_)|((with_reducible refine jR ?hq ?_);case hq=>rfl)|((first|(with_reducible first|refine jS fun K hK=>?_|refine jT ?_|refine jU ?_)|((with_reducible refine jV ?hy fun K hK=>?_);case hy=>rfl));simp only [go_sem, Nat.reduceEqDiff, Nat.reduceAdd, Nat.reduceMul, Nat.reduceLeDiff, Nat.reduceLT, Int.reduceLT, Int.reduceLE, Int.reduceEq, Int.reduceNeg, Int.reduceToNat, Nat.reducePow, reduceIte, reduceCtorEq, i0, i5, i6, t1, t1'])|((with_reducible first|refine jW ?hy ?_|refine jY ?hy ?_);case hy=>rfl)|((with_reducible first|refine jX ?hy ?_|refine jZ ?hy ?_);case hy=>rfl)|((with_reducible refine jF ?hy ?_);case hy=>decide))
  exact fin
end
end Go.Proofs.Ytafehbegoanajaa
namespace Go.Ms
open Go Go.Hp Go.Li Go.Br
def inF (F l : List Ed) : List Ed := l.filter fun e => (byId F e.id).isSome
section
variable {n i : Nat} {l F : List Ed} {a b : Nat} {x y e : Ed}
theorem in_iff (hp : Fp n l F) (he : e ∈ l) : (byId F e.id).isSome = true ↔ e ∈ F := by
 constructor
 ·intro h
  obtain ⟨y, hy⟩ := Option.isSome_iff_exists.1 h
  obtain ⟨h1, h2⟩ := byId_some hy
  rw [← uq_of hp.uq y (hp.sub y h1) e he h2]
  exact h1
 ·intro h
  rw [byId_mem hp.fn h]; rfl
theorem inF_perm (hp : Fp n l F) : (inF F l).Perm F := by
 have n1 : l.Nodup := (List.pairwise_map.1 hp.uq).imp fun h e => h (by rw [e])
 have n2 : F.Nodup := (List.pairwise_map.1 hp.fn).imp fun h e => h (by rw [e])
 refine (List.perm_ext_iff_of_nodup (n1.sublist List.filter_sublist) n2).2 fun e => ?_
 rw [List.mem_filter]
 exact ⟨fun h => (in_iff hp h.1).1 h.2, fun h => ⟨hp.sub e h, (in_iff hp (hp.sub e h)).2 h⟩⟩
theorem psum {a b : List Int} (h : a.Perm b) : a.sum = b.sum := by
 induction h with
 | nil => rfl
 | cons x _ ih => simp [ih]
 | swap x y l => simp only [List.sum_cons]; omega
 | trans _ _ h1 h2 => exact h1.trans h2
theorem inF_step (hx : l[i]? = some x) : inF F (l.take (i + 1)) = inF F (l.take i) ++ if (byId F x.id).isSome then [x] else [] := by
 unfold inF
 rw [List.take_add_one, hx, Option.toList_some, List.filter_append]
 cases h : (byId F x.id).isSome <;> simp [h]
theorem inF_sub (hp : Fp n l F) (i : Nat) : ∀ e ∈ inF F (l.take i), -1099511627776 ≤ e.w ∧ e.w ≤ 1099511627776 := fun e he => (hp.ok e (List.mem_of_mem_take (List.mem_filter.1 he).1)).w
theorem inF_len (i : Nat) : (inF F (l.take i)).length ≤ i := Nat.le_trans (List.length_filter_le ..) (by rw [List.length_take]; omega)
theorem in_apart (hp : Fp n l F) (hx : x ∈ l) {u v : Nat} (hu : x.u = u) (hv : x.v = v) : x ∈ F ↔ ¬ Cn (In (l.filter fun e => heavy x e)) u v := by
 have h := hp.msf x
 have e1 : In (l.filter fun e => heavy x e) = Lo (In l) x := funext fun e => propext List.mem_filter
 rw [e1]
 rw [hu, hv] at h
 exact h.trans ⟨fun h => h.2, fun h => ⟨hx, h⟩⟩
end
end Go.Ms
namespace Go.Proofs.Ytafehbegoanajaa
open Go Go.Hp Go.Li Go.Br Go.Ms
set_option linter.all false
set_option maxRecDepth 100000
set_option maxHeartbeats 20000000
section
variable {H : Heap} {L : Value → Heap → Prop}
theorem sr_cells {B : Option Nat} {g n c i : Nat} {l : List Ed} {x : Ed} (h : SR Ed.cells 4 H B (.slice (some ⟨g, 0, none⟩) n c) l) (hx : l[i]? = some x) :
  hcell H ⟨g, i * 4, none⟩ = some (.int .i64 x.id) ∧ hcell H ⟨g, i * 4 + 1, none⟩ = some (.int .i64 x.u) ∧ hcell H ⟨g, i * 4 + 2, none⟩ = some (.int .i64 x.v) ∧ hcell H ⟨g, i * 4 + 3, none⟩ = some (.int .i64 x.w) := by
 obtain ⟨g2, c3, hB3, hv3, _, hc3⟩ := h.at edC_len hx
 simp only [Value.slice.injEq, Option.some.injEq, Addr.mk.injEq] at hv3
 obtain ⟨⟨rfl, _⟩, _, rfl⟩ := hv3
 have r0 := hc3 0 _ rfl
 rw [Nat.add_zero] at r0
 exact ⟨r0, hc3 1 _ rfl, hc3 2 _ rfl, hc3 3 _ rfl⟩
theorem sr_some {B : Option Nat} {a : Option Addr} {n c i : Nat} {l : List Ed} {x : Ed} (h : SR Ed.cells 4 H B (.slice a n c) l) (hx : l[i]? = some x) : ∃ g, a = some ⟨g, 0, none⟩ ∧ B = some g := by
 obtain ⟨g2, c3, hB3, hv3, _, hc3⟩ := h.at edC_len hx
 simp only [Value.slice.injEq] at hv3
 exact ⟨g2, hv3.1, hB3⟩
theorem stands_ok {f n : Nat} {T : Nat → Prop} {l F : List Ed} {B : Option Nat} {a : Option Addr} {c : Nat} (hM : MsM H f T n l F) (hl : SR Ed.cells 4 H B (.slice a l.length c) l) (fin : ∀ H', Fr (fun _ => False) H H' → L (.bool true) H') :
  CallsH Try.prog 26 #[.pointer (some ⟨f, 0, none⟩), .int .i64 (n : Nat), .slice a l.length c] H L := by
 have hp := hM.p
 have hl192 := hp.len
 have hFl := hp.flen
 refine call26 (by simp) ?_
 simp only [Try.f26, Option.getD_some]
 repeat' (first|(with_reducible first|refine jA ?_|(refine hK _ _ ?_;clear hK K)|refine jJ fun K hK=>?_|refine jK ?_|refine jL ?_|refine jM ?_|refine jN ?_|refine jO ?_|refine jP ?_|refine jQ ?_|(refine jB ?_;clear hK K)|(refine jC ?_;clear hK K)|refine jD ?_|refine jE ?_|refine jG ?_|refine jH ?_|refine jI ?_)|((with_reducible refine jR ?hq ?_);case hq=>rfl)|((first|(with_reducible first|refine jS fun K hK=>?_|refine jT ?_|refine jU ?_)|((with_reducible refine jV ?hy fun K hK=>?_);case hy=>rfl));simp only [go_sem, Nat.reduceEqDiff, Nat.reduceAdd, Nat.reduceMul, Nat.reduceLeDiff, Nat.reduceLT, Int.reduceLT, Int.reduceLE, Int.reduceEq, Int.reduceNeg, Int.reduceToNat, Nat.reducePow, reduceIte, reduceCtorEq])|((with_reducible first|refine jW ?hy ?_|refine jY ?hy ?_);case hy=>rfl)|((with_reducible first|refine jX ?hy ?_|refine jZ ?hy ?_);case hy=>rfl)|((with_reducible refine jF ?hy ?_);case hy=>decide))
 refine m_all hM fun H1 B1 v1 xs hxs hi1 hB1 f1 => ?_
 obtain ⟨ax, cx, rfl⟩ := id hi1.slice
 have hxl := hxs.len hp.fn
 repeat' (first|(with_reducible first|refine jA ?_|(refine hK _ _ ?_;clear hK K)|refine jJ fun K hK=>?_|refine jK ?_|refine jL ?_|refine jM ?_|refine jN ?_|refine jO ?_|refine jP ?_|refine jQ ?_|(refine jB ?_;clear hK K)|(refine jC ?_;clear hK K)|refine jD ?_|refine jE ?_|refine jG ?_|refine jH ?_|refine jI ?_)|((with_reducible refine jR ?hq ?_);case hq=>rfl)|((first|(with_reducible first|refine jS fun K hK=>?_|refine jT ?_|refine jU ?_)|((with_reducible refine jV ?hy fun K hK=>?_);case hy=>rfl));simp only [go_sem, Nat.reduceEqDiff, Nat.reduceAdd, Nat.reduceMul, Nat.reduceLeDiff, Nat.reduceLT, Int.reduceLT, Int.reduceLE, Int.reduceEq, Int.reduceNeg, Int.reduceToNat, Nat.reducePow, reduceIte, reduceCtorEq])|((with_reducible first|refine jW ?hy ?_|refine jY ?hy ?_);case hy=>rfl)|((with_reducible first|refine jX ?hy ?_|refine jZ ?hy ?_);case hy=>rfl)|((with_reducible refine jF ?hy ?_);case hy=>decide))
 refine x_loop (fun m e' H' => ∃ i : Nat, e' 10 = .int .i64 (i : Nat) ∧ e' 8 = .int .i64 (sumW (inF F (l.take i))) ∧ e' 9 = .int .i64 ((inF F (l.take i)).length : Nat) ∧ i ≤ l.length ∧ Fr (fun _ => False) H H' ∧ IR H' B1 (.slice ax xs.length cx) xs ∧ m = l.length - i) l.length ⟨0, rfl, rfl, rfl, Nat.zero_le _, f1, hi1, rfl⟩ ?_
 clear f1 hi1 hB1
 rintro m e1 H2 ⟨i, i10, i8, i9, hi, f2, hi2, hm⟩ hoff
 have i0 : e1 0 = .pointer (some ⟨f, 0, none⟩) := (hoff 0 rfl).trans rfl
 have i1 : e1 1 = .int .i64 (n : Nat) := (hoff 1 rfl).trans rfl
 have i2 : e1 2 = .slice a l.length c := (hoff 2 rfl).trans rfl
 have i7 : e1 7 = .slice ax xs.length cx := (hoff 7 rfl).trans rfl
 clear hoff
 have hil := inF_len (F := F) (l := l) i
 by_cases hlt : i < l.length
 ·have t1 : ((i : Int) < (l.length : Int)) = True := eq_true (by omega)
  have t1' : (i < l.length) = True := eq_true hlt
  have ew : IntKind.i64.wrap ((i : Int) + 1) = ((i + 1 : Nat) : Int) := by rw [wrap_i64] <;> omega
  obtain ⟨x, hx⟩ : ∃ x, l[i]? = some x := ⟨_, List.getElem?_eq_getElem hlt⟩
  have hxm := List.mem_of_getElem? hx
  obtain ⟨gl, rfl, rfl⟩ := sr_some hl hx
  have hll : gl < H.size := hl.lt rfl
  obtain ⟨⟨u, v, eu, ev, hu, hv, huv⟩, _⟩ := hp.ok x hxm
  repeat' (first|(with_reducible first|refine jA ?_|(refine hK _ _ ?_;clear hK K)|refine jJ fun K hK=>?_|refine jK ?_|refine jL ?_|refine jM ?_|refine jN ?_|refine jO ?_|refine jP ?_|refine jQ ?_|(refine jB ?_;clear hK K)|(refine jC ?_;clear hK K)|refine jD ?_|refine jE ?_|refine jG ?_|refine jH ?_|refine jI ?_)|((with_reducible refine jR ?hq ?_);case hq=>rfl)|((first|(with_reducible first|refine jS fun K hK=>?_|refine jT ?_|refine jU ?_)|((with_reducible refine jV ?hy fun K hK=>?_);case hy=>rfl));simp only [go_sem, Nat.reduceEqDiff, Nat.reduceAdd, Nat.reduceMul, Nat.reduceLeDiff, Nat.reduceLT, Int.reduceLT, Int.reduceLE, Int.reduceEq, Int.reduceNeg, Int.reduceToNat, Nat.reducePow, reduceIte, reduceCtorEq, i0, i1, i2, i7, i8, i9, i10, t1, t1'])|((with_reducible first|refine jW ?hy ?_|refine jY ?hy ?_);case hy=>rfl)|((with_reducible first|refine jX ?hy ?_|refine jZ ?hy ?_);case hy=>rfl)|((with_reducible refine jF ?hy ?_);case hy=>decide))
  refine x_loop (fun m e' H' => ∃ (k : Nat) (B2 : Option Nat) (w2 : Value), e' 12 = .int .i64 (k : Nat) ∧ e' 11 = w2 ∧ k ≤ l.length ∧ SR Ed.cells 4 H' B2 w2 ((l.take k).filter fun e => heavy x e) ∧ (∀ b, B2 = some b → H2.size ≤ b) ∧ Fr (fun _ => False) H2 H' ∧ m = l.length - k) l.length ⟨0, none, _, rfl, rfl, Nat.zero_le _, by rw [List.take_zero]; exact SR.nil _ _ _, nofun, Fr.refl _ _, rfl⟩ ?_
  rintro m2 e2 H3 ⟨k, B2, w2, k12, k11, hk, hls, hB2, f3, hm2⟩ hoff
  have k0 : e2 0 = .pointer (some ⟨f, 0, none⟩) := (hoff 0 rfl).trans i0
  have k1 : e2 1 = .int .i64 (n : Nat) := (hoff 1 rfl).trans i1
  have k2 : e2 2 = .slice (some ⟨gl, 0, none⟩) l.length c := (hoff 2 rfl).trans i2
  have k7 : e2 7 = .slice ax xs.length cx := (hoff 7 rfl).trans i7
  have k8 : e2 8 = _ := (hoff 8 rfl).trans i8
  have k9 : e2 9 = _ := (hoff 9 rfl).trans i9
  have k10 : e2 10 = _ := (hoff 10 rfl).trans i10
  clear hoff
  have f23 := f2.trans f3
  have s3 := f3.size
  have s2 := f2.size
  obtain ⟨a2, c2', rfl⟩ := id hls.slice
  have hfl : ((l.take k).filter fun e => heavy x e).length ≤ k := Nat.le_trans (List.length_filter_le ..) (by rw [List.length_take]; omega)
  by_cases hlt' : k < l.length
  ·have y1' : ((k : Int) < (l.length : Int)) = True := eq_true (by omega)
   have y1'' : (k < l.length) = True := eq_true hlt'
   have ew' : IntKind.i64.wrap ((k : Int) + 1) = ((k + 1 : Nat) : Int) := by rw [wrap_i64] <;> omega
   obtain ⟨y, hy⟩ : ∃ y, l[k]? = some y := ⟨_, List.getElem?_eq_getElem hlt'⟩
   have tk : l.take (k + 1) = l.take k ++ [y] := by rw [List.take_add_one, hy]; rfl
   have hl3 := hl.frame f23 fun _ _ h => h
   obtain ⟨x0, x1, x2, x3⟩ := sr_cells hl3 hx
   obtain ⟨y0, y1, y2, y3⟩ := sr_cells hl3 hy
   repeat' (first|(with_reducible first|refine jA ?_|(refine hK _ _ ?_;clear hK K)|refine jJ fun K hK=>?_|refine jK ?_|refine jL ?_|refine jM ?_|refine jN ?_|refine jO ?_|refine jP ?_|refine jQ ?_|(refine jB ?_;clear hK K)|(refine jC ?_;clear hK K)|refine jD ?_|refine jE ?_|refine jG ?_|refine jH ?_|refine jI ?_)|((with_reducible refine jR ?hq ?_);case hq=>rfl)|((first|(with_reducible first|refine jS fun K hK=>?_|refine jT ?_|refine jU ?_)|((with_reducible refine jV ?hy fun K hK=>?_);case hy=>rfl));simp only [go_sem, Nat.reduceEqDiff, Nat.reduceAdd, Nat.reduceMul, Nat.reduceLeDiff, Nat.reduceLT, Int.reduceLT, Int.reduceLE, Int.reduceEq, Int.reduceNeg, Int.reduceToNat, Nat.reducePow, reduceIte, reduceCtorEq, k2, k10, k12, y1', y1'', t1', x0, x1, x2, x3, y0, y1, y2, y3])|((with_reducible first|refine jW ?hy ?_|refine jY ?hy ?_);case hy=>rfl)|((with_reducible first|refine jX ?hy ?_|refine jZ ?hy ?_);case hy=>rfl)|((with_reducible refine jF ?hy ?_);case hy=>decide))
   refine lheavier_ok (a := x) (b := y) fun H4 f4 => ?_
   have hls4 := hls.frame f4 fun _ _ h => h
   have hl4 := hl3.frame f4 fun _ _ h => h
   obtain ⟨y0, y1, y2, y3⟩ := sr_cells hl4 hy
   cases hh : heavy x y with
   | true =>
    have ek : (l.take (k + 1)).filter (fun e => heavy x e) = (l.take k).filter (fun e => heavy x e) ++ [y] := by rw [tk, List.filter_append]; simp [hh]
    repeat' (first|(with_reducible first|refine jA ?_|(refine hK _ _ ?_;clear hK K)|refine jJ fun K hK=>?_|refine jK ?_|refine jL ?_|refine jM ?_|refine jN ?_|refine jO ?_|refine jP ?_|refine jQ ?_|(refine jB ?_;clear hK K)|(refine jC ?_;clear hK K)|refine jD ?_|refine jE ?_|refine jG ?_|refine jH ?_|refine jI ?_)|((with_reducible refine jR ?hq ?_);case hq=>rfl)|((first|(with_reducible first|refine jS fun K hK=>?_|refine jT ?_|refine jU ?_)|((with_reducible refine jV ?hy fun K hK=>?_);case hy=>rfl));simp only [go_sem, Nat.reduceEqDiff, Nat.reduceAdd, Nat.reduceMul, Nat.reduceLeDiff, Nat.reduceLT, Int.reduceLT, Int.reduceLE, Int.reduceEq, Int.reduceNeg, Int.reduceToNat, Nat.reducePow, reduceIte, reduceCtorEq, k2, k11, k12, y1'', y0, y1, y2, y3])|((with_reducible first|refine jW ?hy ?_|refine jY ?hy ?_);case hy=>rfl)|((with_reducible first|refine jX ?hy ?_|refine jZ ?hy ?_);case hy=>rfl)|((with_reducible refine jF ?hy ?_);case hy=>decide))
    refine append_sr edC_len edC_plain (x := y) elems22 tl30 hls4 rfl (by decide) (by simp only [List.length_take] at *; omega) rfl fun w8 H8 B8 h8 hf8 hB8 => ?_
    have f48 : Fr (fun _ => False) H2 H8 := (f3.trans f4).trans' hf8 fun b hb e => by have := hB2 b e; omega
    rw [← ek] at h8
    have s4 := f4.size
    have hB8' : ∀ b, B8 = some b → H2.size ≤ b := fun b hb => by
     rcases hB8 with e | ⟨g', hg, hge⟩
     ·exact hB2 b (by rw [← e]; exact hb)
     ·rw [hg] at hb
      obtain rfl := Option.some.inj hb
      omega
    repeat' (first|(with_reducible first|refine jA ?_|(refine hK _ _ ?_;clear hK K)|refine jJ fun K hK=>?_|refine jK ?_|refine jL ?_|refine jM ?_|refine jN ?_|refine jO ?_|refine jP ?_|refine jQ ?_|(refine jB ?_;clear hK K)|(refine jC ?_;clear hK K)|refine jD ?_|refine jE ?_|refine jG ?_|refine jH ?_|refine jI ?_)|((with_reducible refine jR ?hq ?_);case hq=>rfl)|((first|(with_reducible first|refine jS fun K hK=>?_|refine jT ?_|refine jU ?_)|((with_reducible refine jV ?hy fun K hK=>?_);case hy=>rfl));simp only [go_sem, Nat.reduceEqDiff, Nat.reduceAdd, Nat.reduceMul, Nat.reduceLeDiff, Nat.reduceLT, Int.reduceLT, Int.reduceLE, Int.reduceEq, Int.reduceNeg, Int.reduceToNat, Nat.reducePow, reduceIte, reduceCtorEq, k12, ew'])|((with_reducible first|refine jW ?hy ?_|refine jY ?hy ?_);case hy=>rfl)|((with_reducible first|refine jX ?hy ?_|refine jZ ?hy ?_);case hy=>rfl)|((with_reducible refine jF ?hy ?_);case hy=>decide))
    exact loop_normal (m' := l.length - (k + 1)) (by omega) ⟨k + 1, B8, w8, rfl, rfl, hlt', h8, hB8', f48, rfl⟩
   | false =>
    have ek : (l.take (k + 1)).filter (fun e => heavy x e) = (l.take k).filter (fun e => heavy x e) := by rw [tk, List.filter_append]; simp [hh]
    repeat' (first|(with_reducible first|refine jA ?_|(refine hK _ _ ?_;clear hK K)|refine jJ fun K hK=>?_|refine jK ?_|refine jL ?_|refine jM ?_|refine jN ?_|refine jO ?_|refine jP ?_|refine jQ ?_|(refine jB ?_;clear hK K)|(refine jC ?_;clear hK K)|refine jD ?_|refine jE ?_|refine jG ?_|refine jH ?_|refine jI ?_)|((with_reducible refine jR ?hq ?_);case hq=>rfl)|((first|(with_reducible first|refine jS fun K hK=>?_|refine jT ?_|refine jU ?_)|((with_reducible refine jV ?hy fun K hK=>?_);case hy=>rfl));simp only [go_sem, Nat.reduceEqDiff, Nat.reduceAdd, Nat.reduceMul, Nat.reduceLeDiff, Nat.reduceLT, Int.reduceLT, Int.reduceLE, Int.reduceEq, Int.reduceNeg, Int.reduceToNat, Nat.reducePow, reduceIte, reduceCtorEq, k12, ew'])|((with_reducible first|refine jW ?hy ?_|refine jY ?hy ?_);case hy=>rfl)|((with_reducible first|refine jX ?hy ?_|refine jZ ?hy ?_);case hy=>rfl)|((with_reducible refine jF ?hy ?_);case hy=>decide))
    exact loop_normal (m' := l.length - (k + 1)) (by omega) ⟨k + 1, B2, _, rfl, k11, hlt', by rw [ek]; exact hls4, hB2, f3.trans f4, rfl⟩
  ·have y1' : ((k : Int) < (l.length : Int)) = False := eq_false (by omega)
   have y1'' : (k < l.length) = False := eq_false hlt'
   rw [List.take_of_length_le (by omega)] at hls k11
   rw [List.take_of_length_le (by omega)] at hfl
   repeat' (first|(with_reducible first|refine jA ?_|(refine hK _ _ ?_;clear hK K)|refine jJ fun K hK=>?_|refine jK ?_|refine jL ?_|refine jM ?_|refine jN ?_|refine jO ?_|refine jP ?_|refine jQ ?_|(refine jB ?_;clear hK K)|(refine jC ?_;clear hK K)|refine jD ?_|refine jE ?_|refine jG ?_|refine jH ?_|refine jI ?_)|((with_reducible refine jR ?hq ?_);case hq=>rfl)|((first|(with_reducible first|refine jS fun K hK=>?_|refine jT ?_|refine jU ?_)|((with_reducible refine jV ?hy fun K hK=>?_);case hy=>rfl));simp only [go_sem, Nat.reduceEqDiff, Nat.reduceAdd, Nat.reduceMul, Nat.reduceLeDiff, Nat.reduceLT, Int.reduceLT, Int.reduceLE, Int.reduceEq, Int.reduceNeg, Int.reduceToNat, Nat.reducePow, reduceIte, reduceCtorEq, k1, k2, k11, k12, y1', y1''])|((with_reducible first|refine jW ?hy ?_|refine jY ?hy ?_);case hy=>rfl)|((with_reducible first|refine jX ?hy ?_|refine jZ ?hy ?_);case hy=>rfl)|((with_reducible refine jF ?hy ?_);case hy=>decide))
   refine Parts_ok (sr_rde hls) (fun b hb => hls.lt hb) hp.n64 (by omega) (fun e he => hp.ends4 e (List.mem_filter.1 he).1) fun H5 q0 p0 hP0 hq0 hqs f5 => ?_
   have f25 := f23.trans f5
   have hl5 := hl.frame f25 fun _ _ h => h
   obtain ⟨x0, x1, x2, x3⟩ := sr_cells hl5 hx
   repeat' (first|(with_reducible first|refine jA ?_|(refine hK _ _ ?_;clear hK K)|refine jJ fun K hK=>?_|refine jK ?_|refine jL ?_|refine jM ?_|refine jN ?_|refine jO ?_|refine jP ?_|refine jQ ?_|(refine jB ?_;clear hK K)|(refine jC ?_;clear hK K)|refine jD ?_|refine jE ?_|refine jG ?_|refine jH ?_|refine jI ?_)|((with_reducible refine jR ?hq ?_);case hq=>rfl)|((first|(with_reducible first|refine jS fun K hK=>?_|refine jT ?_|refine jU ?_)|((with_reducible refine jV ?hy fun K hK=>?_);case hy=>rfl));simp only [go_sem, Nat.reduceEqDiff, Nat.reduceAdd, Nat.reduceMul, Nat.reduceLeDiff, Nat.reduceLT, Int.reduceLT, Int.reduceLE, Int.reduceEq, Int.reduceNeg, Int.reduceToNat, Nat.reducePow, reduceIte, reduceCtorEq, k0, k2, k10, t1', x0])|((with_reducible first|refine jW ?hy ?_|refine jY ?hy ?_);case hy=>rfl)|((with_reducible first|refine jX ?hy ?_|refine jZ ?hy ?_);case hy=>rfl)|((with_reducible refine jF ?hy ?_);case hy=>decide))
   refine m_in (hM.frame f25 fun _ _ h => h) (fun h => by rw [byId_mem hp.uq hxm] at h; cases h) fun _ H6 f6 => ?_
   have f26 := f25.trans f6
   have hl6 := hl5.frame f6 fun _ _ h => h
   obtain ⟨x0, x1, x2, x3⟩ := sr_cells hl6 hx
   rw [eu] at x1
   rw [ev] at x2
   have hq6 := hq0.frame f6 fun _ _ h => h
   have cpx := hq6.cell (vr_get (f := nI p0) hu)
   have cpy := hq6.cell (vr_get (f := nI p0) hv)
   have tu : (u < n) = True := eq_true hu
   have tv : (v < n) = True := eq_true hv
   have hi6 := hi2.frame ((f3.trans f5).trans f6) fun _ _ h => h
   have z0 : ((0 : Int) != 0) = false := rfl
   have hpc : p0 u = p0 v ↔ Cn (In (l.filter fun e => heavy x e)) u v := (hP0.eq hu hv).trans (con_cn fun e he => by obtain ⟨u', v', h1, h2, _⟩ := hp.ends4 e (List.mem_filter.1 he).1; exact ⟨u', v', h1, h2⟩)
   have hap := in_apart hp hxm eu ev
   have hst := inF_step (F := F) hx
   by_cases hF : x ∈ F
   ·have eb := (in_iff hp hxm).2 hF
    rw [eb] at hst ⊢
    rw [if_pos rfl] at hst
    have t2 : (nI p0 u != nI p0 v) = true := by
     have : p0 u ≠ p0 v := fun e => (hap.1 hF) (hpc.1 e)
     unfold nI; simp; omega
    have tt : (true != true) = false := rfl
    have hs1 := sum_le (inF_sub hp i)
    have hxw := (hp.ok x hxm).w
    have ews : IntKind.i64.wrap (sumW (inF F (l.take i)) + x.w) = sumW (inF F (l.take (i + 1))) := by
     rw [hst, sum_add, wrap_i64] <;> omega
    have ewc : IntKind.i64.wrap (((inF F (l.take i)).length : Int) + 1) = ((inF F (l.take (i + 1))).length : Nat) := by
     rw [hst, List.length_append, List.length_singleton, wrap_i64] <;> omega
    repeat' (first|(with_reducible first|refine jA ?_|(refine hK _ _ ?_;clear hK K)|refine jJ fun K hK=>?_|refine jK ?_|refine jL ?_|refine jM ?_|refine jN ?_|refine jO ?_|refine jP ?_|refine jQ ?_|(refine jB ?_;clear hK K)|(refine jC ?_;clear hK K)|refine jD ?_|refine jE ?_|refine jG ?_|refine jH ?_|refine jI ?_)|((with_reducible refine jR ?hq ?_);case hq=>rfl)|((first|(with_reducible first|refine jS fun K hK=>?_|refine jT ?_|refine jU ?_)|((with_reducible refine jV ?hy fun K hK=>?_);case hy=>rfl));simp only [go_sem, Nat.reduceEqDiff, Nat.reduceAdd, Nat.reduceMul, Nat.reduceLeDiff, Nat.reduceLT, Int.reduceLT, Int.reduceLE, Int.reduceEq, Int.reduceNeg, Int.reduceToNat, Nat.reducePow, reduceIte, reduceCtorEq, z0, k2, k8, k9, k10, t1', x0, x1, x2, x3, tu, tv, cpx, cpy, t2, tt, Bool.not_true, ews, ewc])|((with_reducible first|refine jW ?hy ?_|refine jY ?hy ?_);case hy=>rfl)|((with_reducible first|refine jX ?hy ?_|refine jZ ?hy ?_);case hy=>rfl)|((with_reducible refine jF ?hy ?_);case hy=>decide))
    refine x_loop (fun m e' H' => ∃ j : Nat, e' 18 = .int .i64 (j : Nat) ∧ e' 17 = .bool (decide (x.id ∈ xs.take j)) ∧ j ≤ xs.length ∧ H' = H6 ∧ m = xs.length - j) xs.length ⟨0, rfl, by rw [List.take_zero]; rfl, Nat.zero_le _, rfl, rfl⟩ ?_
    rintro m3 e3 H7 ⟨j, l18, l17, hj, rfl, hm3⟩ hoff
    have l2 : e3 2 = .slice (some ⟨gl, 0, none⟩) l.length c := (hoff 2 rfl).trans k2
    have l7 : e3 7 = .slice ax xs.length cx := (hoff 7 rfl).trans k7
    have l8 : e3 8 = .int .i64 (sumW (inF F (l.take (i + 1)))) := (hoff 8 rfl).trans rfl
    have l9 : e3 9 = .int .i64 ((inF F (l.take (i + 1))).length : Nat) := (hoff 9 rfl).trans rfl
    have l10 : e3 10 = .int .i64 (i : Nat) := (hoff 10 rfl).trans k10
    clear hoff
    by_cases hlt2 : j < xs.length
    ·have u1 : ((j : Int) < (xs.length : Int)) = True := eq_true (by omega)
     have u1' : (j < xs.length) = True := eq_true hlt2
     have ew2 : IntKind.i64.wrap ((j : Int) + 1) = ((j + 1 : Nat) : Int) := by rw [wrap_i64] <;> omega
     obtain ⟨z, hz⟩ : ∃ z, xs[j]? = some z := ⟨_, List.getElem?_eq_getElem hlt2⟩
     obtain ⟨g', c2, _, hvv, hc', _⟩ := hi6.rowAt hlt2
     simp only [Value.slice.injEq] at hvv
     obtain ⟨rfl, _, rfl⟩ := hvv
     have cz := hc' j z hz
     have tk2 : x.id ∈ xs.take (j + 1) ↔ x.id ∈ xs.take j ∨ x.id = z := by rw [List.take_add_one, hz, List.mem_append]; simp
     by_cases hin : x.id ∈ xs.take j
     ·have d1 : decide (x.id ∈ xs.take j) = true := decide_eq_true hin
      rw [d1] at l17
      repeat' (first|(with_reducible first|refine jA ?_|(refine hK _ _ ?_;clear hK K)|refine jJ fun K hK=>?_|refine jK ?_|refine jL ?_|refine jM ?_|refine jN ?_|refine jO ?_|refine jP ?_|refine jQ ?_|(refine jB ?_;clear hK K)|(refine jC ?_;clear hK K)|refine jD ?_|refine jE ?_|refine jG ?_|refine jH ?_|refine jI ?_)|((with_reducible refine jR ?hq ?_);case hq=>rfl)|((first|(with_reducible first|refine jS fun K hK=>?_|refine jT ?_|refine jU ?_)|((with_reducible refine jV ?hy fun K hK=>?_);case hy=>rfl));simp only [go_sem, Nat.reduceEqDiff, Nat.reduceAdd, Nat.reduceMul, Nat.reduceLeDiff, Nat.reduceLT, Int.reduceLT, Int.reduceLE, Int.reduceEq, Int.reduceNeg, Int.reduceToNat, Nat.reducePow, reduceIte, reduceCtorEq, l7, l17, l18, u1, u1', ew2])|((with_reducible first|refine jW ?hy ?_|refine jY ?hy ?_);case hy=>rfl)|((with_reducible first|refine jX ?hy ?_|refine jZ ?hy ?_);case hy=>rfl)|((with_reducible refine jF ?hy ?_);case hy=>decide))
      exact loop_normal (m' := xs.length - (j + 1)) (by omega) ⟨j + 1, rfl, by rw [decide_eq_true (tk2.2 (.inl hin))]; rfl, by omega, rfl, rfl⟩
     ·have d1 : decide (x.id ∈ xs.take j) = false := decide_eq_false hin
      rw [d1] at l17
      have d2 : (z == x.id) = decide (x.id ∈ xs.take (j + 1)) := by
       by_cases h : x.id = z
       ·rw [decide_eq_true (tk2.2 (.inr h))]; simp [h]
       ·rw [decide_eq_false fun hh => (tk2.1 hh).elim hin h]; simp; exact fun e => h e.symm
      repeat' (first|(with_reducible first|refine jA ?_|(refine hK _ _ ?_;clear hK K)|refine jJ fun K hK=>?_|refine jK ?_|refine jL ?_|refine jM ?_|refine jN ?_|refine jO ?_|refine jP ?_|refine jQ ?_|(refine jB ?_;clear hK K)|(refine jC ?_;clear hK K)|refine jD ?_|refine jE ?_|refine jG ?_|refine jH ?_|refine jI ?_)|((with_reducible refine jR ?hq ?_);case hq=>rfl)|((first|(with_reducible first|refine jS fun K hK=>?_|refine jT ?_|refine jU ?_)|((with_reducible refine jV ?hy fun K hK=>?_);case hy=>rfl));simp only [go_sem, Nat.reduceEqDiff, Nat.reduceAdd, Nat.reduceMul, Nat.reduceLeDiff, Nat.reduceLT, Int.reduceLT, Int.reduceLE, Int.reduceEq, Int.reduceNeg, Int.reduceToNat, Nat.reducePow, reduceIte, reduceCtorEq, l2, l7, l10, l17, l18, u1, u1', t1', x0, cz, ew2])|((with_reducible first|refine jW ?hy ?_|refine jY ?hy ?_);case hy=>rfl)|((with_reducible first|refine jX ?hy ?_|refine jZ ?hy ?_);case hy=>rfl)|((with_reducible refine jF ?hy ?_);case hy=>decide))
      exact loop_normal (m' := xs.length - (j + 1)) (by omega) ⟨j + 1, rfl, by rw [← d2]; rfl, by omega, rfl, rfl⟩
    ·have u1 : ((j : Int) < (xs.length : Int)) = False := eq_false (by omega)
     have u1' : (j < xs.length) = False := eq_false hlt2
     rw [List.take_of_length_le (by omega), decide_eq_true ((hxs.mem _).2 ⟨x, hF, rfl⟩)] at l17
     repeat' (first|(with_reducible first|refine jA ?_|(refine hK _ _ ?_;clear hK K)|refine jJ fun K hK=>?_|refine jK ?_|refine jL ?_|refine jM ?_|refine jN ?_|refine jO ?_|refine jP ?_|refine jQ ?_|(refine jB ?_;clear hK K)|(refine jC ?_;clear hK K)|refine jD ?_|refine jE ?_|refine jG ?_|refine jH ?_|refine jI ?_)|((with_reducible refine jR ?hq ?_);case hq=>rfl)|((first|(with_reducible first|refine jS fun K hK=>?_|refine jT ?_|refine jU ?_)|((with_reducible refine jV ?hy fun K hK=>?_);case hy=>rfl));simp only [go_sem, Nat.reduceEqDiff, Nat.reduceAdd, Nat.reduceMul, Nat.reduceLeDiff, Nat.reduceLT, Int.reduceLT, Int.reduceLE, Int.reduceEq, Int.reduceNeg, Int.reduceToNat, Nat.reducePow, reduceIte, reduceCtorEq, l7, l17, l18, u1, u1', Bool.not_true, l10, ew])|((with_reducible first|refine jW ?hy ?_|refine jY ?hy ?_);case hy=>rfl)|((with_reducible first|refine jX ?hy ?_|refine jZ ?hy ?_);case hy=>rfl)|((with_reducible refine jF ?hy ?_);case hy=>decide))
     exact loop_normal (m' := l.length - (i + 1)) (by omega) ⟨i + 1, rfl, l8, l9, hlt, f26, hi6, rfl⟩
   ·have eb : (Ms.byId F x.id).isSome = false := by
     cases h : (Ms.byId F x.id).isSome with
     | false => rfl
     | true => exact absurd ((in_iff hp hxm).1 h) hF
    rw [eb] at hst ⊢
    rw [if_neg (by decide), List.append_nil] at hst
    have t2 : (nI p0 u != nI p0 v) = false := by
     have : p0 u = p0 v := hpc.2 (Classical.byContradiction fun h => hF (hap.2 h))
     unfold nI; simp [this]
    have tt : (false != false) = false := rfl
    repeat' (first|(with_reducible first|refine jA ?_|(refine hK _ _ ?_;clear hK K)|refine jJ fun K hK=>?_|refine jK ?_|refine jL ?_|refine jM ?_|refine jN ?_|refine jO ?_|refine jP ?_|refine jQ ?_|(refine jB ?_;clear hK K)|(refine jC ?_;clear hK K)|refine jD ?_|refine jE ?_|refine jG ?_|refine jH ?_|refine jI ?_)|((with_reducible refine jR ?hq ?_);case hq=>rfl)|((first|(with_reducible first|refine jS fun K hK=>?_|refine jT ?_|refine jU ?_)|((with_reducible refine jV ?hy fun K hK=>?_);case hy=>rfl));simp only [go_sem, Nat.reduceEqDiff, Nat.reduceAdd, Nat.reduceMul, Nat.reduceLeDiff, Nat.reduceLT, Int.reduceLT, Int.reduceLE, Int.reduceEq, Int.reduceNeg, Int.reduceToNat, Nat.reducePow, reduceIte, reduceCtorEq, z0, k2, k10, t1', x1, x2, tu, tv, cpx, cpy, t2, tt, Bool.not_false, ew])|((with_reducible first|refine jW ?hy ?_|refine jY ?hy ?_);case hy=>rfl)|((with_reducible first|refine jX ?hy ?_|refine jZ ?hy ?_);case hy=>rfl)|((with_reducible refine jF ?hy ?_);case hy=>decide))
    exact loop_normal (m' := l.length - (i + 1)) (by omega) ⟨i + 1, rfl, by rw [hst]; exact k8, by rw [hst]; exact k9, hlt, f26, hi6, rfl⟩
 ·have t1 : ((i : Int) < (l.length : Int)) = False := eq_false (by omega)
  have t1' : (i < l.length) = False := eq_false hlt
  rw [List.take_of_length_le (by omega)] at i8 i9
  have hpm := inF_perm hp
  have es : sumW (inF F l) = sumW F := by unfold sumW; exact psum (hpm.map _)
  rw [es] at i8
  rw [hpm.length_eq] at i9
  repeat' (first|(with_reducible first|refine jA ?_|(refine hK _ _ ?_;clear hK K)|refine jJ fun K hK=>?_|refine jK ?_|refine jL ?_|refine jM ?_|refine jN ?_|refine jO ?_|refine jP ?_|refine jQ ?_|(refine jB ?_;clear hK K)|(refine jC ?_;clear hK K)|refine jD ?_|refine jE ?_|refine jG ?_|refine jH ?_|refine jI ?_)|((with_reducible refine jR ?hq ?_);case hq=>rfl)|((first|(with_reducible first|refine jS fun K hK=>?_|refine jT ?_|refine jU ?_)|((with_reducible refine jV ?hy fun K hK=>?_);case hy=>rfl));simp only [go_sem, Nat.reduceEqDiff, Nat.reduceAdd, Nat.reduceMul, Nat.reduceLeDiff, Nat.reduceLT, Int.reduceLT, Int.reduceLE, Int.reduceEq, Int.reduceNeg, Int.reduceToNat, Nat.reducePow, reduceIte, reduceCtorEq, i2, i10, t1, t1'])|((with_reducible first|refine jW ?hy ?_|refine jY ?hy ?_);case hy=>rfl)|((with_reducible first|refine jX ?hy ?_|refine jZ ?hy ?_);case hy=>rfl)|((with_reducible refine jF ?hy ?_);case hy=>decide))
  refine x_loop (fun m e' H' => ∃ j : Nat, e' 19 = .int .i64 (j : Nat) ∧ 1 ≤ j ∧ j ≤ max 1 xs.length ∧ H' = H2 ∧ m = max 1 xs.length - j) (max 1 xs.length - 1) ⟨1, rfl, Nat.le_refl _, by omega, rfl, by omega⟩ ?_
  rintro m3 e3 H7 ⟨j, l19, hj1, hj, rfl, hm3⟩ hoff
  have l0 : e3 0 = .pointer (some ⟨f, 0, none⟩) := (hoff 0 rfl).trans i0
  have l7 : e3 7 = .slice ax xs.length cx := (hoff 7 rfl).trans i7
  have l8 : e3 8 = .int .i64 (sumW F) := (hoff 8 rfl).trans i8
  have l9 : e3 9 = .int .i64 (F.length : Nat) := (hoff 9 rfl).trans i9
  clear hoff
  by_cases hlt2 : j < xs.length
  ·have u1 : ((j : Int) < (xs.length : Int)) = True := eq_true (by omega)
   have u1' : (j < xs.length) = True := eq_true hlt2
   have u2' : (j - 1 < xs.length) = True := eq_true (by omega)
   have ew2 : IntKind.i64.wrap ((j : Int) + 1) = ((j + 1 : Nat) : Int) := by rw [wrap_i64] <;> omega
   have ew3 : IntKind.i64.wrap ((j : Int) - 1) = ((j - 1 : Nat) : Int) := by rw [wrap_i64] <;> omega
   obtain ⟨z, hz⟩ : ∃ z, xs[j]? = some z := ⟨_, List.getElem?_eq_getElem hlt2⟩
   obtain ⟨y, hy⟩ : ∃ y, xs[j - 1]? = some y := ⟨_, List.getElem?_eq_getElem (by omega)⟩
   obtain ⟨g', c2, _, hvv, hc', _⟩ := hi2.rowAt hlt2
   simp only [Value.slice.injEq] at hvv
   obtain ⟨rfl, _, rfl⟩ := hvv
   have cz := hc' j z hz
   have cy := hc' (j - 1) y hy
   have lt : y < z := by
    obtain ⟨h1, rfl⟩ := List.getElem?_eq_some_iff.1 hz
    obtain ⟨h2, rfl⟩ := List.getElem?_eq_some_iff.1 hy
    exact List.pairwise_iff_getElem.1 hxs.srt _ _ h2 h1 (by omega)
   have t3 : (z ≤ y) = False := eq_false (by omega)
   repeat' (first|(with_reducible first|refine jA ?_|(refine hK _ _ ?_;clear hK K)|refine jJ fun K hK=>?_|refine jK ?_|refine jL ?_|refine jM ?_|refine jN ?_|refine jO ?_|refine jP ?_|refine jQ ?_|(refine jB ?_;clear hK K)|(refine jC ?_;clear hK K)|refine jD ?_|refine jE ?_|refine jG ?_|refine jH ?_|refine jI ?_)|((with_reducible refine jR ?hq ?_);case hq=>rfl)|((first|(with_reducible first|refine jS fun K hK=>?_|refine jT ?_|refine jU ?_)|((with_reducible refine jV ?hy fun K hK=>?_);case hy=>rfl));simp only [go_sem, Nat.reduceEqDiff, Nat.reduceAdd, Nat.reduceMul, Nat.reduceLeDiff, Nat.reduceLT, Int.reduceLT, Int.reduceLE, Int.reduceEq, Int.reduceNeg, Int.reduceToNat, Nat.reducePow, reduceIte, reduceCtorEq, l7, l19, u1, u1', u2', cz, cy, ew2, ew3, t3])|((with_reducible first|refine jW ?hy ?_|refine jY ?hy ?_);case hy=>rfl)|((with_reducible first|refine jX ?hy ?_|refine jZ ?hy ?_);case hy=>rfl)|((with_reducible refine jF ?hy ?_);case hy=>decide))
   exact loop_normal (m' := max 1 xs.length - (j + 1)) (by omega) ⟨j + 1, rfl, by omega, by omega, rfl, rfl⟩
  ·have u1 : ((j : Int) < (xs.length : Int)) = False := eq_false (by omega)
   have u1' : (j < xs.length) = False := eq_false hlt2
   have q1 : ((F.length : Int) == (xs.length : Int)) = true := by simp [hxl]
   have q2 : (sumW F == sumW F) = true := by simp
   repeat' (first|(with_reducible first|refine jA ?_|(refine hK _ _ ?_;clear hK K)|refine jJ fun K hK=>?_|refine jK ?_|refine jL ?_|refine jM ?_|refine jN ?_|refine jO ?_|refine jP ?_|refine jQ ?_|(refine jB ?_;clear hK K)|(refine jC ?_;clear hK K)|refine jD ?_|refine jE ?_|refine jG ?_|refine jH ?_|refine jI ?_)|((with_reducible refine jR ?hq ?_);case hq=>rfl)|((first|(with_reducible first|refine jS fun K hK=>?_|refine jT ?_|refine jU ?_)|((with_reducible refine jV ?hy fun K hK=>?_);case hy=>rfl));simp only [go_sem, Nat.reduceEqDiff, Nat.reduceAdd, Nat.reduceMul, Nat.reduceLeDiff, Nat.reduceLT, Int.reduceLT, Int.reduceLE, Int.reduceEq, Int.reduceNeg, Int.reduceToNat, Nat.reducePow, reduceIte, reduceCtorEq, l0, l7, l9, l19, u1, u1', q1])|((with_reducible first|refine jW ?hy ?_|refine jY ?hy ?_);case hy=>rfl)|((with_reducible first|refine jX ?hy ?_|refine jZ ?hy ?_);case hy=>rfl)|((with_reducible refine jF ?hy ?_);case hy=>decide))
   refine m_weight (hM.frame f2 fun _ _ h => h) ?_
   repeat' (first|(with_reducible first|refine jA ?_|(refine hK _ _ ?_;clear hK K)|refine jJ fun K hK=>?_|refine jK ?_|refine jL ?_|refine jM ?_|refine jN ?_|refine jO ?_|refine jP ?_|refine jQ ?_|(refine jB ?_;clear hK K)|(refine jC ?_;clear hK K)|refine jD ?_|refine jE ?_|refine jG ?_|refine jH ?_|refine jI ?_)|((with_reducible refine jR ?hq ?_);case hq=>rfl)|((first|(with_reducible first|refine jS fun K hK=>?_|refine jT ?_|refine jU ?_)|((with_reducible refine jV ?hy fun K hK=>?_);case hy=>rfl));simp only [go_sem, Nat.reduceEqDiff, Nat.reduceAdd, Nat.reduceMul, Nat.reduceLeDiff, Nat.reduceLT, Int.reduceLT, Int.reduceLE, Int.reduceEq, Int.reduceNeg, Int.reduceToNat, Nat.reducePow, reduceIte, reduceCtorEq, l8, q2])|((with_reducible first|refine jW ?hy ?_|refine jY ?hy ?_);case hy=>rfl)|((with_reducible first|refine jX ?hy ?_|refine jZ ?hy ?_);case hy=>rfl)|((with_reducible refine jF ?hy ?_);case hy=>decide))
   exact fin H7 f2
end
end Go.Proofs.Ytafehbegoanajaa
namespace Go.Proofs.Ytafehbegoanajaa
open Go Go.Hp Go.Li
set_option linter.all false
set_option maxRecDepth 100000
set_option maxHeartbeats 1600000
structure MOp where
 kind : Int
 nm : Int
 u : Int
 v : Int
 w : Int
 other : Bool
structure MOp.Fit (o : MOp) : Prop where
 k : -9223372036854775808 ≤ o.kind ∧ o.kind ≤ 9223372036854775807
 nm : -9223372036854775808 ≤ o.nm ∧ o.nm ≤ 9223372036854775807
 u : -9223372036854775808 ≤ o.u ∧ o.u ≤ 9223372036854775807
 v : -9223372036854775808 ≤ o.v ∧ o.v ≤ 9223372036854775807
 w : -9223372036854775808 ≤ o.w ∧ o.w ≤ 9223372036854775807
def MOp.cells (o : MOp) : List Value := [.int .i64 o.kind, .int .i64 o.nm, .int .i64 o.u, .int .i64 o.v, .int .i64 o.w, .bool o.other]
def InMOps (H : Heap) (a : Option Addr) (len : Nat) (zs : Nat → MOp) : Prop :=
 ∀ i, i < len → ∃ p : Addr, a = some p ∧ (hcell H (p.add (i * 6)) = some (.int .i64 (zs i).kind) ∧ hcell H ⟨(p.add (i * 6)).block, (p.add (i * 6)).off + 1, none⟩ = some (.int .i64 (zs i).nm) ∧ hcell H ⟨(p.add (i * 6)).block, (p.add (i * 6)).off + 2, none⟩ = some (.int .i64 (zs i).u) ∧
  hcell H ⟨(p.add (i * 6)).block, (p.add (i * 6)).off + 3, none⟩ = some (.int .i64 (zs i).v) ∧ hcell H ⟨(p.add (i * 6)).block, (p.add (i * 6)).off + 4, none⟩ = some (.int .i64 (zs i).w) ∧ hcell H ⟨(p.add (i * 6)).block, (p.add (i * 6)).off + 5, none⟩ = some (.bool (zs i).other)) ∧ (zs i).Fit
theorem InMOps.frame {H H' : Heap} {a : Option Addr} {len : Nat} {zs : Nat → MOp} (h : InMOps H a len zs) (hf : Fr (fun _ => False) H H') : InMOps H' a len zs := fun i hi => by
 obtain ⟨p, h1, ⟨c0, c1, c2, c3, c4, c5⟩, h5⟩ := h i hi
 have mv : ∀ {a : Addr} {v : Value}, hcell H a = some v → hcell H' a = some v := fun h => by rw [hf.cell (hcell_lt h) (fun h => h)]; exact h
 exact ⟨p, h1, ⟨mv c0, mv c1, mv c2, mv c3, mv c4, mv c5⟩, h5⟩
theorem store6 {H : Heap} {b : Nat} {x0 x1 x2 x3 x4 x5 : Value} (hb : Blk H b [x0, x1, x2, x3, x4, x5]) (v0 v1 v2 v3 v4 v5 : Value) :
  Blk (hset (hset (hset (hset (hset (hset H ⟨b, 0, none⟩ v0) ⟨b, 1, none⟩ v1) ⟨b, 2, none⟩ v2) ⟨b, 3, none⟩ v3) ⟨b, 4, none⟩ v4) ⟨b, 5, none⟩ v5) b [v0, v1, v2, v3, v4, v5] ∧
   Fr (· = b) H (hset (hset (hset (hset (hset (hset H ⟨b, 0, none⟩ v0) ⟨b, 1, none⟩ v1) ⟨b, 2, none⟩ v2) ⟨b, 3, none⟩ v3) ⟨b, 4, none⟩ v4) ⟨b, 5, none⟩ v5) :=
 ⟨(((((hb.set_same 0 _).set_same 1 _).set_same 2 _).set_same 3 _).set_same 4 _).set_same 5 _,
  Fr.set (S := (· = b)) (Fr.set (S := (· = b)) (Fr.set (S := (· = b)) (Fr.set (S := (· = b)) (Fr.set (S := (· = b)) (Fr.set (S := (· = b)) (Fr.refl _ H) (.inl rfl) _) (.inl rfl) _) (.inl rfl) _) (.inl rfl) _) (.inl rfl) _) (.inl rfl) _⟩
end Go.Proofs.Ytafehbegoanajaa
