/-
  The document's oracle: which edges may be; Of.
  What is lent and whether it was kept; what an oracle tells beside the document's.
  BridgePlays.
  What a law's walk is told of slices of edges that came in.
-/
import Derived.Test.YtpeaogldojepnaaG3
import Derived.Test.YtpeaogldojepnaaHpU
namespace Go.Proofs.Ytpeaogldojepnaa
open Go Go.Hp Go.Li Go.Br
set_option linter.all false
set_option maxRecDepth 100000
set_option maxHeartbeats 3200000
section
variable {H : Heap} {l : List Ed} {n c : Nat} {a : Option Addr} {L : Value → Heap → Prop}
theorem dmay_ok (hl : RawE H a c l) (hlen : l.length ≤ 192) {k : Nat} {x : Ed} (hx : l[k]? = some x) (fin : ∀ H' b, (b = true ↔ MayK n l k) → Fr (fun _ => False) H H' → L (.bool b) H') :
  CallsH Try.prog 30 #[.int .i64 (n : Nat), .slice a l.length c, .int .i64 (k : Nat)] H L := by
 have hk : k < l.length := (List.getElem?_eq_some_iff.1 hx).1
 have tk : (k < l.length) = True := eq_true hk
 obtain ⟨q, rfl, hq, q0, q1, q2, q3⟩ := hl.at hx
 refine call30 (by simp) ?_
 simp only [Try.f30, Option.getD_some]
 repeat' (first|(with_reducible first|refine jA ?_|(refine hK _ _ ?_;clear hK K)|refine jJ fun K hK=>?_|refine jK ?_|refine jL ?_|refine jM ?_|refine jN ?_|refine jO ?_|refine jP ?_|refine jQ ?_|(refine jB ?_;clear hK K)|(refine jC ?_;clear hK K)|refine jD ?_|refine jE ?_|refine jG ?_|refine jH ?_|refine jI ?_)|((with_reducible refine jR ?hq ?_);case hq=>rfl)|((first|(with_reducible first|refine jS fun K hK=>?_|refine jT ?_|refine jU ?_)|((with_reducible refine jV ?hy fun K hK=>?_);case hy=>rfl));simp only [go_sem, Nat.reduceEqDiff, Nat.reduceAdd, Nat.reduceMul, Nat.reduceLeDiff, Nat.reduceLT, Int.reduceLT, Int.reduceLE, Int.reduceEq, Int.reduceNeg, Int.reduceToNat, Nat.reducePow, reduceIte, reduceCtorEq, tk, q0, q1, q2, q3, add_succ', hcell_push, hcell_top, okW_push, okW_top, hcell_hset_ne, hcell_hset_off, hcell_hset_eq, okW_hset, hset_size, Array.size_push, Nat.lt_add_one, ne_add_one, add_one_ne, Nat.add_assoc, add_same, add_lt_same, Nat.reduceEqDiff, lt_add_k, add_k_ne, ne_add_k])|((with_reducible first|refine jW ?hy ?_|refine jY ?hy ?_);case hy=>rfl)|((with_reducible first|refine jX ?hy ?_|refine jZ ?hy ?_);case hy=>rfl)|((with_reducible refine jF ?hy ?_);case hy=>decide))
 obtain ⟨b3, f3⟩ := edge_box (H := H) x (T0 := 35)
 generalize hset _ _ _ = H3 at b3 f3 ⊢
 have d0 := b3.cellOf (i := 0) rfl
 have d1 := b3.cellOf (i := 1) rfl
 have d2 := b3.cellOf (i := 2) rfl
 have d3 := b3.cellOf (i := 3) rfl
 have bad : okEd n x = false → L (.bool false) H3 := fun h => fin H3 false ⟨nofun, fun hm => by rw [(hm x hx).1] at h; cases h⟩ f3
 by_cases h0 : x.u < 0
 ·have u0 : (x.u < 0) = True := eq_true h0
  simp only [u0, decide_true]
  repeat' (first|(with_reducible first|refine jA ?_|(refine hK _ _ ?_;clear hK K)|refine jJ fun K hK=>?_|refine jK ?_|refine jL ?_|refine jM ?_|refine jN ?_|refine jO ?_|refine jP ?_|refine jQ ?_|(refine jB ?_;clear hK K)|(refine jC ?_;clear hK K)|refine jD ?_|refine jE ?_|refine jG ?_|refine jH ?_|refine jI ?_)|((with_reducible refine jR ?hq ?_);case hq=>rfl)|((first|(with_reducible first|refine jS fun K hK=>?_|refine jT ?_|refine jU ?_)|((with_reducible refine jV ?hy fun K hK=>?_);case hy=>rfl));simp only [go_sem, Nat.reduceEqDiff, Nat.reduceAdd, Nat.reduceMul, Nat.reduceLeDiff, Nat.reduceLT, Int.reduceLT, Int.reduceLE, Int.reduceEq, Int.reduceNeg, Int.reduceToNat, Nat.reducePow, reduceIte, reduceCtorEq, u0, d0, d1, d2, d3])|((with_reducible first|refine jW ?hy ?_|refine jY ?hy ?_);case hy=>rfl)|((with_reducible first|refine jX ?hy ?_|refine jZ ?hy ?_);case hy=>rfl)|((with_reducible refine jF ?hy ?_);case hy=>decide))
  exact bad (by unfold okEd; exact decide_eq_false fun hx' => by omega)
 have u0 : (x.u < 0) = False := eq_false h0
 simp only [u0, decide_false]
 by_cases h1 : (n : Int) ≤ x.u
 ·have u1 : ((n : Int) ≤ x.u) = True := eq_true h1
  repeat' (first|(with_reducible first|refine jA ?_|(refine hK _ _ ?_;clear hK K)|refine jJ fun K hK=>?_|refine jK ?_|refine jL ?_|refine jM ?_|refine jN ?_|refine jO ?_|refine jP ?_|refine jQ ?_|(refine jB ?_;clear hK K)|(refine jC ?_;clear hK K)|refine jD ?_|refine jE ?_|refine jG ?_|refine jH ?_|refine jI ?_)|((with_reducible refine jR ?hq ?_);case hq=>rfl)|((first|(with_reducible first|refine jS fun K hK=>?_|refine jT ?_|refine jU ?_)|((with_reducible refine jV ?hy fun K hK=>?_);case hy=>rfl));simp only [go_sem, Nat.reduceEqDiff, Nat.reduceAdd, Nat.reduceMul, Nat.reduceLeDiff, Nat.reduceLT, Int.reduceLT, Int.reduceLE, Int.reduceEq, Int.reduceNeg, Int.reduceToNat, Nat.reducePow, reduceIte, reduceCtorEq, u0, u1, d0, d1, d2, d3])|((with_reducible first|refine jW ?hy ?_|refine jY ?hy ?_);case hy=>rfl)|((with_reducible first|refine jX ?hy ?_|refine jZ ?hy ?_);case hy=>rfl)|((with_reducible refine jF ?hy ?_);case hy=>decide))
  exact bad (by unfold okEd; exact decide_eq_false fun hx' => by omega)
 have u1 : ((n : Int) ≤ x.u) = False := eq_false h1
 by_cases h2 : x.v < 0
 ·have u2 : (x.v < 0) = True := eq_true h2
  repeat' (first|(with_reducible first|refine jA ?_|(refine hK _ _ ?_;clear hK K)|refine jJ fun K hK=>?_|refine jK ?_|refine jL ?_|refine jM ?_|refine jN ?_|refine jO ?_|refine jP ?_|refine jQ ?_|(refine jB ?_;clear hK K)|(refine jC ?_;clear hK K)|refine jD ?_|refine jE ?_|refine jG ?_|refine jH ?_|refine jI ?_)|((with_reducible refine jR ?hq ?_);case hq=>rfl)|((first|(with_reducible first|refine jS fun K hK=>?_|refine jT ?_|refine jU ?_)|((with_reducible refine jV ?hy fun K hK=>?_);case hy=>rfl));simp only [go_sem, Nat.reduceEqDiff, Nat.reduceAdd, Nat.reduceMul, Nat.reduceLeDiff, Nat.reduceLT, Int.reduceLT, Int.reduceLE, Int.reduceEq, Int.reduceNeg, Int.reduceToNat, Nat.reducePow, reduceIte, reduceCtorEq, u0, u1, u2, d0, d1, d2, d3])|((with_reducible first|refine jW ?hy ?_|refine jY ?hy ?_);case hy=>rfl)|((with_reducible first|refine jX ?hy ?_|refine jZ ?hy ?_);case hy=>rfl)|((with_reducible refine jF ?hy ?_);case hy=>decide))
  exact bad (by unfold okEd; exact decide_eq_false fun hx' => by omega)
 have u2 : (x.v < 0) = False := eq_false h2
 by_cases h3 : (n : Int) ≤ x.v
 ·have u3 : ((n : Int) ≤ x.v) = True := eq_true h3
  repeat' (first|(with_reducible first|refine jA ?_|(refine hK _ _ ?_;clear hK K)|refine jJ fun K hK=>?_|refine jK ?_|refine jL ?_|refine jM ?_|refine jN ?_|refine jO ?_|refine jP ?_|refine jQ ?_|(refine jB ?_;clear hK K)|(refine jC ?_;clear hK K)|refine jD ?_|refine jE ?_|refine jG ?_|refine jH ?_|refine jI ?_)|((with_reducible refine jR ?hq ?_);case hq=>rfl)|((first|(with_reducible first|refine jS fun K hK=>?_|refine jT ?_|refine jU ?_)|((with_reducible refine jV ?hy fun K hK=>?_);case hy=>rfl));simp only [go_sem, Nat.reduceEqDiff, Nat.reduceAdd, Nat.reduceMul, Nat.reduceLeDiff, Nat.reduceLT, Int.reduceLT, Int.reduceLE, Int.reduceEq, Int.reduceNeg, Int.reduceToNat, Nat.reducePow, reduceIte, reduceCtorEq, u0, u1, u2, u3, d0, d1, d2, d3])|((with_reducible first|refine jW ?hy ?_|refine jY ?hy ?_);case hy=>rfl)|((with_reducible first|refine jX ?hy ?_|refine jZ ?hy ?_);case hy=>rfl)|((with_reducible refine jF ?hy ?_);case hy=>decide))
  exact bad (by unfold okEd; exact decide_eq_false fun hx' => by omega)
 have u3 : ((n : Int) ≤ x.v) = False := eq_false h3
 by_cases h4 : x.u = x.v
 ·have u4 : (x.u == x.v) = true := by simp [h4]
  repeat' (first|(with_reducible first|refine jA ?_|(refine hK _ _ ?_;clear hK K)|refine jJ fun K hK=>?_|refine jK ?_|refine jL ?_|refine jM ?_|refine jN ?_|refine jO ?_|refine jP ?_|refine jQ ?_|(refine jB ?_;clear hK K)|(refine jC ?_;clear hK K)|refine jD ?_|refine jE ?_|refine jG ?_|refine jH ?_|refine jI ?_)|((with_reducible refine jR ?hq ?_);case hq=>rfl)|((first|(with_reducible first|refine jS fun K hK=>?_|refine jT ?_|refine jU ?_)|((with_reducible refine jV ?hy fun K hK=>?_);case hy=>rfl));simp only [go_sem, Nat.reduceEqDiff, Nat.reduceAdd, Nat.reduceMul, Nat.reduceLeDiff, Nat.reduceLT, Int.reduceLT, Int.reduceLE, Int.reduceEq, Int.reduceNeg, Int.reduceToNat, Nat.reducePow, reduceIte, reduceCtorEq, u0, u1, u2, u3, u4, d0, d1, d2, d3])|((with_reducible first|refine jW ?hy ?_|refine jY ?hy ?_);case hy=>rfl)|((with_reducible first|refine jX ?hy ?_|refine jZ ?hy ?_);case hy=>rfl)|((with_reducible refine jF ?hy ?_);case hy=>decide))
  exact bad (by unfold okEd; exact decide_eq_false fun hx' => by omega)
 have u4 : (x.u == x.v) = false := beq_false_of_ne h4
 by_cases h5 : x.id < 0
 ·have u5 : (x.id < 0) = True := eq_true h5
  repeat' (first|(with_reducible first|refine jA ?_|(refine hK _ _ ?_;clear hK K)|refine jJ fun K hK=>?_|refine jK ?_|refine jL ?_|refine jM ?_|refine jN ?_|refine jO ?_|refine jP ?_|refine jQ ?_|(refine jB ?_;clear hK K)|(refine jC ?_;clear hK K)|refine jD ?_|refine jE ?_|refine jG ?_|refine jH ?_|refine jI ?_)|((with_reducible refine jR ?hq ?_);case hq=>rfl)|((first|(with_reducible first|refine jS fun K hK=>?_|refine jT ?_|refine jU ?_)|((with_reducible refine jV ?hy fun K hK=>?_);case hy=>rfl));simp only [go_sem, Nat.reduceEqDiff, Nat.reduceAdd, Nat.reduceMul, Nat.reduceLeDiff, Nat.reduceLT, Int.reduceLT, Int.reduceLE, Int.reduceEq, Int.reduceNeg, Int.reduceToNat, Nat.reducePow, reduceIte, reduceCtorEq, u0, u1, u2, u3, u4, u5, d0, d1, d2, d3])|((with_reducible first|refine jW ?hy ?_|refine jY ?hy ?_);case hy=>rfl)|((with_reducible first|refine jX ?hy ?_|refine jZ ?hy ?_);case hy=>rfl)|((with_reducible refine jF ?hy ?_);case hy=>decide))
  exact bad (by unfold okEd; exact decide_eq_false fun hx' => by omega)
 have u5 : (x.id < 0) = False := eq_false h5
 by_cases h6 : 1099511627776 < x.id
 ·have u6 : (1099511627776 < x.id) = True := eq_true h6
  repeat' (first|(with_reducible first|refine jA ?_|(refine hK _ _ ?_;clear hK K)|refine jJ fun K hK=>?_|refine jK ?_|refine jL ?_|refine jM ?_|refine jN ?_|refine jO ?_|refine jP ?_|refine jQ ?_|(refine jB ?_;clear hK K)|(refine jC ?_;clear hK K)|refine jD ?_|refine jE ?_|refine jG ?_|refine jH ?_|refine jI ?_)|((with_reducible refine jR ?hq ?_);case hq=>rfl)|((first|(with_reducible first|refine jS fun K hK=>?_|refine jT ?_|refine jU ?_)|((with_reducible refine jV ?hy fun K hK=>?_);case hy=>rfl));simp only [go_sem, Nat.reduceEqDiff, Nat.reduceAdd, Nat.reduceMul, Nat.reduceLeDiff, Nat.reduceLT, Int.reduceLT, Int.reduceLE, Int.reduceEq, Int.reduceNeg, Int.reduceToNat, Nat.reducePow, reduceIte, reduceCtorEq, u0, u1, u2, u3, u4, u5, u6, d0, d1, d2, d3])|((with_reducible first|refine jW ?hy ?_|refine jY ?hy ?_);case hy=>rfl)|((with_reducible first|refine jX ?hy ?_|refine jZ ?hy ?_);case hy=>rfl)|((with_reducible refine jF ?hy ?_);case hy=>decide))
  exact bad (by unfold okEd; exact decide_eq_false fun hx' => by omega)
 have u6 : (1099511627776 < x.id) = False := eq_false h6
 by_cases h7 : x.w < -1099511627776
 ·have u7 : (x.w < -1099511627776) = True := eq_true h7
  repeat' (first|(with_reducible first|refine jA ?_|(refine hK _ _ ?_;clear hK K)|refine jJ fun K hK=>?_|refine jK ?_|refine jL ?_|refine jM ?_|refine jN ?_|refine jO ?_|refine jP ?_|refine jQ ?_|(refine jB ?_;clear hK K)|(refine jC ?_;clear hK K)|refine jD ?_|refine jE ?_|refine jG ?_|refine jH ?_|refine jI ?_)|((with_reducible refine jR ?hq ?_);case hq=>rfl)|((first|(with_reducible first|refine jS fun K hK=>?_|refine jT ?_|refine jU ?_)|((with_reducible refine jV ?hy fun K hK=>?_);case hy=>rfl));simp only [go_sem, Nat.reduceEqDiff, Nat.reduceAdd, Nat.reduceMul, Nat.reduceLeDiff, Nat.reduceLT, Int.reduceLT, Int.reduceLE, Int.reduceEq, Int.reduceNeg, Int.reduceToNat, Nat.reducePow, reduceIte, reduceCtorEq, u0, u1, u2, u3, u4, u5, u6, u7, d0, d1, d2, d3])|((with_reducible first|refine jW ?hy ?_|refine jY ?hy ?_);case hy=>rfl)|((with_reducible first|refine jX ?hy ?_|refine jZ ?hy ?_);case hy=>rfl)|((with_reducible refine jF ?hy ?_);case hy=>decide))
  exact bad (by unfold okEd; exact decide_eq_false fun hx' => by omega)
 have u7 : (x.w < -1099511627776) = False := eq_false h7
 by_cases h8 : 1099511627776 < x.w
 ·have u8 : (1099511627776 < x.w) = True := eq_true h8
  repeat' (first|(with_reducible first|refine jA ?_|(refine hK _ _ ?_;clear hK K)|refine jJ fun K hK=>?_|refine jK ?_|refine jL ?_|refine jM ?_|refine jN ?_|refine jO ?_|refine jP ?_|refine jQ ?_|(refine jB ?_;clear hK K)|(refine jC ?_;clear hK K)|refine jD ?_|refine jE ?_|refine jG ?_|refine jH ?_|refine jI ?_)|((with_reducible refine jR ?hq ?_);case hq=>rfl)|((first|(with_reducible first|refine jS fun K hK=>?_|refine jT ?_|refine jU ?_)|((with_reducible refine jV ?hy fun K hK=>?_);case hy=>rfl));simp only [go_sem, Nat.reduceEqDiff, Nat.reduceAdd, Nat.reduceMul, Nat.reduceLeDiff, Nat.reduceLT, Int.reduceLT, Int.reduceLE, Int.reduceEq, Int.reduceNeg, Int.reduceToNat, Nat.reducePow, reduceIte, reduceCtorEq, u0, u1, u2, u3, u4, u5, u6, u7, u8, d0, d1, d2, d3])|((with_reducible first|refine jW ?hy ?_|refine jY ?hy ?_);case hy=>rfl)|((with_reducible first|refine jX ?hy ?_|refine jZ ?hy ?_);case hy=>rfl)|((with_reducible refine jF ?hy ?_);case hy=>decide))
  exact bad (by unfold okEd; exact decide_eq_false fun hx' => by omega)
 have u8 : (1099511627776 < x.w) = False := eq_false h8
 have hxok : okEd n x = true := by unfold okEd; exact decide_eq_true (by omega)
 clear bad
 repeat' (first|(with_reducible first|refine jA ?_|(refine hK _ _ ?_;clear hK K)|refine jJ fun K hK=>?_|refine jK ?_|refine jL ?_|refine jM ?_|refine jN ?_|refine jO ?_|refine jP ?_|refine jQ ?_|(refine jB ?_;clear hK K)|(refine jC ?_;clear hK K)|refine jD ?_|refine jE ?_|refine jG ?_|refine jH ?_|refine jI ?_)|((with_reducible refine jR ?hq ?_);case hq=>rfl)|((first|(with_reducible first|refine jS fun K hK=>?_|refine jT ?_|refine jU ?_)|((with_reducible refine jV ?hy fun K hK=>?_);case hy=>rfl));simp only [go_sem, Nat.reduceEqDiff, Nat.reduceAdd, Nat.reduceMul, Nat.reduceLeDiff, Nat.reduceLT, Int.reduceLT, Int.reduceLE, Int.reduceEq, Int.reduceNeg, Int.reduceToNat, Nat.reducePow, reduceIte, reduceCtorEq, u0, u1, u2, u3, u4, u5, u6, u7, u8, d0, d1, d2, d3])|((with_reducible first|refine jW ?hy ?_|refine jY ?hy ?_);case hy=>rfl)|((with_reducible first|refine jX ?hy ?_|refine jZ ?hy ?_);case hy=>rfl)|((with_reducible refine jF ?hy ?_);case hy=>decide))
 refine x_loop (fun m e' H' => H' = H3 ∧ ∃ i : Nat, e' 8 = .int .i64 (i : Nat) ∧ i ≤ k ∧ (∀ j y, j < i → l[j]? = some y → y.id ≠ x.id) ∧ m = k - i) k ⟨rfl, 0, rfl, Nat.zero_le _, fun j y h => absurd h (Nat.not_lt_zero _), rfl⟩ ?_
 rintro m e1 H4 ⟨rfl, i, i8, hi, hno, hm⟩ hoff
 have i1 : e1 1 = .slice (some q) l.length c := (hoff 1 rfl).trans rfl
 have i2 : e1 2 = .int .i64 (k : Nat) := (hoff 2 rfl).trans rfl
 have i7 : e1 7 = .pointer (some ⟨H.size, 0, none⟩) := (hoff 7 rfl).trans rfl
 clear hoff
 have ew : IntKind.i64.wrap ((i : Int) + 1) = ((i + 1 : Nat) : Int) := by rw [wrap_i64] <;> omega
 by_cases hlt : i < k
 ·have t1 : ((i : Int) < (k : Int)) = True := eq_true (by omega)
  have t1' : (i < k) = True := eq_true hlt
  have t2 : (i < l.length) = True := eq_true (by omega)
  obtain ⟨y, hy⟩ : ∃ y, l[i]? = some y := ⟨_, List.getElem?_eq_getElem (by omega)⟩
  obtain ⟨q', e, hq', p0, _⟩ := (hl.frame f3).at hy
  obtain rfl := Option.some.inj e
  by_cases hid : y.id = x.id
  ·have t3 : (y.id == x.id) = true := by simp [hid]
   repeat' (first|(with_reducible first|refine jA ?_|(refine hK _ _ ?_;clear hK K)|refine jJ fun K hK=>?_|refine jK ?_|refine jL ?_|refine jM ?_|refine jN ?_|refine jO ?_|refine jP ?_|refine jQ ?_|(refine jB ?_;clear hK K)|(refine jC ?_;clear hK K)|refine jD ?_|refine jE ?_|refine jG ?_|refine jH ?_|refine jI ?_)|((with_reducible refine jR ?hq ?_);case hq=>rfl)|((first|(with_reducible first|refine jS fun K hK=>?_|refine jT ?_|refine jU ?_)|((with_reducible refine jV ?hy fun K hK=>?_);case hy=>rfl));simp only [go_sem, Nat.reduceEqDiff, Nat.reduceAdd, Nat.reduceMul, Nat.reduceLeDiff, Nat.reduceLT, Int.reduceLT, Int.reduceLE, Int.reduceEq, Int.reduceNeg, Int.reduceToNat, Nat.reducePow, reduceIte, reduceCtorEq, i1, i2, i7, i8, t1, t1', t2, p0, d0, t3])|((with_reducible first|refine jW ?hy ?_|refine jY ?hy ?_);case hy=>rfl)|((with_reducible first|refine jX ?hy ?_|refine jZ ?hy ?_);case hy=>rfl)|((with_reducible refine jF ?hy ?_);case hy=>decide))
   exact fin _ false ⟨nofun, fun h => absurd hid ((h x hx).2 i y hlt hy)⟩ f3
  ·have t3 : (y.id == x.id) = false := beq_false_of_ne hid
   repeat' (first|(with_reducible first|refine jA ?_|(refine hK _ _ ?_;clear hK K)|refine jJ fun K hK=>?_|refine jK ?_|refine jL ?_|refine jM ?_|refine jN ?_|refine jO ?_|refine jP ?_|refine jQ ?_|(refine jB ?_;clear hK K)|(refine jC ?_;clear hK K)|refine jD ?_|refine jE ?_|refine jG ?_|refine jH ?_|refine jI ?_)|((with_reducible refine jR ?hq ?_);case hq=>rfl)|((first|(with_reducible first|refine jS fun K hK=>?_|refine jT ?_|refine jU ?_)|((with_reducible refine jV ?hy fun K hK=>?_);case hy=>rfl));simp only [go_sem, Nat.reduceEqDiff, Nat.reduceAdd, Nat.reduceMul, Nat.reduceLeDiff, Nat.reduceLT, Int.reduceLT, Int.reduceLE, Int.reduceEq, Int.reduceNeg, Int.reduceToNat, Nat.reducePow, reduceIte, reduceCtorEq, i1, i2, i7, i8, t1, t1', t2, p0, d0, t3, ew])|((with_reducible first|refine jW ?hy ?_|refine jY ?hy ?_);case hy=>rfl)|((with_reducible first|refine jX ?hy ?_|refine jZ ?hy ?_);case hy=>rfl)|((with_reducible refine jF ?hy ?_);case hy=>decide))
   refine loop_normal (m' := k - (i + 1)) (by omega) ⟨rfl, i + 1, rfl, hlt, fun j z hj hz => ?_, rfl⟩
   rcases Nat.lt_succ_iff_lt_or_eq.1 hj with hj | rfl
   ·exact hno j z hj hz
   ·rw [hy] at hz
    rw [← Option.some.inj hz]
    exact hid
 ·have t1 : ((i : Int) < (k : Int)) = False := eq_false (by omega)
  have t1' : (i < k) = False := eq_false hlt
  obtain rfl : i = k := by omega
  repeat' (first|(with_reducible first|refine jA ?_|(refine hK _ _ ?_;clear hK K)|refine jJ fun K hK=>?_|refine jK ?_|refine jL ?_|refine jM ?_|refine jN ?_|refine jO ?_|refine jP ?_|refine jQ ?_|(refine jB ?_;clear hK K)|(refine jC ?_;clear hK K)|refine jD ?_|refine jE ?_|refine jG ?_|refine jH ?_|refine jI ?_)|((with_reducible refine jR ?hq ?_);case hq=>rfl)|((first|(with_reducible first|refine jS fun K hK=>?_|refine jT ?_|refine jU ?_)|((with_reducible refine jV ?hy fun K hK=>?_);case hy=>rfl));simp only [go_sem, Nat.reduceEqDiff, Nat.reduceAdd, Nat.reduceMul, Nat.reduceLeDiff, Nat.reduceLT, Int.reduceLT, Int.reduceLE, Int.reduceEq, Int.reduceNeg, Int.reduceToNat, Nat.reducePow, reduceIte, reduceCtorEq, i2, i8, t1, t1'])|((with_reducible first|refine jW ?hy ?_|refine jY ?hy ?_);case hy=>rfl)|((with_reducible first|refine jX ?hy ?_|refine jZ ?hy ?_);case hy=>rfl)|((with_reducible refine jF ?hy ?_);case hy=>decide))
  refine fin _ true ⟨fun _ z hz => ?_, fun _ => rfl⟩ f3
  rw [hx] at hz
  obtain rfl := Option.some.inj hz
  exact ⟨hxok, hno⟩
theorem dOf_few (hl : RawE H a c l) {m : Int} (h : m < 1 ∨ 64 < m ∨ 192 < l.length) (fin : L (.tuple #[.pointer none, .int .i64 1]) H) :
  CallsH Try.prog 17 #[.int .i64 m, .slice a l.length c] H L := by
 refine call17 (by simp) ?_
 simp only [Try.f17, Option.getD_some]
 by_cases h1 : m < 1
 ·have t1 : (m < 1) = True := eq_true h1
  repeat' (first|(with_reducible first|refine jA ?_|(refine hK _ _ ?_;clear hK K)|refine jJ fun K hK=>?_|refine jK ?_|refine jL ?_|refine jM ?_|refine jN ?_|refine jO ?_|refine jP ?_|refine jQ ?_|(refine jB ?_;clear hK K)|(refine jC ?_;clear hK K)|refine jD ?_|refine jE ?_|refine jG ?_|refine jH ?_|refine jI ?_)|((with_reducible refine jR ?hq ?_);case hq=>rfl)|((first|(with_reducible first|refine jS fun K hK=>?_|refine jT ?_|refine jU ?_)|((with_reducible refine jV ?hy fun K hK=>?_);case hy=>rfl));simp only [go_sem, Nat.reduceEqDiff, Nat.reduceAdd, Nat.reduceMul, Nat.reduceLeDiff, Nat.reduceLT, Int.reduceLT, Int.reduceLE, Int.reduceEq, Int.reduceNeg, Int.reduceToNat, Nat.reducePow, reduceIte, reduceCtorEq, t1])|((with_reducible first|refine jW ?hy ?_|refine jY ?hy ?_);case hy=>rfl)|((with_reducible first|refine jX ?hy ?_|refine jZ ?hy ?_);case hy=>rfl)|((with_reducible refine jF ?hy ?_);case hy=>decide))
  exact fin
 have t1 : (m < 1) = False := eq_false h1
 by_cases h2 : 64 < m
 ·have t2 : (64 < m) = True := eq_true h2
  repeat' (first|(with_reducible first|refine jA ?_|(refine hK _ _ ?_;clear hK K)|refine jJ fun K hK=>?_|refine jK ?_|refine jL ?_|refine jM ?_|refine jN ?_|refine jO ?_|refine jP ?_|refine jQ ?_|(refine jB ?_;clear hK K)|(refine jC ?_;clear hK K)|refine jD ?_|refine jE ?_|refine jG ?_|refine jH ?_|refine jI ?_)|((with_reducible refine jR ?hq ?_);case hq=>rfl)|((first|(with_reducible first|refine jS fun K hK=>?_|refine jT ?_|refine jU ?_)|((with_reducible refine jV ?hy fun K hK=>?_);case hy=>rfl));simp only [go_sem, Nat.reduceEqDiff, Nat.reduceAdd, Nat.reduceMul, Nat.reduceLeDiff, Nat.reduceLT, Int.reduceLT, Int.reduceLE, Int.reduceEq, Int.reduceNeg, Int.reduceToNat, Nat.reducePow, reduceIte, reduceCtorEq, t1, t2])|((with_reducible first|refine jW ?hy ?_|refine jY ?hy ?_);case hy=>rfl)|((with_reducible first|refine jX ?hy ?_|refine jZ ?hy ?_);case hy=>rfl)|((with_reducible refine jF ?hy ?_);case hy=>decide))
  exact fin
 have t2 : (64 < m) = False := eq_false h2
 have h3 : 192 < l.length := by omega
 have t3 : (192 < (l.length : Int)) = True := eq_true (by omega)
 have t3' : (192 < l.length) = True := eq_true h3
 repeat' (first|(with_reducible first|refine jA ?_|(refine hK _ _ ?_;clear hK K)|refine jJ fun K hK=>?_|refine jK ?_|refine jL ?_|refine jM ?_|refine jN ?_|refine jO ?_|refine jP ?_|refine jQ ?_|(refine jB ?_;clear hK K)|(refine jC ?_;clear hK K)|refine jD ?_|refine jE ?_|refine jG ?_|refine jH ?_|refine jI ?_)|((with_reducible refine jR ?hq ?_);case hq=>rfl)|((first|(with_reducible first|refine jS fun K hK=>?_|refine jT ?_|refine jU ?_)|((with_reducible refine jV ?hy fun K hK=>?_);case hy=>rfl));simp only [go_sem, Nat.reduceEqDiff, Nat.reduceAdd, Nat.reduceMul, Nat.reduceLeDiff, Nat.reduceLT, Int.reduceLT, Int.reduceLE, Int.reduceEq, Int.reduceNeg, Int.reduceToNat, Nat.reducePow, reduceIte, reduceCtorEq, t1, t2, t3, t3'])|((with_reducible first|refine jW ?hy ?_|refine jY ?hy ?_);case hy=>rfl)|((with_reducible first|refine jX ?hy ?_|refine jZ ?hy ?_);case hy=>rfl)|((with_reducible refine jF ?hy ?_);case hy=>decide))
 exact fin
theorem dOf_ok (hl : RawE H a c l) (hn1 : 1 ≤ n) (hn : n ≤ 64) (hlen : l.length ≤ 192)
  (bad : ¬ May n l → ∀ H', Fr (fun _ => False) H H' → L (.tuple #[.pointer none, .int .i64 81]) H')
  (fin : May n l → ∀ H' o T ids p, RoM H' o T ids p n → (∀ b, T b → H.size ≤ b) → IsBr l ids → ids.length ≤ l.length → Least (Firm l) n p → Fr (fun _ => False) H H' → L (.tuple #[.pointer (some ⟨o, 0, none⟩), .int .i64 0]) H') :
  CallsH Try.prog 17 #[.int .i64 (n : Nat), .slice a l.length c] H L := by
 have t1 : ((n : Int) < 1) = False := eq_false (by omega)
 have t1' : (n < 1) = False := eq_false (by omega)
 have t2 : (64 < (n : Int)) = False := eq_false (by omega)
 have t2' : (64 < n) = False := eq_false (by omega)
 have t3 : (192 < (l.length : Int)) = False := eq_false (by omega)
 have t3' : (192 < l.length) = False := eq_false (by omega)
 refine call17 (by simp) ?_
 simp only [Try.f17, Option.getD_some]
 repeat' (first|(with_reducible first|refine jA ?_|(refine hK _ _ ?_;clear hK K)|refine jJ fun K hK=>?_|refine jK ?_|refine jL ?_|refine jM ?_|refine jN ?_|refine jO ?_|refine jP ?_|refine jQ ?_|(refine jB ?_;clear hK K)|(refine jC ?_;clear hK K)|refine jD ?_|refine jE ?_|refine jG ?_|refine jH ?_|refine jI ?_)|((with_reducible refine jR ?hq ?_);case hq=>rfl)|((first|(with_reducible first|refine jS fun K hK=>?_|refine jT ?_|refine jU ?_)|((with_reducible refine jV ?hy fun K hK=>?_);case hy=>rfl));simp only [go_sem, Nat.reduceEqDiff, Nat.reduceAdd, Nat.reduceMul, Nat.reduceLeDiff, Nat.reduceLT, Int.reduceLT, Int.reduceLE, Int.reduceEq, Int.reduceNeg, Int.reduceToNat, Nat.reducePow, reduceIte, reduceCtorEq, t1, t1', t2, t2', t3, t3'])|((with_reducible first|refine jW ?hy ?_|refine jY ?hy ?_);case hy=>rfl)|((with_reducible first|refine jX ?hy ?_|refine jZ ?hy ?_);case hy=>rfl)|((with_reducible refine jF ?hy ?_);case hy=>decide))
 refine x_loop (fun m e' H' => ∃ i : Nat, e' 6 = .int .i64 (i : Nat) ∧ i ≤ l.length ∧ (∀ j, j < i → MayK n l j) ∧ Fr (fun _ => False) H H' ∧ m = l.length - i) l.length ⟨0, rfl, Nat.zero_le _, fun j h => absurd h (Nat.not_lt_zero _), Fr.refl _ _, rfl⟩ ?_
 rintro m e1 H1 ⟨i, i6, hi, hok, f1, hm⟩ hoff
 have i0 : e1 0 = .int .i64 (n : Nat) := (hoff 0 rfl).trans rfl
 have i1 : e1 1 = .slice a l.length c := (hoff 1 rfl).trans rfl
 clear hoff t1 t1' t2 t2' t3 t3'
 have ew : IntKind.i64.wrap ((i : Int) + 1) = ((i + 1 : Nat) : Int) := by rw [wrap_i64] <;> omega
 by_cases hlt : i < l.length
 ·have t1 : ((i : Int) < (l.length : Int)) = True := eq_true (by omega)
  have t1' : (i < l.length) = True := eq_true hlt
  repeat' (first|(with_reducible first|refine jA ?_|(refine hK _ _ ?_;clear hK K)|refine jJ fun K hK=>?_|refine jK ?_|refine jL ?_|refine jM ?_|refine jN ?_|refine jO ?_|refine jP ?_|refine jQ ?_|(refine jB ?_;clear hK K)|(refine jC ?_;clear hK K)|refine jD ?_|refine jE ?_|refine jG ?_|refine jH ?_|refine jI ?_)|((with_reducible refine jR ?hq ?_);case hq=>rfl)|((first|(with_reducible first|refine jS fun K hK=>?_|refine jT ?_|refine jU ?_)|((with_reducible refine jV ?hy fun K hK=>?_);case hy=>rfl));simp only [go_sem, Nat.reduceEqDiff, Nat.reduceAdd, Nat.reduceMul, Nat.reduceLeDiff, Nat.reduceLT, Int.reduceLT, Int.reduceLE, Int.reduceEq, Int.reduceNeg, Int.reduceToNat, Nat.reducePow, reduceIte, reduceCtorEq, i0, i1, i6, t1, t1'])|((with_reducible first|refine jW ?hy ?_|refine jY ?hy ?_);case hy=>rfl)|((with_reducible first|refine jX ?hy ?_|refine jZ ?hy ?_);case hy=>rfl)|((with_reducible refine jF ?hy ?_);case hy=>decide))
  refine dmay_ok (n := n) (hl.frame f1) hlen (List.getElem?_eq_getElem hlt) fun H2 b hb f2 => ?_
  cases b with
  | false =>
   repeat' (first|(with_reducible first|refine jA ?_|(refine hK _ _ ?_;clear hK K)|refine jJ fun K hK=>?_|refine jK ?_|refine jL ?_|refine jM ?_|refine jN ?_|refine jO ?_|refine jP ?_|refine jQ ?_|(refine jB ?_;clear hK K)|(refine jC ?_;clear hK K)|refine jD ?_|refine jE ?_|refine jG ?_|refine jH ?_|refine jI ?_)|((with_reducible refine jR ?hq ?_);case hq=>rfl)|((first|(with_reducible first|refine jS fun K hK=>?_|refine jT ?_|refine jU ?_)|((with_reducible refine jV ?hy fun K hK=>?_);case hy=>rfl));simp only [go_sem, Nat.reduceEqDiff, Nat.reduceAdd, Nat.reduceMul, Nat.reduceLeDiff, Nat.reduceLT, Int.reduceLT, Int.reduceLE, Int.reduceEq, Int.reduceNeg, Int.reduceToNat, Nat.reducePow, reduceIte, reduceCtorEq, Bool.not_false])|((with_reducible first|refine jW ?hy ?_|refine jY ?hy ?_);case hy=>rfl)|((with_reducible first|refine jX ?hy ?_|refine jZ ?hy ?_);case hy=>rfl)|((with_reducible refine jF ?hy ?_);case hy=>decide))
   exact bad (fun h => by have := hb.2 (may_iff.1 h i hlt); cases this) H2 (f1.trans f2)
  | true =>
   repeat' (first|(with_reducible first|refine jA ?_|(refine hK _ _ ?_;clear hK K)|refine jJ fun K hK=>?_|refine jK ?_|refine jL ?_|refine jM ?_|refine jN ?_|refine jO ?_|refine jP ?_|refine jQ ?_|(refine jB ?_;clear hK K)|(refine jC ?_;clear hK K)|refine jD ?_|refine jE ?_|refine jG ?_|refine jH ?_|refine jI ?_)|((with_reducible refine jR ?hq ?_);case hq=>rfl)|((first|(with_reducible first|refine jS fun K hK=>?_|refine jT ?_|refine jU ?_)|((with_reducible refine jV ?hy fun K hK=>?_);case hy=>rfl));simp only [go_sem, Nat.reduceEqDiff, Nat.reduceAdd, Nat.reduceMul, Nat.reduceLeDiff, Nat.reduceLT, Int.reduceLT, Int.reduceLE, Int.reduceEq, Int.reduceNeg, Int.reduceToNat, Nat.reducePow, reduceIte, reduceCtorEq, Bool.not_true, i6, ew])|((with_reducible first|refine jW ?hy ?_|refine jY ?hy ?_);case hy=>rfl)|((with_reducible first|refine jX ?hy ?_|refine jZ ?hy ?_);case hy=>rfl)|((with_reducible refine jF ?hy ?_);case hy=>decide))
   refine loop_normal (m' := l.length - (i + 1)) (by omega) ⟨i + 1, rfl, hlt, fun j hj => ?_, f1.trans f2, rfl⟩
   rcases Nat.lt_succ_iff_lt_or_eq.1 hj with hj | rfl
   ·exact hok j hj
   ·exact hb.1 rfl
 have t1 : ((i : Int) < (l.length : Int)) = False := eq_false (by omega)
 have t1' : (i < l.length) = False := eq_false hlt
 obtain rfl : i = l.length := by omega
 have hmay : May n l := may_iff.2 hok
 have fin := fin hmay
 clear bad hok hm ew
 repeat' (first|(with_reducible first|refine jA ?_|(refine hK _ _ ?_;clear hK K)|refine jJ fun K hK=>?_|refine jK ?_|refine jL ?_|refine jM ?_|refine jN ?_|refine jO ?_|refine jP ?_|refine jQ ?_|(refine jB ?_;clear hK K)|(refine jC ?_;clear hK K)|refine jD ?_|refine jE ?_|refine jG ?_|refine jH ?_|refine jI ?_)|((with_reducible refine jR ?hq ?_);case hq=>rfl)|((first|(with_reducible first|refine jS fun K hK=>?_|refine jT ?_|refine jU ?_)|((with_reducible refine jV ?hy fun K hK=>?_);case hy=>rfl));simp only [go_sem, Nat.reduceEqDiff, Nat.reduceAdd, Nat.reduceMul, Nat.reduceLeDiff, Nat.reduceLT, Int.reduceLT, Int.reduceLE, Int.reduceEq, Int.reduceNeg, Int.reduceToNat, Nat.reducePow, reduceIte, reduceCtorEq, i0, i1, i6, t1, t1', hcell_push, hcell_top, okW_push, okW_top, hcell_hset_ne, hcell_hset_off, hcell_hset_eq, okW_hset, hset_size, Array.size_push, Nat.lt_add_one, ne_add_one, add_one_ne, Nat.add_assoc, add_same, add_lt_same, Nat.reduceEqDiff, lt_add_k, add_k_ne, ne_add_k])|((with_reducible first|refine jW ?hy ?_|refine jY ?hy ?_);case hy=>rfl)|((with_reducible first|refine jX ?hy ?_|refine jZ ?hy ?_);case hy=>rfl)|((with_reducible refine jF ?hy ?_);case hy=>decide))
 have hb0 : Blk (H1.push (.cells #[.int .i64 (n : Nat), .slice none 0 0, .slice none 0 0] 69)) H1.size [.int .i64 (n : Nat), .slice none 0 0, .slice none 0 0] := Blk.new H1 _ _
 generalize hH2 : H1.push _ = H2 at hb0 ⊢
 have f2 : Fr (fun _ => False) H1 H2 := by rw [← hH2]; exact (Fr.refl _ _).push _
 have z2 : H2.size = H1.size + 1 := by rw [← hH2]; simp
 clear hH2
 obtain ⟨o, ho⟩ : ∃ o, o = H1.size := ⟨_, rfl⟩
 rw [← ho] at hb0 z2 ⊢
 have hends := may_ends hmay
 have hnd : (l.map (·.id)).Nodup := hmay.2
 refine x_loop (fun m e' H' => ∃ (k : Nat) (Bb Bf : Option Nat) (vb wf : Value) (ids : List Int) (firm : List Ed), e' 10 = .int .i64 (k : Nat) ∧ e' 9 = wf ∧ k ≤ l.length ∧ Blk H' o [.int .i64 (n : Nat), vb, .slice none 0 0] ∧ IR H' Bb vb ids ∧ SR Ed.cells 4 H' Bf wf firm ∧ Dv l k ids firm ∧
   (∀ b, Bb = some b → o < b ∧ Bf ≠ some b) ∧ (∀ b, Bf = some b → o < b) ∧ Fr (fun _ => False) H1 H' ∧ m = l.length - k) l.length
  ⟨0, none, none, _, _, [], [], rfl, rfl, Nat.zero_le _, hb0, IR.nil _, SR.nil _ _ _, Dv.init l, nofun, nofun, f2, rfl⟩ ?_
 rintro m e2 H3 ⟨k, Bb, Bf, vb, wf, ids, firm, i10, i9, hk, hb, hids, hfirm, hD, hBb, hBf, f3, hm⟩ hoff
 have j0 : e2 0 = .int .i64 (n : Nat) := (hoff 0 rfl).trans i0
 have j1 : e2 1 = .slice a l.length c := (hoff 1 rfl).trans i1
 have j8 : e2 8 = .pointer (some ⟨o, 0, none⟩) := (hoff 8 rfl).trans rfl
 clear hoff i0 i1
 have hlt3 := hb.lt
 have hl3 := (hl.frame f1).frame f3
 have ew : IntKind.i64.wrap ((k : Int) + 1) = ((k + 1 : Nat) : Int) := by rw [wrap_i64] <;> omega
 obtain ⟨af, cf, rfl⟩ := id hfirm.slice
 obtain ⟨ab, cb, rfl⟩ := id hids.slice
 have hil := hD.len
 have hfl := hD.fl
 by_cases hlt : k < l.length
 ·have t1 : ((k : Int) < (l.length : Int)) = True := eq_true (by omega)
  have t1' : (k < l.length) = True := eq_true hlt
  have t2 : (k ≤ c) = True := eq_true (by have := hl3.cap; omega)
  have t3 : (k + 1 ≤ l.length) = True := eq_true hlt
  have t4 : (l.length ≤ c) = True := eq_true hl3.cap
  repeat' (first|(with_reducible first|refine jA ?_|(refine hK _ _ ?_;clear hK K)|refine jJ fun K hK=>?_|refine jK ?_|refine jL ?_|refine jM ?_|refine jN ?_|refine jO ?_|refine jP ?_|refine jQ ?_|(refine jB ?_;clear hK K)|(refine jC ?_;clear hK K)|refine jD ?_|refine jE ?_|refine jG ?_|refine jH ?_|refine jI ?_)|((with_reducible refine jR ?hq ?_);case hq=>rfl)|((first|(with_reducible first|refine jS fun K hK=>?_|refine jT ?_|refine jU ?_)|((with_reducible refine jV ?hy fun K hK=>?_);case hy=>rfl));simp only [go_sem, Nat.reduceEqDiff, Nat.reduceAdd, Nat.reduceMul, Nat.reduceLeDiff, Nat.reduceLT, Int.reduceLT, Int.reduceLE, Int.reduceEq, Int.reduceNeg, Int.reduceToNat, Nat.reducePow, reduceIte, reduceCtorEq, j1, i10, t1, t1', t2])|((with_reducible first|refine jW ?hy ?_|refine jY ?hy ?_);case hy=>rfl)|((with_reducible first|refine jX ?hy ?_|refine jZ ?hy ?_);case hy=>rfl)|((with_reducible refine jF ?hy ?_);case hy=>decide))
  refine append_raw (lo := 0) (hi := k) (ys := l) elems25 tl35 (SR.nil Ed.cells 4 H3) hl3 (Nat.zero_le _) (by omega) (by first | exact whole_st _ _ _ | rfl | simp) (by first | rfl | simp) (by decide) (by simp; omega) rfl fun w1 H4 B1 h1 hf1 hB1 => ?_
  rw [List.drop_zero, Nat.sub_zero, List.nil_append] at h1
  have f4 : Fr (fun _ => False) H3 H4 := hf1.mono fun b _ h => by cases h
  have hB1' : ∀ b, B1 = some b → H3.size ≤ b := fun b hb => by
   rcases hB1 with e | ⟨g', hg, hge⟩
   ·rw [e] at hb; cases hb
   ·rw [hg] at hb
    obtain rfl := Option.some.inj hb
    exact hge
  obtain ⟨a1, c1, rfl⟩ := id h1.slice
  repeat' (first|(with_reducible first|refine jA ?_|(refine hK _ _ ?_;clear hK K)|refine jJ fun K hK=>?_|refine jK ?_|refine jL ?_|refine jM ?_|refine jN ?_|refine jO ?_|refine jP ?_|refine jQ ?_|(refine jB ?_;clear hK K)|(refine jC ?_;clear hK K)|refine jD ?_|refine jE ?_|refine jG ?_|refine jH ?_|refine jI ?_)|((with_reducible refine jR ?hq ?_);case hq=>rfl)|((first|(with_reducible first|refine jS fun K hK=>?_|refine jT ?_|refine jU ?_)|((with_reducible refine jV ?hy fun K hK=>?_);case hy=>rfl));simp only [go_sem, Nat.reduceEqDiff, Nat.reduceAdd, Nat.reduceMul, Nat.reduceLeDiff, Nat.reduceLT, Int.reduceLT, Int.reduceLE, Int.reduceEq, Int.reduceNeg, Int.reduceToNat, Nat.reducePow, reduceIte, reduceCtorEq, j1, i10, ew, t3, t4])|((with_reducible first|refine jW ?hy ?_|refine jY ?hy ?_);case hy=>rfl)|((with_reducible first|refine jX ?hy ?_|refine jZ ?hy ?_);case hy=>rfl)|((with_reducible refine jF ?hy ?_);case hy=>decide))
  refine append_raw (lo := k + 1) (hi := l.length) (ys := l) elems25 tl35 h1 (hl3.frame f4) (by omega) (Nat.le_refl _) (by first | rfl | simp) (by first | rfl | simp) (by decide) (by simp; omega) rfl fun w2 H5 B2 h2 hf2 hB2 => ?_
  have e2 : (l.drop (k + 1)).take (l.length - (k + 1)) = l.drop (k + 1) := List.take_of_length_le (by rw [List.length_drop]; exact Nat.le_refl _)
  rw [e2] at h2
  have f5 : Fr (fun _ => False) H3 H5 := f4.trans' hf2 fun b hb e => by have := hB1' b e; omega
  obtain ⟨a2, c2, rfl⟩ := id h2.slice
  have h2 : SR Ed.cells 4 H5 B2 (.slice a2 (wo l k).length c2) (wo l k) := h2
  have hwl := wo_len (l := l) (k := k)
  repeat' (first|(with_reducible first|refine jA ?_|(refine hK _ _ ?_;clear hK K)|refine jJ fun K hK=>?_|refine jK ?_|refine jL ?_|refine jM ?_|refine jN ?_|refine jO ?_|refine jP ?_|refine jQ ?_|(refine jB ?_;clear hK K)|(refine jC ?_;clear hK K)|refine jD ?_|refine jE ?_|refine jG ?_|refine jH ?_|refine jI ?_)|((with_reducible refine jR ?hq ?_);case hq=>rfl)|((first|(with_reducible first|refine jS fun K hK=>?_|refine jT ?_|refine jU ?_)|((with_reducible refine jV ?hy fun K hK=>?_);case hy=>rfl));simp only [go_sem, Nat.reduceEqDiff, Nat.reduceAdd, Nat.reduceMul, Nat.reduceLeDiff, Nat.reduceLT, Int.reduceLT, Int.reduceLE, Int.reduceEq, Int.reduceNeg, Int.reduceToNat, Nat.reducePow, reduceIte, reduceCtorEq, j0])|((with_reducible first|refine jW ?hy ?_|refine jY ?hy ?_);case hy=>rfl)|((with_reducible first|refine jX ?hy ?_|refine jZ ?hy ?_);case hy=>rfl)|((with_reducible refine jF ?hy ?_);case hy=>decide))
  refine Parts_ok (sr_rde h2) (fun b hb => h2.lt hb) hn (by omega) (fun z hz => hends z (wo_mem hz)) fun H6 q p hP hq hqs f6 => ?_
  have hP := least_wo.1 hP
  have f36 := f5.trans f6
  have hl6 := hl3.frame f36
  obtain ⟨x, hx⟩ : ∃ x, l[k]? = some x := ⟨_, List.getElem?_eq_getElem hlt⟩
  obtain ⟨u, v, eu, ev, hu, hv⟩ := hends x (List.mem_of_getElem? hx)
  have huv : u ≠ v := fun e => by
   have := hmay.1 x (List.mem_of_getElem? hx)
   unfold okEd at this
   rw [decide_eq_true_iff] at this
   omega
  obtain ⟨r, rfl, hr, q0, q1, q2, q3⟩ := hl6.at hx
  rw [eu] at q1
  rw [ev] at q2
  have hbr : Bridge l k ↔ ¬ Con (Av l k) u v := bridge_iff ⟨x, hx, .inl ⟨eu, ev⟩⟩
  have cu := hq.cell (vr_get (f := nI p) hu)
  have cv := hq.cell (vr_get (f := nI p) hv)
  have tu : (u < n) = True := eq_true hu
  have tv : (v < n) = True := eq_true hv
  have hb6 := hb.frame f36 fun h => h
  have hids6 := hids.frame f36 fun _ _ h => h
  have hfirm6 := hfirm.frame f36 fun _ _ h => h
  have s36 := f36.size
  by_cases hbk : Bridge l k
  ·have y1 : ((nI p u) == (nI p v)) = false := beq_false_of_ne (by unfold nI; have hne : p u ≠ p v := fun e => (hbr.1 hbk) ((hP.eq hu hv).1 e); omega)
   repeat' (first|(with_reducible first|refine jA ?_|(refine hK _ _ ?_;clear hK K)|refine jJ fun K hK=>?_|refine jK ?_|refine jL ?_|refine jM ?_|refine jN ?_|refine jO ?_|refine jP ?_|refine jQ ?_|(refine jB ?_;clear hK K)|(refine jC ?_;clear hK K)|refine jD ?_|refine jE ?_|refine jG ?_|refine jH ?_|refine jI ?_)|((with_reducible refine jR ?hq ?_);case hq=>rfl)|((first|(with_reducible first|refine jS fun K hK=>?_|refine jT ?_|refine jU ?_)|((with_reducible refine jV ?hy fun K hK=>?_);case hy=>rfl));simp only [go_sem, Nat.reduceEqDiff, Nat.reduceAdd, Nat.reduceMul, Nat.reduceLeDiff, Nat.reduceLT, Int.reduceLT, Int.reduceLE, Int.reduceEq, Int.reduceNeg, Int.reduceToNat, Nat.reducePow, reduceIte, reduceCtorEq, j1, i10, t1', q1, q2, cu, cv, tu, tv, y1])|((with_reducible first|refine jW ?hy ?_|refine jY ?hy ?_);case hy=>rfl)|((with_reducible first|refine jX ?hy ?_|refine jZ ?hy ?_);case hy=>rfl)|((with_reducible refine jF ?hy ?_);case hy=>decide))
   refine x_loop (fun m e' H' => H' = H6 ∧ ∃ i : Nat, e' 13 = .int .i64 (i : Nat) ∧ i ≤ ids.length ∧ (∀ j y, j < i → ids[j]? = some y → y < x.id) ∧ m = ids.length - i) ids.length ⟨rfl, 0, rfl, Nat.zero_le _, fun j y h => absurd h (Nat.not_lt_zero _), rfl⟩ ?_
   rintro m3 e3 H7 ⟨rfl, i, k13, hi, hlo, hm3⟩ hoff
   have k0 := (hoff 0 rfl).trans j0
   have k1 := (hoff 1 rfl).trans j1
   have k8 := (hoff 8 rfl).trans j8
   have k9 := (hoff 9 rfl).trans i9
   have k10 := (hoff 10 rfl).trans i10
   clear hoff
   have ewi : IntKind.i64.wrap ((i : Int) + 1) = ((i + 1 : Nat) : Int) := by rw [wrap_i64] <;> omega
   have o1 := hb6.cellOf (i := 1) rfl
   obtain ⟨_, _, hr1, hrd⟩ := hids6.rds
   simp only [Value.slice.injEq] at hr1
   obtain ⟨rfl, _, rfl⟩ := hr1
   have stop : ∀ y, ids[i]? = some y → (if y < x.id then True else False) ∨ ¬ y < x.id := fun y _ => by by_cases h : y < x.id <;> simp [h]
   clear stop
   by_cases hgo : ∃ y, ids[i]? = some y ∧ y < x.id
   ·obtain ⟨y, hy, hyx⟩ := hgo
    obtain ⟨bz, oz, _, rfl, cz⟩ := hrd _ _ hy
    have hil' := (List.getElem?_eq_some_iff.1 hy).1
    have y2 : ((i : Int) < (ids.length : Int)) = True := eq_true (by omega)
    have y2' : (i < ids.length) = True := eq_true hil'
    have y3 : (y < x.id) = True := eq_true hyx
    repeat' (first|(with_reducible first|refine jA ?_|(refine hK _ _ ?_;clear hK K)|refine jJ fun K hK=>?_|refine jK ?_|refine jL ?_|refine jM ?_|refine jN ?_|refine jO ?_|refine jP ?_|refine jQ ?_|(refine jB ?_;clear hK K)|(refine jC ?_;clear hK K)|refine jD ?_|refine jE ?_|refine jG ?_|refine jH ?_|refine jI ?_)|((with_reducible refine jR ?hq ?_);case hq=>rfl)|((first|(with_reducible first|refine jS fun K hK=>?_|refine jT ?_|refine jU ?_)|((with_reducible refine jV ?hy fun K hK=>?_);case hy=>rfl));simp only [go_sem, Nat.reduceEqDiff, Nat.reduceAdd, Nat.reduceMul, Nat.reduceLeDiff, Nat.reduceLT, Int.reduceLT, Int.reduceLE, Int.reduceEq, Int.reduceNeg, Int.reduceToNat, Nat.reducePow, reduceIte, reduceCtorEq, k1, k8, k10, k13, o1, y2, y2', cz, t1', q0, y3, ewi])|((with_reducible first|refine jW ?hy ?_|refine jY ?hy ?_);case hy=>rfl)|((with_reducible first|refine jX ?hy ?_|refine jZ ?hy ?_);case hy=>rfl)|((with_reducible refine jF ?hy ?_);case hy=>decide))
    refine loop_normal (m' := ids.length - (i + 1)) (by omega) ⟨rfl, i + 1, rfl, hil', fun j z hj hz => ?_, rfl⟩
    rcases Nat.lt_succ_iff_lt_or_eq.1 hj with hj | rfl
    ·exact hlo j z hj hz
    ·rw [hy] at hz
     rw [← Option.some.inj hz]
     exact hyx
   have hhi : ∀ y, ids[i]? = some y → ¬ y < x.id := fun y hy h => hgo ⟨y, hy, h⟩
   have hD' := hD.bridge hnd hx hbk hlo hhi hi
   have hcap := (ir_sr.1 hids6).cap.1
   have ta : (i ≤ cb) = True := eq_true (by omega)
   have tb : (i ≤ ids.length) = True := eq_true hi
   have tc : (ids.length ≤ cb) = True := eq_true hcap
   have hex : (∃ y, ids[i]? = some y ∧ ¬ y < x.id) ∨ i = ids.length := by
    rcases Nat.lt_or_ge i ids.length with h | h
    ·exact .inl ⟨_, List.getElem?_eq_getElem h, hhi _ (List.getElem?_eq_getElem h)⟩
    ·exact .inr (by omega)
   rcases hex with ⟨y, hy, hyx⟩ | hend
   case' inl =>
    obtain ⟨bz, oz, _, rfl, cz⟩ := hrd _ _ hy
    have hil' := (List.getElem?_eq_some_iff.1 hy).1
    have y2 : ((i : Int) < (ids.length : Int)) = True := eq_true (by omega)
    have y2' : (i < ids.length) = True := eq_true hil'
    have y3 : (y < x.id) = False := eq_false hyx
    repeat' (first|(with_reducible first|refine jA ?_|(refine hK _ _ ?_;clear hK K)|refine jJ fun K hK=>?_|refine jK ?_|refine jL ?_|refine jM ?_|refine jN ?_|refine jO ?_|refine jP ?_|refine jQ ?_|(refine jB ?_;clear hK K)|(refine jC ?_;clear hK K)|refine jD ?_|refine jE ?_|refine jG ?_|refine jH ?_|refine jI ?_)|((with_reducible refine jR ?hq ?_);case hq=>rfl)|((first|(with_reducible first|refine jS fun K hK=>?_|refine jT ?_|refine jU ?_)|((with_reducible refine jV ?hy fun K hK=>?_);case hy=>rfl));simp only [go_sem, Nat.reduceEqDiff, Nat.reduceAdd, Nat.reduceMul, Nat.reduceLeDiff, Nat.reduceLT, Int.reduceLT, Int.reduceLE, Int.reduceEq, Int.reduceNeg, Int.reduceToNat, Nat.reducePow, reduceIte, reduceCtorEq, k1, k8, k10, k13, o1, y2, y2', cz, t1', q0, y3, ta])|((with_reducible first|refine jW ?hy ?_|refine jY ?hy ?_);case hy=>rfl)|((with_reducible first|refine jX ?hy ?_|refine jZ ?hy ?_);case hy=>rfl)|((with_reducible refine jF ?hy ?_);case hy=>decide))
   case' inr =>
    have y2 : ((i : Int) < (ids.length : Int)) = False := eq_false (by omega)
    have y2' : (i < ids.length) = False := eq_false (by omega)
    repeat' (first|(with_reducible first|refine jA ?_|(refine hK _ _ ?_;clear hK K)|refine jJ fun K hK=>?_|refine jK ?_|refine jL ?_|refine jM ?_|refine jN ?_|refine jO ?_|refine jP ?_|refine jQ ?_|(refine jB ?_;clear hK K)|(refine jC ?_;clear hK K)|refine jD ?_|refine jE ?_|refine jG ?_|refine jH ?_|refine jI ?_)|((with_reducible refine jR ?hq ?_);case hq=>rfl)|((first|(with_reducible first|refine jS fun K hK=>?_|refine jT ?_|refine jU ?_)|((with_reducible refine jV ?hy fun K hK=>?_);case hy=>rfl));simp only [go_sem, Nat.reduceEqDiff, Nat.reduceAdd, Nat.reduceMul, Nat.reduceLeDiff, Nat.reduceLT, Int.reduceLT, Int.reduceLE, Int.reduceEq, Int.reduceNeg, Int.reduceToNat, Nat.reducePow, reduceIte, reduceCtorEq, k8, k13, o1, y2, y2', ta])|((with_reducible first|refine jW ?hy ?_|refine jY ?hy ?_);case hy=>rfl)|((with_reducible first|refine jX ?hy ?_|refine jZ ?hy ?_);case hy=>rfl)|((with_reducible refine jF ?hy ?_);case hy=>decide))
   all_goals
    refine append_irp (lo := 0) (hi := i) (ys := ids) elems32 tl3 (IR.nil H7) hids6 (Nat.zero_le _) hi (by first | exact whole_st _ _ _ | rfl | simp) (by first | rfl | simp) (by decide) (by simp; omega) rfl fun w3 H8 B3 h3 hf3 hB3 => ?_
    rw [List.drop_zero, Nat.sub_zero, List.nil_append] at h3
    have f8 : Fr (fun _ => False) H7 H8 := hf3.mono fun b _ h => by cases h
    have hB3' : ∀ b, B3 = some b → H7.size ≤ b := fun b hb => by
     rcases hB3 with e | ⟨g', hg, hge⟩
     ·rw [e] at hb; cases hb
     ·rw [hg] at hb
      obtain rfl := Option.some.inj hb
      exact hge
    obtain ⟨a3, c3, rfl⟩ := id h3.slice
    obtain ⟨r', er, hr', q0, _⟩ := (hl6.frame f8).at hx
    obtain rfl := Option.some.inj er
    repeat' (first|(with_reducible first|refine jA ?_|(refine hK _ _ ?_;clear hK K)|refine jJ fun K hK=>?_|refine jK ?_|refine jL ?_|refine jM ?_|refine jN ?_|refine jO ?_|refine jP ?_|refine jQ ?_|(refine jB ?_;clear hK K)|(refine jC ?_;clear hK K)|refine jD ?_|refine jE ?_|refine jG ?_|refine jH ?_|refine jI ?_)|((with_reducible refine jR ?hq ?_);case hq=>rfl)|((first|(with_reducible first|refine jS fun K hK=>?_|refine jT ?_|refine jU ?_)|((with_reducible refine jV ?hy fun K hK=>?_);case hy=>rfl));simp only [go_sem, Nat.reduceEqDiff, Nat.reduceAdd, Nat.reduceMul, Nat.reduceLeDiff, Nat.reduceLT, Int.reduceLT, Int.reduceLE, Int.reduceEq, Int.reduceNeg, Int.reduceToNat, Nat.reducePow, reduceIte, reduceCtorEq, k1, k10, t1', q0])|((with_reducible first|refine jW ?hy ?_|refine jY ?hy ?_);case hy=>rfl)|((with_reducible first|refine jX ?hy ?_|refine jZ ?hy ?_);case hy=>rfl)|((with_reducible refine jF ?hy ?_);case hy=>decide))
    refine append_ir elems32 tl3 h3 rfl (by decide) (by simp only [List.length_take] at *; omega) rfl fun w4 H9 B4 h4 hf4 hB4 => ?_
    have f9 : Fr (fun _ => False) H7 H9 := f8.trans' hf4 fun b hb e => by have := hB3' b e; omega
    have s8 := f8.size
    have hB4' : ∀ b, B4 = some b → H7.size ≤ b := fun b hb => by
     rcases hB4 with e | ⟨g', hg, hge⟩
     ·exact hB3' b (by rw [← e]; exact hb)
     ·rw [hg] at hb
      obtain rfl := Option.some.inj hb
      omega
    have o1 := (hb6.frame f9 fun h => h).cellOf (i := 1) rfl
    obtain ⟨a4, c4, rfl⟩ := id h4.slice
    repeat' (first|(with_reducible first|refine jA ?_|(refine hK _ _ ?_;clear hK K)|refine jJ fun K hK=>?_|refine jK ?_|refine jL ?_|refine jM ?_|refine jN ?_|refine jO ?_|refine jP ?_|refine jQ ?_|(refine jB ?_;clear hK K)|(refine jC ?_;clear hK K)|refine jD ?_|refine jE ?_|refine jG ?_|refine jH ?_|refine jI ?_)|((with_reducible refine jR ?hq ?_);case hq=>rfl)|((first|(with_reducible first|refine jS fun K hK=>?_|refine jT ?_|refine jU ?_)|((with_reducible refine jV ?hy fun K hK=>?_);case hy=>rfl));simp only [go_sem, Nat.reduceEqDiff, Nat.reduceAdd, Nat.reduceMul, Nat.reduceLeDiff, Nat.reduceLT, Int.reduceLT, Int.reduceLE, Int.reduceEq, Int.reduceNeg, Int.reduceToNat, Nat.reducePow, reduceIte, reduceCtorEq, k8, k13, o1, tb, tc])|((with_reducible first|refine jW ?hy ?_|refine jY ?hy ?_);case hy=>rfl)|((with_reducible first|refine jX ?hy ?_|refine jZ ?hy ?_);case hy=>rfl)|((with_reducible refine jF ?hy ?_);case hy=>decide))
    refine append_irp (lo := i) (hi := ids.length) (ys := ids) elems32 tl3 h4 (hids6.frame f9 fun _ _ h => h) hi (Nat.le_refl _) (by first | rfl | simp only [Nat.mul_one, Option.map_some, add_mk, Option.map_none] | simp) (by first | rfl | simp) (by decide) (by simp only [List.length_append, List.length_take, List.length_singleton] at *; omega) rfl fun w5 H10 B5 h5 hf5 hB5 => ?_
    have e5 : (ids.drop i).take (ids.length - i) = ids.drop i := List.take_of_length_le (by rw [List.length_drop]; exact Nat.le_refl _)
    rw [e5] at h5
    have f10 : Fr (fun _ => False) H7 H10 := f9.trans' hf5 fun b hb e => by have := hB4' b e; omega
    have s9 := f9.size
    have hB5' : ∀ b, B5 = some b → H7.size ≤ b := fun b hb => by
     rcases hB5 with e | ⟨g', hg, hge⟩
     ·exact hB4' b (by rw [← e]; exact hb)
     ·rw [hg] at hb
      obtain rfl := Option.some.inj hb
      omega
    have hb10 := hb6.frame f10 fun h => h
    have ok1 := hb10.okW (i := 1) (by simp)
    obtain ⟨a5, c5, rfl⟩ := id h5.slice
    have hbs := hb10.set_same 1 (.slice a5 (ids.take i ++ [x.id] ++ ids.drop i).length c5)
    repeat' (first|(with_reducible first|refine jA ?_|(refine hK _ _ ?_;clear hK K)|refine jJ fun K hK=>?_|refine jK ?_|refine jL ?_|refine jM ?_|refine jN ?_|refine jO ?_|refine jP ?_|refine jQ ?_|(refine jB ?_;clear hK K)|(refine jC ?_;clear hK K)|refine jD ?_|refine jE ?_|refine jG ?_|refine jH ?_|refine jI ?_)|((with_reducible refine jR ?hq ?_);case hq=>rfl)|((first|(with_reducible first|refine jS fun K hK=>?_|refine jT ?_|refine jU ?_)|((with_reducible refine jV ?hy fun K hK=>?_);case hy=>rfl));simp only [go_sem, Nat.reduceEqDiff, Nat.reduceAdd, Nat.reduceMul, Nat.reduceLeDiff, Nat.reduceLT, Int.reduceLT, Int.reduceLE, Int.reduceEq, Int.reduceNeg, Int.reduceToNat, Nat.reducePow, reduceIte, reduceCtorEq, k8, k10, ok1, ew, hcell_push, hcell_top, okW_push, okW_top, hcell_hset_ne, hcell_hset_off, hcell_hset_eq, okW_hset, hset_size, Array.size_push, Nat.lt_add_one, ne_add_one, add_one_ne, Nat.add_assoc, add_same, add_lt_same, Nat.reduceEqDiff, lt_add_k, add_k_ne, ne_add_k])|((with_reducible first|refine jW ?hy ?_|refine jY ?hy ?_);case hy=>rfl)|((with_reducible first|refine jX ?hy ?_|refine jZ ?hy ?_);case hy=>rfl)|((with_reducible refine jF ?hy ?_);case hy=>decide))
    have fs : Fr (· = o) H10 (hset H10 ⟨o, 1, none⟩ (.slice a5 (ids.take i ++ [x.id] ++ ids.drop i).length c5)) := Fr.set (S := (· = o)) (Fr.refl _ _) (.inl rfl) _
    have f11 : Fr (fun _ => False) H1 (hset H10 ⟨o, 1, none⟩ (.slice a5 (ids.take i ++ [x.id] ++ ids.drop i).length c5)) := ((f3.trans f36).trans f10).trans' fs fun b hb (e : b = o) => by omega
    have h5' := h5.frame fs fun b hb (e : b = o) => by have := hB5' b hb; omega
    have hfirm' := (hfirm6.frame f10 fun _ _ h => h).frame fs fun b hb (e : b = o) => by have := hBf b hb; omega
    refine loop_normal (m' := l.length - (k + 1)) (by omega) ⟨k + 1, B5, Bf, _, _, _, firm, rfl, k9, hlt, hbs, h5', hfirm', hD', fun b hb => ?_, hBf, f11, rfl⟩
    have h1 := hB5' b hb
    refine ⟨by omega, fun e => ?_⟩
    have := hfirm6.lt e
    omega
  ·have y1 : ((nI p u) == (nI p v)) = true := by unfold nI; have := (hP.eq hu hv).2 (Classical.byContradiction fun h => hbk (hbr.2 h)); simp [this]
   have q1' := q1
   have q2' := q2
   repeat' (first|(with_reducible first|refine jA ?_|(refine hK _ _ ?_;clear hK K)|refine jJ fun K hK=>?_|refine jK ?_|refine jL ?_|refine jM ?_|refine jN ?_|refine jO ?_|refine jP ?_|refine jQ ?_|(refine jB ?_;clear hK K)|(refine jC ?_;clear hK K)|refine jD ?_|refine jE ?_|refine jG ?_|refine jH ?_|refine jI ?_)|((with_reducible refine jR ?hq ?_);case hq=>rfl)|((first|(with_reducible first|refine jS fun K hK=>?_|refine jT ?_|refine jU ?_)|((with_reducible refine jV ?hy fun K hK=>?_);case hy=>rfl));simp only [go_sem, Nat.reduceEqDiff, Nat.reduceAdd, Nat.reduceMul, Nat.reduceLeDiff, Nat.reduceLT, Int.reduceLT, Int.reduceLE, Int.reduceEq, Int.reduceNeg, Int.reduceToNat, Nat.reducePow, reduceIte, reduceCtorEq, j1, i9, i10, t1', q0, q1, q2, q3, cu, cv, tu, tv, y1])|((with_reducible first|refine jW ?hy ?_|refine jY ?hy ?_);case hy=>rfl)|((with_reducible first|refine jX ?hy ?_|refine jZ ?hy ?_);case hy=>rfl)|((with_reducible refine jF ?hy ?_);case hy=>decide))
   refine append_sr edC_len edC_plain (x := x) elems25 tl35 hfirm6 (by first | rfl | (unfold Ed.cells; rw [eu, ev])) (by decide) (by simp; omega) rfl fun w3 H7 B3 h3 hf3 hB3 => ?_
   repeat' (first|(with_reducible first|refine jA ?_|(refine hK _ _ ?_;clear hK K)|refine jJ fun K hK=>?_|refine jK ?_|refine jL ?_|refine jM ?_|refine jN ?_|refine jO ?_|refine jP ?_|refine jQ ?_|(refine jB ?_;clear hK K)|(refine jC ?_;clear hK K)|refine jD ?_|refine jE ?_|refine jG ?_|refine jH ?_|refine jI ?_)|((with_reducible refine jR ?hq ?_);case hq=>rfl)|((first|(with_reducible first|refine jS fun K hK=>?_|refine jT ?_|refine jU ?_)|((with_reducible refine jV ?hy fun K hK=>?_);case hy=>rfl));simp only [go_sem, Nat.reduceEqDiff, Nat.reduceAdd, Nat.reduceMul, Nat.reduceLeDiff, Nat.reduceLT, Int.reduceLT, Int.reduceLE, Int.reduceEq, Int.reduceNeg, Int.reduceToNat, Nat.reducePow, reduceIte, reduceCtorEq, i10, ew])|((with_reducible first|refine jW ?hy ?_|refine jY ?hy ?_);case hy=>rfl)|((with_reducible first|refine jX ?hy ?_|refine jZ ?hy ?_);case hy=>rfl)|((with_reducible refine jF ?hy ?_);case hy=>decide))
   have f7 : Fr (fun _ => False) H1 H7 := (f3.trans f36).trans' hf3 fun b hb e => by have := hBf b e; omega
   refine loop_normal (m' := l.length - (k + 1)) (by omega) ⟨k + 1, Bb, B3, _, w3, ids, _, rfl, rfl, hlt, hb6.frame hf3 fun e => by have := hBf o e; omega, hids6.frame hf3 fun b hb => (hBb b hb).2, h3, hD.firm hx hbk, fun b hb => ?_, fun b hb => ?_, f7, rfl⟩
   ·refine ⟨(hBb b hb).1, fun e => ?_⟩
    rcases hB3 with e' | ⟨g', hg, hge⟩
    ·exact (hBb b hb).2 (by rw [← e']; exact e)
    ·rw [hg] at e
     obtain rfl := Option.some.inj e
     have := hids6.lt hb
     omega
   ·rcases hB3 with e' | ⟨g', hg, hge⟩
    ·exact hBf b (by rw [← e']; exact hb)
    ·rw [hg] at hb
     obtain rfl := Option.some.inj hb
     omega
 have t1 : ((k : Int) < (l.length : Int)) = False := eq_false (by omega)
 have t1' : (k < l.length) = False := eq_false hlt
 obtain rfl : k = l.length := by omega
 repeat' (first|(with_reducible first|refine jA ?_|(refine hK _ _ ?_;clear hK K)|refine jJ fun K hK=>?_|refine jK ?_|refine jL ?_|refine jM ?_|refine jN ?_|refine jO ?_|refine jP ?_|refine jQ ?_|(refine jB ?_;clear hK K)|(refine jC ?_;clear hK K)|refine jD ?_|refine jE ?_|refine jG ?_|refine jH ?_|refine jI ?_)|((with_reducible refine jR ?hq ?_);case hq=>rfl)|((first|(with_reducible first|refine jS fun K hK=>?_|refine jT ?_|refine jU ?_)|((with_reducible refine jV ?hy fun K hK=>?_);case hy=>rfl));simp only [go_sem, Nat.reduceEqDiff, Nat.reduceAdd, Nat.reduceMul, Nat.reduceLeDiff, Nat.reduceLT, Int.reduceLT, Int.reduceLE, Int.reduceEq, Int.reduceNeg, Int.reduceToNat, Nat.reducePow, reduceIte, reduceCtorEq, j0, j1, j8, i9, i10, t1, t1'])|((with_reducible first|refine jW ?hy ?_|refine jY ?hy ?_);case hy=>rfl)|((with_reducible first|refine jX ?hy ?_|refine jZ ?hy ?_);case hy=>rfl)|((with_reducible refine jF ?hy ?_);case hy=>decide))
 refine Parts_ok (sr_rde hfirm) (fun b hb => hfirm.lt hb) hn (by omega) (fun z hz => ?_) fun H4 q p hP hq hqs f4 => ?_
 ·obtain ⟨j, _, hj, _⟩ := (hD.fm z).1 hz
  exact hends z (List.mem_of_getElem? hj)
 have hb4 := hb.frame f4 fun h => h
 have ok2 := hb4.okW (i := 2) (by simp)
 repeat' (first|(with_reducible first|refine jA ?_|(refine hK _ _ ?_;clear hK K)|refine jJ fun K hK=>?_|refine jK ?_|refine jL ?_|refine jM ?_|refine jN ?_|refine jO ?_|refine jP ?_|refine jQ ?_|(refine jB ?_;clear hK K)|(refine jC ?_;clear hK K)|refine jD ?_|refine jE ?_|refine jG ?_|refine jH ?_|refine jI ?_)|((with_reducible refine jR ?hq ?_);case hq=>rfl)|((first|(with_reducible first|refine jS fun K hK=>?_|refine jT ?_|refine jU ?_)|((with_reducible refine jV ?hy fun K hK=>?_);case hy=>rfl));simp only [go_sem, Nat.reduceEqDiff, Nat.reduceAdd, Nat.reduceMul, Nat.reduceLeDiff, Nat.reduceLT, Int.reduceLT, Int.reduceLE, Int.reduceEq, Int.reduceNeg, Int.reduceToNat, Nat.reducePow, reduceIte, reduceCtorEq, j8, ok2, hcell_push, hcell_top, okW_push, okW_top, hcell_hset_ne, hcell_hset_off, hcell_hset_eq, okW_hset, hset_size, Array.size_push, Nat.lt_add_one, ne_add_one, add_one_ne, Nat.add_assoc, add_same, add_lt_same, Nat.reduceEqDiff, lt_add_k, add_k_ne, ne_add_k])|((with_reducible first|refine jW ?hy ?_|refine jY ?hy ?_);case hy=>rfl)|((with_reducible first|refine jX ?hy ?_|refine jZ ?hy ?_);case hy=>rfl)|((with_reducible refine jF ?hy ?_);case hy=>decide))
 have hbs := hb4.set_same 2 (.slice (some ⟨q, 0, none⟩) n n)
 have fs : Fr (· = o) H4 (hset H4 ⟨o, 2, none⟩ (.slice (some ⟨q, 0, none⟩) n n)) := Fr.set (S := (· = o)) (Fr.refl _ _) (.inl rfl) _
 have f5 : Fr (fun _ => False) H1 (hset H4 ⟨o, 2, none⟩ (.slice (some ⟨q, 0, none⟩) n n)) := (f3.trans f4).trans' fs fun b hb (e : b = o) => by omega
 have s1 := f1.size
 have s3 := f3.size
 refine fin _ o (fun b => b = o ∨ b = q ∨ Bb = some b) ids p ⟨⟨_, Bb, q, hbs, (hids.frame f4 fun _ _ h => h).frame fs fun b hb (e : b = o) => by have := (hBb b hb).1; omega, hq.frame fs fun b hb (e : b = o) => ?_, .inl rfl, .inr (.inl rfl), fun b hb => .inr (.inr hb)⟩⟩ (fun b hb => ?_) hD.isBr hD.len (hD.least hP) (f1.trans f5)
 ·have := Option.some.inj hb
  omega
 ·rcases hb with rfl | rfl | hb
  ·omega
  ·omega
  ·have := (hBb b hb).1; omega
end
end Go.Proofs.Ytpeaogldojepnaa
namespace Go.Br
open Go Go.Hp Go.Li
theorem OrM.exact {H : Heap} {o n : Nat} {T : Nat → Prop} {ids : List Int} {p : Nat → Nat} (h : OrM H o T ids p n) : ∃ T', OrM H o T' ids p n ∧ ∀ b, T' b → b < H.size ∧ T b := by
 obtain ⟨vb, Bb, gb, h1, h2, h3, h4, h5, h6⟩ := h.ex
 refine ⟨fun b => b = o ∨ b = gb ∨ Bb = some b, ⟨vb, Bb, gb, h1, h2, h3, .inl rfl, .inr (.inl rfl), fun b hb => .inr (.inr hb)⟩, fun b hb => ?_⟩
 rcases hb with rfl | rfl | hb
 ·exact ⟨h1.lt, h4⟩
 ·exact ⟨h3.lt rfl, h5⟩
 ·exact ⟨h2.lt hb, h6 b hb⟩
theorem RoM.exact {H : Heap} {o n : Nat} {T : Nat → Prop} {ids : List Int} {p : Nat → Nat} (h : RoM H o T ids p n) : ∃ T', RoM H o T' ids p n ∧ ∀ b, T' b → b < H.size ∧ T b := by
 obtain ⟨vb, Bb, gb, h1, h2, h3, h4, h5, h6⟩ := h.ex
 refine ⟨fun b => b = o ∨ b = gb ∨ Bb = some b, ⟨vb, Bb, gb, h1, h2, h3, .inl rfl, .inr (.inl rfl), fun b hb => .inr (.inr hb)⟩, fun b hb => ?_⟩
 rcases hb with rfl | rfl | hb
 ·exact ⟨h1.lt, h4⟩
 ·exact ⟨h3.lt rfl, h5⟩
 ·exact ⟨h2.lt hb, h6 b hb⟩
theorem store_ed {H : Heap} {g : Nat} {cs : List Value} (h : Blk H g cs) {o : Nat} (ho : o + 3 < cs.length) (v0 v1 v2 v3 : Value) :
  ∃ cs', Blk (hset (hset (hset (hset H ⟨g, o, none⟩ v0) ⟨g, o + 1, none⟩ v1) ⟨g, o + 2, none⟩ v2) ⟨g, o + 3, none⟩ v3) g cs' ∧ cs'.length = cs.length ∧ Fr (· = g) H (hset (hset (hset (hset H ⟨g, o, none⟩ v0) ⟨g, o + 1, none⟩ v1) ⟨g, o + 2, none⟩ v2) ⟨g, o + 3, none⟩ v3) ∧
   okW H ⟨g, o, none⟩ ∧ okW (hset H ⟨g, o, none⟩ v0) ⟨g, o + 1, none⟩ ∧ okW (hset (hset H ⟨g, o, none⟩ v0) ⟨g, o + 1, none⟩ v1) ⟨g, o + 2, none⟩ ∧ okW (hset (hset (hset H ⟨g, o, none⟩ v0) ⟨g, o + 1, none⟩ v1) ⟨g, o + 2, none⟩ v2) ⟨g, o + 3, none⟩ := by
 have h1 := h.set_same o v0
 have h2 := h1.set_same (o + 1) v1
 have h3 := h2.set_same (o + 2) v2
 refine ⟨_, h3.set_same (o + 3) v3, by simp, ?_, h.okW (by omega), h1.okW (by simp; omega), h2.okW (by simp; omega), h3.okW (by simp; omega)⟩
 exact Fr.set (S := (· = g)) (a := ⟨g, o + 3, none⟩) (Fr.set (S := (· = g)) (a := ⟨g, o + 2, none⟩) (Fr.set (S := (· = g)) (a := ⟨g, o + 1, none⟩) (Fr.set (S := (· = g)) (a := ⟨g, o, none⟩) (Fr.refl _ _) (.inl rfl) _) (.inl rfl) _) (.inl rfl) _) (.inl rfl) _
end Go.Br
namespace Go.Proofs.Ytpeaogldojepnaa
open Go Go.Hp Go.Li Go.Br
set_option linter.all false
set_option maxRecDepth 100000
set_option maxHeartbeats 3200000
theorem edgeFlat : flatS Try.prog 35 = some [(.int .i64, 0), (.int .i64, 1), (.int .i64, 2), (.int .i64, 3)] := by kernel_rfl
theorem edge_eq {op : BinOp} {ox oy : Operand} {a b : Ed} {H : Heap} {K : Value → Prop} (hK : match op with | .eql => K (.bool (decide (a = b))) | .neq => K (.bool (!decide (a = b))) | _ => False) : binX Try.prog op 35 ox oy a.val b.val H K := by
 refine binX_flat edgeFlat (b := decide (a = b)) ?_ hK
 obtain ⟨a1, a2, a3, a4⟩ := a
 obtain ⟨b1, b2, b3, b4⟩ := b
 simp only [allEq, sEq, List.getElem?_toArray, List.getElem?_cons_zero, List.getElem?_cons_succ, if_true, Ed.mk.injEq]
 have key : ∀ x y : Int, (x == y) = decide (x = y) := fun x y => by by_cases h : x = y <;> simp [h]
 simp only [key]
 by_cases h1 : a1 = b1 <;> by_cases h2 : a2 = b2 <;> by_cases h3 : a3 = b3 <;> by_cases h4 : a4 = b4 <;> simp [h1, h2, h3, h4]
section
variable {H : Heap} {l : List Ed} {n c : Nat} {a : Option Addr} {L : Value → Heap → Prop}
def tails : List Ed := [⟨7001, 0, 0, 0⟩, ⟨7002, 0, 0, 0⟩]
theorem lent_ok (hl : RawE H a c l) (hlen : l.length ≤ 2000) (fin : ∀ H' g c', SR Ed.cells 4 H' (some g) (.slice (some ⟨g, 0, none⟩) (l.length + 2) c') (l ++ tails) → H.size ≤ g → Fr (fun _ => False) H H' → L (.slice (some ⟨g, 0, none⟩) l.length c') H') :
  CallsH Try.prog 18 #[.slice a l.length c] H L := by
 refine call18 (by simp) ?_
 simp only [Try.f18, Option.getD_some]
 repeat' (first|(with_reducible first|refine jA ?_|(refine hK _ _ ?_;clear hK K)|refine jJ fun K hK=>?_|refine jK ?_|refine jL ?_|refine jM ?_|refine jN ?_|refine jO ?_|refine jP ?_|refine jQ ?_|(refine jB ?_;clear hK K)|(refine jC ?_;clear hK K)|refine jD ?_|refine jE ?_|refine jG ?_|refine jH ?_|refine jI ?_)|((with_reducible refine jR ?hq ?_);case hq=>rfl)|((first|(with_reducible first|refine jS fun K hK=>?_|refine jT ?_|refine jU ?_)|((with_reducible refine jV ?hy fun K hK=>?_);case hy=>rfl));simp only [go_sem, Nat.reduceEqDiff, Nat.reduceAdd, Nat.reduceMul, Nat.reduceLeDiff, Nat.reduceLT, Int.reduceLT, Int.reduceLE, Int.reduceEq, Int.reduceNeg, Int.reduceToNat, Nat.reducePow, reduceIte, reduceCtorEq])|((with_reducible first|refine jW ?hy ?_|refine jY ?hy ?_);case hy=>rfl)|((with_reducible first|refine jX ?hy ?_|refine jZ ?hy ?_);case hy=>rfl)|((with_reducible refine jF ?hy ?_);case hy=>decide))
 refine append_raw (lo := 0) (hi := l.length) (ys := l) elems25 tl35 (SR.nil Ed.cells 4 H) hl (Nat.zero_le _) (Nat.le_refl _) (whole_st _ _ _) rfl (by decide) (by simp; omega) rfl fun w1 H1 B1 h1 hf1 hB1 => ?_
 rw [List.drop_zero, Nat.sub_zero, List.take_length, List.nil_append] at h1
 have f1 : Fr (fun _ => False) H H1 := hf1.mono fun b _ h => by cases h
 have hB1' : ∀ b, B1 = some b → H.size ≤ b := fun b hb => by
  rcases hB1 with e | ⟨g', hg, hge⟩
  ·rw [e] at hb; cases hb
  ·rw [hg] at hb
   obtain rfl := Option.some.inj hb
   exact hge
 obtain ⟨a1, c1, rfl⟩ := id h1.slice
 repeat' (first|(with_reducible first|refine jA ?_|(refine hK _ _ ?_;clear hK K)|refine jJ fun K hK=>?_|refine jK ?_|refine jL ?_|refine jM ?_|refine jN ?_|refine jO ?_|refine jP ?_|refine jQ ?_|(refine jB ?_;clear hK K)|(refine jC ?_;clear hK K)|refine jD ?_|refine jE ?_|refine jG ?_|refine jH ?_|refine jI ?_)|((with_reducible refine jR ?hq ?_);case hq=>rfl)|((first|(with_reducible first|refine jS fun K hK=>?_|refine jT ?_|refine jU ?_)|((with_reducible refine jV ?hy fun K hK=>?_);case hy=>rfl));simp only [go_sem, Nat.reduceEqDiff, Nat.reduceAdd, Nat.reduceMul, Nat.reduceLeDiff, Nat.reduceLT, Int.reduceLT, Int.reduceLE, Int.reduceEq, Int.reduceNeg, Int.reduceToNat, Nat.reducePow, reduceIte, reduceCtorEq])|((with_reducible first|refine jW ?hy ?_|refine jY ?hy ?_);case hy=>rfl)|((with_reducible first|refine jX ?hy ?_|refine jZ ?hy ?_);case hy=>rfl)|((with_reducible refine jF ?hy ?_);case hy=>decide))
 have lit := sr_lit edC_len H1 tails 35
 have fl : Fr (fun _ => False) H1 (H1.push (.cells (tails.flatMap Ed.cells).toArray 35)) := (Fr.refl _ _).push _
 have rl := lit.readL edC_len (o := 0) (m := 2) (by decide)
 rw [Nat.zero_mul, List.drop_zero] at rl
 have s1 := f1.size
 refine append_srs (xs := l) (ys := tails) edC_len edC_plain elems25 tl35 (h1.frame fl fun _ _ h => h) rl rfl (by decide) (by simp; omega) rfl fun w2 H2 B2 h2 hf2 hB2 => ?_
 have f2 : Fr (fun _ => False) H H2 := (f1.trans fl).trans' hf2 fun b hb e => by have := hB1' b e; omega
 obtain ⟨g, c', hBg, rfl, hcc⟩ := h2.open (by simp [tails])
 subst hBg
 have hge : H.size ≤ g := by
  rcases hB2 with e | ⟨g', hg, hge⟩
  ·exact hB1' g e.symm
  ·obtain rfl := Option.some.inj hg
   exact Nat.le_trans s1 (Nat.le_trans fl.size hge)
 have hcc' : l.length + 2 ≤ c' := by simpa [tails] using hcc
 have t1 : (l.length ≤ c') = True := eq_true (by omega)
 repeat' (first|(with_reducible first|refine jA ?_|(refine hK _ _ ?_;clear hK K)|refine jJ fun K hK=>?_|refine jK ?_|refine jL ?_|refine jM ?_|refine jN ?_|refine jO ?_|refine jP ?_|refine jQ ?_|(refine jB ?_;clear hK K)|(refine jC ?_;clear hK K)|refine jD ?_|refine jE ?_|refine jG ?_|refine jH ?_|refine jI ?_)|((with_reducible refine jR ?hq ?_);case hq=>rfl)|((first|(with_reducible first|refine jS fun K hK=>?_|refine jT ?_|refine jU ?_)|((with_reducible refine jV ?hy fun K hK=>?_);case hy=>rfl));simp only [go_sem, Nat.reduceEqDiff, Nat.reduceAdd, Nat.reduceMul, Nat.reduceLeDiff, Nat.reduceLT, Int.reduceLT, Int.reduceLE, Int.reduceEq, Int.reduceNeg, Int.reduceToNat, Nat.reducePow, reduceIte, reduceCtorEq, t1, ite_self, Nat.sub_zero])|((with_reducible first|refine jW ?hy ?_|refine jY ?hy ?_);case hy=>rfl)|((with_reducible first|refine jX ?hy ?_|refine jZ ?hy ?_);case hy=>rfl)|((with_reducible refine jF ?hy ?_);case hy=>decide))
 refine fin H2 g c' ?_ hge f2
 have e : (l ++ tails).length = l.length + 2 := by simp [tails]
 rw [e] at h2
 exact h2
theorem own_part {g : Nat} {c' : Nat} (h : SR Ed.cells 4 H (some g) (.slice (some ⟨g, 0, none⟩) (l.length + 2) c') (l ++ tails)) : SR Ed.cells 4 H (some g) (.slice (some ⟨g, 0, none⟩) l.length c') l := by
 obtain ⟨hz, ⟨h, _⟩ | ⟨g', c'', rest, h1, h2, h3, h4, h5⟩⟩ := h
 ·cases h
 ·obtain rfl := Option.some.inj h1
  simp only [Value.slice.injEq] at h2
  obtain ⟨_, _, rfl⟩ := h2
  rw [List.flatMap_append, List.append_assoc] at h3 h4
  exact ⟨srf_len edC_len l, .inr ⟨g, c', _, rfl, rfl, h3, h4, by rw [List.length_append] at h5; omega⟩⟩
theorem kept_ok (hl : RawE H a c l) (hlen : l.length ≤ 2000) {g c' : Nat} (ho : SR Ed.cells 4 H (some g) (.slice (some ⟨g, 0, none⟩) (l.length + 2) c') (l ++ tails)) (fin : ∀ H', Fr (· = g) H H' → L (.bool true) H') :
  CallsH Try.prog 19 #[.slice (some ⟨g, 0, none⟩) l.length c', .slice a l.length c] H L := by
 have hcap := ho.cap.1
 have ew2 : IntKind.i64.wrap ((l.length : Int) + 2) = ((l.length + 2 : Nat) : Int) := by rw [wrap_i64] <;> omega
 have ew1 : IntKind.i64.wrap ((l.length : Int) + 1) = ((l.length + 1 : Nat) : Int) := by rw [wrap_i64] <;> omega
 have t0 : (l.length + 2 ≤ c') = True := eq_true hcap
 have t1 : (l.length < l.length + 2) = True := eq_true (by omega)
 have t2 : (l.length + 1 < l.length + 2) = True := eq_true (by omega)
 have x1 : (l ++ tails)[l.length]? = some ⟨7001, 0, 0, 0⟩ := by simp [tails]
 have x2 : (l ++ tails)[l.length + 1]? = some ⟨7002, 0, 0, 0⟩ := by simp [tails]
 have d1 := ho.cell edC_len x1 (j := 0) rfl
 have d2 := ho.cell edC_len x2 (j := 0) rfl
 rw [Nat.add_zero] at d1 d2
 have z1 : ((7001 : Int) == 7001) = true := rfl
 have z2 : ((7002 : Int) == 7002) = true := rfl
 refine call19 (by simp) ?_
 simp only [Try.f19, Option.getD_some]
 repeat' (first|(with_reducible first|refine jA ?_|(refine hK _ _ ?_;clear hK K)|refine jJ fun K hK=>?_|refine jK ?_|refine jL ?_|refine jM ?_|refine jN ?_|refine jO ?_|refine jP ?_|refine jQ ?_|(refine jB ?_;clear hK K)|(refine jC ?_;clear hK K)|refine jD ?_|refine jE ?_|refine jG ?_|refine jH ?_|refine jI ?_)|((with_reducible refine jR ?hq ?_);case hq=>rfl)|((first|(with_reducible first|refine jS fun K hK=>?_|refine jT ?_|refine jU ?_)|((with_reducible refine jV ?hy fun K hK=>?_);case hy=>rfl));simp only [go_sem, Nat.reduceEqDiff, Nat.reduceAdd, Nat.reduceMul, Nat.reduceLeDiff, Nat.reduceLT, Int.reduceLT, Int.reduceLE, Int.reduceEq, Int.reduceNeg, Int.reduceToNat, Nat.reducePow, reduceIte, reduceCtorEq, ew2, ew1, t0, t1, t2, d1, d2, z1, z2, ite_self, Nat.sub_zero])|((with_reducible first|refine jW ?hy ?_|refine jY ?hy ?_);case hy=>rfl)|((with_reducible first|refine jX ?hy ?_|refine jZ ?hy ?_);case hy=>rfl)|((with_reducible refine jF ?hy ?_);case hy=>decide))
 refine x_loop (fun m e' H' => H' = H ∧ ∃ i : Nat, e' 7 = .int .i64 (i : Nat) ∧ e' 6 = .bool true ∧ i ≤ l.length ∧ m = l.length - i) l.length ⟨rfl, 0, rfl, rfl, Nat.zero_le _, rfl⟩ ?_
 rintro m e1 H1 ⟨rfl, i, i7, i6, hi, hm⟩ hoff
 have i1 : e1 1 = .slice a l.length c := (hoff 1 rfl).trans rfl
 have i5 : e1 5 = .slice (some ⟨g, 0, none⟩) (l.length + 2) c' := (hoff 5 rfl).trans rfl
 clear hoff
 have ew : IntKind.i64.wrap ((i : Int) + 1) = ((i + 1 : Nat) : Int) := by rw [wrap_i64] <;> omega
 by_cases hlt : i < l.length
 ·have t1 : ((i : Int) < (l.length : Int)) = True := eq_true (by omega)
  have t1' : (i < l.length) = True := eq_true hlt
  have t2' : (i < l.length + 2) = True := eq_true (by omega)
  obtain ⟨x, hx⟩ : ∃ x, l[i]? = some x := ⟨_, List.getElem?_eq_getElem hlt⟩
  have hx' : (l ++ tails)[i]? = some x := by rw [List.getElem?_append_left hlt]; exact hx
  have p0 := ho.cell edC_len hx' (j := 0) rfl
  have p1 := ho.cell edC_len hx' (j := 1) rfl
  have p2 := ho.cell edC_len hx' (j := 2) rfl
  have p3 := ho.cell edC_len hx' (j := 3) rfl
  rw [Nat.add_zero] at p0
  obtain ⟨r, rfl, hr, q0, q1, q2, q3⟩ := hl.at hx
  repeat' (first|(with_reducible first|refine jA ?_|(refine hK _ _ ?_;clear hK K)|refine jJ fun K hK=>?_|refine jK ?_|refine jL ?_|refine jM ?_|refine jN ?_|refine jO ?_|refine jP ?_|refine jQ ?_|(refine jB ?_;clear hK K)|(refine jC ?_;clear hK K)|refine jD ?_|refine jE ?_|refine jG ?_|refine jH ?_|refine jI ?_)|((with_reducible refine jR ?hq ?_);case hq=>rfl)|((first|(with_reducible first|refine jS fun K hK=>?_|refine jT ?_|refine jU ?_)|((with_reducible refine jV ?hy fun K hK=>?_);case hy=>rfl));simp only [go_sem, Nat.reduceEqDiff, Nat.reduceAdd, Nat.reduceMul, Nat.reduceLeDiff, Nat.reduceLT, Int.reduceLT, Int.reduceLE, Int.reduceEq, Int.reduceNeg, Int.reduceToNat, Nat.reducePow, reduceIte, reduceCtorEq, i1, i5, i6, i7, t1, t1', t2', p0, p1, p2, p3, q0, q1, q2, q3])|((with_reducible first|refine jW ?hy ?_|refine jY ?hy ?_);case hy=>rfl)|((with_reducible first|refine jX ?hy ?_|refine jZ ?hy ?_);case hy=>rfl)|((with_reducible refine jF ?hy ?_);case hy=>decide))
  refine edge_eq (a := x) (b := x) ?_
  rw [decide_eq_true rfl]
  repeat' (first|(with_reducible first|refine jA ?_|(refine hK _ _ ?_;clear hK K)|refine jJ fun K hK=>?_|refine jK ?_|refine jL ?_|refine jM ?_|refine jN ?_|refine jO ?_|refine jP ?_|refine jQ ?_|(refine jB ?_;clear hK K)|(refine jC ?_;clear hK K)|refine jD ?_|refine jE ?_|refine jG ?_|refine jH ?_|refine jI ?_)|((with_reducible refine jR ?hq ?_);case hq=>rfl)|((first|(with_reducible first|refine jS fun K hK=>?_|refine jT ?_|refine jU ?_)|((with_reducible refine jV ?hy fun K hK=>?_);case hy=>rfl));simp only [go_sem, Nat.reduceEqDiff, Nat.reduceAdd, Nat.reduceMul, Nat.reduceLeDiff, Nat.reduceLT, Int.reduceLT, Int.reduceLE, Int.reduceEq, Int.reduceNeg, Int.reduceToNat, Nat.reducePow, reduceIte, reduceCtorEq, i7, ew])|((with_reducible first|refine jW ?hy ?_|refine jY ?hy ?_);case hy=>rfl)|((with_reducible first|refine jX ?hy ?_|refine jZ ?hy ?_);case hy=>rfl)|((with_reducible refine jF ?hy ?_);case hy=>decide))
  exact loop_normal (m' := l.length - (i + 1)) (by omega) ⟨rfl, i + 1, rfl, rfl, hlt, rfl⟩
 have t1 : ((i : Int) < (l.length : Int)) = False := eq_false (by omega)
 have t1' : (i < l.length) = False := eq_false hlt
 obtain rfl : i = l.length := by omega
 repeat' (first|(with_reducible first|refine jA ?_|(refine hK _ _ ?_;clear hK K)|refine jJ fun K hK=>?_|refine jK ?_|refine jL ?_|refine jM ?_|refine jN ?_|refine jO ?_|refine jP ?_|refine jQ ?_|(refine jB ?_;clear hK K)|(refine jC ?_;clear hK K)|refine jD ?_|refine jE ?_|refine jG ?_|refine jH ?_|refine jI ?_)|((with_reducible refine jR ?hq ?_);case hq=>rfl)|((first|(with_reducible first|refine jS fun K hK=>?_|refine jT ?_|refine jU ?_)|((with_reducible refine jV ?hy fun K hK=>?_);case hy=>rfl));simp only [go_sem, Nat.reduceEqDiff, Nat.reduceAdd, Nat.reduceMul, Nat.reduceLeDiff, Nat.reduceLT, Int.reduceLT, Int.reduceLE, Int.reduceEq, Int.reduceNeg, Int.reduceToNat, Nat.reducePow, reduceIte, reduceCtorEq, i1, i7, t1, t1'])|((with_reducible first|refine jW ?hy ?_|refine jY ?hy ?_);case hy=>rfl)|((with_reducible first|refine jX ?hy ?_|refine jZ ?hy ?_);case hy=>rfl)|((with_reducible refine jF ?hy ?_);case hy=>decide))
 obtain ⟨cs, hcs, hcl⟩ : ∃ cs, Blk H1 g cs ∧ (l.length + 2) * 4 ≤ cs.length := by
  obtain ⟨hz, ⟨h, _⟩ | ⟨g', c'', rest, h1, _, h3, _⟩⟩ := ho
  ·cases h
  ·obtain rfl := Option.some.inj h1
   exact ⟨_, h3, by rw [List.length_append, hz]; simp [tails]⟩
 refine x_loop (fun m e' H' => ∃ (i : Nat) (cs : List Value), e' 8 = .int .i64 (i : Nat) ∧ i ≤ l.length + 2 ∧ Blk H' g cs ∧ (l.length + 2) * 4 ≤ cs.length ∧ Fr (· = g) H1 H' ∧ m = l.length + 2 - i) (l.length + 2) ⟨0, cs, rfl, Nat.zero_le _, hcs, hcl, Fr.refl _ _, rfl⟩ ?_
 rintro m2 e2 H2 ⟨i, cs, i8, hi2, hb, hcl2, f2, hm2⟩ hoff
 have j5 := (hoff 5 rfl).trans i5
 have j6 := (hoff 6 rfl).trans i6
 clear hoff ew
 have ew : IntKind.i64.wrap ((i : Int) + 1) = ((i + 1 : Nat) : Int) := by rw [wrap_i64] <;> omega
 by_cases hlt2 : i < l.length + 2
 ·have y1 : ((i : Int) < ((l.length + 2 : Nat) : Int)) = True := eq_true (by omega)
  have y1' : (i < l.length + 2) = True := eq_true hlt2
  obtain ⟨cs', b2, l2, f3, w0, w1, w2, w3⟩ := store_ed hb (o := i * 4) (by omega) (.int .i64 (-5)) (.int .i64 1) (.int .i64 1) (.int .i64 0)
  repeat' (first|(with_reducible first|refine jA ?_|(refine hK _ _ ?_;clear hK K)|refine jJ fun K hK=>?_|refine jK ?_|refine jL ?_|refine jM ?_|refine jN ?_|refine jO ?_|refine jP ?_|refine jQ ?_|(refine jB ?_;clear hK K)|(refine jC ?_;clear hK K)|refine jD ?_|refine jE ?_|refine jG ?_|refine jH ?_|refine jI ?_)|((with_reducible refine jR ?hq ?_);case hq=>rfl)|((first|(with_reducible first|refine jS fun K hK=>?_|refine jT ?_|refine jU ?_)|((with_reducible refine jV ?hy fun K hK=>?_);case hy=>rfl));simp only [go_sem, Nat.reduceEqDiff, Nat.reduceAdd, Nat.reduceMul, Nat.reduceLeDiff, Nat.reduceLT, Int.reduceLT, Int.reduceLE, Int.reduceEq, Int.reduceNeg, Int.reduceToNat, Nat.reducePow, reduceIte, reduceCtorEq, j5, i8, y1, y1', w0, w1, w2, w3, ew])|((with_reducible first|refine jW ?hy ?_|refine jY ?hy ?_);case hy=>rfl)|((with_reducible first|refine jX ?hy ?_|refine jZ ?hy ?_);case hy=>rfl)|((with_reducible refine jF ?hy ?_);case hy=>decide))
  exact loop_normal (m' := l.length + 2 - (i + 1)) (by omega) ⟨i + 1, cs', rfl, hlt2, b2, by omega, f2.trans f3, rfl⟩
 have y1 : ((i : Int) < ((l.length + 2 : Nat) : Int)) = False := eq_false (by omega)
 have y1' : (i < l.length + 2) = False := eq_false hlt2
 repeat' (first|(with_reducible first|refine jA ?_|(refine hK _ _ ?_;clear hK K)|refine jJ fun K hK=>?_|refine jK ?_|refine jL ?_|refine jM ?_|refine jN ?_|refine jO ?_|refine jP ?_|refine jQ ?_|(refine jB ?_;clear hK K)|(refine jC ?_;clear hK K)|refine jD ?_|refine jE ?_|refine jG ?_|refine jH ?_|refine jI ?_)|((with_reducible refine jR ?hq ?_);case hq=>rfl)|((first|(with_reducible first|refine jS fun K hK=>?_|refine jT ?_|refine jU ?_)|((with_reducible refine jV ?hy fun K hK=>?_);case hy=>rfl));simp only [go_sem, Nat.reduceEqDiff, Nat.reduceAdd, Nat.reduceMul, Nat.reduceLeDiff, Nat.reduceLT, Int.reduceLT, Int.reduceLE, Int.reduceEq, Int.reduceNeg, Int.reduceToNat, Nat.reducePow, reduceIte, reduceCtorEq, j5, j6, i8, y1, y1'])|((with_reducible first|refine jW ?hy ?_|refine jY ?hy ?_);case hy=>rfl)|((with_reducible first|refine jX ?hy ?_|refine jZ ?hy ?_);case hy=>rfl)|((with_reducible refine jF ?hy ?_);case hy=>decide))
 exact fin H2 f2
theorem told_ok {o x : Nat} {T T' : Nat → Prop} {ids : List Int} {p p' : Nat → Nat} (hA : OrM H o T ids p n) (hX : RoM H x T' ids p' n) (hp : ∀ v, v < n → p v = p' v) (hn : n ≤ 64) (hl : ids.length ≤ 1000) (fin : ∀ H', Fr (fun _ => False) H H' → L (.bool true) H') :
  CallsH Try.prog 20 #[.pointer (some ⟨o, 0, none⟩), .pointer (some ⟨x, 0, none⟩)] H L := by
 obtain ⟨T, hA, hT⟩ := hA.exact
 obtain ⟨T', hX, hT'⟩ := hX.exact
 refine call20 (by simp) ?_
 simp only [Try.f20, Option.getD_some]
 repeat' (first|(with_reducible first|refine jA ?_|(refine hK _ _ ?_;clear hK K)|refine jJ fun K hK=>?_|refine jK ?_|refine jL ?_|refine jM ?_|refine jN ?_|refine jO ?_|refine jP ?_|refine jQ ?_|(refine jB ?_;clear hK K)|(refine jC ?_;clear hK K)|refine jD ?_|refine jE ?_|refine jG ?_|refine jH ?_|refine jI ?_)|((with_reducible refine jR ?hq ?_);case hq=>rfl)|((first|(with_reducible first|refine jS fun K hK=>?_|refine jT ?_|refine jU ?_)|((with_reducible refine jV ?hy fun K hK=>?_);case hy=>rfl));simp only [go_sem, Nat.reduceEqDiff, Nat.reduceAdd, Nat.reduceMul, Nat.reduceLeDiff, Nat.reduceLT, Int.reduceLT, Int.reduceLE, Int.reduceEq, Int.reduceNeg, Int.reduceToNat, Nat.reducePow, reduceIte, reduceCtorEq])|((with_reducible first|refine jW ?hy ?_|refine jY ?hy ?_);case hy=>rfl)|((with_reducible first|refine jX ?hy ?_|refine jZ ?hy ?_);case hy=>rfl)|((with_reducible refine jF ?hy ?_);case hy=>decide))
 refine Bridges_ok hA (by omega) fun H1 Ba va hva hBa f1 => ?_
 have hA1 := hA.frame f1 fun _ _ h => h
 have hX1 := hX.frame f1 fun _ _ h => h
 repeat' (first|(with_reducible first|refine jA ?_|(refine hK _ _ ?_;clear hK K)|refine jJ fun K hK=>?_|refine jK ?_|refine jL ?_|refine jM ?_|refine jN ?_|refine jO ?_|refine jP ?_|refine jQ ?_|(refine jB ?_;clear hK K)|(refine jC ?_;clear hK K)|refine jD ?_|refine jE ?_|refine jG ?_|refine jH ?_|refine jI ?_)|((with_reducible refine jR ?hq ?_);case hq=>rfl)|((first|(with_reducible first|refine jS fun K hK=>?_|refine jT ?_|refine jU ?_)|((with_reducible refine jV ?hy fun K hK=>?_);case hy=>rfl));simp only [go_sem, Nat.reduceEqDiff, Nat.reduceAdd, Nat.reduceMul, Nat.reduceLeDiff, Nat.reduceLT, Int.reduceLT, Int.reduceLE, Int.reduceEq, Int.reduceNeg, Int.reduceToNat, Nat.reducePow, reduceIte, reduceCtorEq])|((with_reducible first|refine jW ?hy ?_|refine jY ?hy ?_);case hy=>rfl)|((with_reducible first|refine jX ?hy ?_|refine jZ ?hy ?_);case hy=>rfl)|((with_reducible refine jF ?hy ?_);case hy=>decide))
 refine Bridges_ok hA1 (by omega) fun H2 Bb vb hvb hBb f2 => ?_
 have hX2 := hX1.frame f2 fun _ _ h => h
 have hva2 := hva.frame f2 fun _ _ h => h
 repeat' (first|(with_reducible first|refine jA ?_|(refine hK _ _ ?_;clear hK K)|refine jJ fun K hK=>?_|refine jK ?_|refine jL ?_|refine jM ?_|refine jN ?_|refine jO ?_|refine jP ?_|refine jQ ?_|(refine jB ?_;clear hK K)|(refine jC ?_;clear hK K)|refine jD ?_|refine jE ?_|refine jG ?_|refine jH ?_|refine jI ?_)|((with_reducible refine jR ?hq ?_);case hq=>rfl)|((first|(with_reducible first|refine jS fun K hK=>?_|refine jT ?_|refine jU ?_)|((with_reducible refine jV ?hy fun K hK=>?_);case hy=>rfl));simp only [go_sem, Nat.reduceEqDiff, Nat.reduceAdd, Nat.reduceMul, Nat.reduceLeDiff, Nat.reduceLT, Int.reduceLT, Int.reduceLE, Int.reduceEq, Int.reduceNeg, Int.reduceToNat, Nat.reducePow, reduceIte, reduceCtorEq])|((with_reducible first|refine jW ?hy ?_|refine jY ?hy ?_);case hy=>rfl)|((with_reducible first|refine jX ?hy ?_|refine jZ ?hy ?_);case hy=>rfl)|((with_reducible refine jF ?hy ?_);case hy=>decide))
 refine dBridges_ok hX2 (by omega) fun H3 Bc vc hvc hBc f3 => ?_
 repeat' (first|(with_reducible first|refine jA ?_|(refine hK _ _ ?_;clear hK K)|refine jJ fun K hK=>?_|refine jK ?_|refine jL ?_|refine jM ?_|refine jN ?_|refine jO ?_|refine jP ?_|refine jQ ?_|(refine jB ?_;clear hK K)|(refine jC ?_;clear hK K)|refine jD ?_|refine jE ?_|refine jG ?_|refine jH ?_|refine jI ?_)|((with_reducible refine jR ?hq ?_);case hq=>rfl)|((first|(with_reducible first|refine jS fun K hK=>?_|refine jT ?_|refine jU ?_)|((with_reducible refine jV ?hy fun K hK=>?_);case hy=>rfl));simp only [go_sem, Nat.reduceEqDiff, Nat.reduceAdd, Nat.reduceMul, Nat.reduceLeDiff, Nat.reduceLT, Int.reduceLT, Int.reduceLE, Int.reduceEq, Int.reduceNeg, Int.reduceToNat, Nat.reducePow, reduceIte, reduceCtorEq])|((with_reducible first|refine jW ?hy ?_|refine jY ?hy ?_);case hy=>rfl)|((with_reducible first|refine jX ?hy ?_|refine jZ ?hy ?_);case hy=>rfl)|((with_reducible refine jF ?hy ?_);case hy=>decide))
 refine Pkisthmuslaw08.same_ok (hva2.rds.frame f3 fun _ _ h => h) hvc.rds (by omega) ?_
 rw [decide_eq_true rfl]
 have hva3 := hva2.frame f3 fun _ _ h => h
 have hvb3 := hvb.frame f3 fun _ _ h => h
 have f13 := (f1.trans f2).trans f3
 have s1 := f1.size
 have s2 := f2.size
 have s3 := f3.size
 have dis : ∀ b, Ba = some b → Bb ≠ some b := fun b hb e => by
  have := hBb b e
  obtain ⟨h, _⟩ | ⟨g, rest, h1, _, h3⟩ := hva.ex
  ·rw [h] at hb; cases hb
  ·rw [h1] at hb
   obtain rfl := Option.some.inj hb
   have := h3.lt
   omega
 obtain ⟨sa, ca, rfl, _⟩ := id hva3.rds
 clear hva hva2 hvb hvc hA1 hX1 hX2
 repeat' (first|(with_reducible first|refine jA ?_|(refine hK _ _ ?_;clear hK K)|refine jJ fun K hK=>?_|refine jK ?_|refine jL ?_|refine jM ?_|refine jN ?_|refine jO ?_|refine jP ?_|refine jQ ?_|(refine jB ?_;clear hK K)|(refine jC ?_;clear hK K)|refine jD ?_|refine jE ?_|refine jG ?_|refine jH ?_|refine jI ?_)|((with_reducible refine jR ?hq ?_);case hq=>rfl)|((first|(with_reducible first|refine jS fun K hK=>?_|refine jT ?_|refine jU ?_)|((with_reducible refine jV ?hy fun K hK=>?_);case hy=>rfl));simp only [go_sem, Nat.reduceEqDiff, Nat.reduceAdd, Nat.reduceMul, Nat.reduceLeDiff, Nat.reduceLT, Int.reduceLT, Int.reduceLE, Int.reduceEq, Int.reduceNeg, Int.reduceToNat, Nat.reducePow, reduceIte, reduceCtorEq])|((with_reducible first|refine jW ?hy ?_|refine jY ?hy ?_);case hy=>rfl)|((with_reducible first|refine jX ?hy ?_|refine jZ ?hy ?_);case hy=>rfl)|((with_reducible refine jF ?hy ?_);case hy=>decide))
 refine x_loop (fun m e' H' => ∃ (i : Nat) (ys : List Int), e' 8 = .int .i64 (i : Nat) ∧ i ≤ ids.length ∧ ys.length = ids.length ∧ Out H' Ba (.slice sa ids.length ca) ys ∧ (∀ j, j < i → ys[j]? = some (-1)) ∧ Fr (fun b => Ba = some b) H3 H' ∧ m = ids.length - i) ids.length
  ⟨0, ids, rfl, Nat.zero_le _, rfl, hva3, fun j h => absurd h (Nat.not_lt_zero _), Fr.refl _ _, rfl⟩ ?_
 rintro m e1 H4 ⟨i, ys, i8, hi, hyl, hO, hset', f4, hm⟩ hoff
 have i0 : e1 0 = .pointer (some ⟨o, 0, none⟩) := (hoff 0 rfl).trans rfl
 have i1 : e1 1 = .pointer (some ⟨x, 0, none⟩) := (hoff 1 rfl).trans rfl
 have i5 : e1 5 = .slice sa ids.length ca := (hoff 5 rfl).trans rfl
 have i6 : e1 6 = vb := (hoff 6 rfl).trans rfl
 have i7 : e1 7 = .bool true := (hoff 7 rfl).trans rfl
 clear hoff
 have ew : IntKind.i64.wrap ((i : Int) + 1) = ((i + 1 : Nat) : Int) := by rw [wrap_i64] <;> omega
 by_cases hlt : i < ids.length
 ·have t1 : ((i : Int) < (ids.length : Int)) = True := eq_true (by omega)
  have t1' : (i < ids.length) = True := eq_true hlt
  obtain ⟨g, rfl, rfl⟩ : ∃ g, Ba = some g ∧ sa = some ⟨g, 0, none⟩ := by
   obtain ⟨_, _, h⟩ | ⟨g, rest, h1, h2, _⟩ := hO.ex
   ·rw [h] at hyl; simp at hyl; omega
   ·simp only [Value.slice.injEq] at h2
    exact ⟨g, h1, h2.1⟩
  obtain ⟨okw, hO', f5⟩ := hO.write (i := i) (by omega) (-1)
  repeat' (first|(with_reducible first|refine jA ?_|(refine hK _ _ ?_;clear hK K)|refine jJ fun K hK=>?_|refine jK ?_|refine jL ?_|refine jM ?_|refine jN ?_|refine jO ?_|refine jP ?_|refine jQ ?_|(refine jB ?_;clear hK K)|(refine jC ?_;clear hK K)|refine jD ?_|refine jE ?_|refine jG ?_|refine jH ?_|refine jI ?_)|((with_reducible refine jR ?hq ?_);case hq=>rfl)|((first|(with_reducible first|refine jS fun K hK=>?_|refine jT ?_|refine jU ?_)|((with_reducible refine jV ?hy fun K hK=>?_);case hy=>rfl));simp only [go_sem, Nat.reduceEqDiff, Nat.reduceAdd, Nat.reduceMul, Nat.reduceLeDiff, Nat.reduceLT, Int.reduceLT, Int.reduceLE, Int.reduceEq, Int.reduceNeg, Int.reduceToNat, Nat.reducePow, reduceIte, reduceCtorEq, i5, i8, t1, t1', okw, ew, hcell_push, hcell_top, okW_push, okW_top, hcell_hset_ne, hcell_hset_off, hcell_hset_eq, okW_hset, hset_size, Array.size_push, Nat.lt_add_one, ne_add_one, add_one_ne, Nat.add_assoc, add_same, add_lt_same, Nat.reduceEqDiff, lt_add_k, add_k_ne, ne_add_k])|((with_reducible first|refine jW ?hy ?_|refine jY ?hy ?_);case hy=>rfl)|((with_reducible first|refine jX ?hy ?_|refine jZ ?hy ?_);case hy=>rfl)|((with_reducible refine jF ?hy ?_);case hy=>decide))
  refine loop_normal (m' := ids.length - (i + 1)) (by omega) ⟨i + 1, _, rfl, hlt, by rw [List.length_set]; exact hyl, hO', fun j hj => ?_, f4.trans (f5.mono fun b _ (e : b = g) => by rw [e]), rfl⟩
  by_cases e : j = i
  ·subst e; rw [List.getElem?_set_self (by omega)]
  ·rw [List.getElem?_set_ne (by omega)]
   exact hset' j (by omega)
 have t1 : ((i : Int) < (ids.length : Int)) = False := eq_false (by omega)
 have t1' : (i < ids.length) = False := eq_false hlt
 obtain rfl : i = ids.length := by omega
 have fa : Fr (fun _ => False) H H4 := f13.trans' f4 fun b hb e => by have := hBa b e; omega
 have hA4 := hA.frame fa fun _ _ h => h
 have hX4 := hX.frame fa fun _ _ h => h
 have hvb4 := hvb3.frame f4 fun b hb e => dis b e hb
 repeat' (first|(with_reducible first|refine jA ?_|(refine hK _ _ ?_;clear hK K)|refine jJ fun K hK=>?_|refine jK ?_|refine jL ?_|refine jM ?_|refine jN ?_|refine jO ?_|refine jP ?_|refine jQ ?_|(refine jB ?_;clear hK K)|(refine jC ?_;clear hK K)|refine jD ?_|refine jE ?_|refine jG ?_|refine jH ?_|refine jI ?_)|((with_reducible refine jR ?hq ?_);case hq=>rfl)|((first|(with_reducible first|refine jS fun K hK=>?_|refine jT ?_|refine jU ?_)|((with_reducible refine jV ?hy fun K hK=>?_);case hy=>rfl));simp only [go_sem, Nat.reduceEqDiff, Nat.reduceAdd, Nat.reduceMul, Nat.reduceLeDiff, Nat.reduceLT, Int.reduceLT, Int.reduceLE, Int.reduceEq, Int.reduceNeg, Int.reduceToNat, Nat.reducePow, reduceIte, reduceCtorEq, i5, i8, t1, t1'])|((with_reducible first|refine jW ?hy ?_|refine jY ?hy ?_);case hy=>rfl)|((with_reducible first|refine jX ?hy ?_|refine jZ ?hy ?_);case hy=>rfl)|((with_reducible refine jF ?hy ?_);case hy=>decide))
 rw [show Value.slice sa ids.length ca = Value.slice sa ys.length ca by rw [hyl]] at *
 refine append_out elems32 tl3 hO rfl (by decide) (by simp; omega) rfl fun w5 H5 g5 h5 f5 hg5 => ?_
 have hvb5 := hvb4.frame f5 fun _ _ h => h
 have hX5 := hX4.frame f5 fun _ _ h => h
 obtain ⟨a5, c5, rfl⟩ := id h5.slice
 repeat' (first|(with_reducible first|refine jA ?_|(refine hK _ _ ?_;clear hK K)|refine jJ fun K hK=>?_|refine jK ?_|refine jL ?_|refine jM ?_|refine jN ?_|refine jO ?_|refine jP ?_|refine jQ ?_|(refine jB ?_;clear hK K)|(refine jC ?_;clear hK K)|refine jD ?_|refine jE ?_|refine jG ?_|refine jH ?_|refine jI ?_)|((with_reducible refine jR ?hq ?_);case hq=>rfl)|((first|(with_reducible first|refine jS fun K hK=>?_|refine jT ?_|refine jU ?_)|((with_reducible refine jV ?hy fun K hK=>?_);case hy=>rfl));simp only [go_sem, Nat.reduceEqDiff, Nat.reduceAdd, Nat.reduceMul, Nat.reduceLeDiff, Nat.reduceLT, Int.reduceLT, Int.reduceLE, Int.reduceEq, Int.reduceNeg, Int.reduceToNat, Nat.reducePow, reduceIte, reduceCtorEq, i1, i6])|((with_reducible first|refine jW ?hy ?_|refine jY ?hy ?_);case hy=>rfl)|((with_reducible first|refine jX ?hy ?_|refine jZ ?hy ?_);case hy=>rfl)|((with_reducible refine jF ?hy ?_);case hy=>decide))
 refine dBridges_ok hX5 (by omega) fun H6 Bd vd hvd hBd f6 => ?_
 repeat' (first|(with_reducible first|refine jA ?_|(refine hK _ _ ?_;clear hK K)|refine jJ fun K hK=>?_|refine jK ?_|refine jL ?_|refine jM ?_|refine jN ?_|refine jO ?_|refine jP ?_|refine jQ ?_|(refine jB ?_;clear hK K)|(refine jC ?_;clear hK K)|refine jD ?_|refine jE ?_|refine jG ?_|refine jH ?_|refine jI ?_)|((with_reducible refine jR ?hq ?_);case hq=>rfl)|((first|(with_reducible first|refine jS fun K hK=>?_|refine jT ?_|refine jU ?_)|((with_reducible refine jV ?hy fun K hK=>?_);case hy=>rfl));simp only [go_sem, Nat.reduceEqDiff, Nat.reduceAdd, Nat.reduceMul, Nat.reduceLeDiff, Nat.reduceLT, Int.reduceLT, Int.reduceLE, Int.reduceEq, Int.reduceNeg, Int.reduceToNat, Nat.reducePow, reduceIte, reduceCtorEq])|((with_reducible first|refine jW ?hy ?_|refine jY ?hy ?_);case hy=>rfl)|((with_reducible first|refine jX ?hy ?_|refine jZ ?hy ?_);case hy=>rfl)|((with_reducible refine jF ?hy ?_);case hy=>decide))
 refine Pkisthmuslaw08.same_ok (hvb5.rds.frame f6 fun _ _ h => h) hvd.rds (by omega) ?_
 rw [decide_eq_true rfl]
 have hvb6 := hvb5.frame f6 fun _ _ h => h
 have h6 := h5.frame f6 fun _ _ h => h
 obtain ⟨sb, cb, rfl, _⟩ := id hvb6.rds
 repeat' (first|(with_reducible first|refine jA ?_|(refine hK _ _ ?_;clear hK K)|refine jJ fun K hK=>?_|refine jK ?_|refine jL ?_|refine jM ?_|refine jN ?_|refine jO ?_|refine jP ?_|refine jQ ?_|(refine jB ?_;clear hK K)|(refine jC ?_;clear hK K)|refine jD ?_|refine jE ?_|refine jG ?_|refine jH ?_|refine jI ?_)|((with_reducible refine jR ?hq ?_);case hq=>rfl)|((first|(with_reducible first|refine jS fun K hK=>?_|refine jT ?_|refine jU ?_)|((with_reducible refine jV ?hy fun K hK=>?_);case hy=>rfl));simp only [go_sem, Nat.reduceEqDiff, Nat.reduceAdd, Nat.reduceMul, Nat.reduceLeDiff, Nat.reduceLT, Int.reduceLT, Int.reduceLE, Int.reduceEq, Int.reduceNeg, Int.reduceToNat, Nat.reducePow, reduceIte, reduceCtorEq, i6])|((with_reducible first|refine jW ?hy ?_|refine jY ?hy ?_);case hy=>rfl)|((with_reducible first|refine jX ?hy ?_|refine jZ ?hy ?_);case hy=>rfl)|((with_reducible refine jF ?hy ?_);case hy=>decide))
 refine append_out elems32 tl3 hvb6 rfl (by decide) (by simp; omega) rfl fun w7 H7 g7 h7 f7 hg7 => ?_
 have h57 := h6.frame f7 fun _ _ h => h
 have fb := ((fa.trans f5).trans f6).trans f7
 have hA7 := hA.frame fb fun _ _ h => h
 have hX7 := hX.frame fb fun _ _ h => h
 obtain ⟨a7, c7, rfl⟩ := id h7.slice
 have e5 : (ys ++ [-1]).length = ids.length + 1 := by simp [hyl]
 have e7 : (ids ++ [-2]).length = ids.length + 1 := by simp
 have all : ∀ j, j < ids.length + 1 → (ys ++ [-1])[j]? = some (-1) := fun j hj => by
  by_cases e : j < ids.length
  ·rw [List.getElem?_append_left (by omega)]; exact hset' j e
  ·rw [List.getElem?_append_right (by omega), show j - ys.length = 0 by omega]; rfl
 obtain ⟨b5, cc5, eb5, hv5, _⟩ := h57.read (all 0 (by omega))
 simp only [Value.slice.injEq] at hv5
 obtain ⟨rfl, _, rfl⟩ := hv5
 have l7 : (ids ++ [(-2 : Int)])[ids.length]? = some (-2) := by simp
 obtain ⟨b7, cc7, eb7, hv7, cl7⟩ := h7.read l7
 simp only [Value.slice.injEq] at hv7
 obtain ⟨rfl, _, rfl⟩ := hv7
 rw [e7]
 clear hvb3 hvb4 hvb5 hvb6 hvd h6 h5 hO hA4 hX4 hX5 dis
 repeat' (first|(with_reducible first|refine jA ?_|(refine hK _ _ ?_;clear hK K)|refine jJ fun K hK=>?_|refine jK ?_|refine jL ?_|refine jM ?_|refine jN ?_|refine jO ?_|refine jP ?_|refine jQ ?_|(refine jB ?_;clear hK K)|(refine jC ?_;clear hK K)|refine jD ?_|refine jE ?_|refine jG ?_|refine jH ?_|refine jI ?_)|((with_reducible refine jR ?hq ?_);case hq=>rfl)|((first|(with_reducible first|refine jS fun K hK=>?_|refine jT ?_|refine jU ?_)|((with_reducible refine jV ?hy fun K hK=>?_);case hy=>rfl));simp only [go_sem, Nat.reduceEqDiff, Nat.reduceAdd, Nat.reduceMul, Nat.reduceLeDiff, Nat.reduceLT, Int.reduceLT, Int.reduceLE, Int.reduceEq, Int.reduceNeg, Int.reduceToNat, Nat.reducePow, reduceIte, reduceCtorEq])|((with_reducible first|refine jW ?hy ?_|refine jY ?hy ?_);case hy=>rfl)|((with_reducible first|refine jX ?hy ?_|refine jZ ?hy ?_);case hy=>rfl)|((with_reducible refine jF ?hy ?_);case hy=>decide))
 refine x_loop (fun m e' H' => H' = H7 ∧ ∃ i : Nat, e' 10 = .int .i64 (i : Nat) ∧ e' 7 = .bool true ∧ i ≤ ids.length ∧ m = ids.length - i) ids.length ⟨rfl, 0, rfl, i7, Nat.zero_le _, rfl⟩ ?_
 rintro m2 e2 H8 ⟨rfl, i, j10, j7, hi2, hm2⟩ hoff
 have j0 := (hoff 0 rfl).trans i0
 have j1 := (hoff 1 rfl).trans i1
 have j5 : e2 5 = .slice (some ⟨b5, 0, none⟩) (ys ++ [-1]).length c5 := (hoff 5 rfl).trans rfl
 rw [e5] at j5
 have j6 : e2 6 = .slice (some ⟨b7, 0, none⟩) (ids.length + 1) c7 := (hoff 6 rfl).trans rfl
 have j9 : e2 9 = .bool true := (hoff 9 rfl).trans rfl
 clear hoff ew
 have ew : IntKind.i64.wrap ((i : Int) + 1) = ((i + 1 : Nat) : Int) := by rw [wrap_i64] <;> omega
 have zz : ((-1 : Int) == -1) = true := rfl
 by_cases hlt2 : i < ids.length
 ·have y1 : (((i + 1 : Nat) : Int) < ((ids.length + 1 : Nat) : Int)) = True := eq_true (by omega)
  have y2 : (i + 1 < ids.length + 1) = True := eq_true (by omega)
  have y3 : (i < ids.length + 1) = True := eq_true (by omega)
  obtain ⟨_, _, _, hv, ci⟩ := h57.read (all i (by omega))
  simp only [Value.slice.injEq, Option.some.injEq, Addr.mk.injEq] at hv
  obtain ⟨⟨rfl, _⟩, _⟩ := hv
  repeat' (first|(with_reducible first|refine jA ?_|(refine hK _ _ ?_;clear hK K)|refine jJ fun K hK=>?_|refine jK ?_|refine jL ?_|refine jM ?_|refine jN ?_|refine jO ?_|refine jP ?_|refine jQ ?_|(refine jB ?_;clear hK K)|(refine jC ?_;clear hK K)|refine jD ?_|refine jE ?_|refine jG ?_|refine jH ?_|refine jI ?_)|((with_reducible refine jR ?hq ?_);case hq=>rfl)|((first|(with_reducible first|refine jS fun K hK=>?_|refine jT ?_|refine jU ?_)|((with_reducible refine jV ?hy fun K hK=>?_);case hy=>rfl));simp only [go_sem, Nat.reduceEqDiff, Nat.reduceAdd, Nat.reduceMul, Nat.reduceLeDiff, Nat.reduceLT, Int.reduceLT, Int.reduceLE, Int.reduceEq, Int.reduceNeg, Int.reduceToNat, Nat.reducePow, reduceIte, reduceCtorEq, j5, j7, j10, ew, y1, y2, y3, ci, zz])|((with_reducible first|refine jW ?hy ?_|refine jY ?hy ?_);case hy=>rfl)|((with_reducible first|refine jX ?hy ?_|refine jZ ?hy ?_);case hy=>rfl)|((with_reducible refine jF ?hy ?_);case hy=>decide))
  exact loop_normal (m' := ids.length - (i + 1)) (by omega) ⟨rfl, i + 1, rfl, rfl, hlt2, rfl⟩
 obtain rfl : i = ids.length := by omega
 have y1 : (((ids.length + 1 : Nat) : Int) < ((ids.length + 1 : Nat) : Int)) = False := eq_false (by omega)
 have y2 : (ids.length + 1 < ids.length + 1) = False := eq_false (by omega)
 have y3 : (ids.length < ids.length + 1) = True := eq_true (by omega)
 have ewm : IntKind.i64.wrap (((ids.length + 1 : Nat) : Int) - 1) = (ids.length : Int) := by rw [wrap_i64] <;> omega
 obtain ⟨_, _, _, hv, ci⟩ := h57.read (all ids.length (by omega))
 simp only [Value.slice.injEq, Option.some.injEq, Addr.mk.injEq] at hv
 obtain ⟨⟨rfl, _⟩, _⟩ := hv
 have z1 : ((-1 : Int) != -1) = false := rfl
 have z2 : ((-2 : Int) != -2) = false := rfl
 have z3 : ((cnt n p' : Nat) : Int) = ((cnt n p : Nat) : Int) := by rw [cnt_congr hp]
 have bn : ∀ a : Int, (a != a) = false := fun a => by simp
 have bb : ∀ a : Bool, (a != a) = false := fun a => by simp
 repeat' (first|(with_reducible first|refine jA ?_|(refine hK _ _ ?_;clear hK K)|refine jJ fun K hK=>?_|refine jK ?_|refine jL ?_|refine jM ?_|refine jN ?_|refine jO ?_|refine jP ?_|refine jQ ?_|(refine jB ?_;clear hK K)|(refine jC ?_;clear hK K)|refine jD ?_|refine jE ?_|refine jG ?_|refine jH ?_|refine jI ?_)|((with_reducible refine jR ?hq ?_);case hq=>rfl)|((first|(with_reducible first|refine jS fun K hK=>?_|refine jT ?_|refine jU ?_)|((with_reducible refine jV ?hy fun K hK=>?_);case hy=>rfl));simp only [go_sem, Nat.reduceEqDiff, Nat.reduceAdd, Nat.reduceMul, Nat.reduceLeDiff, Nat.reduceLT, Int.reduceLT, Int.reduceLE, Int.reduceEq, Int.reduceNeg, Int.reduceToNat, Nat.reducePow, reduceIte, reduceCtorEq, j0, j1, j5, j6, j7, j9, j10, ew, y1, y2, y3, ewm, ci, cl7, z1, z2, Bool.not_true])|((with_reducible first|refine jW ?hy ?_|refine jY ?hy ?_);case hy=>rfl)|((with_reducible first|refine jX ?hy ?_|refine jZ ?hy ?_);case hy=>rfl)|((with_reducible refine jF ?hy ?_);case hy=>decide))
 refine Blocks_ok hA7 hn ?_
 repeat' (first|(with_reducible first|refine jA ?_|(refine hK _ _ ?_;clear hK K)|refine jJ fun K hK=>?_|refine jK ?_|refine jL ?_|refine jM ?_|refine jN ?_|refine jO ?_|refine jP ?_|refine jQ ?_|(refine jB ?_;clear hK K)|(refine jC ?_;clear hK K)|refine jD ?_|refine jE ?_|refine jG ?_|refine jH ?_|refine jI ?_)|((with_reducible refine jR ?hq ?_);case hq=>rfl)|((first|(with_reducible first|refine jS fun K hK=>?_|refine jT ?_|refine jU ?_)|((with_reducible refine jV ?hy fun K hK=>?_);case hy=>rfl));simp only [go_sem, Nat.reduceEqDiff, Nat.reduceAdd, Nat.reduceMul, Nat.reduceLeDiff, Nat.reduceLT, Int.reduceLT, Int.reduceLE, Int.reduceEq, Int.reduceNeg, Int.reduceToNat, Nat.reducePow, reduceIte, reduceCtorEq, j1])|((with_reducible first|refine jW ?hy ?_|refine jY ?hy ?_);case hy=>rfl)|((with_reducible first|refine jX ?hy ?_|refine jZ ?hy ?_);case hy=>rfl)|((with_reducible refine jF ?hy ?_);case hy=>decide))
 refine dBlocks_ok hX7 hn ?_
 rw [z3]
 repeat' (first|(with_reducible first|refine jA ?_|(refine hK _ _ ?_;clear hK K)|refine jJ fun K hK=>?_|refine jK ?_|refine jL ?_|refine jM ?_|refine jN ?_|refine jO ?_|refine jP ?_|refine jQ ?_|(refine jB ?_;clear hK K)|(refine jC ?_;clear hK K)|refine jD ?_|refine jE ?_|refine jG ?_|refine jH ?_|refine jI ?_)|((with_reducible refine jR ?hq ?_);case hq=>rfl)|((first|(with_reducible first|refine jS fun K hK=>?_|refine jT ?_|refine jU ?_)|((with_reducible refine jV ?hy fun K hK=>?_);case hy=>rfl));simp only [go_sem, Nat.reduceEqDiff, Nat.reduceAdd, Nat.reduceMul, Nat.reduceLeDiff, Nat.reduceLT, Int.reduceLT, Int.reduceLE, Int.reduceEq, Int.reduceNeg, Int.reduceToNat, Nat.reducePow, reduceIte, reduceCtorEq, bn])|((with_reducible first|refine jW ?hy ?_|refine jY ?hy ?_);case hy=>rfl)|((with_reducible first|refine jX ?hy ?_|refine jZ ?hy ?_);case hy=>rfl)|((with_reducible refine jF ?hy ?_);case hy=>decide))
 refine x_loop (fun m e' H' => H' = H8 ∧ ∃ i : Nat, e' 11 = .int .i64 ((i : Nat) - 1 : Int) ∧ i ≤ n + 2 ∧ m = n + 2 - i) (n + 2) ⟨rfl, 0, rfl, Nat.zero_le _, rfl⟩ ?_
 rintro m3 e3 H9 ⟨rfl, i, k11, hi3, hm3⟩ hoff
 have k0 := (hoff 0 rfl).trans j0
 have k1 := (hoff 1 rfl).trans j1
 clear hoff ew
 have cN : hcell H9 ⟨x, 0, none⟩ = some (.int .i64 (n : Nat)) := by
  obtain ⟨_, _, _, h1, _⟩ := hX7.ex
  exact h1.cellOf (i := 0) rfl
 have ew : IntKind.i64.wrap ((i : Int) - 1 + 1) = ((i + 1 : Nat) : Int) - 1 := by rw [wrap_i64] <;> omega
 by_cases hlt3 : i < n + 2
 ·have u1 : ((i : Int) - 1 ≤ (n : Int)) = True := eq_true (by omega)
  have hb1 : ∀ K : Value → Heap → Prop, K (.tuple #[.int .i64 (if 0 ≤ (i : Int) - 1 ∧ (i : Int) - 1 < n then ((p ((i : Int) - 1).toNat : Nat) : Int) else 0), .int .i64 (if 0 ≤ (i : Int) - 1 ∧ (i : Int) - 1 < n then 0 else 80)]) H9 → CallsH Try.prog 15 #[.pointer (some ⟨o, 0, none⟩), .int .i64 ((i : Int) - 1)] H9 K := fun K hk => by
   by_cases h : 0 ≤ (i : Int) - 1 ∧ (i : Int) - 1 < n
   ·rw [if_pos h, if_pos h] at hk
    obtain ⟨v, hv⟩ := Int.eq_ofNat_of_zero_le h.1
    rw [hv] at hk ⊢
    exact Block_ok hA7 hn (by omega) hk
   ·rw [if_neg h, if_neg h] at hk
    exact Block_bad hA7 hn h hk
  have hb2 : ∀ K : Value → Heap → Prop, K (.tuple #[.int .i64 (if 0 ≤ (i : Int) - 1 ∧ (i : Int) - 1 < n then ((p ((i : Int) - 1).toNat : Nat) : Int) else 0), .int .i64 (if 0 ≤ (i : Int) - 1 ∧ (i : Int) - 1 < n then 0 else 80)]) H9 → CallsH Try.prog 33 #[.pointer (some ⟨x, 0, none⟩), .int .i64 ((i : Int) - 1)] H9 K := fun K hk => by
   by_cases h : 0 ≤ (i : Int) - 1 ∧ (i : Int) - 1 < n
   ·rw [if_pos h, if_pos h] at hk
    obtain ⟨v, hv⟩ := Int.eq_ofNat_of_zero_le h.1
    rw [hv] at hk ⊢
    refine dBlock_ok hX7 (by omega) ?_
    rw [← hp v (by omega)]
    exact hk
   ·rw [if_neg h, if_neg h] at hk
    exact dBlock_bad hX7 h hk
  obtain ⟨z, hz⟩ : ∃ z, z = (i : Int) - 1 := ⟨_, rfl⟩
  rw [← hz] at hb1 hb2 k11 u1 ew
  generalize (if 0 ≤ z ∧ z < n then ((p z.toNat : Nat) : Int) else 0) = bv at hb1 hb2
  generalize (if 0 ≤ z ∧ z < n then (0 : Int) else 80) = be at hb1 hb2
  repeat' (first|(with_reducible first|refine jA ?_|(refine hK _ _ ?_;clear hK K)|refine jJ fun K hK=>?_|refine jK ?_|refine jL ?_|refine jM ?_|refine jN ?_|refine jO ?_|refine jP ?_|refine jQ ?_|(refine jB ?_;clear hK K)|(refine jC ?_;clear hK K)|refine jD ?_|refine jE ?_|refine jG ?_|refine jH ?_|refine jI ?_)|((with_reducible refine jR ?hq ?_);case hq=>rfl)|((first|(with_reducible first|refine jS fun K hK=>?_|refine jT ?_|refine jU ?_)|((with_reducible refine jV ?hy fun K hK=>?_);case hy=>rfl));simp only [go_sem, Nat.reduceEqDiff, Nat.reduceAdd, Nat.reduceMul, Nat.reduceLeDiff, Nat.reduceLT, Int.reduceLT, Int.reduceLE, Int.reduceEq, Int.reduceNeg, Int.reduceToNat, Nat.reducePow, reduceIte, reduceCtorEq, k0, k1, k11, cN, u1])|((with_reducible first|refine jW ?hy ?_|refine jY ?hy ?_);case hy=>rfl)|((with_reducible first|refine jX ?hy ?_|refine jZ ?hy ?_);case hy=>rfl)|((with_reducible refine jF ?hy ?_);case hy=>decide))
  refine hb1 _ ?_
  repeat' (first|(with_reducible first|refine jA ?_|(refine hK _ _ ?_;clear hK K)|refine jJ fun K hK=>?_|refine jK ?_|refine jL ?_|refine jM ?_|refine jN ?_|refine jO ?_|refine jP ?_|refine jQ ?_|(refine jB ?_;clear hK K)|(refine jC ?_;clear hK K)|refine jD ?_|refine jE ?_|refine jG ?_|refine jH ?_|refine jI ?_)|((with_reducible refine jR ?hq ?_);case hq=>rfl)|((first|(with_reducible first|refine jS fun K hK=>?_|refine jT ?_|refine jU ?_)|((with_reducible refine jV ?hy fun K hK=>?_);case hy=>rfl));simp only [go_sem, Nat.reduceEqDiff, Nat.reduceAdd, Nat.reduceMul, Nat.reduceLeDiff, Nat.reduceLT, Int.reduceLT, Int.reduceLE, Int.reduceEq, Int.reduceNeg, Int.reduceToNat, Nat.reducePow, reduceIte, reduceCtorEq, k1, k11])|((with_reducible first|refine jW ?hy ?_|refine jY ?hy ?_);case hy=>rfl)|((with_reducible first|refine jX ?hy ?_|refine jZ ?hy ?_);case hy=>rfl)|((with_reducible refine jF ?hy ?_);case hy=>decide))
  refine hb2 _ ?_
  repeat' (first|(with_reducible first|refine jA ?_|(refine hK _ _ ?_;clear hK K)|refine jJ fun K hK=>?_|refine jK ?_|refine jL ?_|refine jM ?_|refine jN ?_|refine jO ?_|refine jP ?_|refine jQ ?_|(refine jB ?_;clear hK K)|(refine jC ?_;clear hK K)|refine jD ?_|refine jE ?_|refine jG ?_|refine jH ?_|refine jI ?_)|((with_reducible refine jR ?hq ?_);case hq=>rfl)|((first|(with_reducible first|refine jS fun K hK=>?_|refine jT ?_|refine jU ?_)|((with_reducible refine jV ?hy fun K hK=>?_);case hy=>rfl));simp only [go_sem, Nat.reduceEqDiff, Nat.reduceAdd, Nat.reduceMul, Nat.reduceLeDiff, Nat.reduceLT, Int.reduceLT, Int.reduceLE, Int.reduceEq, Int.reduceNeg, Int.reduceToNat, Nat.reducePow, reduceIte, reduceCtorEq, bn])|((with_reducible first|refine jW ?hy ?_|refine jY ?hy ?_);case hy=>rfl)|((with_reducible first|refine jX ?hy ?_|refine jZ ?hy ?_);case hy=>rfl)|((with_reducible refine jF ?hy ?_);case hy=>decide))
  refine x_loop (fun m e' H' => H' = H9 ∧ ∃ i : Nat, e' 16 = .int .i64 ((i : Nat) - 1 : Int) ∧ i ≤ n + 2 ∧ m = n + 2 - i) (n + 2) ⟨rfl, 0, rfl, Nat.zero_le _, rfl⟩ ?_
  rintro m4 e4 H10 ⟨rfl, j, l16, hj, hm4⟩ hoff
  have l0 := (hoff 0 rfl).trans k0
  have l1 := (hoff 1 rfl).trans k1
  have l11 := (hoff 11 rfl).trans k11
  clear hoff hb1 hb2
  have ewj : IntKind.i64.wrap ((j : Int) - 1 + 1) = ((j + 1 : Nat) : Int) - 1 := by rw [wrap_i64] <;> omega
  by_cases hlt4 : j < n + 2
  ·have v1 : ((j : Int) - 1 ≤ (n : Int)) = True := eq_true (by omega)
   obtain ⟨y, hy⟩ : ∃ y, y = (j : Int) - 1 := ⟨_, rfl⟩
   rw [← hy] at l16 v1 ewj
   have hs1 : ∃ (bv : Bool) (be : Int), (∀ K : Value → Heap → Prop, K (.tuple #[.bool bv, .int .i64 be]) H10 → CallsH Try.prog 22 #[.pointer (some ⟨o, 0, none⟩), .int .i64 z, .int .i64 y] H10 K) ∧ ∀ K : Value → Heap → Prop, K (.tuple #[.bool bv, .int .i64 be]) H10 → CallsH Try.prog 34 #[.pointer (some ⟨x, 0, none⟩), .int .i64 z, .int .i64 y] H10 K := by
    by_cases h : (0 ≤ z ∧ z < n) ∧ 0 ≤ y ∧ y < n
    ·obtain ⟨v, rfl⟩ := Int.eq_ofNat_of_zero_le h.1.1
     obtain ⟨w, rfl⟩ := Int.eq_ofNat_of_zero_le h.2.1
     refine ⟨decide (p v = p w), 0, fun K hk => Same_ok hA7 hn (by omega) (by omega) hk, fun K hk => dSame_ok hX7 (by omega) (by omega) ?_⟩
     rw [← hp v (by omega), ← hp w (by omega)]
     exact hk
    ·exact ⟨false, 80, fun K hk => Same_bad hA7 hn h hk, fun K hk => dSame_bad hX7 h hk⟩
   obtain ⟨sv, se, hs1, hs2⟩ := hs1
   repeat' (first|(with_reducible first|refine jA ?_|(refine hK _ _ ?_;clear hK K)|refine jJ fun K hK=>?_|refine jK ?_|refine jL ?_|refine jM ?_|refine jN ?_|refine jO ?_|refine jP ?_|refine jQ ?_|(refine jB ?_;clear hK K)|(refine jC ?_;clear hK K)|refine jD ?_|refine jE ?_|refine jG ?_|refine jH ?_|refine jI ?_)|((with_reducible refine jR ?hq ?_);case hq=>rfl)|((first|(with_reducible first|refine jS fun K hK=>?_|refine jT ?_|refine jU ?_)|((with_reducible refine jV ?hy fun K hK=>?_);case hy=>rfl));simp only [go_sem, Nat.reduceEqDiff, Nat.reduceAdd, Nat.reduceMul, Nat.reduceLeDiff, Nat.reduceLT, Int.reduceLT, Int.reduceLE, Int.reduceEq, Int.reduceNeg, Int.reduceToNat, Nat.reducePow, reduceIte, reduceCtorEq, l0, l1, l11, l16, cN, v1])|((with_reducible first|refine jW ?hy ?_|refine jY ?hy ?_);case hy=>rfl)|((with_reducible first|refine jX ?hy ?_|refine jZ ?hy ?_);case hy=>rfl)|((with_reducible refine jF ?hy ?_);case hy=>decide))
   refine hs1 _ ?_
   repeat' (first|(with_reducible first|refine jA ?_|(refine hK _ _ ?_;clear hK K)|refine jJ fun K hK=>?_|refine jK ?_|refine jL ?_|refine jM ?_|refine jN ?_|refine jO ?_|refine jP ?_|refine jQ ?_|(refine jB ?_;clear hK K)|(refine jC ?_;clear hK K)|refine jD ?_|refine jE ?_|refine jG ?_|refine jH ?_|refine jI ?_)|((with_reducible refine jR ?hq ?_);case hq=>rfl)|((first|(with_reducible first|refine jS fun K hK=>?_|refine jT ?_|refine jU ?_)|((with_reducible refine jV ?hy fun K hK=>?_);case hy=>rfl));simp only [go_sem, Nat.reduceEqDiff, Nat.reduceAdd, Nat.reduceMul, Nat.reduceLeDiff, Nat.reduceLT, Int.reduceLT, Int.reduceLE, Int.reduceEq, Int.reduceNeg, Int.reduceToNat, Nat.reducePow, reduceIte, reduceCtorEq, l1, l11, l16])|((with_reducible first|refine jW ?hy ?_|refine jY ?hy ?_);case hy=>rfl)|((with_reducible first|refine jX ?hy ?_|refine jZ ?hy ?_);case hy=>rfl)|((with_reducible refine jF ?hy ?_);case hy=>decide))
   refine hs2 _ ?_
   repeat' (first|(with_reducible first|refine jA ?_|(refine hK _ _ ?_;clear hK K)|refine jJ fun K hK=>?_|refine jK ?_|refine jL ?_|refine jM ?_|refine jN ?_|refine jO ?_|refine jP ?_|refine jQ ?_|(refine jB ?_;clear hK K)|(refine jC ?_;clear hK K)|refine jD ?_|refine jE ?_|refine jG ?_|refine jH ?_|refine jI ?_)|((with_reducible refine jR ?hq ?_);case hq=>rfl)|((first|(with_reducible first|refine jS fun K hK=>?_|refine jT ?_|refine jU ?_)|((with_reducible refine jV ?hy fun K hK=>?_);case hy=>rfl));simp only [go_sem, Nat.reduceEqDiff, Nat.reduceAdd, Nat.reduceMul, Nat.reduceLeDiff, Nat.reduceLT, Int.reduceLT, Int.reduceLE, Int.reduceEq, Int.reduceNeg, Int.reduceToNat, Nat.reducePow, reduceIte, reduceCtorEq, bb, bn, l16, ewj])|((with_reducible first|refine jW ?hy ?_|refine jY ?hy ?_);case hy=>rfl)|((with_reducible first|refine jX ?hy ?_|refine jZ ?hy ?_);case hy=>rfl)|((with_reducible refine jF ?hy ?_);case hy=>decide))
   exact loop_normal (m' := n + 2 - (j + 1)) (by omega) ⟨rfl, j + 1, rfl, hlt4, rfl⟩
  have v1 : ((j : Int) - 1 ≤ (n : Int)) = False := eq_false (by omega)
  repeat' (first|(with_reducible first|refine jA ?_|(refine hK _ _ ?_;clear hK K)|refine jJ fun K hK=>?_|refine jK ?_|refine jL ?_|refine jM ?_|refine jN ?_|refine jO ?_|refine jP ?_|refine jQ ?_|(refine jB ?_;clear hK K)|(refine jC ?_;clear hK K)|refine jD ?_|refine jE ?_|refine jG ?_|refine jH ?_|refine jI ?_)|((with_reducible refine jR ?hq ?_);case hq=>rfl)|((first|(with_reducible first|refine jS fun K hK=>?_|refine jT ?_|refine jU ?_)|((with_reducible refine jV ?hy fun K hK=>?_);case hy=>rfl));simp only [go_sem, Nat.reduceEqDiff, Nat.reduceAdd, Nat.reduceMul, Nat.reduceLeDiff, Nat.reduceLT, Int.reduceLT, Int.reduceLE, Int.reduceEq, Int.reduceNeg, Int.reduceToNat, Nat.reducePow, reduceIte, reduceCtorEq, l1, l16, l11, cN, v1, ew])|((with_reducible first|refine jW ?hy ?_|refine jY ?hy ?_);case hy=>rfl)|((with_reducible first|refine jX ?hy ?_|refine jZ ?hy ?_);case hy=>rfl)|((with_reducible refine jF ?hy ?_);case hy=>decide))
  exact loop_normal (m' := n + 2 - (i + 1)) (by omega) ⟨rfl, i + 1, rfl, hlt3, rfl⟩
 have u1 : ((i : Int) - 1 ≤ (n : Int)) = False := eq_false (by omega)
 repeat' (first|(with_reducible first|refine jA ?_|(refine hK _ _ ?_;clear hK K)|refine jJ fun K hK=>?_|refine jK ?_|refine jL ?_|refine jM ?_|refine jN ?_|refine jO ?_|refine jP ?_|refine jQ ?_|(refine jB ?_;clear hK K)|(refine jC ?_;clear hK K)|refine jD ?_|refine jE ?_|refine jG ?_|refine jH ?_|refine jI ?_)|((with_reducible refine jR ?hq ?_);case hq=>rfl)|((first|(with_reducible first|refine jS fun K hK=>?_|refine jT ?_|refine jU ?_)|((with_reducible refine jV ?hy fun K hK=>?_);case hy=>rfl));simp only [go_sem, Nat.reduceEqDiff, Nat.reduceAdd, Nat.reduceMul, Nat.reduceLeDiff, Nat.reduceLT, Int.reduceLT, Int.reduceLE, Int.reduceEq, Int.reduceNeg, Int.reduceToNat, Nat.reducePow, reduceIte, reduceCtorEq, k1, k11, cN, u1])|((with_reducible first|refine jW ?hy ?_|refine jY ?hy ?_);case hy=>rfl)|((with_reducible first|refine jX ?hy ?_|refine jZ ?hy ?_);case hy=>rfl)|((with_reducible refine jF ?hy ?_);case hy=>decide))
 exact fin _ fb
end
end Go.Proofs.Ytpeaogldojepnaa
namespace Go.Br
open Go Go.Hp Go.Li
def InEds (H : Heap) (a : Option Addr) (len c : Nat) (zs : Nat → Ed) : Prop := RawE H a c ((List.range len).map zs)
theorem RawE.frameS {H0 H H' : Heap} {S : Nat → Prop} {a : Option Addr} {c : Nat} {ys : List Ed} (h0 : RawE H0 a c ys) (h : RawE H a c ys) (hf : Fr S H H') (hS : ∀ b, b < H0.size → ¬ S b) : RawE H' a c ys :=
 ⟨h.cap, h.nil, fun i x hx => by
  obtain ⟨q, h1, h2⟩ := h.cells i x hx
  obtain ⟨q', h3, h4, _⟩ := h0.at hx
  rw [h1] at h3
  obtain rfl := Option.some.inj h3
  exact ⟨q, h1, fun j v hj => by have := h2 j v hj; rw [hf.cell (hcell_lt this) (by rw [add_block]; exact hS _ h4)]; exact this⟩⟩
noncomputable def er (n : Int) (l : List Ed) : Int := open Classical in if n < 1 ∨ 64 < n ∨ 192 < l.length then 1 else if May n.toNat l then 0 else 81
theorem er_few {n : Int} {l : List Ed} (h : n < 1 ∨ 64 < n ∨ 192 < l.length) : er n l = 1 := by unfold er; rw [if_pos h]
theorem er_ok {n : Nat} {l : List Ed} (h : ¬ ((n : Int) < 1 ∨ 64 < (n : Int) ∨ 192 < l.length)) (hm : May n l) : er n l = 0 := by unfold er; rw [if_neg h, Int.toNat_natCast, if_pos hm]
theorem er_not {n : Nat} {l : List Ed} (h : ¬ ((n : Int) < 1 ∨ 64 < (n : Int) ∨ 192 < l.length)) (hm : ¬ May n l) : er n l = 81 := by unfold er; rw [if_neg h, Int.toNat_natCast, if_neg hm]
def DR (H : Heap) (T : Nat → Prop) (n : Int) (l : List Ed) (v : Option Addr) : Prop :=
 (er n l ≠ 0 ∧ v = none) ∨ (er n l = 0 ∧ ∃ (o N : Nat) (ids : List Int) (p : Nat → Nat), v = some ⟨o, 0, none⟩ ∧ n = (N : Int) ∧ N ≤ 64 ∧ IsBr l ids ∧ ids.length ≤ 1000 ∧ Least (Firm l) N p ∧ RoM H o T ids p N)
def PR (H : Heap) (T : Nat → Prop) (n : Int) (l : List Ed) (v : Option Addr) : Prop :=
 (er n l ≠ 0 ∧ v = none) ∨ (er n l = 0 ∧ ∃ (o N : Nat) (ids : List Int) (p : Nat → Nat), v = some ⟨o, 0, none⟩ ∧ n = (N : Int) ∧ N ≤ 64 ∧ IsBr l ids ∧ Least (Firm l) N p ∧ OrM H o T ids p N)
section
variable {H H' : Heap} {T S : Nat → Prop} {n : Int} {l : List Ed} {v : Option Addr}
theorem DR.frame (h : DR H T n l v) (hf : Fr S H H') (hT : ∀ b, T b → ¬ S b) : DR H' T n l v := by
 obtain h | ⟨h1, o, N, ids, p, h2, h3, h4, h5, h6, h7, h8⟩ := h
 ·exact .inl h
 ·exact .inr ⟨h1, o, N, ids, p, h2, h3, h4, h5, h6, h7, h8.frame hf hT⟩
theorem PR.frame (h : PR H T n l v) (hf : Fr S H H') (hT : ∀ b, T b → ¬ S b) : PR H' T n l v := by
 obtain h | ⟨h1, o, N, ids, p, h2, h3, h4, h5, h6, h7⟩ := h
 ·exact .inl h
 ·exact .inr ⟨h1, o, N, ids, p, h2, h3, h4, h5, h6, h7.frame hf hT⟩
end
end Go.Br
namespace Go.Proofs.Ytpeaogldojepnaa
open Go Go.Hp Go.Li Go.Br
set_option linter.all false
set_option maxRecDepth 100000
set_option maxHeartbeats 3200000
section
variable {H : Heap} {L : Value → Heap → Prop}
theorem dOf_all {n : Int} {l : List Ed} {a : Option Addr} {c : Nat} (hl : RawE H a c l) (fin : ∀ H' v T, DR H' T n l v → (∀ b, T b → H.size ≤ b ∧ b < H'.size) → Fr (fun _ => False) H H' → L (.tuple #[.pointer v, .int .i64 (er n l)]) H') :
  CallsH Try.prog 17 #[.int .i64 n, .slice a l.length c] H L := by
 by_cases h : n < 1 ∨ 64 < n ∨ 192 < l.length
 ·refine dOf_few hl h ?_
  have := fin H none (fun _ => False) (.inl ⟨by rw [er_few h]; decide, rfl⟩) (fun b h => h.elim) (Fr.refl _ _)
  rw [er_few h] at this
  exact this
 ·obtain ⟨N, rfl⟩ := Int.eq_ofNat_of_zero_le (a := n) (by omega)
  refine dOf_ok hl (by omega) (by omega) (by omega) (fun hm H' hf => ?_) (fun hm H' o T ids p h1 h2 h3 h4 h5 h6 => ?_)
  ·have := fin H' none (fun _ => False) (.inl ⟨by rw [er_not h hm]; decide, rfl⟩) (fun b h => h.elim) hf
   rw [er_not h hm] at this
   exact this
  ·obtain ⟨T', k1, k2⟩ := h1.exact
   have := fin H' _ T' (.inr ⟨er_ok h hm, o, N, ids, p, rfl, rfl, by omega, h3, by omega, h5, k1⟩) (fun b hb => ⟨h2 b (k2 b hb).2, (k2 b hb).1⟩) h6
   rw [er_ok h hm] at this
   exact this
theorem Of_all {n : Int} {l : List Ed} {B : Option Nat} {w : Value} (hl : SR Ed.cells 4 H B w l) (fin : ∀ H' v T, PR H' T n l v → (∀ b, T b → H.size ≤ b) → Fr (fun _ => False) H H' → L (.tuple #[.pointer v, .int .i64 (er n l)]) H') :
  CallsH Try.prog 11 #[.int .i64 n, w] H L := by
 by_cases h : n < 1 ∨ 64 < n ∨ 192 < l.length
 ·refine Of_few hl h ?_
  have := fin H none (fun _ => False) (.inl ⟨by rw [er_few h]; decide, rfl⟩) (fun b h => h.elim) (Fr.refl _ _)
  rw [er_few h] at this
  exact this
 ·obtain ⟨N, rfl⟩ := Int.eq_ofNat_of_zero_le (a := n) (by omega)
  by_cases hm : May N l
  ·refine Of_ok hl (by omega) (by omega) (by omega) hm fun H' o T ids p h1 h2 h3 h4 h5 h6 => ?_
   have := fin H' _ T (.inr ⟨er_ok h hm, o, N, ids, p, rfl, rfl, by omega, h3, h4, h1⟩) h2 h6
   rw [er_ok h hm] at this
   exact this
  ·refine Of_not hl (by omega) (by omega) (by omega) hm fun H' hf => ?_
   have := fin H' none (fun _ => False) (.inl ⟨by rw [er_not h hm]; decide, rfl⟩) (fun b h => h.elim) hf
   rw [er_not h hm] at this
   exact this
theorem told_all {n : Int} {l : List Ed} {v w : Option Addr} {T T' : Nat → Prop} (hp : PR H T n l v) (hd : DR H T' n l w) (he : er n l = 0) :
  ∃ o x, v = some ⟨o, 0, none⟩ ∧ w = some ⟨x, 0, none⟩ ∧ ∀ (H' : Heap) (L : Value → Heap → Prop), Fr (fun _ => False) H H' → (∀ H'', Fr (fun _ => False) H' H'' → L (.bool true) H'') → CallsH Try.prog 20 #[.pointer (some ⟨o, 0, none⟩), .pointer (some ⟨x, 0, none⟩)] H' L := by
 obtain ⟨h, _⟩ | ⟨_, o, N, ids, p, rfl, h3, h4, h5, h6, h7⟩ := hp
 ·exact absurd he h
 obtain ⟨h, _⟩ | ⟨_, x, N', ids', p', rfl, k3, k4, k5, k5', k6, k7⟩ := hd
 ·exact absurd he h
 obtain rfl : N = N' := by omega
 obtain rfl : ids = ids' := srt_eq h5.srt k5.srt fun i => (h5.mem i).trans (k5.mem i).symm
 exact ⟨o, x, rfl, rfl, fun H' L hf fin => told_ok (h7.frame hf fun _ _ h => h) (k7.frame hf fun _ _ h => h) (fun v hv => h6.uniq k6 hv) h4 k5' fin⟩
theorem none_all {n : Int} {l : List Ed} {v w : Option Addr} {T T' : Nat → Prop} (hp : PR H T n l v) (hd : DR H T' n l w) (he : er n l ≠ 0) : v = none ∧ w = none := by
 obtain ⟨_, h⟩ | ⟨h, _⟩ := hp
 ·obtain ⟨_, k⟩ | ⟨k, _⟩ := hd
  ·exact ⟨h, k⟩
  ·exact absurd k he
 ·exact absurd h he
theorem bridgePlays {n1 n2 : Int} {a : Option Addr} {len ca : Nat} {zs : Nat → Ed} {a2 : Option Addr} {len2 ca2 : Nat} {zs2 : Nat → Ed} (hin : InEds H a len ca zs) (hlen : len ≤ 9223372036854775807) (hin2 : InEds H a2 len2 ca2 zs2) (hlen2 : len2 ≤ 9223372036854775807)
  (fin : ∀ H', Fr (fun _ => False) H H' → L (.bool true) H') :
  CallsH Try.prog 5 #[.int .i64 n1, .int .i64 n2, .slice a len ca, .slice a2 len2 ca2] H L := by
 obtain ⟨l, hl, rfl⟩ : ∃ l : List Ed, RawE H a ca l ∧ l.length = len := ⟨_, hin, by simp⟩
 obtain ⟨m, hm, rfl⟩ : ∃ m : List Ed, RawE H a2 ca2 m ∧ m.length = len2 := ⟨_, hin2, by simp⟩
 clear hin hin2
 refine call5 (by simp) ?_
 simp only [Try.f5, Option.getD_some]
 repeat' (first|(with_reducible first|refine jA ?_|(refine hK _ _ ?_;clear hK K)|refine jJ fun K hK=>?_|refine jK ?_|refine jL ?_|refine jM ?_|refine jN ?_|refine jO ?_|refine jP ?_|refine jQ ?_|(refine jB ?_;clear hK K)|(refine jC ?_;clear hK K)|refine jD ?_|refine jE ?_|refine jG ?_|refine jH ?_|refine jI ?_)|((with_reducible refine jR ?hq ?_);case hq=>rfl)|((first|(with_reducible first|refine jS fun K hK=>?_|refine jT ?_|refine jU ?_)|((with_reducible refine jV ?hy fun K hK=>?_);case hy=>rfl));simp only [go_sem, Nat.reduceEqDiff, Nat.reduceAdd, Nat.reduceMul, Nat.reduceLeDiff, Nat.reduceLT, Int.reduceLT, Int.reduceLE, Int.reduceEq, Int.reduceNeg, Int.reduceToNat, Nat.reducePow, reduceIte, reduceCtorEq])|((with_reducible first|refine jW ?hy ?_|refine jY ?hy ?_);case hy=>rfl)|((with_reducible first|refine jX ?hy ?_|refine jZ ?hy ?_);case hy=>rfl)|((with_reducible refine jF ?hy ?_);case hy=>decide))
 refine awake_ok fun H1 f1 => ?_
 by_cases b1 : 2000 < l.length
 ·have t1 : (2000 < (l.length : Int)) = True := eq_true (by omega)
  have t1' : (2000 < l.length) = True := eq_true b1
  repeat' (first|(with_reducible first|refine jA ?_|(refine hK _ _ ?_;clear hK K)|refine jJ fun K hK=>?_|refine jK ?_|refine jL ?_|refine jM ?_|refine jN ?_|refine jO ?_|refine jP ?_|refine jQ ?_|(refine jB ?_;clear hK K)|(refine jC ?_;clear hK K)|refine jD ?_|refine jE ?_|refine jG ?_|refine jH ?_|refine jI ?_)|((with_reducible refine jR ?hq ?_);case hq=>rfl)|((first|(with_reducible first|refine jS fun K hK=>?_|refine jT ?_|refine jU ?_)|((with_reducible refine jV ?hy fun K hK=>?_);case hy=>rfl));simp only [go_sem, Nat.reduceEqDiff, Nat.reduceAdd, Nat.reduceMul, Nat.reduceLeDiff, Nat.reduceLT, Int.reduceLT, Int.reduceLE, Int.reduceEq, Int.reduceNeg, Int.reduceToNat, Nat.reducePow, reduceIte, reduceCtorEq, t1, t1', Bool.not_true])|((with_reducible first|refine jW ?hy ?_|refine jY ?hy ?_);case hy=>rfl)|((with_reducible first|refine jX ?hy ?_|refine jZ ?hy ?_);case hy=>rfl)|((with_reducible refine jF ?hy ?_);case hy=>decide))
  exact fin H1 f1
 have t1 : (2000 < (l.length : Int)) = False := eq_false (by omega)
 have t1' : (2000 < l.length) = False := eq_false b1
 by_cases b2 : 2000 < m.length
 ·have t2 : (2000 < (m.length : Int)) = True := eq_true (by omega)
  have t2' : (2000 < m.length) = True := eq_true b2
  repeat' (first|(with_reducible first|refine jA ?_|(refine hK _ _ ?_;clear hK K)|refine jJ fun K hK=>?_|refine jK ?_|refine jL ?_|refine jM ?_|refine jN ?_|refine jO ?_|refine jP ?_|refine jQ ?_|(refine jB ?_;clear hK K)|(refine jC ?_;clear hK K)|refine jD ?_|refine jE ?_|refine jG ?_|refine jH ?_|refine jI ?_)|((with_reducible refine jR ?hq ?_);case hq=>rfl)|((first|(with_reducible first|refine jS fun K hK=>?_|refine jT ?_|refine jU ?_)|((with_reducible refine jV ?hy fun K hK=>?_);case hy=>rfl));simp only [go_sem, Nat.reduceEqDiff, Nat.reduceAdd, Nat.reduceMul, Nat.reduceLeDiff, Nat.reduceLT, Int.reduceLT, Int.reduceLE, Int.reduceEq, Int.reduceNeg, Int.reduceToNat, Nat.reducePow, reduceIte, reduceCtorEq, t1, t1', t2, t2', Bool.not_true])|((with_reducible first|refine jW ?hy ?_|refine jY ?hy ?_);case hy=>rfl)|((with_reducible first|refine jX ?hy ?_|refine jZ ?hy ?_);case hy=>rfl)|((with_reducible refine jF ?hy ?_);case hy=>decide))
  exact fin H1 f1
 have t2 : (2000 < (m.length : Int)) = False := eq_false (by omega)
 have t2' : (2000 < m.length) = False := eq_false b2
 have hl1 := hl.frame f1
 have hm1 := hm.frame f1
 repeat' (first|(with_reducible first|refine jA ?_|(refine hK _ _ ?_;clear hK K)|refine jJ fun K hK=>?_|refine jK ?_|refine jL ?_|refine jM ?_|refine jN ?_|refine jO ?_|refine jP ?_|refine jQ ?_|(refine jB ?_;clear hK K)|(refine jC ?_;clear hK K)|refine jD ?_|refine jE ?_|refine jG ?_|refine jH ?_|refine jI ?_)|((with_reducible refine jR ?hq ?_);case hq=>rfl)|((first|(with_reducible first|refine jS fun K hK=>?_|refine jT ?_|refine jU ?_)|((with_reducible refine jV ?hy fun K hK=>?_);case hy=>rfl));simp only [go_sem, Nat.reduceEqDiff, Nat.reduceAdd, Nat.reduceMul, Nat.reduceLeDiff, Nat.reduceLT, Int.reduceLT, Int.reduceLE, Int.reduceEq, Int.reduceNeg, Int.reduceToNat, Nat.reducePow, reduceIte, reduceCtorEq, t1, t1', t2, t2', Bool.not_true])|((with_reducible first|refine jW ?hy ?_|refine jY ?hy ?_);case hy=>rfl)|((with_reducible first|refine jX ?hy ?_|refine jZ ?hy ?_);case hy=>rfl)|((with_reducible refine jF ?hy ?_);case hy=>decide))
 refine dOf_all hl1 fun H2 x1 T1 hD1 hT1 f2 => ?_
 have hm2 := hm1.frame f2
 repeat' (first|(with_reducible first|refine jA ?_|(refine hK _ _ ?_;clear hK K)|refine jJ fun K hK=>?_|refine jK ?_|refine jL ?_|refine jM ?_|refine jN ?_|refine jO ?_|refine jP ?_|refine jQ ?_|(refine jB ?_;clear hK K)|(refine jC ?_;clear hK K)|refine jD ?_|refine jE ?_|refine jG ?_|refine jH ?_|refine jI ?_)|((with_reducible refine jR ?hq ?_);case hq=>rfl)|((first|(with_reducible first|refine jS fun K hK=>?_|refine jT ?_|refine jU ?_)|((with_reducible refine jV ?hy fun K hK=>?_);case hy=>rfl));simp only [go_sem, Nat.reduceEqDiff, Nat.reduceAdd, Nat.reduceMul, Nat.reduceLeDiff, Nat.reduceLT, Int.reduceLT, Int.reduceLE, Int.reduceEq, Int.reduceNeg, Int.reduceToNat, Nat.reducePow, reduceIte, reduceCtorEq])|((with_reducible first|refine jW ?hy ?_|refine jY ?hy ?_);case hy=>rfl)|((with_reducible first|refine jX ?hy ?_|refine jZ ?hy ?_);case hy=>rfl)|((with_reducible refine jF ?hy ?_);case hy=>decide))
 refine dOf_all hm2 fun H3 x2 T2 hD2 hT2 f3 => ?_
 have f23 := f2.trans f3
 have hl3 := hl1.frame f23
 have hm3 := hm2.frame f3
 have hD13 := hD1.frame f3 fun _ _ h => h
 repeat' (first|(with_reducible first|refine jA ?_|(refine hK _ _ ?_;clear hK K)|refine jJ fun K hK=>?_|refine jK ?_|refine jL ?_|refine jM ?_|refine jN ?_|refine jO ?_|refine jP ?_|refine jQ ?_|(refine jB ?_;clear hK K)|(refine jC ?_;clear hK K)|refine jD ?_|refine jE ?_|refine jG ?_|refine jH ?_|refine jI ?_)|((with_reducible refine jR ?hq ?_);case hq=>rfl)|((first|(with_reducible first|refine jS fun K hK=>?_|refine jT ?_|refine jU ?_)|((with_reducible refine jV ?hy fun K hK=>?_);case hy=>rfl));simp only [go_sem, Nat.reduceEqDiff, Nat.reduceAdd, Nat.reduceMul, Nat.reduceLeDiff, Nat.reduceLT, Int.reduceLT, Int.reduceLE, Int.reduceEq, Int.reduceNeg, Int.reduceToNat, Nat.reducePow, reduceIte, reduceCtorEq])|((with_reducible first|refine jW ?hy ?_|refine jY ?hy ?_);case hy=>rfl)|((with_reducible first|refine jX ?hy ?_|refine jZ ?hy ?_);case hy=>rfl)|((with_reducible refine jF ?hy ?_);case hy=>decide))
 refine lent_ok hl3 (by omega) fun H4 g c4 h4 hg4 f4 => ?_
 have hm4 := hm3.frame f4
 have hl4 := hl3.frame f4
 have hD14 := hD13.frame f4 fun _ _ h => h
 have hD24 := hD2.frame f4 fun _ _ h => h
 repeat' (first|(with_reducible first|refine jA ?_|(refine hK _ _ ?_;clear hK K)|refine jJ fun K hK=>?_|refine jK ?_|refine jL ?_|refine jM ?_|refine jN ?_|refine jO ?_|refine jP ?_|refine jQ ?_|(refine jB ?_;clear hK K)|(refine jC ?_;clear hK K)|refine jD ?_|refine jE ?_|refine jG ?_|refine jH ?_|refine jI ?_)|((with_reducible refine jR ?hq ?_);case hq=>rfl)|((first|(with_reducible first|refine jS fun K hK=>?_|refine jT ?_|refine jU ?_)|((with_reducible refine jV ?hy fun K hK=>?_);case hy=>rfl));simp only [go_sem, Nat.reduceEqDiff, Nat.reduceAdd, Nat.reduceMul, Nat.reduceLeDiff, Nat.reduceLT, Int.reduceLT, Int.reduceLE, Int.reduceEq, Int.reduceNeg, Int.reduceToNat, Nat.reducePow, reduceIte, reduceCtorEq])|((with_reducible first|refine jW ?hy ?_|refine jY ?hy ?_);case hy=>rfl)|((with_reducible first|refine jX ?hy ?_|refine jZ ?hy ?_);case hy=>rfl)|((with_reducible refine jF ?hy ?_);case hy=>decide))
 refine lent_ok hm4 (by omega) fun H5 k c5 h5 hg5 f5 => ?_
 have hl5 := hl4.frame f5
 have hm5 := hm4.frame f5
 have h45 := h4.frame f5 fun _ _ h => h
 have hD15 := hD14.frame f5 fun _ _ h => h
 have hD25 := hD24.frame f5 fun _ _ h => h
 have l4 := h4.lt rfl
 have l5 := h5.lt rfl
 have own1 := own_part h45
 have own2 := own_part h5
 repeat' (first|(with_reducible first|refine jA ?_|(refine hK _ _ ?_;clear hK K)|refine jJ fun K hK=>?_|refine jK ?_|refine jL ?_|refine jM ?_|refine jN ?_|refine jO ?_|refine jP ?_|refine jQ ?_|(refine jB ?_;clear hK K)|(refine jC ?_;clear hK K)|refine jD ?_|refine jE ?_|refine jG ?_|refine jH ?_|refine jI ?_)|((with_reducible refine jR ?hq ?_);case hq=>rfl)|((first|(with_reducible first|refine jS fun K hK=>?_|refine jT ?_|refine jU ?_)|((with_reducible refine jV ?hy fun K hK=>?_);case hy=>rfl));simp only [go_sem, Nat.reduceEqDiff, Nat.reduceAdd, Nat.reduceMul, Nat.reduceLeDiff, Nat.reduceLT, Int.reduceLT, Int.reduceLE, Int.reduceEq, Int.reduceNeg, Int.reduceToNat, Nat.reducePow, reduceIte, reduceCtorEq])|((with_reducible first|refine jW ?hy ?_|refine jY ?hy ?_);case hy=>rfl)|((with_reducible first|refine jX ?hy ?_|refine jZ ?hy ?_);case hy=>rfl)|((with_reducible refine jF ?hy ?_);case hy=>decide))
 refine Of_all own1 fun H6 v1 U1 hP1 hU1 f6 => ?_
 have own26 := own2.frame f6 fun _ _ h => h
 repeat' (first|(with_reducible first|refine jA ?_|(refine hK _ _ ?_;clear hK K)|refine jJ fun K hK=>?_|refine jK ?_|refine jL ?_|refine jM ?_|refine jN ?_|refine jO ?_|refine jP ?_|refine jQ ?_|(refine jB ?_;clear hK K)|(refine jC ?_;clear hK K)|refine jD ?_|refine jE ?_|refine jG ?_|refine jH ?_|refine jI ?_)|((with_reducible refine jR ?hq ?_);case hq=>rfl)|((first|(with_reducible first|refine jS fun K hK=>?_|refine jT ?_|refine jU ?_)|((with_reducible refine jV ?hy fun K hK=>?_);case hy=>rfl));simp only [go_sem, Nat.reduceEqDiff, Nat.reduceAdd, Nat.reduceMul, Nat.reduceLeDiff, Nat.reduceLT, Int.reduceLT, Int.reduceLE, Int.reduceEq, Int.reduceNeg, Int.reduceToNat, Nat.reducePow, reduceIte, reduceCtorEq])|((with_reducible first|refine jW ?hy ?_|refine jY ?hy ?_);case hy=>rfl)|((with_reducible first|refine jX ?hy ?_|refine jZ ?hy ?_);case hy=>rfl)|((with_reducible refine jF ?hy ?_);case hy=>decide))
 refine Of_all own26 fun H7 v2 U2 hP2 hU2 f7 => ?_
 have f67 := f6.trans f7
 have hl7 := hl5.frame f67
 have hm7 := hm5.frame f67
 have h47 := h45.frame f67 fun _ _ h => h
 have h57 := h5.frame f67 fun _ _ h => h
 have hD17 := hD15.frame f67 fun _ _ h => h
 have hD27 := hD25.frame f67 fun _ _ h => h
 have hP17 := hP1.frame f7 fun _ _ h => h
 have s1 := f1.size
 have s2 := f2.size
 have s3 := f3.size
 have s4 := f4.size
 have s5 := f5.size
 have s6 := f6.size
 repeat' (first|(with_reducible first|refine jA ?_|(refine hK _ _ ?_;clear hK K)|refine jJ fun K hK=>?_|refine jK ?_|refine jL ?_|refine jM ?_|refine jN ?_|refine jO ?_|refine jP ?_|refine jQ ?_|(refine jB ?_;clear hK K)|(refine jC ?_;clear hK K)|refine jD ?_|refine jE ?_|refine jG ?_|refine jH ?_|refine jI ?_)|((with_reducible refine jR ?hq ?_);case hq=>rfl)|((first|(with_reducible first|refine jS fun K hK=>?_|refine jT ?_|refine jU ?_)|((with_reducible refine jV ?hy fun K hK=>?_);case hy=>rfl));simp only [go_sem, Nat.reduceEqDiff, Nat.reduceAdd, Nat.reduceMul, Nat.reduceLeDiff, Nat.reduceLT, Int.reduceLT, Int.reduceLE, Int.reduceEq, Int.reduceNeg, Int.reduceToNat, Nat.reducePow, reduceIte, reduceCtorEq])|((with_reducible first|refine jW ?hy ?_|refine jY ?hy ?_);case hy=>rfl)|((with_reducible first|refine jX ?hy ?_|refine jZ ?hy ?_);case hy=>rfl)|((with_reducible refine jF ?hy ?_);case hy=>decide))
 refine kept_ok hl7 (by omega) h47 fun H8 f8 => ?_
 have hm8 := hm.frameS hm7 f8 fun b hb (e : b = g) => by omega
 have h58 := h57.frame f8 fun b hb (e : b = g) => by have := Option.some.inj hb; omega
 repeat' (first|(with_reducible first|refine jA ?_|(refine hK _ _ ?_;clear hK K)|refine jJ fun K hK=>?_|refine jK ?_|refine jL ?_|refine jM ?_|refine jN ?_|refine jO ?_|refine jP ?_|refine jQ ?_|(refine jB ?_;clear hK K)|(refine jC ?_;clear hK K)|refine jD ?_|refine jE ?_|refine jG ?_|refine jH ?_|refine jI ?_)|((with_reducible refine jR ?hq ?_);case hq=>rfl)|((first|(with_reducible first|refine jS fun K hK=>?_|refine jT ?_|refine jU ?_)|((with_reducible refine jV ?hy fun K hK=>?_);case hy=>rfl));simp only [go_sem, Nat.reduceEqDiff, Nat.reduceAdd, Nat.reduceMul, Nat.reduceLeDiff, Nat.reduceLT, Int.reduceLT, Int.reduceLE, Int.reduceEq, Int.reduceNeg, Int.reduceToNat, Nat.reducePow, reduceIte, reduceCtorEq])|((with_reducible first|refine jW ?hy ?_|refine jY ?hy ?_);case hy=>rfl)|((with_reducible first|refine jX ?hy ?_|refine jZ ?hy ?_);case hy=>rfl)|((with_reducible refine jF ?hy ?_);case hy=>decide))
 refine kept_ok hm8 (by omega) h58 fun H9 f9 => ?_
 have hd : ∀ b, T1 b ∨ T2 b → b < H3.size := fun b hb => by
  rcases hb with hb | hb
  ·have := (hT1 b hb).2; omega
  ·exact (hT2 b hb).2
 have hD1 := (hD17.frame f8 fun b hb (e : b = g) => by have := hd b (.inl hb); omega).frame f9 fun b hb (e : b = k) => by have := hd b (.inl hb); omega
 have hD2 := (hD27.frame f8 fun b hb (e : b = g) => by have := hd b (.inr hb); omega).frame f9 fun b hb (e : b = k) => by have := hd b (.inr hb); omega
 have hP1 := (hP17.frame f8 fun b hb (e : b = g) => by have := hU1 b hb; omega).frame f9 fun b hb (e : b = k) => by have := hU1 b hb; omega
 have hP2 := (hP2.frame f8 fun b hb (e : b = g) => by have := hU2 b hb; omega).frame f9 fun b hb (e : b = k) => by have := hU2 b hb; omega
 have fall : Fr (fun _ => False) H H9 := (((((f1.trans f23).trans f4).trans f5).trans f67).trans' f8 fun b hb (e : b = g) => by omega).trans' f9 fun b hb (e : b = k) => by omega
 have fin := fun H' f => fin H' (fall.trans f)
 have bn : ∀ a : Int, (a != a) = false := fun a => by simp
 have bb : ∀ a : Bool, (a != a) = false := fun a => by simp
 clear hD13 hD14 hD15 hD17 hD24 hD25 hD27 hP17 hl hl1 hl3 hl4 hl5 hl7 hm hm1 hm2 hm3 hm4 hm5 hm7 hm8 h4 h45 h47 h5 h57 h58 own1 own2 own26 fall
 by_cases e1 : er n1 l = 0
 ·obtain ⟨o1, d1, rfl, rfl, told1⟩ := told_all hP1 hD1 e1
  by_cases e2 : er n2 m = 0
  ·obtain ⟨o2, d2, rfl, rfl, told2⟩ := told_all hP2 hD2 e2
   repeat' (first|(with_reducible first|refine jA ?_|(refine hK _ _ ?_;clear hK K)|refine jJ fun K hK=>?_|refine jK ?_|refine jL ?_|refine jM ?_|refine jN ?_|refine jO ?_|refine jP ?_|refine jQ ?_|(refine jB ?_;clear hK K)|(refine jC ?_;clear hK K)|refine jD ?_|refine jE ?_|refine jG ?_|refine jH ?_|refine jI ?_)|((with_reducible refine jR ?hq ?_);case hq=>rfl)|((first|(with_reducible first|refine jS fun K hK=>?_|refine jT ?_|refine jU ?_)|((with_reducible refine jV ?hy fun K hK=>?_);case hy=>rfl));simp only [go_sem, Nat.reduceEqDiff, Nat.reduceAdd, Nat.reduceMul, Nat.reduceLeDiff, Nat.reduceLT, Int.reduceLT, Int.reduceLE, Int.reduceEq, Int.reduceNeg, Int.reduceToNat, Nat.reducePow, reduceIte, reduceCtorEq, bn, bb, Bool.not_true])|((with_reducible first|refine jW ?hy ?_|refine jY ?hy ?_);case hy=>rfl)|((with_reducible first|refine jX ?hy ?_|refine jZ ?hy ?_);case hy=>rfl)|((with_reducible refine jF ?hy ?_);case hy=>decide))
   refine told1 _ _ (Fr.refl _ _) fun H10 f10 => ?_
   repeat' (first|(with_reducible first|refine jA ?_|(refine hK _ _ ?_;clear hK K)|refine jJ fun K hK=>?_|refine jK ?_|refine jL ?_|refine jM ?_|refine jN ?_|refine jO ?_|refine jP ?_|refine jQ ?_|(refine jB ?_;clear hK K)|(refine jC ?_;clear hK K)|refine jD ?_|refine jE ?_|refine jG ?_|refine jH ?_|refine jI ?_)|((with_reducible refine jR ?hq ?_);case hq=>rfl)|((first|(with_reducible first|refine jS fun K hK=>?_|refine jT ?_|refine jU ?_)|((with_reducible refine jV ?hy fun K hK=>?_);case hy=>rfl));simp only [go_sem, Nat.reduceEqDiff, Nat.reduceAdd, Nat.reduceMul, Nat.reduceLeDiff, Nat.reduceLT, Int.reduceLT, Int.reduceLE, Int.reduceEq, Int.reduceNeg, Int.reduceToNat, Nat.reducePow, reduceIte, reduceCtorEq, Bool.not_true])|((with_reducible first|refine jW ?hy ?_|refine jY ?hy ?_);case hy=>rfl)|((with_reducible first|refine jX ?hy ?_|refine jZ ?hy ?_);case hy=>rfl)|((with_reducible refine jF ?hy ?_);case hy=>decide))
   refine told2 _ _ f10 fun H11 f11 => ?_
   repeat' (first|(with_reducible first|refine jA ?_|(refine hK _ _ ?_;clear hK K)|refine jJ fun K hK=>?_|refine jK ?_|refine jL ?_|refine jM ?_|refine jN ?_|refine jO ?_|refine jP ?_|refine jQ ?_|(refine jB ?_;clear hK K)|(refine jC ?_;clear hK K)|refine jD ?_|refine jE ?_|refine jG ?_|refine jH ?_|refine jI ?_)|((with_reducible refine jR ?hq ?_);case hq=>rfl)|((first|(with_reducible first|refine jS fun K hK=>?_|refine jT ?_|refine jU ?_)|((with_reducible refine jV ?hy fun K hK=>?_);case hy=>rfl));simp only [go_sem, Nat.reduceEqDiff, Nat.reduceAdd, Nat.reduceMul, Nat.reduceLeDiff, Nat.reduceLT, Int.reduceLT, Int.reduceLE, Int.reduceEq, Int.reduceNeg, Int.reduceToNat, Nat.reducePow, reduceIte, reduceCtorEq, Bool.not_true])|((with_reducible first|refine jW ?hy ?_|refine jY ?hy ?_);case hy=>rfl)|((with_reducible first|refine jX ?hy ?_|refine jZ ?hy ?_);case hy=>rfl)|((with_reducible refine jF ?hy ?_);case hy=>decide))
   refine told1 _ _ (f10.trans f11) fun H12 f12 => ?_
   repeat' (first|(with_reducible first|refine jA ?_|(refine hK _ _ ?_;clear hK K)|refine jJ fun K hK=>?_|refine jK ?_|refine jL ?_|refine jM ?_|refine jN ?_|refine jO ?_|refine jP ?_|refine jQ ?_|(refine jB ?_;clear hK K)|(refine jC ?_;clear hK K)|refine jD ?_|refine jE ?_|refine jG ?_|refine jH ?_|refine jI ?_)|((with_reducible refine jR ?hq ?_);case hq=>rfl)|((first|(with_reducible first|refine jS fun K hK=>?_|refine jT ?_|refine jU ?_)|((with_reducible refine jV ?hy fun K hK=>?_);case hy=>rfl));simp only [go_sem, Nat.reduceEqDiff, Nat.reduceAdd, Nat.reduceMul, Nat.reduceLeDiff, Nat.reduceLT, Int.reduceLT, Int.reduceLE, Int.reduceEq, Int.reduceNeg, Int.reduceToNat, Nat.reducePow, reduceIte, reduceCtorEq])|((with_reducible first|refine jW ?hy ?_|refine jY ?hy ?_);case hy=>rfl)|((with_reducible first|refine jX ?hy ?_|refine jZ ?hy ?_);case hy=>rfl)|((with_reducible refine jF ?hy ?_);case hy=>decide))
   exact fin H12 ((f10.trans f11).trans f12)
  ·obtain ⟨rfl, rfl⟩ := none_all hP2 hD2 e2
   repeat' (first|(with_reducible first|refine jA ?_|(refine hK _ _ ?_;clear hK K)|refine jJ fun K hK=>?_|refine jK ?_|refine jL ?_|refine jM ?_|refine jN ?_|refine jO ?_|refine jP ?_|refine jQ ?_|(refine jB ?_;clear hK K)|(refine jC ?_;clear hK K)|refine jD ?_|refine jE ?_|refine jG ?_|refine jH ?_|refine jI ?_)|((with_reducible refine jR ?hq ?_);case hq=>rfl)|((first|(with_reducible first|refine jS fun K hK=>?_|refine jT ?_|refine jU ?_)|((with_reducible refine jV ?hy fun K hK=>?_);case hy=>rfl));simp only [go_sem, Nat.reduceEqDiff, Nat.reduceAdd, Nat.reduceMul, Nat.reduceLeDiff, Nat.reduceLT, Int.reduceLT, Int.reduceLE, Int.reduceEq, Int.reduceNeg, Int.reduceToNat, Nat.reducePow, reduceIte, reduceCtorEq, bn, bb, Bool.not_true])|((with_reducible first|refine jW ?hy ?_|refine jY ?hy ?_);case hy=>rfl)|((with_reducible first|refine jX ?hy ?_|refine jZ ?hy ?_);case hy=>rfl)|((with_reducible refine jF ?hy ?_);case hy=>decide))
   refine told1 _ _ (Fr.refl _ _) fun H10 f10 => ?_
   repeat' (first|(with_reducible first|refine jA ?_|(refine hK _ _ ?_;clear hK K)|refine jJ fun K hK=>?_|refine jK ?_|refine jL ?_|refine jM ?_|refine jN ?_|refine jO ?_|refine jP ?_|refine jQ ?_|(refine jB ?_;clear hK K)|(refine jC ?_;clear hK K)|refine jD ?_|refine jE ?_|refine jG ?_|refine jH ?_|refine jI ?_)|((with_reducible refine jR ?hq ?_);case hq=>rfl)|((first|(with_reducible first|refine jS fun K hK=>?_|refine jT ?_|refine jU ?_)|((with_reducible refine jV ?hy fun K hK=>?_);case hy=>rfl));simp only [go_sem, Nat.reduceEqDiff, Nat.reduceAdd, Nat.reduceMul, Nat.reduceLeDiff, Nat.reduceLT, Int.reduceLT, Int.reduceLE, Int.reduceEq, Int.reduceNeg, Int.reduceToNat, Nat.reducePow, reduceIte, reduceCtorEq, Bool.not_true])|((with_reducible first|refine jW ?hy ?_|refine jY ?hy ?_);case hy=>rfl)|((with_reducible first|refine jX ?hy ?_|refine jZ ?hy ?_);case hy=>rfl)|((with_reducible refine jF ?hy ?_);case hy=>decide))
   refine told1 _ _ f10 fun H12 f12 => ?_
   repeat' (first|(with_reducible first|refine jA ?_|(refine hK _ _ ?_;clear hK K)|refine jJ fun K hK=>?_|refine jK ?_|refine jL ?_|refine jM ?_|refine jN ?_|refine jO ?_|refine jP ?_|refine jQ ?_|(refine jB ?_;clear hK K)|(refine jC ?_;clear hK K)|refine jD ?_|refine jE ?_|refine jG ?_|refine jH ?_|refine jI ?_)|((with_reducible refine jR ?hq ?_);case hq=>rfl)|((first|(with_reducible first|refine jS fun K hK=>?_|refine jT ?_|refine jU ?_)|((with_reducible refine jV ?hy fun K hK=>?_);case hy=>rfl));simp only [go_sem, Nat.reduceEqDiff, Nat.reduceAdd, Nat.reduceMul, Nat.reduceLeDiff, Nat.reduceLT, Int.reduceLT, Int.reduceLE, Int.reduceEq, Int.reduceNeg, Int.reduceToNat, Nat.reducePow, reduceIte, reduceCtorEq])|((with_reducible first|refine jW ?hy ?_|refine jY ?hy ?_);case hy=>rfl)|((with_reducible first|refine jX ?hy ?_|refine jZ ?hy ?_);case hy=>rfl)|((with_reducible refine jF ?hy ?_);case hy=>decide))
   exact fin H12 (f10.trans f12)
 ·obtain ⟨rfl, rfl⟩ := none_all hP1 hD1 e1
  by_cases e2 : er n2 m = 0
  ·obtain ⟨o2, d2, rfl, rfl, told2⟩ := told_all hP2 hD2 e2
   repeat' (first|(with_reducible first|refine jA ?_|(refine hK _ _ ?_;clear hK K)|refine jJ fun K hK=>?_|refine jK ?_|refine jL ?_|refine jM ?_|refine jN ?_|refine jO ?_|refine jP ?_|refine jQ ?_|(refine jB ?_;clear hK K)|(refine jC ?_;clear hK K)|refine jD ?_|refine jE ?_|refine jG ?_|refine jH ?_|refine jI ?_)|((with_reducible refine jR ?hq ?_);case hq=>rfl)|((first|(with_reducible first|refine jS fun K hK=>?_|refine jT ?_|refine jU ?_)|((with_reducible refine jV ?hy fun K hK=>?_);case hy=>rfl));simp only [go_sem, Nat.reduceEqDiff, Nat.reduceAdd, Nat.reduceMul, Nat.reduceLeDiff, Nat.reduceLT, Int.reduceLT, Int.reduceLE, Int.reduceEq, Int.reduceNeg, Int.reduceToNat, Nat.reducePow, reduceIte, reduceCtorEq, bn, bb, Bool.not_true])|((with_reducible first|refine jW ?hy ?_|refine jY ?hy ?_);case hy=>rfl)|((with_reducible first|refine jX ?hy ?_|refine jZ ?hy ?_);case hy=>rfl)|((with_reducible refine jF ?hy ?_);case hy=>decide))
   refine told2 _ _ (Fr.refl _ _) fun H11 f11 => ?_
   repeat' (first|(with_reducible first|refine jA ?_|(refine hK _ _ ?_;clear hK K)|refine jJ fun K hK=>?_|refine jK ?_|refine jL ?_|refine jM ?_|refine jN ?_|refine jO ?_|refine jP ?_|refine jQ ?_|(refine jB ?_;clear hK K)|(refine jC ?_;clear hK K)|refine jD ?_|refine jE ?_|refine jG ?_|refine jH ?_|refine jI ?_)|((with_reducible refine jR ?hq ?_);case hq=>rfl)|((first|(with_reducible first|refine jS fun K hK=>?_|refine jT ?_|refine jU ?_)|((with_reducible refine jV ?hy fun K hK=>?_);case hy=>rfl));simp only [go_sem, Nat.reduceEqDiff, Nat.reduceAdd, Nat.reduceMul, Nat.reduceLeDiff, Nat.reduceLT, Int.reduceLT, Int.reduceLE, Int.reduceEq, Int.reduceNeg, Int.reduceToNat, Nat.reducePow, reduceIte, reduceCtorEq, Bool.not_true])|((with_reducible first|refine jW ?hy ?_|refine jY ?hy ?_);case hy=>rfl)|((with_reducible first|refine jX ?hy ?_|refine jZ ?hy ?_);case hy=>rfl)|((with_reducible refine jF ?hy ?_);case hy=>decide))
   exact fin H11 f11
  ·obtain ⟨rfl, rfl⟩ := none_all hP2 hD2 e2
   repeat' (first|(with_reducible first|refine jA ?_|(refine hK _ _ ?_;clear hK K)|refine jJ fun K hK=>?_|refine jK ?_|refine jL ?_|refine jM ?_|refine jN ?_|refine jO ?_|refine jP ?_|refine jQ ?_|(refine jB ?_;clear hK K)|(refine jC ?_;clear hK K)|refine jD ?_|refine jE ?_|refine jG ?_|refine jH ?_|refine jI ?_)|((with_reducible refine jR ?hq ?_);case hq=>rfl)|((first|(with_reducible first|refine jS fun K hK=>?_|refine jT ?_|refine jU ?_)|((with_reducible refine jV ?hy fun K hK=>?_);case hy=>rfl));simp only [go_sem, Nat.reduceEqDiff, Nat.reduceAdd, Nat.reduceMul, Nat.reduceLeDiff, Nat.reduceLT, Int.reduceLT, Int.reduceLE, Int.reduceEq, Int.reduceNeg, Int.reduceToNat, Nat.reducePow, reduceIte, reduceCtorEq, bn, bb, Bool.not_true])|((with_reducible first|refine jW ?hy ?_|refine jY ?hy ?_);case hy=>rfl)|((with_reducible first|refine jX ?hy ?_|refine jZ ?hy ?_);case hy=>rfl)|((with_reducible refine jF ?hy ?_);case hy=>decide))
   exact fin H9 (Fr.refl _ _)
end
end Go.Proofs.Ytpeaogldojepnaa
namespace Go.Proofs.Ytpeaogldojepnaa
open Go Go.Hp Go.Li Go.Br Go.ChangeShapes Go.WideShapes Go.RowKit
set_option linter.unusedVariables false
section
variable {E : Type} {enc : TypeId × Value → E} {P : Program} {w : World} {base : Nat} {spare : Nat → Bool} {held : Bool}
theorem cap_in {t e : TypeId} {a : Option Addr} {len cap : Nat} {d : DataW E} {p : List MemPlace} (ht : P.underlying t = some (.slice e)) (h : DataW.Trod enc P w base spare held t (.slice a len cap) d p) : len ≤ cap ∧ (a = none → cap = 0) := by
 obtain ⟨fuel, hf⟩ := h
 rcases DataW.trod_slice ht hf with ⟨h0, _⟩ | ⟨a', len', cap', elems, rest, n, _, h0, _, hb, hl, hm, hlen, hel, hsp, hns⟩
 ·simp [Value.cells] at h0
  obtain ⟨rfl, rfl, rfl⟩ := h0
  exact ⟨Nat.le_refl _, fun _ => rfl⟩
 ·simp [Value.cells] at h0
  obtain ⟨rfl, rfl, rfl⟩ := h0
  exact ⟨hl, nofun⟩
theorem eds_in {t : TypeId} {a : Option Addr} {len cap : Nat} {d : DataW E} {p : List MemPlace} (ht : Try.prog.underlying t = some (.slice 35)) (h : DataW.Trod enc Try.prog w base spare held t (.slice a len cap) d p) :
  len ≤ 9223372036854775807 ∧ ∃ zs, InEds w.heap a len cap zs := by
 obtain ⟨hl, hi⟩ := cells_in ht h
 obtain ⟨hcap, hnil⟩ := cap_in ht h
 have hc : Try.prog.cellsOf 35 = 4 := by kernel_rfl
 have c1 : Try.prog.cellsOf 3 = 1 := by kernel_rfl
 rw [hc] at hi
 have each : ∀ i, i < len → ∃ (q : Addr) (o : Ed), a = some q ∧ ∀ j v, o.cells[j]? = some v → hcell w.heap (q.add (i * 4 + j)) = some v := fun i hlt => by
  obtain ⟨q, cs, m, y, h1, h2, h3⟩ := hi i hlt
  obtain ⟨_, hcl, hcell'⟩ := World.cells?_some h2
  obtain ⟨z0, m0, t0⟩ := part_in Try.underlying35 h3 0 rfl
  obtain ⟨z1, m1, t1⟩ := part_in Try.underlying35 h3 1 rfl
  obtain ⟨z2, m2, t2⟩ := part_in Try.underlying35 h3 2 rfl
  obtain ⟨z3, m3, t3⟩ := part_in Try.underlying35 h3 3 rfl
  obtain ⟨k0, e0, _, w0⟩ := DataW.trod_int Try.underlying3 t0
  obtain ⟨k1, e1, _, w1⟩ := DataW.trod_int Try.underlying3 t1
  obtain ⟨k2, e2, _, w2⟩ := DataW.trod_int Try.underlying3 t2
  obtain ⟨k3, e3, _, w3⟩ := DataW.trod_int Try.underlying3 t3
  have e0 : (cs.drop 0).take (Try.prog.cellsOf 3) = [.int .i64 k0] := e0
  have e1 : (cs.drop 1).take (Try.prog.cellsOf 3) = [.int .i64 k1] := e1
  have e2 : (cs.drop 2).take (Try.prog.cellsOf 3) = [.int .i64 k2] := e2
  have e3 : (cs.drop 3).take (Try.prog.cellsOf 3) = [.int .i64 k3] := e3
  rw [c1] at e0 e1 e2 e3
  have r0 := one_at e0
  have r1 := one_at e1
  have r2 := one_at e2
  have r3 := one_at e3
  refine ⟨q, ⟨k0, k1, k2, k3⟩, h1, fun j v hj => ?_⟩
  have g : ∀ j v, j < 4 → cs[j]? = some v → hcell w.heap (q.add (i * 4 + j)) = some v := fun j v hj hv => by
   have := hcell' j hj
   rw [hv, add_add] at this
   exact this
  unfold Ed.cells at hj
  match j with
  | 0 => obtain rfl := Option.some.inj hj; exact g 0 _ (by omega) r0
  | 1 => obtain rfl := Option.some.inj hj; exact g 1 _ (by omega) r1
  | 2 => obtain rfl := Option.some.inj hj; exact g 2 _ (by omega) r2
  | 3 => obtain rfl := Option.some.inj hj; exact g 3 _ (by omega) r3
  | j + 4 => simp at hj
 refine ⟨hl, fun i => if h : i < len then (each i h).choose_spec.choose else ⟨0, 0, 0, 0⟩, by simpa using hcap, hnil, fun i x hx => ?_⟩
 have hlt := (List.getElem?_eq_some_iff.1 hx).1
 rw [List.length_map, List.length_range] at hlt
 rw [List.getElem?_map, List.getElem?_range hlt] at hx
 simp only [Option.map_some, hlt, dif_pos, Option.some.injEq] at hx
 subst hx
 exact ⟨_, (each i hlt).choose_spec.choose_spec⟩
end
end Go.Proofs.Ytpeaogldojepnaa
