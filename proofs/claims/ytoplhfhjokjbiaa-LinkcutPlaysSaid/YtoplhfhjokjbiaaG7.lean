/-
  What (*isthmus/isthmuslaw05.side).ends does with the lists that came out: they read as they did; their owner marks all, grows them and looks at them again.
  LinkcutPlays: a side's ends; the script; the whole.
  What a law's walk is told of slices that came in.
  What a law's walk is told of slices of calls that came in.
-/
import Derived.Test.YtoplhfhjokjbiaaHpX
import Derived.Test.YtoplhfhjokjbiaaG4
import Derived.Test.YtoplhfhjokjbiaaG6
import Derived.Test.YtoplhfhjokjbiaaHpN
import Derived.WalkKit
import Derived.ProofKit
import Derived.OpenShut
import Derived.ShutString
import Derived.ChangeOld
import Derived.Below
import Derived.Deep.Fields
namespace Go.Proofs.Ytoplhfhjokjbiaa.LsLi
open Go Go.Hp
set_option linter.all false
set_option maxRecDepth 100000
set_option maxHeartbeats 1600000
abbrev I : Int → Value := Value.int .i64
def Mk (L : List (List Int)) (n : Nat) : Prop := ∀ (j : Nat) xs, j < n → L[j]? = some xs → ∀ x ∈ xs, x = -1 - (j : Int)
def Short (L : List (List Int)) (M : Nat) : Prop := ∀ (j : Nat) xs, L[j]? = some xs → xs.length ≤ M
variable {H : Heap} {e : Env} {Q : HX → Env → Heap → Prop} {s : Nat} {hdr : List Value} {T T' : Nat → Prop} {va vw : Value} {L : List (List Int)} {M : Nat}
theorem same (e0 : e 0 = .pointer (some ⟨s, 0, none⟩)) (es : e 7 = .int .i64 0) (hb : Blk H s hdr) (ha : hdr[2]? = some va) (hw : hdr[3]? = some vw) (hL : LL I H T va L) (hL' : LL I H T' vw L)
  (hlen : L.length ≤ 1000) (hM : Short L M) (hMM : M ≤ 1099511627776) (fin : ∀ e', e' 0 = .pointer (some ⟨s, 0, none⟩) → Q .normal e' H) : codeX Try.prog [12] (loopAt Try.f20.body 1) (blockQ 2 Q) e H := by
 have ca := hb.cellOf ha
 have cw := hb.cellOf hw
 refine x_loop (fun m e' H' => ∃ i : Nat, H' = H ∧ e' 7 = .int .i64 (i : Nat) ∧ i ≤ L.length ∧ m = L.length - i) L.length ⟨0, rfl, es, Nat.zero_le _, rfl⟩ ?_
 rintro m e1 H1 ⟨i, rfl, i7, hi, rfl⟩ hoff
 have i0 := (hoff 0 rfl).trans e0
 clear hoff
 by_cases hlt : i < L.length
 ·obtain ⟨xs, hx⟩ : ∃ xs, L[i]? = some xs := ⟨_, List.getElem?_eq_getElem hlt⟩
  obtain ⟨g, c, B, v, rfl, c1, o1, -⟩ := hL.at hx
  obtain ⟨g', c', B', v', rfl, c2, o2, -⟩ := hL'.at hx
  obtain ⟨a1, k1, rfl⟩ := o1.slice
  obtain ⟨a2, k2, rfl⟩ := o2.slice
  have ew : IntKind.i64.wrap ((i : Int) + 1) = ((i + 1 : Nat) : Int) := by rw [wrap_i64] <;> omega
  have hxM := hM i xs hx
  repeat' (first|(with_reducible first|refine jA ?_|(refine hK _ _ ?_;clear hK K)|refine jJ fun K hK=>?_|refine jK ?_|refine jL ?_|refine jM ?_|refine jN ?_|refine jO ?_|refine jP ?_|refine jQ ?_|(refine jB ?_;clear hK K)|(refine jC ?_;clear hK K)|refine jD ?_|refine jE ?_|refine jG ?_|refine jH ?_|refine jI ?_)|((with_reducible refine jR ?hq ?_);case hq=>rfl)|((first|(with_reducible first|refine jS fun K hK=>?_|refine jT ?_|refine jU ?_)|((with_reducible refine jV ?hy fun K hK=>?_);case hy=>rfl));simp only [go_sem, Nat.reduceEqDiff, Nat.reduceAdd, Nat.reduceMul, Nat.reduceLeDiff, Nat.reduceLT, Int.reduceLT, Int.reduceLE, Int.reduceEq, Int.reduceNeg, Int.reduceToNat, Nat.reducePow, reduceIte, reduceCtorEq, i7, i0, ca, cw, hlt, c1, c2])|((with_reducible first|refine jW ?hy ?_|refine jY ?hy ?_);case hy=>rfl)|((with_reducible first|refine jX ?hy ?_|refine jZ ?hy ?_);case hy=>rfl)|((with_reducible refine jF ?hy ?_);case hy=>decide))
  refine Pkisthmuslaw05.same_ok (IR.rds o1) (IR.rds o2) (by omega) ?_
  rw [decide_eq_true rfl]
  repeat' (first|(with_reducible first|refine jA ?_|(refine hK _ _ ?_;clear hK K)|refine jJ fun K hK=>?_|refine jK ?_|refine jL ?_|refine jM ?_|refine jN ?_|refine jO ?_|refine jP ?_|refine jQ ?_|(refine jB ?_;clear hK K)|(refine jC ?_;clear hK K)|refine jD ?_|refine jE ?_|refine jG ?_|refine jH ?_|refine jI ?_)|((with_reducible refine jR ?hq ?_);case hq=>rfl)|((first|(with_reducible first|refine jS fun K hK=>?_|refine jT ?_|refine jU ?_)|((with_reducible refine jV ?hy fun K hK=>?_);case hy=>rfl));simp only [go_sem, Nat.reduceEqDiff, Nat.reduceAdd, Nat.reduceMul, Nat.reduceLeDiff, Nat.reduceLT, Int.reduceLT, Int.reduceLE, Int.reduceEq, Int.reduceNeg, Int.reduceToNat, Nat.reducePow, reduceIte, reduceCtorEq, i7, ew])|((with_reducible first|refine jW ?hy ?_|refine jY ?hy ?_);case hy=>rfl)|((with_reducible first|refine jX ?hy ?_|refine jZ ?hy ?_);case hy=>rfl)|((with_reducible refine jF ?hy ?_);case hy=>decide))
  exact loop_normal (m' := L.length - (i + 1)) (by omega) ⟨i + 1, rfl, rfl, hlt, rfl⟩
 ·have t1 : (i < L.length) = False := by simp [hlt]
  obtain ⟨a, c, rfl⟩ := hL.slice
  repeat' (first|(with_reducible first|refine jA ?_|(refine hK _ _ ?_;clear hK K)|refine jJ fun K hK=>?_|refine jK ?_|refine jL ?_|refine jM ?_|refine jN ?_|refine jO ?_|refine jP ?_|refine jQ ?_|(refine jB ?_;clear hK K)|(refine jC ?_;clear hK K)|refine jD ?_|refine jE ?_|refine jG ?_|refine jH ?_|refine jI ?_)|((with_reducible refine jR ?hq ?_);case hq=>rfl)|((first|(with_reducible first|refine jS fun K hK=>?_|refine jT ?_|refine jU ?_)|((with_reducible refine jV ?hy fun K hK=>?_);case hy=>rfl));simp only [go_sem, Nat.reduceEqDiff, Nat.reduceAdd, Nat.reduceMul, Nat.reduceLeDiff, Nat.reduceLT, Int.reduceLT, Int.reduceLE, Int.reduceEq, Int.reduceNeg, Int.reduceToNat, Nat.reducePow, reduceIte, reduceCtorEq, i7, i0, ca, t1])|((with_reducible first|refine jW ?hy ?_|refine jY ?hy ?_);case hy=>rfl)|((with_reducible first|refine jX ?hy ?_|refine jZ ?hy ?_);case hy=>rfl)|((with_reducible refine jF ?hy ?_);case hy=>decide))
  exact fin _ i0
theorem mark (e0 : e 0 = .pointer (some ⟨s, 0, none⟩)) (es : e 9 = .int .i64 0) (hb : Blk H s hdr) (ha : hdr[2]? = some va) (hL : LL I H T va L) (hs : ¬ T s)
  (hlen : L.length ≤ 1000) (hM : Short L M) (hMM : M ≤ 1099511627776)
  (fin : ∀ e' H' L', e' 0 = .pointer (some ⟨s, 0, none⟩) → LL I H' T va L' → L'.length = L.length → Short L' M → Mk L' L.length → Fr T H H' → Q .normal e' H') : codeX Try.prog [12] (loopAt Try.f20.body 2) (blockQ 4 Q) e H := by
 refine x_loop (fun m e' H' => ∃ (i : Nat) (L' : List (List Int)), e' 9 = .int .i64 (i : Nat) ∧ i ≤ L.length ∧ LL I H' T va L' ∧ L'.length = L.length ∧ Short L' M ∧ Mk L' i ∧ Fr T H H' ∧ m = L.length - i) L.length
  ⟨0, L, es, Nat.zero_le _, hL, rfl, hM, (fun j xs h => absurd h (Nat.not_lt_zero _)), Fr.refl _ _, rfl⟩ ?_
 rintro m e1 H1 ⟨i, L1, i9, hi, hL1, hl1, hM1, hk1, hf1, rfl⟩ hoff
 have i0 := (hoff 0 rfl).trans e0
 clear hoff
 have ca := (hb.frame hf1 hs).cellOf ha
 obtain ⟨a, c, rfl⟩ := hL1.slice
 by_cases hlt : i < L1.length
 ·obtain ⟨xs, hx⟩ : ∃ xs, L1[i]? = some xs := ⟨_, List.getElem?_eq_getElem hlt⟩
  have ew : IntKind.i64.wrap ((i : Int) + 1) = ((i + 1 : Nat) : Int) := by rw [wrap_i64] <;> omega
  have ey : IntKind.i64.wrap (-1 - (i : Int)) = -1 - (i : Int) := by rw [wrap_i64] <;> omega
  have hxM := hM1 i xs hx
  repeat' (first|(with_reducible first|refine jA ?_|(refine hK _ _ ?_;clear hK K)|refine jJ fun K hK=>?_|refine jK ?_|refine jL ?_|refine jM ?_|refine jN ?_|refine jO ?_|refine jP ?_|refine jQ ?_|(refine jB ?_;clear hK K)|(refine jC ?_;clear hK K)|refine jD ?_|refine jE ?_|refine jG ?_|refine jH ?_|refine jI ?_)|((with_reducible refine jR ?hq ?_);case hq=>rfl)|((first|(with_reducible first|refine jS fun K hK=>?_|refine jT ?_|refine jU ?_)|((with_reducible refine jV ?hy fun K hK=>?_);case hy=>rfl));simp only [go_sem, Nat.reduceEqDiff, Nat.reduceAdd, Nat.reduceMul, Nat.reduceLeDiff, Nat.reduceLT, Int.reduceLT, Int.reduceLE, Int.reduceEq, Int.reduceNeg, Int.reduceToNat, Nat.reducePow, reduceIte, reduceCtorEq, i9, i0, ca, hlt])|((with_reducible first|refine jW ?hy ?_|refine jY ?hy ?_);case hy=>rfl)|((with_reducible first|refine jX ?hy ?_|refine jZ ?hy ?_);case hy=>rfl)|((with_reducible refine jF ?hy ?_);case hy=>decide))
  refine x_loop (fun m e' H' => ∃ (k : Nat) (L' : List (List Int)) (ys : List Int), e' 10 = .int .i64 (k : Nat) ∧ k ≤ xs.length ∧ ys.length = xs.length ∧ LL I H' T (.slice a L1.length c) L' ∧ L' = L1.set i ys ∧ (∀ p x, p < k → ys[p]? = some x → x = -1 - (i : Int)) ∧ Fr T H H' ∧ m = xs.length - k) xs.length
   ⟨0, L1, xs, rfl, Nat.zero_le _, rfl, hL1, ?_, (fun p x h => absurd h (Nat.not_lt_zero _)), hf1, rfl⟩ ?_
  ·apply List.ext_getElem?
   intro j
   rw [List.getElem?_set]
   by_cases hij : i = j
   ·subst hij; rw [if_pos rfl, if_pos hlt, hx]
   ·rw [if_neg hij]
  rintro m e2 H2 ⟨k, L2, ys, i10, hk, hly, hL2, rfl, hmk, hf2, rfl⟩ hoff
  have i0 := (hoff 0 rfl).trans i0
  have i9 := (hoff 9 rfl).trans i9
  clear hoff
  have ca := (hb.frame hf2 hs).cellOf ha
  have hx2 : (L1.set i ys)[i]? = some ys := by rw [List.getElem?_set, if_pos rfl, if_pos hlt]
  obtain ⟨g, c', B, v, hv, c1, o1, hg, hB, hwr, -⟩ := hL2.at hx2
  rw [List.length_set] at hv
  simp only [Value.slice.injEq, true_and] at hv
  obtain ⟨rfl, rfl⟩ := hv
  obtain ⟨a1, k1, rfl⟩ := o1.slice
  by_cases hkl : k < ys.length
  ·obtain ⟨b, n, rfl, hv', w, hL3⟩ := hwr k (-1 - (i : Int)) hkl
   simp only [Value.slice.injEq, true_and] at hv'
   obtain ⟨rfl, rfl⟩ := hv'
   have ewk : IntKind.i64.wrap ((k : Int) + 1) = ((k + 1 : Nat) : Int) := by rw [wrap_i64] <;> omega
   repeat' (first|(with_reducible first|refine jA ?_|(refine hK _ _ ?_;clear hK K)|refine jJ fun K hK=>?_|refine jK ?_|refine jL ?_|refine jM ?_|refine jN ?_|refine jO ?_|refine jP ?_|refine jQ ?_|(refine jB ?_;clear hK K)|(refine jC ?_;clear hK K)|refine jD ?_|refine jE ?_|refine jG ?_|refine jH ?_|refine jI ?_)|((with_reducible refine jR ?hq ?_);case hq=>rfl)|((first|(with_reducible first|refine jS fun K hK=>?_|refine jT ?_|refine jU ?_)|((with_reducible refine jV ?hy fun K hK=>?_);case hy=>rfl));simp only [go_sem, Nat.reduceEqDiff, Nat.reduceAdd, Nat.reduceMul, Nat.reduceLeDiff, Nat.reduceLT, Int.reduceLT, Int.reduceLE, Int.reduceEq, Int.reduceNeg, Int.reduceToNat, Nat.reducePow, reduceIte, reduceCtorEq, i9, i10, i0, ca, hlt, c1, hkl, ey, w, ewk])|((with_reducible first|refine jW ?hy ?_|refine jY ?hy ?_);case hy=>rfl)|((with_reducible first|refine jX ?hy ?_|refine jZ ?hy ?_);case hy=>rfl)|((with_reducible refine jF ?hy ?_);case hy=>decide))
   refine loop_normal (m' := xs.length - (k + 1)) (by omega) ⟨k + 1, _, ys.set k (-1 - (i : Int)), rfl, by omega, by simp [hly], hL3, ?_, ?_, ?_, rfl⟩
   ·rw [List.set_set]
   ·intro p x hp hpx
    rw [List.getElem?_set] at hpx
    by_cases hpk : k = p
    ·rw [if_pos hpk, if_pos (by omega)] at hpx
     exact (Option.some.inj hpx).symm
    ·rw [if_neg hpk] at hpx
     exact hmk p x (by omega) hpx
   ·exact Fr.set (S := T) (a := ⟨b, k, none⟩) hf2 (.inl (hB b rfl).1) _
  ·have t1 : (k < ys.length) = False := by simp [hkl]
   repeat' (first|(with_reducible first|refine jA ?_|(refine hK _ _ ?_;clear hK K)|refine jJ fun K hK=>?_|refine jK ?_|refine jL ?_|refine jM ?_|refine jN ?_|refine jO ?_|refine jP ?_|refine jQ ?_|(refine jB ?_;clear hK K)|(refine jC ?_;clear hK K)|refine jD ?_|refine jE ?_|refine jG ?_|refine jH ?_|refine jI ?_)|((with_reducible refine jR ?hq ?_);case hq=>rfl)|((first|(with_reducible first|refine jS fun K hK=>?_|refine jT ?_|refine jU ?_)|((with_reducible refine jV ?hy fun K hK=>?_);case hy=>rfl));simp only [go_sem, Nat.reduceEqDiff, Nat.reduceAdd, Nat.reduceMul, Nat.reduceLeDiff, Nat.reduceLT, Int.reduceLT, Int.reduceLE, Int.reduceEq, Int.reduceNeg, Int.reduceToNat, Nat.reducePow, reduceIte, reduceCtorEq, i9, i10, i0, ca, hlt, c1, t1, ew])|((with_reducible first|refine jW ?hy ?_|refine jY ?hy ?_);case hy=>rfl)|((with_reducible first|refine jX ?hy ?_|refine jZ ?hy ?_);case hy=>rfl)|((with_reducible refine jF ?hy ?_);case hy=>decide))
   have hLL : (L1.set i ys).length = L.length := by simpa using hl1
   refine loop_normal (m' := L.length - (i + 1)) (by omega) ⟨i + 1, L1.set i ys, rfl, by omega, by rw [hl1] at hL2 ⊢; exact hL2, hLL, ?_, ?_, hf2, rfl⟩
   ·intro j zs hz
    rw [List.getElem?_set] at hz
    by_cases hij : i = j
    ·rw [if_pos hij, if_pos hlt] at hz
     rw [← Option.some.inj hz, hly]; exact hxM
    ·rw [if_neg hij] at hz
     exact hM1 j zs hz
   ·intro j zs hj hz x hxz
    rw [List.getElem?_set] at hz
    by_cases hij : i = j
    ·rw [if_pos hij, if_pos hlt] at hz
     obtain rfl := Option.some.inj hz
     obtain ⟨p, hp⟩ := List.getElem?_of_mem hxz
     have hpl := (List.getElem?_eq_some_iff.1 hp).1
     rw [← hij]
     exact hmk p x (by omega) hp
    ·rw [if_neg hij] at hz
     exact hk1 j zs (by omega) hz x hxz
 ·have t1 : (i < L1.length) = False := by simp [hlt]
  repeat' (first|(with_reducible first|refine jA ?_|(refine hK _ _ ?_;clear hK K)|refine jJ fun K hK=>?_|refine jK ?_|refine jL ?_|refine jM ?_|refine jN ?_|refine jO ?_|refine jP ?_|refine jQ ?_|(refine jB ?_;clear hK K)|(refine jC ?_;clear hK K)|refine jD ?_|refine jE ?_|refine jG ?_|refine jH ?_|refine jI ?_)|((with_reducible refine jR ?hq ?_);case hq=>rfl)|((first|(with_reducible first|refine jS fun K hK=>?_|refine jT ?_|refine jU ?_)|((with_reducible refine jV ?hy fun K hK=>?_);case hy=>rfl));simp only [go_sem, Nat.reduceEqDiff, Nat.reduceAdd, Nat.reduceMul, Nat.reduceLeDiff, Nat.reduceLT, Int.reduceLT, Int.reduceLE, Int.reduceEq, Int.reduceNeg, Int.reduceToNat, Nat.reducePow, reduceIte, reduceCtorEq, i9, i0, ca, t1])|((with_reducible first|refine jW ?hy ?_|refine jY ?hy ?_);case hy=>rfl)|((with_reducible first|refine jX ?hy ?_|refine jZ ?hy ?_);case hy=>rfl)|((with_reducible refine jF ?hy ?_);case hy=>decide))
  have : i = L.length := by omega
  exact fin _ _ L1 i0 hL1 hl1 hM1 (by rw [← this]; exact hk1) hf1
theorem grow (e0 : e 0 = .pointer (some ⟨s, 0, none⟩)) (es : e 11 = .int .i64 0) (hb : Blk H s hdr) (ha : hdr[2]? = some va) (hL : LL I H T va L) (hs : ¬ T s)
  (hlen : L.length ≤ 1000) (hM : Short L M) (hMM : M ≤ 1099511627776) (hk : Mk L L.length)
  (fin : ∀ e' H' T' L', e' 0 = .pointer (some ⟨s, 0, none⟩) → LL I H' T' va L' → L'.length = L.length → Mk L' L.length → Short L' (M + 12) → (∀ b, T' b → T b ∨ H.size ≤ b) → Fr T H H' → Q .normal e' H') : codeX Try.prog [12] (loopAt Try.f20.body 4) (blockQ 8 Q) e H := by
 have hsl := hb.lt
 refine x_loop (fun m e' H' => ∃ (n : Nat) (T' : Nat → Prop) (L' : List (List Int)), e' 11 = .int .i64 (n : Nat) ∧ n ≤ 12 ∧ LL I H' T' va L' ∧ L'.length = L.length ∧ Short L' (M + n) ∧ Mk L' L.length ∧ (∀ b, T' b → T b ∨ H.size ≤ b) ∧ Fr T H H' ∧ m = 12 - n) 12
  ⟨0, T, L, es, Nat.zero_le _, hL, rfl, hM, hk, (fun b h => .inl h), Fr.refl _ _, rfl⟩ ?_
 rintro m e1 H1 ⟨n, T1, L1, i11, hn, hL1, hl1, hM1, hk1, hT1, hf1, rfl⟩ hoff
 have i0 := (hoff 0 rfl).trans e0
 clear hoff
 by_cases hlt : n < 12
 ·have ew : IntKind.i64.wrap ((n : Int) + 1) = ((n + 1 : Nat) : Int) := by rw [wrap_i64] <;> omega
  have tn : ((n : Int) < 12) = True := by simp; omega
  repeat' (first|(with_reducible first|refine jA ?_|(refine hK _ _ ?_;clear hK K)|refine jJ fun K hK=>?_|refine jK ?_|refine jL ?_|refine jM ?_|refine jN ?_|refine jO ?_|refine jP ?_|refine jQ ?_|(refine jB ?_;clear hK K)|(refine jC ?_;clear hK K)|refine jD ?_|refine jE ?_|refine jG ?_|refine jH ?_|refine jI ?_)|((with_reducible refine jR ?hq ?_);case hq=>rfl)|((first|(with_reducible first|refine jS fun K hK=>?_|refine jT ?_|refine jU ?_)|((with_reducible refine jV ?hy fun K hK=>?_);case hy=>rfl));simp only [go_sem, Nat.reduceEqDiff, Nat.reduceAdd, Nat.reduceMul, Nat.reduceLeDiff, Nat.reduceLT, Int.reduceLT, Int.reduceLE, Int.reduceEq, Int.reduceNeg, Int.reduceToNat, Nat.reducePow, reduceIte, reduceCtorEq, i11, tn])|((with_reducible first|refine jW ?hy ?_|refine jY ?hy ?_);case hy=>rfl)|((with_reducible first|refine jX ?hy ?_|refine jZ ?hy ?_);case hy=>rfl)|((with_reducible refine jF ?hy ?_);case hy=>decide))
  refine x_loop (fun m e' H' => ∃ (i : Nat) (T' : Nat → Prop) (L' : List (List Int)), e' 12 = .int .i64 (i : Nat) ∧ i ≤ L.length ∧ LL I H' T' va L' ∧ L'.length = L.length ∧ (∀ (j : Nat) xs, L'[j]? = some xs → xs.length ≤ M + n + 1 ∧ (i ≤ j → xs.length ≤ M + n)) ∧ Mk L' L.length ∧ (∀ b, T' b → T b ∨ H.size ≤ b) ∧ Fr T H H' ∧ m = L.length - i) L.length
   ⟨0, T1, L1, rfl, Nat.zero_le _, hL1, hl1, (fun j xs h => ⟨Nat.le_succ_of_le (hM1 j xs h), fun _ => hM1 j xs h⟩), hk1, hT1, hf1, rfl⟩ ?_
  rintro m e2 H2 ⟨i, T2, L2, i12, hi, hL2, hl2, hM2, hk2, hT2, hf2, rfl⟩ hoff
  have i0 := (hoff 0 rfl).trans i0
  have i11 := (hoff 11 rfl).trans i11
  clear hoff
  have hs2 := hf2.size
  have ca := (hb.frame hf2 hs).cellOf ha
  by_cases hil : i < L2.length
  ·obtain ⟨xs, hx⟩ : ∃ xs, L2[i]? = some xs := ⟨_, List.getElem?_eq_getElem hil⟩
   obtain ⟨g, c, B, v, rfl, c1, o1, hg, hB, -, hput⟩ := hL2.at hx
   obtain ⟨a1, k1, rfl⟩ := o1.slice
   have hsg : s ≠ g := fun e => by
    rcases hT2 g hg with h | h
    ·exact hs (by rw [e]; exact h)
    ·omega
   have hsB : B ≠ some s := fun e => by
    rcases hT2 s (hB s e).1 with h | h
    ·exact hs h
    ·omega
   have hgB : B ≠ some g := fun e => (hB g e).2 rfl
   have hxM := (hM2 i xs hx).2 (Nat.le_refl _)
   have ewi : IntKind.i64.wrap ((i : Int) + 1) = ((i + 1 : Nat) : Int) := by rw [wrap_i64] <;> omega
   have ey : IntKind.i64.wrap (-1 - (i : Int)) = -1 - (i : Int) := by rw [wrap_i64] <;> omega
   have q : Cells [(s, 2, .slice (some ⟨g, 0, none⟩) L2.length c), (g, i, .slice a1 xs.length k1)] H2 := ⟨ca, c1, trivial⟩
   have qp : Cells [(s, 2, .slice (some ⟨g, 0, none⟩) L2.length c), (g, i, .slice a1 xs.length k1)] (H2.push (.cells #[.int .i64 (-1 - (i : Int))] 3)) := q.grow ((Fr.refl _ _).push _)
   repeat' (first|(with_reducible first|refine jA ?_|(refine hK _ _ ?_;clear hK K)|refine jJ fun K hK=>?_|refine jK ?_|refine jL ?_|refine jM ?_|refine jN ?_|refine jO ?_|refine jP ?_|refine jQ ?_|(refine jB ?_;clear hK K)|(refine jC ?_;clear hK K)|refine jD ?_|refine jE ?_|refine jG ?_|refine jH ?_|refine jI ?_)|((with_reducible refine jR ?hq ?_);case hq=>rfl)|((first|(with_reducible first|refine jS fun K hK=>?_|refine jT ?_|refine jU ?_)|((with_reducible refine jV ?hy fun K hK=>?_);case hy=>rfl));simp only [go_sem, Nat.reduceEqDiff, Nat.reduceAdd, Nat.reduceMul, Nat.reduceLeDiff, Nat.reduceLT, Int.reduceLT, Int.reduceLE, Int.reduceEq, Int.reduceNeg, Int.reduceToNat, Nat.reducePow, reduceIte, reduceCtorEq, i12, i0, ca, hil])|((with_reducible first|refine jW ?hy ?_|refine jY ?hy ?_);case hy=>rfl)|((with_reducible first|refine jX ?hy ?_|refine jZ ?hy ?_);case hy=>rfl)|((with_reducible refine jF ?hy ?_);case hy=>decide))
   refine x_drawS [17] [0, 1, 2, 3, 4, 5, 6, 7, 8, 9, 10, 11, 12, 13, 14, 15, 16, 17] rfl (by kernel_rfl) (Cells _) q ?_
   repeat' (first|(with_reducible refine xs_nil ?_)|((first|((with_reducible apply xs_rd);case hi=>rfl)|((with_reducible apply xs_guard_yes);(case hi=>rfl);(case hy=>rfl)));(case hr=>rfl);(case h1=>intro H' hS'; (try simp only [Cells, and_true] at hS');simp only [go_sem, Nat.reduceEqDiff, Nat.reduceAdd, Nat.reduceMul, Nat.reduceLeDiff, Nat.reduceLT, Int.reduceLT, Int.reduceLE, Int.reduceEq, Int.reduceNeg, Int.reduceToNat, Nat.reducePow, reduceIte, reduceCtorEq, i12, i0, hil, ey, qp, hS']; rfl))|((with_reducible refine xs_tail ?hz ?_);case hz=>rfl)|((with_reducible refine xs_keep ?hz ?_);case hz=>first|(with_reducible assumption)|(simp only [go_sem, Nat.reduceEqDiff, Nat.reduceAdd, Nat.reduceMul, Nat.reduceLeDiff, Nat.reduceLT, Int.reduceLT, Int.reduceLE, Int.reduceEq, Int.reduceNeg, Int.reduceToNat, Nat.reducePow, reduceIte, reduceCtorEq, Cells, and_true, i12, i0, hil, ey, qp]; done)|assumption)|((with_reducible apply xs_guard_no);(case hi=>rfl);(case hy=>rfl);(case hS=>assumption))|((first|((with_reducible apply xs_op);(case hi=>rfl))|((with_reducible apply xs_op_yes);(case hi=>rfl);(case hy=>rfl)));(case hr=>rfl);intro K hK; simp only [go_sem, Nat.reduceEqDiff, Nat.reduceAdd, Nat.reduceMul, Nat.reduceLeDiff, Nat.reduceLT, Int.reduceLT, Int.reduceLE, Int.reduceEq, Int.reduceNeg, Int.reduceToNat, Nat.reducePow, reduceIte, reduceCtorEq, i12, i0, hil, ey, qp])|(with_reducible first|refine jA ?_|(refine hK _ _ ?_;clear hK K)|refine jJ fun K hK=>?_|refine jK ?_|refine jL ?_|refine jM ?_|refine jN ?_|refine jO ?_|refine jP ?_|refine jQ ?_|(refine jB ?_;clear hK K)|(refine jC ?_;clear hK K)|refine jD ?_|refine jE ?_|refine jG ?_|refine jH ?_|refine jI ?_)|((with_reducible refine jR ?hq ?_);case hq=>rfl)|((first|(with_reducible first|refine jS fun K hK=>?_|refine jT ?_|refine jU ?_)|((with_reducible refine jV ?hy fun K hK=>?_);case hy=>rfl));simp only [go_sem, Nat.reduceEqDiff, Nat.reduceAdd, Nat.reduceMul, Nat.reduceLeDiff, Nat.reduceLT, Int.reduceLT, Int.reduceLE, Int.reduceEq, Int.reduceNeg, Int.reduceToNat, Nat.reducePow, reduceIte, reduceCtorEq, i12, i0, hil, ey, qp])|((with_reducible first|refine jW ?hy ?_|refine jY ?hy ?_);case hy=>rfl)|((with_reducible first|refine jX ?hy ?_|refine jZ ?hy ?_);case hy=>rfl)|((with_reducible refine jF ?hy ?_);case hy=>decide))
   refine append_or (C := I) elems22 tl3 o1 rfl rfl (by decide) (by simp; omega) rfl ?_
   intro v3 H3 B3 o3 hf3 hB3
   have q3 : Cells [(s, 2, .slice (some ⟨g, 0, none⟩) L2.length c), (g, i, .slice a1 xs.length k1)] H3 := q.frame hf3 (by
    intro b hb
    simp only [List.mem_cons, List.not_mem_nil, or_false] at hb
    rcases hb with rfl | rfl
    ·exact hsB
    ·exact hgB)
   obtain ⟨w3, hL3⟩ := hput H3 B3 v3 _ o3 hf3 hB3
   obtain ⟨a3, k3, rfl⟩ := o3.slice
   repeat' (first|(with_reducible refine xs_nil ?_)|((first|((with_reducible apply xs_rd);case hi=>rfl)|((with_reducible apply xs_guard_yes);(case hi=>rfl);(case hy=>rfl)));(case hr=>rfl);(case h1=>intro H' hS'; (try simp only [Cells, and_true] at hS');simp only [go_sem, Nat.reduceEqDiff, Nat.reduceAdd, Nat.reduceMul, Nat.reduceLeDiff, Nat.reduceLT, Int.reduceLT, Int.reduceLE, Int.reduceEq, Int.reduceNeg, Int.reduceToNat, Nat.reducePow, reduceIte, reduceCtorEq, i12, i0, hil, q3, w3, ewi, hS']; rfl))|((with_reducible refine xs_tail ?hz ?_);case hz=>rfl)|((with_reducible refine xs_keep ?hz ?_);case hz=>first|(with_reducible assumption)|(simp only [go_sem, Nat.reduceEqDiff, Nat.reduceAdd, Nat.reduceMul, Nat.reduceLeDiff, Nat.reduceLT, Int.reduceLT, Int.reduceLE, Int.reduceEq, Int.reduceNeg, Int.reduceToNat, Nat.reducePow, reduceIte, reduceCtorEq, Cells, and_true, i12, i0, hil, q3, w3, ewi]; done)|assumption)|((with_reducible apply xs_guard_no);(case hi=>rfl);(case hy=>rfl);(case hS=>assumption))|((first|((with_reducible apply xs_op);(case hi=>rfl))|((with_reducible apply xs_op_yes);(case hi=>rfl);(case hy=>rfl)));(case hr=>rfl);intro K hK; simp only [go_sem, Nat.reduceEqDiff, Nat.reduceAdd, Nat.reduceMul, Nat.reduceLeDiff, Nat.reduceLT, Int.reduceLT, Int.reduceLE, Int.reduceEq, Int.reduceNeg, Int.reduceToNat, Nat.reducePow, reduceIte, reduceCtorEq, i12, i0, hil, q3, w3, ewi])|(with_reducible first|refine jA ?_|(refine hK _ _ ?_;clear hK K)|refine jJ fun K hK=>?_|refine jK ?_|refine jL ?_|refine jM ?_|refine jN ?_|refine jO ?_|refine jP ?_|refine jQ ?_|(refine jB ?_;clear hK K)|(refine jC ?_;clear hK K)|refine jD ?_|refine jE ?_|refine jG ?_|refine jH ?_|refine jI ?_)|((with_reducible refine jR ?hq ?_);case hq=>rfl)|((first|(with_reducible first|refine jS fun K hK=>?_|refine jT ?_|refine jU ?_)|((with_reducible refine jV ?hy fun K hK=>?_);case hy=>rfl));simp only [go_sem, Nat.reduceEqDiff, Nat.reduceAdd, Nat.reduceMul, Nat.reduceLeDiff, Nat.reduceLT, Int.reduceLT, Int.reduceLE, Int.reduceEq, Int.reduceNeg, Int.reduceToNat, Nat.reducePow, reduceIte, reduceCtorEq, i12, i0, hil, q3, w3, ewi])|((with_reducible first|refine jW ?hy ?_|refine jY ?hy ?_);case hy=>rfl)|((with_reducible first|refine jX ?hy ?_|refine jZ ?hy ?_);case hy=>rfl)|((with_reducible refine jF ?hy ?_);case hy=>decide))
   have hs3 := hf3.size
   refine loop_normal (m' := L.length - (i + 1)) (by omega) ⟨i + 1, _, _, rfl, by omega, hL3, by simpa using hl2, ?_, ?_, ?_, ?_, rfl⟩
   ·intro j zs hz
    rw [List.getElem?_set] at hz
    by_cases hij : i = j
    ·rw [if_pos hij, if_pos hil] at hz
     rw [← Option.some.inj hz, List.length_append, List.length_singleton]
     exact ⟨by omega, fun h => by omega⟩
    ·rw [if_neg hij] at hz
     exact ⟨(hM2 j zs hz).1, fun h => (hM2 j zs hz).2 (by omega)⟩
   ·intro j zs hj hz x hxz
    rw [List.getElem?_set] at hz
    by_cases hij : i = j
    ·rw [if_pos hij, if_pos hil] at hz
     rw [← Option.some.inj hz] at hxz
     rcases List.mem_append.1 hxz with h | h
     ·rw [← hij]; exact hk2 i xs (by omega) hx x h
     ·rw [List.mem_singleton] at h
      rw [← hij]; exact h
    ·rw [if_neg hij] at hz
     exact hk2 j zs hj hz x hxz
   ·intro b hb
    rcases hb with hb | hb
    ·exact hT2 b hb
    ·rcases hB3 with rfl | ⟨g', rfl, hg'⟩
     ·exact hT2 b (hB b hb).1
     ·rw [← Option.some.inj hb]; right; omega
   ·refine Fr.set (S := T) (a := ⟨g, i, none⟩) (hf2.trans' hf3 fun b hb h => ?_) ?_ _
    ·rcases hT2 b (hB b h).1 with h | h
     ·exact h
     ·omega
    ·rcases hT2 g hg with h | h
     ·exact .inl h
     ·exact .inr h
  ·have t1 : (i < L2.length) = False := by simp [hil]
   obtain ⟨a, c, rfl⟩ := hL2.slice
   repeat' (first|(with_reducible first|refine jA ?_|(refine hK _ _ ?_;clear hK K)|refine jJ fun K hK=>?_|refine jK ?_|refine jL ?_|refine jM ?_|refine jN ?_|refine jO ?_|refine jP ?_|refine jQ ?_|(refine jB ?_;clear hK K)|(refine jC ?_;clear hK K)|refine jD ?_|refine jE ?_|refine jG ?_|refine jH ?_|refine jI ?_)|((with_reducible refine jR ?hq ?_);case hq=>rfl)|((first|(with_reducible first|refine jS fun K hK=>?_|refine jT ?_|refine jU ?_)|((with_reducible refine jV ?hy fun K hK=>?_);case hy=>rfl));simp only [go_sem, Nat.reduceEqDiff, Nat.reduceAdd, Nat.reduceMul, Nat.reduceLeDiff, Nat.reduceLT, Int.reduceLT, Int.reduceLE, Int.reduceEq, Int.reduceNeg, Int.reduceToNat, Nat.reducePow, reduceIte, reduceCtorEq, i12, i0, ca, t1, i11, ew])|((with_reducible first|refine jW ?hy ?_|refine jY ?hy ?_);case hy=>rfl)|((with_reducible first|refine jX ?hy ?_|refine jZ ?hy ?_);case hy=>rfl)|((with_reducible refine jF ?hy ?_);case hy=>decide))
   exact loop_normal (m' := 12 - (n + 1)) (by omega) ⟨n + 1, T2, L2, rfl, by omega, hL2, hl2, (fun j xs h => (hM2 j xs h).1), hk2, hT2, hf2, rfl⟩
 ·have tn : ((n : Int) < 12) = False := by simp; omega
  have hn12 : n = 12 := by omega
  subst hn12
  repeat' (first|(with_reducible first|refine jA ?_|(refine hK _ _ ?_;clear hK K)|refine jJ fun K hK=>?_|refine jK ?_|refine jL ?_|refine jM ?_|refine jN ?_|refine jO ?_|refine jP ?_|refine jQ ?_|(refine jB ?_;clear hK K)|(refine jC ?_;clear hK K)|refine jD ?_|refine jE ?_|refine jG ?_|refine jH ?_|refine jI ?_)|((with_reducible refine jR ?hq ?_);case hq=>rfl)|((first|(with_reducible first|refine jS fun K hK=>?_|refine jT ?_|refine jU ?_)|((with_reducible refine jV ?hy fun K hK=>?_);case hy=>rfl));simp only [go_sem, Nat.reduceEqDiff, Nat.reduceAdd, Nat.reduceMul, Nat.reduceLeDiff, Nat.reduceLT, Int.reduceLT, Int.reduceLE, Int.reduceEq, Int.reduceNeg, Int.reduceToNat, Nat.reducePow, reduceIte, reduceCtorEq, i11, tn])|((with_reducible first|refine jW ?hy ?_|refine jY ?hy ?_);case hy=>rfl)|((with_reducible first|refine jX ?hy ?_|refine jZ ?hy ?_);case hy=>rfl)|((with_reducible refine jF ?hy ?_);case hy=>decide))
  exact fin _ _ T1 L1 i0 hL1 hl1 hk1 hM1 hT1 hf1
theorem check (e0 : e 0 = .pointer (some ⟨s, 0, none⟩)) (es : e 13 = .int .i64 0) (hb : Blk H s hdr) (ha : hdr[2]? = some va) (hL : LL I H T va L)
  (hlen : L.length ≤ 1000) (hM : Short L M) (hMM : M ≤ 2199023255552) (hk : Mk L L.length)
  (fin : ∀ e', e' 0 = .pointer (some ⟨s, 0, none⟩) → Q .normal e' H) : codeX Try.prog [12] (loopAt Try.f20.body 6) (blockQ 12 Q) e H := by
 have ca := hb.cellOf ha
 refine x_loop (fun m e' H' => ∃ i : Nat, H' = H ∧ e' 13 = .int .i64 (i : Nat) ∧ i ≤ L.length ∧ m = L.length - i) L.length ⟨0, rfl, es, Nat.zero_le _, rfl⟩ ?_
 rintro m e1 H1 ⟨i, rfl, i7, hi, rfl⟩ hoff
 have i0 := (hoff 0 rfl).trans e0
 clear hoff
 by_cases hlt : i < L.length
 ·obtain ⟨xs, hx⟩ : ∃ xs, L[i]? = some xs := ⟨_, List.getElem?_eq_getElem hlt⟩
  obtain ⟨g, c, B, v, rfl, c1, o1, -⟩ := hL.at hx
  obtain ⟨a1, k1, rfl⟩ := o1.slice
  have ew : IntKind.i64.wrap ((i : Int) + 1) = ((i + 1 : Nat) : Int) := by rw [wrap_i64] <;> omega
  have ey : IntKind.i64.wrap (-1 - (i : Int)) = -1 - (i : Int) := by rw [wrap_i64] <;> omega
  have hxM := hM i xs hx
  repeat' (first|(with_reducible first|refine jA ?_|(refine hK _ _ ?_;clear hK K)|refine jJ fun K hK=>?_|refine jK ?_|refine jL ?_|refine jM ?_|refine jN ?_|refine jO ?_|refine jP ?_|refine jQ ?_|(refine jB ?_;clear hK K)|(refine jC ?_;clear hK K)|refine jD ?_|refine jE ?_|refine jG ?_|refine jH ?_|refine jI ?_)|((with_reducible refine jR ?hq ?_);case hq=>rfl)|((first|(with_reducible first|refine jS fun K hK=>?_|refine jT ?_|refine jU ?_)|((with_reducible refine jV ?hy fun K hK=>?_);case hy=>rfl));simp only [go_sem, Nat.reduceEqDiff, Nat.reduceAdd, Nat.reduceMul, Nat.reduceLeDiff, Nat.reduceLT, Int.reduceLT, Int.reduceLE, Int.reduceEq, Int.reduceNeg, Int.reduceToNat, Nat.reducePow, reduceIte, reduceCtorEq, i7, i0, ca, hlt])|((with_reducible first|refine jW ?hy ?_|refine jY ?hy ?_);case hy=>rfl)|((with_reducible first|refine jX ?hy ?_|refine jZ ?hy ?_);case hy=>rfl)|((with_reducible refine jF ?hy ?_);case hy=>decide))
  refine x_loop (fun m e' H' => ∃ k : Nat, H' = H1 ∧ e' 14 = .int .i64 (k : Nat) ∧ k ≤ xs.length ∧ m = xs.length - k) xs.length ⟨0, rfl, rfl, Nat.zero_le _, rfl⟩ ?_
  rintro m e2 H2 ⟨k, rfl, i8, hk8, rfl⟩ hoff
  have i0 := (hoff 0 rfl).trans i0
  have i7 := (hoff 13 rfl).trans i7
  clear hoff
  by_cases hkl : k < xs.length
  ·obtain ⟨x, hxk⟩ : ∃ x, xs[k]? = some x := ⟨_, List.getElem?_eq_getElem hkl⟩
   obtain ⟨b, n, rfl, hv, c2⟩ := o1.at hxk
   simp only [Value.slice.injEq, true_and] at hv
   obtain ⟨rfl, rfl⟩ := hv
   have hxe : x = -1 - (i : Int) := hk i xs hlt hx x (List.mem_of_getElem? hxk)
   have ewk : IntKind.i64.wrap ((k : Int) + 1) = ((k + 1 : Nat) : Int) := by rw [wrap_i64] <;> omega
   have t2 : (x != -1 - (i : Int)) = false := by simp [hxe]
   repeat' (first|(with_reducible first|refine jA ?_|(refine hK _ _ ?_;clear hK K)|refine jJ fun K hK=>?_|refine jK ?_|refine jL ?_|refine jM ?_|refine jN ?_|refine jO ?_|refine jP ?_|refine jQ ?_|(refine jB ?_;clear hK K)|(refine jC ?_;clear hK K)|refine jD ?_|refine jE ?_|refine jG ?_|refine jH ?_|refine jI ?_)|((with_reducible refine jR ?hq ?_);case hq=>rfl)|((first|(with_reducible first|refine jS fun K hK=>?_|refine jT ?_|refine jU ?_)|((with_reducible refine jV ?hy fun K hK=>?_);case hy=>rfl));simp only [go_sem, Nat.reduceEqDiff, Nat.reduceAdd, Nat.reduceMul, Nat.reduceLeDiff, Nat.reduceLT, Int.reduceLT, Int.reduceLE, Int.reduceEq, Int.reduceNeg, Int.reduceToNat, Nat.reducePow, reduceIte, reduceCtorEq, i7, i8, i0, ca, hlt, c1, hkl, c2, ey, t2, ewk])|((with_reducible first|refine jW ?hy ?_|refine jY ?hy ?_);case hy=>rfl)|((with_reducible first|refine jX ?hy ?_|refine jZ ?hy ?_);case hy=>rfl)|((with_reducible refine jF ?hy ?_);case hy=>decide))
   exact loop_normal (m' := xs.length - (k + 1)) (by omega) ⟨k + 1, rfl, rfl, hkl, rfl⟩
  ·have t1 : (k < xs.length) = False := by simp [hkl]
   repeat' (first|(with_reducible first|refine jA ?_|(refine hK _ _ ?_;clear hK K)|refine jJ fun K hK=>?_|refine jK ?_|refine jL ?_|refine jM ?_|refine jN ?_|refine jO ?_|refine jP ?_|refine jQ ?_|(refine jB ?_;clear hK K)|(refine jC ?_;clear hK K)|refine jD ?_|refine jE ?_|refine jG ?_|refine jH ?_|refine jI ?_)|((with_reducible refine jR ?hq ?_);case hq=>rfl)|((first|(with_reducible first|refine jS fun K hK=>?_|refine jT ?_|refine jU ?_)|((with_reducible refine jV ?hy fun K hK=>?_);case hy=>rfl));simp only [go_sem, Nat.reduceEqDiff, Nat.reduceAdd, Nat.reduceMul, Nat.reduceLeDiff, Nat.reduceLT, Int.reduceLT, Int.reduceLE, Int.reduceEq, Int.reduceNeg, Int.reduceToNat, Nat.reducePow, reduceIte, reduceCtorEq, i7, i8, i0, ca, hlt, c1, t1, ew])|((with_reducible first|refine jW ?hy ?_|refine jY ?hy ?_);case hy=>rfl)|((with_reducible first|refine jX ?hy ?_|refine jZ ?hy ?_);case hy=>rfl)|((with_reducible refine jF ?hy ?_);case hy=>decide))
   exact loop_normal (m' := L.length - (i + 1)) (by omega) ⟨i + 1, rfl, rfl, hlt, rfl⟩
 ·have t1 : (i < L.length) = False := by simp [hlt]
  obtain ⟨a, c, rfl⟩ := hL.slice
  repeat' (first|(with_reducible first|refine jA ?_|(refine hK _ _ ?_;clear hK K)|refine jJ fun K hK=>?_|refine jK ?_|refine jL ?_|refine jM ?_|refine jN ?_|refine jO ?_|refine jP ?_|refine jQ ?_|(refine jB ?_;clear hK K)|(refine jC ?_;clear hK K)|refine jD ?_|refine jE ?_|refine jG ?_|refine jH ?_|refine jI ?_)|((with_reducible refine jR ?hq ?_);case hq=>rfl)|((first|(with_reducible first|refine jS fun K hK=>?_|refine jT ?_|refine jU ?_)|((with_reducible refine jV ?hy fun K hK=>?_);case hy=>rfl));simp only [go_sem, Nat.reduceEqDiff, Nat.reduceAdd, Nat.reduceMul, Nat.reduceLeDiff, Nat.reduceLT, Int.reduceLT, Int.reduceLE, Int.reduceEq, Int.reduceNeg, Int.reduceToNat, Nat.reducePow, reduceIte, reduceCtorEq, i7, i0, ca, t1])|((with_reducible first|refine jW ?hy ?_|refine jY ?hy ?_);case hy=>rfl)|((with_reducible first|refine jX ?hy ?_|refine jZ ?hy ?_);case hy=>rfl)|((with_reducible refine jF ?hy ?_);case hy=>decide))
  exact fin _ i0
end Go.Proofs.Ytoplhfhjokjbiaa.LsLi
namespace Go.Proofs.Ytoplhfhjokjbiaa
open Go Go.Hp Go.Li Go.Sd
set_option linter.all false
set_option maxRecDepth 100000
set_option maxHeartbeats 1600000
theorem RXM.hdr {H : Heap} {x : Nat} {T : Nat → Prop} {S : Ls} (h : RXM H x T S) : ∃ a c, hcell H ⟨x, 0, none⟩ = some (.slice a S.n c) := by
 obtain ⟨gu, gb, cu, h1, h2⟩ := h
 exact ⟨_, _, h1.h0⟩
section
variable {H : Heap} {s n : Nat} {col : Nat → Nat} {K : Value → Heap → Prop}
theorem ends_ok (hn : n ≤ 64) (hS : LSd n H s col) (fin : ∀ H', Fr (fun b => col b ≠ 0) H H' → K (.bool true) H') :
  CallsH Try.prog 20 #[.pointer (some ⟨s, 0, none⟩)] H K := by
 refine call20 (by simp) ?_
 simp only [Try.f20, Option.getD_some]
 repeat' (first|(with_reducible first|refine jA ?_|(refine hK _ _ ?_;clear hK K)|refine jJ fun K hK=>?_|refine jK ?_|refine jL ?_|refine jM ?_|refine jN ?_|refine jO ?_|refine jP ?_|refine jQ ?_|(refine jB ?_;clear hK K)|(refine jC ?_;clear hK K)|refine jD ?_|refine jE ?_|refine jG ?_|refine jH ?_|refine jI ?_)|((with_reducible refine jR ?hq ?_);case hq=>rfl)|((first|(with_reducible first|refine jS fun K hK=>?_|refine jT ?_|refine jU ?_)|((with_reducible refine jV ?hy fun K hK=>?_);case hy=>rfl));simp only [go_sem, Nat.reduceEqDiff, Nat.reduceAdd, Nat.reduceMul, Nat.reduceLeDiff, Nat.reduceLT, Int.reduceLT, Int.reduceLE, Int.reduceEq, Int.reduceNeg, Int.reduceToNat, Nat.reducePow, reduceIte, reduceCtorEq])|((with_reducible first|refine jW ?hy ?_|refine jY ?hy ?_);case hy=>rfl)|((with_reducible first|refine jX ?hy ?_|refine jZ ?hy ?_);case hy=>rfl)|((with_reducible refine jF ?hy ?_);case hy=>decide))
 refine x_loop (fun m e' H' => ∃ (i : Nat) (col' : Nat → Nat), LSd n H' s col' ∧ Nx col col' H H' ∧ e' 3 = .int .i64 ((i : Int) - 1) ∧ i ≤ n + 2 ∧ m = n + 2 - i) (n + 2) ⟨0, col, hS, Nx.refl _ _, rfl, Nat.zero_le _, rfl⟩ ?_
 rintro m e1 H1 ⟨i, col1, hS1, n1, i3, hi, hm⟩ hoff
 have i0 := (hoff 0 rfl).trans rfl
 clear hoff hS
 have hS1' := hS1
 obtain ⟨S, f, x, hSn, L, T, TX, TA, va, TW, vw, P, hL1, hL2⟩ := hS1
 have c1 := P.b.cellOf (i := 1) rfl
 obtain ⟨a, c, ci⟩ := RXM.hdr P.dc
 rw [hSn] at ci
 by_cases hlt : i ≤ n + 1
 ·have hlt' : ((i : Int) - 1 ≤ (n : Int)) = True := eq_true (by omega)
  have ew : IntKind.i64.wrap ((i : Int) - 1 + 1) = ((i + 1 : Nat) : Int) - 1 := by rw [wrap_i64] <;> omega
  have ew2 : IntKind.i64.wrap ((n : Int) - 1) = (n : Int) - 1 := by rw [wrap_i64] <;> omega
  have ew3 : IntKind.i64.wrap ((n : Int) - 1 - ((i : Int) - 1)) = (n : Int) - 1 - ((i : Int) - 1) := by rw [wrap_i64] <;> omega
  have ewa : IntKind.i64.wrap ((i : Int) - 1 + 1) = (i : Int) - 1 + 1 := by rw [wrap_i64] <;> omega
  repeat' (first|(with_reducible first|refine jA ?_|(refine hK _ _ ?_;clear hK K)|refine jJ fun K hK=>?_|refine jK ?_|refine jL ?_|refine jM ?_|refine jN ?_|refine jO ?_|refine jP ?_|refine jQ ?_|(refine jB ?_;clear hK K)|(refine jC ?_;clear hK K)|refine jD ?_|refine jE ?_|refine jG ?_|refine jH ?_|refine jI ?_)|((with_reducible refine jR ?hq ?_);case hq=>rfl)|((first|(with_reducible first|refine jS fun K hK=>?_|refine jT ?_|refine jU ?_)|((with_reducible refine jV ?hy fun K hK=>?_);case hy=>rfl));simp only [go_sem, Nat.reduceEqDiff, Nat.reduceAdd, Nat.reduceMul, Nat.reduceLeDiff, Nat.reduceLT, Int.reduceLT, Int.reduceLE, Int.reduceEq, Int.reduceNeg, Int.reduceToNat, Nat.reducePow, reduceIte, reduceCtorEq, i0, i3, c1, ci, hlt'])|((with_reducible first|refine jW ?hy ?_|refine jY ?hy ?_);case hy=>rfl)|((with_reducible first|refine jX ?hy ?_|refine jZ ?hy ?_);case hy=>rfl)|((with_reducible refine jF ?hy ?_);case hy=>decide))
  refine step_ok (k := 4) (u := (i : Int) - 1) (v := 0) (id := 0) (w := 0) (ot := false) hS1' fun H2 col2 hS2 n2 => ?_
  repeat' (first|(with_reducible first|refine jA ?_|(refine hK _ _ ?_;clear hK K)|refine jJ fun K hK=>?_|refine jK ?_|refine jL ?_|refine jM ?_|refine jN ?_|refine jO ?_|refine jP ?_|refine jQ ?_|(refine jB ?_;clear hK K)|(refine jC ?_;clear hK K)|refine jD ?_|refine jE ?_|refine jG ?_|refine jH ?_|refine jI ?_)|((with_reducible refine jR ?hq ?_);case hq=>rfl)|((first|(with_reducible first|refine jS fun K hK=>?_|refine jT ?_|refine jU ?_)|((with_reducible refine jV ?hy fun K hK=>?_);case hy=>rfl));simp only [go_sem, Nat.reduceEqDiff, Nat.reduceAdd, Nat.reduceMul, Nat.reduceLeDiff, Nat.reduceLT, Int.reduceLT, Int.reduceLE, Int.reduceEq, Int.reduceNeg, Int.reduceToNat, Nat.reducePow, reduceIte, reduceCtorEq, i0, i3, ewa])|((with_reducible first|refine jW ?hy ?_|refine jY ?hy ?_);case hy=>rfl)|((with_reducible first|refine jX ?hy ?_|refine jZ ?hy ?_);case hy=>rfl)|((with_reducible refine jF ?hy ?_);case hy=>decide))
  refine step_ok (k := 6) (u := (i : Int) - 1) (v := (i : Int) - 1 + 1) (id := 0) (w := 0) (ot := false) hS2 fun H3 col3 hS3 n3 => ?_
  have hS3' := hS3
  obtain ⟨S', f', x', hSn', L', T', TX', TA', va', TW', vw', P', hL1', hL2'⟩ := hS3
  have d1 := P'.b.cellOf (i := 1) rfl
  obtain ⟨a', c', di⟩ := RXM.hdr P'.dc
  rw [hSn'] at di
  repeat' (first|(with_reducible first|refine jA ?_|(refine hK _ _ ?_;clear hK K)|refine jJ fun K hK=>?_|refine jK ?_|refine jL ?_|refine jM ?_|refine jN ?_|refine jO ?_|refine jP ?_|refine jQ ?_|(refine jB ?_;clear hK K)|(refine jC ?_;clear hK K)|refine jD ?_|refine jE ?_|refine jG ?_|refine jH ?_|refine jI ?_)|((with_reducible refine jR ?hq ?_);case hq=>rfl)|((first|(with_reducible first|refine jS fun K hK=>?_|refine jT ?_|refine jU ?_)|((with_reducible refine jV ?hy fun K hK=>?_);case hy=>rfl));simp only [go_sem, Nat.reduceEqDiff, Nat.reduceAdd, Nat.reduceMul, Nat.reduceLeDiff, Nat.reduceLT, Int.reduceLT, Int.reduceLE, Int.reduceEq, Int.reduceNeg, Int.reduceToNat, Nat.reducePow, reduceIte, reduceCtorEq, i0, i3, d1, di, ew2, ew3])|((with_reducible first|refine jW ?hy ?_|refine jY ?hy ?_);case hy=>rfl)|((with_reducible first|refine jX ?hy ?_|refine jZ ?hy ?_);case hy=>rfl)|((with_reducible refine jF ?hy ?_);case hy=>decide))
  refine step_ok (k := 7) (u := (i : Int) - 1) (v := (n : Int) - 1 - ((i : Int) - 1)) (id := 0) (w := 0) (ot := false) hS3' fun H4 col4 hS4 n4 => ?_
  repeat' (first|(with_reducible first|refine jA ?_|(refine hK _ _ ?_;clear hK K)|refine jJ fun K hK=>?_|refine jK ?_|refine jL ?_|refine jM ?_|refine jN ?_|refine jO ?_|refine jP ?_|refine jQ ?_|(refine jB ?_;clear hK K)|(refine jC ?_;clear hK K)|refine jD ?_|refine jE ?_|refine jG ?_|refine jH ?_|refine jI ?_)|((with_reducible refine jR ?hq ?_);case hq=>rfl)|((first|(with_reducible first|refine jS fun K hK=>?_|refine jT ?_|refine jU ?_)|((with_reducible refine jV ?hy fun K hK=>?_);case hy=>rfl));simp only [go_sem, Nat.reduceEqDiff, Nat.reduceAdd, Nat.reduceMul, Nat.reduceLeDiff, Nat.reduceLT, Int.reduceLT, Int.reduceLE, Int.reduceEq, Int.reduceNeg, Int.reduceToNat, Nat.reducePow, reduceIte, reduceCtorEq, i3, Bool.not_true, ew])|((with_reducible first|refine jW ?hy ?_|refine jY ?hy ?_);case hy=>rfl)|((with_reducible first|refine jX ?hy ?_|refine jZ ?hy ?_);case hy=>rfl)|((with_reducible refine jF ?hy ?_);case hy=>decide))
  exact loop_normal (m' := n + 2 - (i + 1)) (by omega) ⟨i + 1, col4, hS4, ((n1.trans n2).trans n3).trans n4, rfl, by omega, rfl⟩
 ·have hlt' : ((i : Int) - 1 ≤ (n : Int)) = False := eq_false (by omega)
  repeat' (first|(with_reducible first|refine jA ?_|(refine hK _ _ ?_;clear hK K)|refine jJ fun K hK=>?_|refine jK ?_|refine jL ?_|refine jM ?_|refine jN ?_|refine jO ?_|refine jP ?_|refine jQ ?_|(refine jB ?_;clear hK K)|(refine jC ?_;clear hK K)|refine jD ?_|refine jE ?_|refine jG ?_|refine jH ?_|refine jI ?_)|((with_reducible refine jR ?hq ?_);case hq=>rfl)|((first|(with_reducible first|refine jS fun K hK=>?_|refine jT ?_|refine jU ?_)|((with_reducible refine jV ?hy fun K hK=>?_);case hy=>rfl));simp only [go_sem, Nat.reduceEqDiff, Nat.reduceAdd, Nat.reduceMul, Nat.reduceLeDiff, Nat.reduceLT, Int.reduceLT, Int.reduceLE, Int.reduceEq, Int.reduceNeg, Int.reduceToNat, Nat.reducePow, reduceIte, reduceCtorEq, i0, i3, c1, ci, hlt'])|((with_reducible first|refine jW ?hy ?_|refine jY ?hy ?_);case hy=>rfl)|((with_reducible first|refine jX ?hy ?_|refine jZ ?hy ?_);case hy=>rfl)|((with_reducible refine jF ?hy ?_);case hy=>decide))
  have hne4 : ∀ b, col1 b ≠ 4 → ¬ TA b := fun b hb e => hb (P.ca b e)
  have hnes := hne4 s (by rw [P.cs]; decide)
  refine LsLi.same (hdr := _) i0 rfl P.b rfl rfl P.la P.lw (by omega) hL2 (by decide) fun e2 i0 => ?_
  repeat' (first|(with_reducible first|refine jA ?_|(refine hK _ _ ?_;clear hK K)|refine jJ fun K hK=>?_|refine jK ?_|refine jL ?_|refine jM ?_|refine jN ?_|refine jO ?_|refine jP ?_|refine jQ ?_|(refine jB ?_;clear hK K)|(refine jC ?_;clear hK K)|refine jD ?_|refine jE ?_|refine jG ?_|refine jH ?_|refine jI ?_)|((with_reducible refine jR ?hq ?_);case hq=>rfl)|((first|(with_reducible first|refine jS fun K hK=>?_|refine jT ?_|refine jU ?_)|((with_reducible refine jV ?hy fun K hK=>?_);case hy=>rfl));simp only [go_sem, Nat.reduceEqDiff, Nat.reduceAdd, Nat.reduceMul, Nat.reduceLeDiff, Nat.reduceLT, Int.reduceLT, Int.reduceLE, Int.reduceEq, Int.reduceNeg, Int.reduceToNat, Nat.reducePow, reduceIte, reduceCtorEq])|((with_reducible first|refine jW ?hy ?_|refine jY ?hy ?_);case hy=>rfl)|((with_reducible first|refine jX ?hy ?_|refine jZ ?hy ?_);case hy=>rfl)|((with_reducible refine jF ?hy ?_);case hy=>decide))
  refine LsLi.mark (hdr := _) i0 rfl P.b rfl P.la hnes (by omega) hL2 (by decide) fun e3 H2 L2 i0 hL2' hl2 hs2 hk2 hf2 => ?_
  repeat' (first|(with_reducible first|refine jA ?_|(refine hK _ _ ?_;clear hK K)|refine jJ fun K hK=>?_|refine jK ?_|refine jL ?_|refine jM ?_|refine jN ?_|refine jO ?_|refine jP ?_|refine jQ ?_|(refine jB ?_;clear hK K)|(refine jC ?_;clear hK K)|refine jD ?_|refine jE ?_|refine jG ?_|refine jH ?_|refine jI ?_)|((with_reducible refine jR ?hq ?_);case hq=>rfl)|((first|(with_reducible first|refine jS fun K hK=>?_|refine jT ?_|refine jU ?_)|((with_reducible refine jV ?hy fun K hK=>?_);case hy=>rfl));simp only [go_sem, Nat.reduceEqDiff, Nat.reduceAdd, Nat.reduceMul, Nat.reduceLeDiff, Nat.reduceLT, Int.reduceLT, Int.reduceLE, Int.reduceEq, Int.reduceNeg, Int.reduceToNat, Nat.reducePow, reduceIte, reduceCtorEq])|((with_reducible first|refine jW ?hy ?_|refine jY ?hy ?_);case hy=>rfl)|((with_reducible first|refine jX ?hy ?_|refine jZ ?hy ?_);case hy=>rfl)|((with_reducible refine jF ?hy ?_);case hy=>decide))
  refine LsLi.grow (hdr := _) i0 rfl (P.b.frame hf2 hnes) rfl hL2' hnes (by omega) hs2 (by decide) (by rw [hl2]; exact hk2) fun e4 H3 T3 L3 i0 hL3 hl3 hk3 hs3 hT3 hf3 => ?_
  have hf13 : Fr TA H1 H3 := hf2.trans hf3
  repeat' (first|(with_reducible first|refine jA ?_|(refine hK _ _ ?_;clear hK K)|refine jJ fun K hK=>?_|refine jK ?_|refine jL ?_|refine jM ?_|refine jN ?_|refine jO ?_|refine jP ?_|refine jQ ?_|(refine jB ?_;clear hK K)|(refine jC ?_;clear hK K)|refine jD ?_|refine jE ?_|refine jG ?_|refine jH ?_|refine jI ?_)|((with_reducible refine jR ?hq ?_);case hq=>rfl)|((first|(with_reducible first|refine jS fun K hK=>?_|refine jT ?_|refine jU ?_)|((with_reducible refine jV ?hy fun K hK=>?_);case hy=>rfl));simp only [go_sem, Nat.reduceEqDiff, Nat.reduceAdd, Nat.reduceMul, Nat.reduceLeDiff, Nat.reduceLT, Int.reduceLT, Int.reduceLE, Int.reduceEq, Int.reduceNeg, Int.reduceToNat, Nat.reducePow, reduceIte, reduceCtorEq])|((with_reducible first|refine jW ?hy ?_|refine jY ?hy ?_);case hy=>rfl)|((with_reducible first|refine jX ?hy ?_|refine jZ ?hy ?_);case hy=>rfl)|((with_reducible refine jF ?hy ?_);case hy=>decide))
  refine LsLi.check (hdr := _) i0 rfl (P.b.frame hf13 hnes) rfl hL3 (by omega) hs3 (by decide) (by rw [hl3]; exact hk3) fun e5 i0 => ?_
  repeat' (first|(with_reducible first|refine jA ?_|(refine hK _ _ ?_;clear hK K)|refine jJ fun K hK=>?_|refine jK ?_|refine jL ?_|refine jM ?_|refine jN ?_|refine jO ?_|refine jP ?_|refine jQ ?_|(refine jB ?_;clear hK K)|(refine jC ?_;clear hK K)|refine jD ?_|refine jE ?_|refine jG ?_|refine jH ?_|refine jI ?_)|((with_reducible refine jR ?hq ?_);case hq=>rfl)|((first|(with_reducible first|refine jS fun K hK=>?_|refine jT ?_|refine jU ?_)|((with_reducible refine jV ?hy fun K hK=>?_);case hy=>rfl));simp only [go_sem, Nat.reduceEqDiff, Nat.reduceAdd, Nat.reduceMul, Nat.reduceLeDiff, Nat.reduceLT, Int.reduceLT, Int.reduceLE, Int.reduceEq, Int.reduceNeg, Int.reduceToNat, Nat.reducePow, reduceIte, reduceCtorEq])|((with_reducible first|refine jW ?hy ?_|refine jY ?hy ?_);case hy=>rfl)|((with_reducible first|refine jX ?hy ?_|refine jZ ?hy ?_);case hy=>rfl)|((with_reducible refine jF ?hy ?_);case hy=>decide))
  refine fin _ (n1.fr.trans' hf13 fun b hb e => ?_)
  rcases n1.own b (by rw [P.ca b e]; decide) with h | h
  ·exact h
  ·omega
end
structure Two5 (n m : Nat) (H0 H : Heap) (s t : Nat) (cs ct : Nat → Nat) : Prop where
 a : LSd n H s cs
 b : LSd m H t ct
 fr : Fr (fun _ => False) H0 H
 na : ∀ b, cs b ≠ 0 → H0.size ≤ b
 nb : ∀ b, ct b ≠ 0 → H0.size ≤ b
 ap : ∀ b, cs b ≠ 0 → ct b ≠ 0 → False
section
variable {n m : Nat} {H0 H H' : Heap} {s t : Nat} {cs ct c' : Nat → Nat}
theorem Two5.opA (h : Two5 n m H0 H s t cs ct) (hs : LSd n H' s c') (k : Nx cs c' H H') : Two5 n m H0 H' s t c' ct := by
 refine ⟨hs, (LSd.side m).grow h.b k.fr fun b hb e => h.ap b e hb, h.fr.trans' k.fr fun b hb e => by have := h.na b e; omega, fun b hb => ?_, h.nb, fun b hb' hc => ?_⟩
 ·rcases k.own b hb with e | e
  ·exact h.na b e
  ·exact Nat.le_trans h.fr.size e
 ·rcases k.own b hb' with e | e
  ·exact h.ap b e hc
  ·have := (LSd.side m).lt h.b hc; omega
theorem Two5.opB (h : Two5 n m H0 H s t cs ct) (hs : LSd m H' t c') (k : Nx ct c' H H') : Two5 n m H0 H' s t cs c' := by
 refine ⟨(LSd.side n).grow h.a k.fr fun b hb e => h.ap b hb e, hs, h.fr.trans' k.fr fun b hb e => by have := h.nb b e; omega, h.na, fun b hb => ?_, fun b hb hc => ?_⟩
 ·rcases k.own b hb with e | e
  ·exact h.nb b e
  ·exact Nat.le_trans h.fr.size e
 ·rcases k.own b hc with e | e
  ·exact h.ap b hb e
  ·have := (LSd.side n).lt h.a hb; omega
end
section
variable {H0 H : Heap} {e : Env} {Q : HX → Env → Heap → Prop} {s t nn mm : Nat} {cs ct : Nat → Nat}
theorem playLoop {a : Option Addr} {n c : Nat} {zs : Nat → LOp} (hin : InLOps H0 a n zs) (hn : n ≤ 9223372036854775807) (hT : Two5 nn mm H0 H s t cs ct)
  (e2 : e 2 = .slice a n c) (e16 : e 16 = .pointer (some ⟨s, 0, none⟩)) (e17 : e 17 = .pointer (some ⟨t, 0, none⟩)) (e18 : e 18 = .int .i64 0)
  (fin : ∀ e' H' cs' ct', e' 16 = .pointer (some ⟨s, 0, none⟩) → e' 17 = .pointer (some ⟨t, 0, none⟩) → Two5 nn mm H0 H' s t cs' ct' → Q .normal e' H') :
  codeX Try.prog [] (loopAt Try.f5.body 0) (blockQ 0 Q) e H := by
 refine x_loop (fun m e' H' => ∃ (i : Nat) (cs' ct' : Nat → Nat), e' 18 = .int .i64 (i : Nat) ∧ Two5 nn mm H0 H' s t cs' ct' ∧ i ≤ n ∧ m = n - i) n ⟨0, cs, ct, e18, hT, Nat.zero_le _, rfl⟩ ?_
 rintro m e1 H1 ⟨i, cs1, ct1, i18, hT1, hi, hm⟩ hoff
 have i2 := (hoff 2 rfl).trans e2
 have i16 := (hoff 16 rfl).trans e16
 have i17 := (hoff 17 rfl).trans e17
 clear hoff e2 e16 e17 e18
 by_cases hlt : i < n
 ·have ew : IntKind.i64.wrap ((i : Int) + 1) = ((i + 1 : Nat) : Int) := by rw [wrap_i64] <;> omega
  obtain ⟨p, rfl, ⟨c0, c1, c2, c3, c4, c5⟩, hfit⟩ := (hin.frame hT1.fr) i hlt
  cases hot : (zs i).other with
  | true =>
   rw [hot] at c5
   repeat' (first|(with_reducible first|refine jA ?_|(refine hK _ _ ?_;clear hK K)|refine jJ fun K hK=>?_|refine jK ?_|refine jL ?_|refine jM ?_|refine jN ?_|refine jO ?_|refine jP ?_|refine jQ ?_|(refine jB ?_;clear hK K)|(refine jC ?_;clear hK K)|refine jD ?_|refine jE ?_|refine jG ?_|refine jH ?_|refine jI ?_)|((with_reducible refine jR ?hq ?_);case hq=>rfl)|((first|(with_reducible first|refine jS fun K hK=>?_|refine jT ?_|refine jU ?_)|((with_reducible refine jV ?hy fun K hK=>?_);case hy=>rfl));simp only [go_sem, Nat.reduceEqDiff, Nat.reduceAdd, Nat.reduceMul, Nat.reduceLeDiff, Nat.reduceLT, Int.reduceLT, Int.reduceLE, Int.reduceEq, Int.reduceNeg, Int.reduceToNat, Nat.reducePow, reduceIte, reduceCtorEq, i2, i16, i17, i18, hlt, c0, c1, c2, c3, c4, c5])|((with_reducible first|refine jW ?hy ?_|refine jY ?hy ?_);case hy=>rfl)|((with_reducible first|refine jX ?hy ?_|refine jZ ?hy ?_);case hy=>rfl)|((with_reducible refine jF ?hy ?_);case hy=>decide))
   refine step_ok (k := (zs i).kind) (u := (zs i).u) (v := (zs i).v) (id := (zs i).id) (w := (zs i).w) (ot := true) hT1.b fun H2 c2 hS2 n2 => ?_
   have hT2 := hT1.opB hS2 n2
   repeat' (first|(with_reducible first|refine jA ?_|(refine hK _ _ ?_;clear hK K)|refine jJ fun K hK=>?_|refine jK ?_|refine jL ?_|refine jM ?_|refine jN ?_|refine jO ?_|refine jP ?_|refine jQ ?_|(refine jB ?_;clear hK K)|(refine jC ?_;clear hK K)|refine jD ?_|refine jE ?_|refine jG ?_|refine jH ?_|refine jI ?_)|((with_reducible refine jR ?hq ?_);case hq=>rfl)|((first|(with_reducible first|refine jS fun K hK=>?_|refine jT ?_|refine jU ?_)|((with_reducible refine jV ?hy fun K hK=>?_);case hy=>rfl));simp only [go_sem, Nat.reduceEqDiff, Nat.reduceAdd, Nat.reduceMul, Nat.reduceLeDiff, Nat.reduceLT, Int.reduceLT, Int.reduceLE, Int.reduceEq, Int.reduceNeg, Int.reduceToNat, Nat.reducePow, reduceIte, reduceCtorEq, i18, ew])|((with_reducible first|refine jW ?hy ?_|refine jY ?hy ?_);case hy=>rfl)|((with_reducible first|refine jX ?hy ?_|refine jZ ?hy ?_);case hy=>rfl)|((with_reducible refine jF ?hy ?_);case hy=>decide))
   exact loop_normal (m' := n - (i + 1)) (by omega) ⟨i + 1, _, _, rfl, hT2, hlt, rfl⟩
  | false =>
   rw [hot] at c5
   repeat' (first|(with_reducible first|refine jA ?_|(refine hK _ _ ?_;clear hK K)|refine jJ fun K hK=>?_|refine jK ?_|refine jL ?_|refine jM ?_|refine jN ?_|refine jO ?_|refine jP ?_|refine jQ ?_|(refine jB ?_;clear hK K)|(refine jC ?_;clear hK K)|refine jD ?_|refine jE ?_|refine jG ?_|refine jH ?_|refine jI ?_)|((with_reducible refine jR ?hq ?_);case hq=>rfl)|((first|(with_reducible first|refine jS fun K hK=>?_|refine jT ?_|refine jU ?_)|((with_reducible refine jV ?hy fun K hK=>?_);case hy=>rfl));simp only [go_sem, Nat.reduceEqDiff, Nat.reduceAdd, Nat.reduceMul, Nat.reduceLeDiff, Nat.reduceLT, Int.reduceLT, Int.reduceLE, Int.reduceEq, Int.reduceNeg, Int.reduceToNat, Nat.reducePow, reduceIte, reduceCtorEq, i2, i16, i17, i18, hlt, c0, c1, c2, c3, c4, c5])|((with_reducible first|refine jW ?hy ?_|refine jY ?hy ?_);case hy=>rfl)|((with_reducible first|refine jX ?hy ?_|refine jZ ?hy ?_);case hy=>rfl)|((with_reducible refine jF ?hy ?_);case hy=>decide))
   refine step_ok (k := (zs i).kind) (u := (zs i).u) (v := (zs i).v) (id := (zs i).id) (w := (zs i).w) (ot := false) hT1.a fun H2 c2 hS2 n2 => ?_
   have hT2 := hT1.opA hS2 n2
   repeat' (first|(with_reducible first|refine jA ?_|(refine hK _ _ ?_;clear hK K)|refine jJ fun K hK=>?_|refine jK ?_|refine jL ?_|refine jM ?_|refine jN ?_|refine jO ?_|refine jP ?_|refine jQ ?_|(refine jB ?_;clear hK K)|(refine jC ?_;clear hK K)|refine jD ?_|refine jE ?_|refine jG ?_|refine jH ?_|refine jI ?_)|((with_reducible refine jR ?hq ?_);case hq=>rfl)|((first|(with_reducible first|refine jS fun K hK=>?_|refine jT ?_|refine jU ?_)|((with_reducible refine jV ?hy fun K hK=>?_);case hy=>rfl));simp only [go_sem, Nat.reduceEqDiff, Nat.reduceAdd, Nat.reduceMul, Nat.reduceLeDiff, Nat.reduceLT, Int.reduceLT, Int.reduceLE, Int.reduceEq, Int.reduceNeg, Int.reduceToNat, Nat.reducePow, reduceIte, reduceCtorEq, i18, ew])|((with_reducible first|refine jW ?hy ?_|refine jY ?hy ?_);case hy=>rfl)|((with_reducible first|refine jX ?hy ?_|refine jZ ?hy ?_);case hy=>rfl)|((with_reducible refine jF ?hy ?_);case hy=>decide))
   exact loop_normal (m' := n - (i + 1)) (by omega) ⟨i + 1, _, _, rfl, hT2, hlt, rfl⟩
 ·have t1 : (i < n) = False := by simp [hlt]
  repeat' (first|(with_reducible first|refine jA ?_|(refine hK _ _ ?_;clear hK K)|refine jJ fun K hK=>?_|refine jK ?_|refine jL ?_|refine jM ?_|refine jN ?_|refine jO ?_|refine jP ?_|refine jQ ?_|(refine jB ?_;clear hK K)|(refine jC ?_;clear hK K)|refine jD ?_|refine jE ?_|refine jG ?_|refine jH ?_|refine jI ?_)|((with_reducible refine jR ?hq ?_);case hq=>rfl)|((first|(with_reducible first|refine jS fun K hK=>?_|refine jT ?_|refine jU ?_)|((with_reducible refine jV ?hy fun K hK=>?_);case hy=>rfl));simp only [go_sem, Nat.reduceEqDiff, Nat.reduceAdd, Nat.reduceMul, Nat.reduceLeDiff, Nat.reduceLT, Int.reduceLT, Int.reduceLE, Int.reduceEq, Int.reduceNeg, Int.reduceToNat, Nat.reducePow, reduceIte, reduceCtorEq, i2, i18, t1])|((with_reducible first|refine jW ?hy ?_|refine jY ?hy ?_);case hy=>rfl)|((with_reducible first|refine jX ?hy ?_|refine jZ ?hy ?_);case hy=>rfl)|((with_reducible refine jF ?hy ?_);case hy=>decide))
  exact fin _ _ _ _ i16 i17 hT1
end
theorem linkcutPlays {H : Heap} {one two : Int} {a : Option Addr} {n c : Nat} {zs : Nat → LOp} {K : Value → Heap → Prop} (u0 : -9223372036854775808 ≤ one) (u1 : one ≤ 9223372036854775807) (v0 : -9223372036854775808 ≤ two) (v1 : two ≤ 9223372036854775807) (hin : InLOps H a n zs) (hn : n ≤ 9223372036854775807)
  (fin : ∀ H', Fr (fun _ => False) H H' → K (.bool true) H') : CallsH Try.prog 5 #[.int .i64 one, .int .i64 two, .slice a n c] H K := by
 refine call5 (by simp) ?_
 simp only [Try.f5, Option.getD_some]
 repeat' (first|(with_reducible first|refine jA ?_|(refine hK _ _ ?_;clear hK K)|refine jJ fun K hK=>?_|refine jK ?_|refine jL ?_|refine jM ?_|refine jN ?_|refine jO ?_|refine jP ?_|refine jQ ?_|(refine jB ?_;clear hK K)|(refine jC ?_;clear hK K)|refine jD ?_|refine jE ?_|refine jG ?_|refine jH ?_|refine jI ?_)|((with_reducible refine jR ?hq ?_);case hq=>rfl)|((first|(with_reducible first|refine jS fun K hK=>?_|refine jT ?_|refine jU ?_)|((with_reducible refine jV ?hy fun K hK=>?_);case hy=>rfl));simp only [go_sem, Nat.reduceEqDiff, Nat.reduceAdd, Nat.reduceMul, Nat.reduceLeDiff, Nat.reduceLT, Int.reduceLT, Int.reduceLE, Int.reduceEq, Int.reduceNeg, Int.reduceToNat, Nat.reducePow, reduceIte, reduceCtorEq])|((with_reducible first|refine jW ?hy ?_|refine jY ?hy ?_);case hy=>rfl)|((with_reducible first|refine jX ?hy ?_|refine jZ ?hy ?_);case hy=>rfl)|((with_reducible refine jF ?hy ?_);case hy=>decide))
 refine awake_ok fun H1 hf1 => ?_
 have z0 : ((0 : Int) != 0) = false := rfl
 have z1 : ((1 : Int) != 1) = false := rfl
 have zf : (false != false) = false := rfl
 have zt : (true != true) = false := rfl
 repeat' (first|(with_reducible first|refine jA ?_|(refine hK _ _ ?_;clear hK K)|refine jJ fun K hK=>?_|refine jK ?_|refine jL ?_|refine jM ?_|refine jN ?_|refine jO ?_|refine jP ?_|refine jQ ?_|(refine jB ?_;clear hK K)|(refine jC ?_;clear hK K)|refine jD ?_|refine jE ?_|refine jG ?_|refine jH ?_|refine jI ?_)|((with_reducible refine jR ?hq ?_);case hq=>rfl)|((first|(with_reducible first|refine jS fun K hK=>?_|refine jT ?_|refine jU ?_)|((with_reducible refine jV ?hy fun K hK=>?_);case hy=>rfl));simp only [go_sem, Nat.reduceEqDiff, Nat.reduceAdd, Nat.reduceMul, Nat.reduceLeDiff, Nat.reduceLT, Int.reduceLT, Int.reduceLE, Int.reduceEq, Int.reduceNeg, Int.reduceToNat, Nat.reducePow, reduceIte, reduceCtorEq])|((with_reducible first|refine jW ?hy ?_|refine jY ?hy ?_);case hy=>rfl)|((with_reducible first|refine jX ?hy ?_|refine jZ ?hy ?_);case hy=>rfl)|((with_reducible refine jF ?hy ?_);case hy=>decide))
 by_cases ho : 1 ≤ one ∧ one ≤ 64
 ·obtain ⟨n1, rfl⟩ := Int.eq_ofNat_of_zero_le (show 0 ≤ one by omega)
  refine lnew_ok (n := n1) (by omega) (by omega) fun H2 f T hA hf2 hT => ?_
  repeat' (first|(with_reducible first|refine jA ?_|(refine hK _ _ ?_;clear hK K)|refine jJ fun K hK=>?_|refine jK ?_|refine jL ?_|refine jM ?_|refine jN ?_|refine jO ?_|refine jP ?_|refine jQ ?_|(refine jB ?_;clear hK K)|(refine jC ?_;clear hK K)|refine jD ?_|refine jE ?_|refine jG ?_|refine jH ?_|refine jI ?_)|((with_reducible refine jR ?hq ?_);case hq=>rfl)|((first|(with_reducible first|refine jS fun K hK=>?_|refine jT ?_|refine jU ?_)|((with_reducible refine jV ?hy fun K hK=>?_);case hy=>rfl));simp only [go_sem, Nat.reduceEqDiff, Nat.reduceAdd, Nat.reduceMul, Nat.reduceLeDiff, Nat.reduceLT, Int.reduceLT, Int.reduceLE, Int.reduceEq, Int.reduceNeg, Int.reduceToNat, Nat.reducePow, reduceIte, reduceCtorEq])|((with_reducible first|refine jW ?hy ?_|refine jY ?hy ?_);case hy=>rfl)|((with_reducible first|refine jX ?hy ?_|refine jZ ?hy ?_);case hy=>rfl)|((with_reducible refine jF ?hy ?_);case hy=>decide))
  by_cases ht : 1 ≤ two ∧ two ≤ 64
  ·obtain ⟨n2, rfl⟩ := Int.eq_ofNat_of_zero_le (show 0 ≤ two by omega)
   refine lnew_ok (n := n2) (by omega) (by omega) fun H3 f' T' hA' hf3 hT' => ?_
   repeat' (first|(with_reducible first|refine jA ?_|(refine hK _ _ ?_;clear hK K)|refine jJ fun K hK=>?_|refine jK ?_|refine jL ?_|refine jM ?_|refine jN ?_|refine jO ?_|refine jP ?_|refine jQ ?_|(refine jB ?_;clear hK K)|(refine jC ?_;clear hK K)|refine jD ?_|refine jE ?_|refine jG ?_|refine jH ?_|refine jI ?_)|((with_reducible refine jR ?hq ?_);case hq=>rfl)|((first|(with_reducible first|refine jS fun K hK=>?_|refine jT ?_|refine jU ?_)|((with_reducible refine jV ?hy fun K hK=>?_);case hy=>rfl));simp only [go_sem, Nat.reduceEqDiff, Nat.reduceAdd, Nat.reduceMul, Nat.reduceLeDiff, Nat.reduceLT, Int.reduceLT, Int.reduceLE, Int.reduceEq, Int.reduceNeg, Int.reduceToNat, Nat.reducePow, reduceIte, reduceCtorEq])|((with_reducible first|refine jW ?hy ?_|refine jY ?hy ?_);case hy=>rfl)|((with_reducible first|refine jX ?hy ?_|refine jZ ?hy ?_);case hy=>rfl)|((with_reducible refine jF ?hy ?_);case hy=>decide))
   refine xnew_ok (n := n1) (by omega) (by omega) fun H4 x TX hD hf4 hX => ?_
   repeat' (first|(with_reducible first|refine jA ?_|(refine hK _ _ ?_;clear hK K)|refine jJ fun K hK=>?_|refine jK ?_|refine jL ?_|refine jM ?_|refine jN ?_|refine jO ?_|refine jP ?_|refine jQ ?_|(refine jB ?_;clear hK K)|(refine jC ?_;clear hK K)|refine jD ?_|refine jE ?_|refine jG ?_|refine jH ?_|refine jI ?_)|((with_reducible refine jR ?hq ?_);case hq=>rfl)|((first|(with_reducible first|refine jS fun K hK=>?_|refine jT ?_|refine jU ?_)|((with_reducible refine jV ?hy fun K hK=>?_);case hy=>rfl));simp only [go_sem, Nat.reduceEqDiff, Nat.reduceAdd, Nat.reduceMul, Nat.reduceLeDiff, Nat.reduceLT, Int.reduceLT, Int.reduceLE, Int.reduceEq, Int.reduceNeg, Int.reduceToNat, Nat.reducePow, reduceIte, reduceCtorEq])|((with_reducible first|refine jW ?hy ?_|refine jY ?hy ?_);case hy=>rfl)|((with_reducible first|refine jX ?hy ?_|refine jZ ?hy ?_);case hy=>rfl)|((with_reducible refine jF ?hy ?_);case hy=>decide))
   refine xnew_ok (n := n2) (by omega) (by omega) fun H5 x' TX' hD' hf5 hX' => ?_
   repeat' (first|(with_reducible first|refine jA ?_|(refine hK _ _ ?_;clear hK K)|refine jJ fun K hK=>?_|refine jK ?_|refine jL ?_|refine jM ?_|refine jN ?_|refine jO ?_|refine jP ?_|refine jQ ?_|(refine jB ?_;clear hK K)|(refine jC ?_;clear hK K)|refine jD ?_|refine jE ?_|refine jG ?_|refine jH ?_|refine jI ?_)|((with_reducible refine jR ?hq ?_);case hq=>rfl)|((first|(with_reducible first|refine jS fun K hK=>?_|refine jT ?_|refine jU ?_)|((with_reducible refine jV ?hy fun K hK=>?_);case hy=>rfl));simp only [go_sem, Nat.reduceEqDiff, Nat.reduceAdd, Nat.reduceMul, Nat.reduceLeDiff, Nat.reduceLT, Int.reduceLT, Int.reduceLE, Int.reduceEq, Int.reduceNeg, Int.reduceToNat, Nat.reducePow, reduceIte, reduceCtorEq, z0, zf, Bool.not_true])|((with_reducible first|refine jW ?hy ?_|refine jY ?hy ?_);case hy=>rfl)|((with_reducible first|refine jX ?hy ?_|refine jZ ?hy ?_);case hy=>rfl)|((with_reducible refine jF ?hy ?_);case hy=>decide))
   have lA : ∀ b, T b → b < H2.size := hA.below
   have lB : ∀ b, T' b → b < H3.size := hA'.below
   have lC : ∀ b, TX b → b < H4.size := hD.below
   have lD : ∀ b, TX' b → b < H5.size := hD'.below
   have y1 := hf1.size
   have y2 := hf2.size
   have y3 := hf3.size
   have y4 := hf4.size
   have y5 := hf5.size
   generalize hH6 : Array.push H5 _ = H6
   have s6 : H6.size = H5.size + 1 := by rw [← hH6]; simp
   have b6 : Blk H6 H5.size [.pointer (some ⟨f, 0, none⟩), .pointer (some ⟨x, 0, none⟩), .slice none 0 0, .slice none 0 0] := by rw [← hH6]; exact Blk.new H5 [.pointer (some ⟨f, 0, none⟩), .pointer (some ⟨x, 0, none⟩), .slice none 0 0, .slice none 0 0] _
   have f6 : Fr (fun _ => False) H5 H6 := by rw [← hH6]; exact (Fr.refl _ _).push _
   clear hH6
   generalize hH7 : Array.push H6 _ = H7
   have s7 : H7.size = H6.size + 1 := by rw [← hH7]; simp
   have b7 : Blk H7 H6.size [.pointer (some ⟨f', 0, none⟩), .pointer (some ⟨x', 0, none⟩), .slice none 0 0, .slice none 0 0] := by rw [← hH7]; exact Blk.new H6 [.pointer (some ⟨f', 0, none⟩), .pointer (some ⟨x', 0, none⟩), .slice none 0 0, .slice none 0 0] _
   have f7 : Fr (fun _ => False) H6 H7 := by rw [← hH7]; exact (Fr.refl _ _).push _
   clear hH7
   have f57 := f6.trans f7
   have f47 := hf5.trans f57
   have f37 := hf4.trans f47
   have f27 := hf3.trans f37
   obtain ⟨hSa, hca⟩ := SdS.init (M := 128) (s := H5.size) (pF f (Ls.new n1)) (pD x (Ls.new n1)) (hA.grow f27) (hD.grow f47) (b6.frame f7 (fun h => h)) (fun e => by have := lA _ e; omega) (fun e => by have := lC _ e; omega) (fun b hb e => by
    have := lA b hb
    have := hX b e
    omega)
   obtain ⟨hSb, hcb⟩ := SdS.init (M := 128) (s := H6.size) (pF f' (Ls.new n2)) (pD x' (Ls.new n2)) (hA'.grow f37) (hD'.grow f57) b7 (fun e => by have := lB _ e; omega) (fun e => by have := lD _ e; omega) (fun b hb e => by
    have := lB b hb
    have := hX' b e
    omega)
   have hTw : Two5 n1 n2 H H7 H5.size H6.size (colP H5.size T TX) (colP H6.size T' TX') := by
    refine ⟨⟨_, _, _, rfl, hSa⟩, ⟨_, _, _, rfl, hSb⟩, ((hf1.trans hf2).trans f27), fun b hb => ?_, fun b hb => ?_, fun b hb hc => ?_⟩
    ·rcases hca b hb with e | e | e
     ·omega
     ·have := hT b e; omega
     ·have := hX b e; omega
    ·rcases hcb b hb with e | e | e
     ·omega
     ·have := hT' b e; omega
     ·have := hX' b e; omega
    ·have x1 : b = H5.size ∨ (H1.size ≤ b ∧ b < H2.size) ∨ (H3.size ≤ b ∧ b < H4.size) := by
      rcases hca b hb with e | e | e
      ·exact .inl e
      ·right; left; exact ⟨hT b e, lA b e⟩
      ·right; right; exact ⟨hX b e, lC b e⟩
     rcases hcb b hc with e | e | e
     ·omega
     ·have := hT' b e; have := lB b e; omega
     ·have := hX' b e; have := lD b e; omega
   refine playLoop (c := c) hin hn hTw ?_ ?_ ?_ ?_ ?_
   ·rfl
   ·rfl
   ·rfl
   ·rfl
   intro e8 H8 cs ct i16 i17 hT8
   repeat' (first|(with_reducible first|refine jA ?_|(refine hK _ _ ?_;clear hK K)|refine jJ fun K hK=>?_|refine jK ?_|refine jL ?_|refine jM ?_|refine jN ?_|refine jO ?_|refine jP ?_|refine jQ ?_|(refine jB ?_;clear hK K)|(refine jC ?_;clear hK K)|refine jD ?_|refine jE ?_|refine jG ?_|refine jH ?_|refine jI ?_)|((with_reducible refine jR ?hq ?_);case hq=>rfl)|((first|(with_reducible first|refine jS fun K hK=>?_|refine jT ?_|refine jU ?_)|((with_reducible refine jV ?hy fun K hK=>?_);case hy=>rfl));simp only [go_sem, Nat.reduceEqDiff, Nat.reduceAdd, Nat.reduceMul, Nat.reduceLeDiff, Nat.reduceLT, Int.reduceLT, Int.reduceLE, Int.reduceEq, Int.reduceNeg, Int.reduceToNat, Nat.reducePow, reduceIte, reduceCtorEq, i16, i17])|((with_reducible first|refine jW ?hy ?_|refine jY ?hy ?_);case hy=>rfl)|((with_reducible first|refine jX ?hy ?_|refine jZ ?hy ?_);case hy=>rfl)|((with_reducible refine jF ?hy ?_);case hy=>decide))
   refine ends_ok (n := n1) (by omega) hT8.a fun H9 hf9 => ?_
   have hb9 := (LSd.side n2).grow hT8.b hf9 fun b hb e => hT8.ap b e hb
   repeat' (first|(with_reducible first|refine jA ?_|(refine hK _ _ ?_;clear hK K)|refine jJ fun K hK=>?_|refine jK ?_|refine jL ?_|refine jM ?_|refine jN ?_|refine jO ?_|refine jP ?_|refine jQ ?_|(refine jB ?_;clear hK K)|(refine jC ?_;clear hK K)|refine jD ?_|refine jE ?_|refine jG ?_|refine jH ?_|refine jI ?_)|((with_reducible refine jR ?hq ?_);case hq=>rfl)|((first|(with_reducible first|refine jS fun K hK=>?_|refine jT ?_|refine jU ?_)|((with_reducible refine jV ?hy fun K hK=>?_);case hy=>rfl));simp only [go_sem, Nat.reduceEqDiff, Nat.reduceAdd, Nat.reduceMul, Nat.reduceLeDiff, Nat.reduceLT, Int.reduceLT, Int.reduceLE, Int.reduceEq, Int.reduceNeg, Int.reduceToNat, Nat.reducePow, reduceIte, reduceCtorEq, i16, i17])|((with_reducible first|refine jW ?hy ?_|refine jY ?hy ?_);case hy=>rfl)|((with_reducible first|refine jX ?hy ?_|refine jZ ?hy ?_);case hy=>rfl)|((with_reducible refine jF ?hy ?_);case hy=>decide))
   refine ends_ok (n := n2) (by omega) hb9 fun H10 hf10 => ?_
   repeat' (first|(with_reducible first|refine jA ?_|(refine hK _ _ ?_;clear hK K)|refine jJ fun K hK=>?_|refine jK ?_|refine jL ?_|refine jM ?_|refine jN ?_|refine jO ?_|refine jP ?_|refine jQ ?_|(refine jB ?_;clear hK K)|(refine jC ?_;clear hK K)|refine jD ?_|refine jE ?_|refine jG ?_|refine jH ?_|refine jI ?_)|((with_reducible refine jR ?hq ?_);case hq=>rfl)|((first|(with_reducible first|refine jS fun K hK=>?_|refine jT ?_|refine jU ?_)|((with_reducible refine jV ?hy fun K hK=>?_);case hy=>rfl));simp only [go_sem, Nat.reduceEqDiff, Nat.reduceAdd, Nat.reduceMul, Nat.reduceLeDiff, Nat.reduceLT, Int.reduceLT, Int.reduceLE, Int.reduceEq, Int.reduceNeg, Int.reduceToNat, Nat.reducePow, reduceIte, reduceCtorEq, i16, i17])|((with_reducible first|refine jW ?hy ?_|refine jY ?hy ?_);case hy=>rfl)|((with_reducible first|refine jX ?hy ?_|refine jZ ?hy ?_);case hy=>rfl)|((with_reducible refine jF ?hy ?_);case hy=>decide))
   refine fin _ ((hT8.fr.trans' hf9 fun b hb e => ?_).trans' hf10 fun b hb e => ?_)
   ·have := hT8.na b e; omega
   ·have := hT8.nb b e; omega
  ·refine lnew_no (by omega) ?_
   repeat' (first|(with_reducible first|refine jA ?_|(refine hK _ _ ?_;clear hK K)|refine jJ fun K hK=>?_|refine jK ?_|refine jL ?_|refine jM ?_|refine jN ?_|refine jO ?_|refine jP ?_|refine jQ ?_|(refine jB ?_;clear hK K)|(refine jC ?_;clear hK K)|refine jD ?_|refine jE ?_|refine jG ?_|refine jH ?_|refine jI ?_)|((with_reducible refine jR ?hq ?_);case hq=>rfl)|((first|(with_reducible first|refine jS fun K hK=>?_|refine jT ?_|refine jU ?_)|((with_reducible refine jV ?hy fun K hK=>?_);case hy=>rfl));simp only [go_sem, Nat.reduceEqDiff, Nat.reduceAdd, Nat.reduceMul, Nat.reduceLeDiff, Nat.reduceLT, Int.reduceLT, Int.reduceLE, Int.reduceEq, Int.reduceNeg, Int.reduceToNat, Nat.reducePow, reduceIte, reduceCtorEq])|((with_reducible first|refine jW ?hy ?_|refine jY ?hy ?_);case hy=>rfl)|((with_reducible first|refine jX ?hy ?_|refine jZ ?hy ?_);case hy=>rfl)|((with_reducible refine jF ?hy ?_);case hy=>decide))
   refine xnew_ok (n := n1) (by omega) (by omega) fun H4 x TX hD hf4 hX => ?_
   repeat' (first|(with_reducible first|refine jA ?_|(refine hK _ _ ?_;clear hK K)|refine jJ fun K hK=>?_|refine jK ?_|refine jL ?_|refine jM ?_|refine jN ?_|refine jO ?_|refine jP ?_|refine jQ ?_|(refine jB ?_;clear hK K)|(refine jC ?_;clear hK K)|refine jD ?_|refine jE ?_|refine jG ?_|refine jH ?_|refine jI ?_)|((with_reducible refine jR ?hq ?_);case hq=>rfl)|((first|(with_reducible first|refine jS fun K hK=>?_|refine jT ?_|refine jU ?_)|((with_reducible refine jV ?hy fun K hK=>?_);case hy=>rfl));simp only [go_sem, Nat.reduceEqDiff, Nat.reduceAdd, Nat.reduceMul, Nat.reduceLeDiff, Nat.reduceLT, Int.reduceLT, Int.reduceLE, Int.reduceEq, Int.reduceNeg, Int.reduceToNat, Nat.reducePow, reduceIte, reduceCtorEq])|((with_reducible first|refine jW ?hy ?_|refine jY ?hy ?_);case hy=>rfl)|((with_reducible first|refine jX ?hy ?_|refine jZ ?hy ?_);case hy=>rfl)|((with_reducible refine jF ?hy ?_);case hy=>decide))
   refine xnew_no (by omega) ?_
   repeat' (first|(with_reducible first|refine jA ?_|(refine hK _ _ ?_;clear hK K)|refine jJ fun K hK=>?_|refine jK ?_|refine jL ?_|refine jM ?_|refine jN ?_|refine jO ?_|refine jP ?_|refine jQ ?_|(refine jB ?_;clear hK K)|(refine jC ?_;clear hK K)|refine jD ?_|refine jE ?_|refine jG ?_|refine jH ?_|refine jI ?_)|((with_reducible refine jR ?hq ?_);case hq=>rfl)|((first|(with_reducible first|refine jS fun K hK=>?_|refine jT ?_|refine jU ?_)|((with_reducible refine jV ?hy fun K hK=>?_);case hy=>rfl));simp only [go_sem, Nat.reduceEqDiff, Nat.reduceAdd, Nat.reduceMul, Nat.reduceLeDiff, Nat.reduceLT, Int.reduceLT, Int.reduceLE, Int.reduceEq, Int.reduceNeg, Int.reduceToNat, Nat.reducePow, reduceIte, reduceCtorEq, z0, z1, zf, zt, Bool.not_true])|((with_reducible first|refine jW ?hy ?_|refine jY ?hy ?_);case hy=>rfl)|((with_reducible first|refine jX ?hy ?_|refine jZ ?hy ?_);case hy=>rfl)|((with_reducible refine jF ?hy ?_);case hy=>decide))
   exact fin _ ((hf1.trans hf2).trans hf4)
 ·refine lnew_no (by omega) ?_
  repeat' (first|(with_reducible first|refine jA ?_|(refine hK _ _ ?_;clear hK K)|refine jJ fun K hK=>?_|refine jK ?_|refine jL ?_|refine jM ?_|refine jN ?_|refine jO ?_|refine jP ?_|refine jQ ?_|(refine jB ?_;clear hK K)|(refine jC ?_;clear hK K)|refine jD ?_|refine jE ?_|refine jG ?_|refine jH ?_|refine jI ?_)|((with_reducible refine jR ?hq ?_);case hq=>rfl)|((first|(with_reducible first|refine jS fun K hK=>?_|refine jT ?_|refine jU ?_)|((with_reducible refine jV ?hy fun K hK=>?_);case hy=>rfl));simp only [go_sem, Nat.reduceEqDiff, Nat.reduceAdd, Nat.reduceMul, Nat.reduceLeDiff, Nat.reduceLT, Int.reduceLT, Int.reduceLE, Int.reduceEq, Int.reduceNeg, Int.reduceToNat, Nat.reducePow, reduceIte, reduceCtorEq])|((with_reducible first|refine jW ?hy ?_|refine jY ?hy ?_);case hy=>rfl)|((with_reducible first|refine jX ?hy ?_|refine jZ ?hy ?_);case hy=>rfl)|((with_reducible refine jF ?hy ?_);case hy=>decide))
  by_cases ht : 1 ≤ two ∧ two ≤ 64
  ·obtain ⟨n2, rfl⟩ := Int.eq_ofNat_of_zero_le (show 0 ≤ two by omega)
   refine lnew_ok (n := n2) (by omega) (by omega) fun H3 f' T' hA' hf3 hT' => ?_
   repeat' (first|(with_reducible first|refine jA ?_|(refine hK _ _ ?_;clear hK K)|refine jJ fun K hK=>?_|refine jK ?_|refine jL ?_|refine jM ?_|refine jN ?_|refine jO ?_|refine jP ?_|refine jQ ?_|(refine jB ?_;clear hK K)|(refine jC ?_;clear hK K)|refine jD ?_|refine jE ?_|refine jG ?_|refine jH ?_|refine jI ?_)|((with_reducible refine jR ?hq ?_);case hq=>rfl)|((first|(with_reducible first|refine jS fun K hK=>?_|refine jT ?_|refine jU ?_)|((with_reducible refine jV ?hy fun K hK=>?_);case hy=>rfl));simp only [go_sem, Nat.reduceEqDiff, Nat.reduceAdd, Nat.reduceMul, Nat.reduceLeDiff, Nat.reduceLT, Int.reduceLT, Int.reduceLE, Int.reduceEq, Int.reduceNeg, Int.reduceToNat, Nat.reducePow, reduceIte, reduceCtorEq])|((with_reducible first|refine jW ?hy ?_|refine jY ?hy ?_);case hy=>rfl)|((with_reducible first|refine jX ?hy ?_|refine jZ ?hy ?_);case hy=>rfl)|((with_reducible refine jF ?hy ?_);case hy=>decide))
   refine xnew_no (by omega) ?_
   repeat' (first|(with_reducible first|refine jA ?_|(refine hK _ _ ?_;clear hK K)|refine jJ fun K hK=>?_|refine jK ?_|refine jL ?_|refine jM ?_|refine jN ?_|refine jO ?_|refine jP ?_|refine jQ ?_|(refine jB ?_;clear hK K)|(refine jC ?_;clear hK K)|refine jD ?_|refine jE ?_|refine jG ?_|refine jH ?_|refine jI ?_)|((with_reducible refine jR ?hq ?_);case hq=>rfl)|((first|(with_reducible first|refine jS fun K hK=>?_|refine jT ?_|refine jU ?_)|((with_reducible refine jV ?hy fun K hK=>?_);case hy=>rfl));simp only [go_sem, Nat.reduceEqDiff, Nat.reduceAdd, Nat.reduceMul, Nat.reduceLeDiff, Nat.reduceLT, Int.reduceLT, Int.reduceLE, Int.reduceEq, Int.reduceNeg, Int.reduceToNat, Nat.reducePow, reduceIte, reduceCtorEq])|((with_reducible first|refine jW ?hy ?_|refine jY ?hy ?_);case hy=>rfl)|((with_reducible first|refine jX ?hy ?_|refine jZ ?hy ?_);case hy=>rfl)|((with_reducible refine jF ?hy ?_);case hy=>decide))
   refine xnew_ok (n := n2) (by omega) (by omega) fun H5 x' TX' hD' hf5 hX' => ?_
   repeat' (first|(with_reducible first|refine jA ?_|(refine hK _ _ ?_;clear hK K)|refine jJ fun K hK=>?_|refine jK ?_|refine jL ?_|refine jM ?_|refine jN ?_|refine jO ?_|refine jP ?_|refine jQ ?_|(refine jB ?_;clear hK K)|(refine jC ?_;clear hK K)|refine jD ?_|refine jE ?_|refine jG ?_|refine jH ?_|refine jI ?_)|((with_reducible refine jR ?hq ?_);case hq=>rfl)|((first|(with_reducible first|refine jS fun K hK=>?_|refine jT ?_|refine jU ?_)|((with_reducible refine jV ?hy fun K hK=>?_);case hy=>rfl));simp only [go_sem, Nat.reduceEqDiff, Nat.reduceAdd, Nat.reduceMul, Nat.reduceLeDiff, Nat.reduceLT, Int.reduceLT, Int.reduceLE, Int.reduceEq, Int.reduceNeg, Int.reduceToNat, Nat.reducePow, reduceIte, reduceCtorEq, z0, z1, zf, zt, Bool.not_true])|((with_reducible first|refine jW ?hy ?_|refine jY ?hy ?_);case hy=>rfl)|((with_reducible first|refine jX ?hy ?_|refine jZ ?hy ?_);case hy=>rfl)|((with_reducible refine jF ?hy ?_);case hy=>decide))
   exact fin _ ((hf1.trans hf3).trans hf5)
  ·refine lnew_no (by omega) ?_
   repeat' (first|(with_reducible first|refine jA ?_|(refine hK _ _ ?_;clear hK K)|refine jJ fun K hK=>?_|refine jK ?_|refine jL ?_|refine jM ?_|refine jN ?_|refine jO ?_|refine jP ?_|refine jQ ?_|(refine jB ?_;clear hK K)|(refine jC ?_;clear hK K)|refine jD ?_|refine jE ?_|refine jG ?_|refine jH ?_|refine jI ?_)|((with_reducible refine jR ?hq ?_);case hq=>rfl)|((first|(with_reducible first|refine jS fun K hK=>?_|refine jT ?_|refine jU ?_)|((with_reducible refine jV ?hy fun K hK=>?_);case hy=>rfl));simp only [go_sem, Nat.reduceEqDiff, Nat.reduceAdd, Nat.reduceMul, Nat.reduceLeDiff, Nat.reduceLT, Int.reduceLT, Int.reduceLE, Int.reduceEq, Int.reduceNeg, Int.reduceToNat, Nat.reducePow, reduceIte, reduceCtorEq])|((with_reducible first|refine jW ?hy ?_|refine jY ?hy ?_);case hy=>rfl)|((with_reducible first|refine jX ?hy ?_|refine jZ ?hy ?_);case hy=>rfl)|((with_reducible refine jF ?hy ?_);case hy=>decide))
   refine xnew_no (by omega) ?_
   repeat' (first|(with_reducible first|refine jA ?_|(refine hK _ _ ?_;clear hK K)|refine jJ fun K hK=>?_|refine jK ?_|refine jL ?_|refine jM ?_|refine jN ?_|refine jO ?_|refine jP ?_|refine jQ ?_|(refine jB ?_;clear hK K)|(refine jC ?_;clear hK K)|refine jD ?_|refine jE ?_|refine jG ?_|refine jH ?_|refine jI ?_)|((with_reducible refine jR ?hq ?_);case hq=>rfl)|((first|(with_reducible first|refine jS fun K hK=>?_|refine jT ?_|refine jU ?_)|((with_reducible refine jV ?hy fun K hK=>?_);case hy=>rfl));simp only [go_sem, Nat.reduceEqDiff, Nat.reduceAdd, Nat.reduceMul, Nat.reduceLeDiff, Nat.reduceLT, Int.reduceLT, Int.reduceLE, Int.reduceEq, Int.reduceNeg, Int.reduceToNat, Nat.reducePow, reduceIte, reduceCtorEq])|((with_reducible first|refine jW ?hy ?_|refine jY ?hy ?_);case hy=>rfl)|((with_reducible first|refine jX ?hy ?_|refine jZ ?hy ?_);case hy=>rfl)|((with_reducible refine jF ?hy ?_);case hy=>decide))
   refine xnew_no (by omega) ?_
   repeat' (first|(with_reducible first|refine jA ?_|(refine hK _ _ ?_;clear hK K)|refine jJ fun K hK=>?_|refine jK ?_|refine jL ?_|refine jM ?_|refine jN ?_|refine jO ?_|refine jP ?_|refine jQ ?_|(refine jB ?_;clear hK K)|(refine jC ?_;clear hK K)|refine jD ?_|refine jE ?_|refine jG ?_|refine jH ?_|refine jI ?_)|((with_reducible refine jR ?hq ?_);case hq=>rfl)|((first|(with_reducible first|refine jS fun K hK=>?_|refine jT ?_|refine jU ?_)|((with_reducible refine jV ?hy fun K hK=>?_);case hy=>rfl));simp only [go_sem, Nat.reduceEqDiff, Nat.reduceAdd, Nat.reduceMul, Nat.reduceLeDiff, Nat.reduceLT, Int.reduceLT, Int.reduceLE, Int.reduceEq, Int.reduceNeg, Int.reduceToNat, Nat.reducePow, reduceIte, reduceCtorEq, z0, z1, zf, zt, Bool.not_true])|((with_reducible first|refine jW ?hy ?_|refine jY ?hy ?_);case hy=>rfl)|((with_reducible first|refine jX ?hy ?_|refine jZ ?hy ?_);case hy=>rfl)|((with_reducible refine jF ?hy ?_);case hy=>decide))
   exact fin _ hf1
end Go.Proofs.Ytoplhfhjokjbiaa
namespace Go.Hp
open Go Go.ChangeShapes Go.WideShapes Go.RowKit
set_option linter.unusedVariables false
section
variable {E : Type} {enc : TypeId × Value → E} {P : Program} {w : World} {base : Nat} {spare : Nat → Bool} {held : Bool}
theorem cells_in {t e : TypeId} {a : Option Addr} {len cap : Nat} {d : DataW E} {p : List MemPlace} (ht : P.underlying t = some (.slice e)) (h : DataW.Trod enc P w base spare held t (.slice a len cap) d p) :
  len ≤ 9223372036854775807 ∧ ∀ i, i < len → ∃ (q : Addr) (cs : List Value) (m : Nat) (y : DataW E × List MemPlace), a = some q ∧ w.cells? base (q.add (i * P.cellsOf e)) (P.cellsOf e) = some cs ∧ DataW.trod enc P w base spare held m e cs = some y := by
 obtain ⟨fuel, hf⟩ := h
 rcases DataW.trod_slice ht hf with ⟨h0, _⟩ | ⟨a', len', cap', elems, rest, n, _, h0, _, hb, hl, hm, hlen, hel, hsp, hns⟩
 ·simp [Value.cells] at h0
  obtain ⟨rfl, rfl, rfl⟩ := h0
  exact ⟨by omega, fun i hi => absurd hi (by omega)⟩
 ·simp [Value.cells] at h0
  obtain ⟨rfl, rfl, rfl⟩ := h0
  refine ⟨by unfold maxLen at hm; omega, fun i hi => ?_⟩
  have h1 := hel i hi
  rw [List.getElem?_eq_getElem (by omega)] at h1
  obtain ⟨cs, hcs, hy⟩ := Option.bind_eq_some_iff.1 h1
  exact ⟨a', cs, n, _, rfl, hcs, hy⟩
theorem fit_of_wf {n : Int} (h : (Lit.int .i64 n).wf = true) : -9223372036854775808 ≤ n ∧ n ≤ 9223372036854775807 := by
 have hb := bounds_i64 h
 omega
theorem ints_in {t e : TypeId} {a : Option Addr} {len cap : Nat} {d : DataW E} {p : List MemPlace} (ht : P.underlying t = some (.slice e)) (he : P.underlying e = some (.int .i64)) (hc : P.cellsOf e = 1) (h : DataW.Trod enc P w base spare held t (.slice a len cap) d p) :
  len ≤ 9223372036854775807 ∧ ∃ zs, InInts w.heap a len zs := by
 obtain ⟨hl, hi⟩ := cells_in ht h
 refine ⟨hl, ?_⟩
 have each : ∀ i, i < len → ∃ (q : Addr) (n : Int), a = some q ∧ w.cell? (q.add i) = some (.int .i64 n) ∧ (Lit.int .i64 n).wf = true := fun i hlt => by
  obtain ⟨q, cs, m, y, h1, h2, h3⟩ := hi i hlt
  obtain ⟨n, rfl, _, hw⟩ := DataW.trod_int he h3
  rw [hc, Nat.mul_one] at h2
  obtain ⟨_, _, h4⟩ := World.cells?_some h2
  refine ⟨q, n, h1, ?_, hw⟩
  have := h4 0 (by omega)
  simpa [Addr.add] using this
 refine ⟨fun i => if h : i < len then (each i h).choose_spec.choose else 0, fun i hlt => ?_⟩
 have e := (each i hlt).choose_spec.choose_spec
 refine ⟨_, e.1, ?_, ?_⟩
 ·simp only [hlt, dif_pos]
  exact e.2.1
 ·simp only [hlt, dif_pos]
  exact fit_of_wf e.2.2
theorem field_in {e : TypeId} {fs : Array Field} {q : Addr} {n : Nat} {cs : List Value} {m : Nat} {y : DataW E × List MemPlace} (he : P.underlying e = some (.struct fs)) (h2 : w.cells? base q n = some cs) (h3 : DataW.trod enc P w base spare held m e cs = some y)
  (i : Nat) {f : Field} (hf : fs[i]? = some f) (hc : P.cellsOf f.type = 1) (ho : f.offset < n) :
  ∃ (v : Value) (z : DataW E × List MemPlace) (m' : Nat), w.cell? (q.add f.offset) = some v ∧ DataW.trod enc P w base spare held m' f.type [v] = some z := by
 obtain ⟨xs, n', _, _, hlen, hxl, hfs⟩ := DataW.trod_struct he h3
 obtain ⟨_, hcl, hcell⟩ := World.cells?_some h2
 have h4 := hfs i f hf
 have hlt : i < fs.size := (Array.getElem?_eq_some_iff.1 hf).1
 rw [hc, List.getElem?_eq_getElem (by omega)] at h4
 have hd : (cs.drop f.offset).take 1 = [cs[f.offset]'(by omega)] := by
  rw [List.drop_eq_getElem_cons (by omega)]; rfl
 rw [hd] at h4
 refine ⟨_, _, n', ?_, h4⟩
 rw [hcell f.offset ho, List.getElem?_eq_getElem (by omega)]
end
theorem add_zero_addr (q : Addr) : q.add 0 = q := rfl
theorem add_succ_addr (q : Addr) (n : Nat) : q.add (n + 1) = ⟨q.block, q.off + (n + 1), none⟩ := by
 unfold Addr.add; rw [if_neg (by omega)]
end Go.Hp
namespace Go.Proofs.Ytoplhfhjokjbiaa
open Go Go.Hp Go.Li Go.ChangeShapes Go.WideShapes Go.RowKit
set_option linter.unusedVariables false
section
variable {E : Type} {enc : TypeId × Value → E} {P : Program} {w : World} {base : Nat} {spare : Nat → Bool} {held : Bool}
theorem part_in {e : TypeId} {fs : Array Field} {cs : List Value} {m : Nat} {y : DataW E × List MemPlace} (he : P.underlying e = some (.struct fs)) (h3 : DataW.trod enc P w base spare held m e cs = some y) (i : Nat) {f : Field} (hf : fs[i]? = some f) :
  ∃ (z : DataW E × List MemPlace) (m' : Nat), DataW.trod enc P w base spare held m' f.type ((cs.drop f.offset).take (P.cellsOf f.type)) = some z := by
 obtain ⟨xs, n', _, _, hlen, hxl, hfs⟩ := DataW.trod_struct he h3
 have hlt : i < fs.size := (Array.getElem?_eq_some_iff.1 hf).1
 exact ⟨_, n', (hfs i f hf).trans (List.getElem?_eq_getElem (by omega))⟩
theorem one_at {cs : List Value} {o : Nat} {v : Value} (h : (cs.drop o).take 1 = [v]) : cs[o]? = some v := by
 have := congrArg (fun l => l[0]?) h
 simp only [List.getElem?_cons_zero] at this
 rw [List.getElem?_take_of_lt (by omega), List.getElem?_drop] at this
 exact this
theorem lops_in {t : TypeId} {a : Option Addr} {len cap : Nat} {d : DataW E} {p : List MemPlace} (ht : Try.prog.underlying t = some (.slice 54)) (h : DataW.Trod enc Try.prog w base spare held t (.slice a len cap) d p) :
  len ≤ 9223372036854775807 ∧ ∃ zs, InLOps w.heap a len zs := by
 obtain ⟨hl, hi⟩ := cells_in ht h
 have hc : Try.prog.cellsOf 54 = 6 := by kernel_rfl
 have c1 : Try.prog.cellsOf 3 = 1 := by kernel_rfl
 have cb : Try.prog.cellsOf 4 = 1 := by kernel_rfl
 rw [hc] at hi
 have each : ∀ i, i < len → ∃ (q : Addr) (o : LOp), a = some q ∧ (hcell w.heap (q.add (i * 6)) = some (.int .i64 o.kind) ∧ hcell w.heap ⟨(q.add (i * 6)).block, (q.add (i * 6)).off + 1, none⟩ = some (.int .i64 o.u) ∧ hcell w.heap ⟨(q.add (i * 6)).block, (q.add (i * 6)).off + 2, none⟩ = some (.int .i64 o.v) ∧
   hcell w.heap ⟨(q.add (i * 6)).block, (q.add (i * 6)).off + 3, none⟩ = some (.int .i64 o.id) ∧ hcell w.heap ⟨(q.add (i * 6)).block, (q.add (i * 6)).off + 4, none⟩ = some (.int .i64 o.w) ∧ hcell w.heap ⟨(q.add (i * 6)).block, (q.add (i * 6)).off + 5, none⟩ = some (.bool o.other)) ∧ o.Fit := fun i hlt => by
  obtain ⟨q, cs, m, y, h1, h2, h3⟩ := hi i hlt
  obtain ⟨_, hcl, hcell'⟩ := World.cells?_some h2
  obtain ⟨z0, m0, t0⟩ := part_in Try.underlying54 h3 0 rfl
  obtain ⟨z1, m1, t1⟩ := part_in Try.underlying54 h3 1 rfl
  obtain ⟨z2, m2, t2⟩ := part_in Try.underlying54 h3 2 rfl
  obtain ⟨z3, m3, t3⟩ := part_in Try.underlying54 h3 3 rfl
  obtain ⟨z4, m4, t4⟩ := part_in Try.underlying54 h3 4 rfl
  obtain ⟨z5, m5, t5⟩ := part_in Try.underlying54 h3 5 rfl
  obtain ⟨k0, e0, _, w0⟩ := DataW.trod_int Try.underlying3 t0
  obtain ⟨k1, e1, _, w1⟩ := DataW.trod_int Try.underlying3 t1
  obtain ⟨k2, e2, _, w2⟩ := DataW.trod_int Try.underlying3 t2
  obtain ⟨k3, e3, _, w3⟩ := DataW.trod_int Try.underlying3 t3
  obtain ⟨k4, e4, _, w4⟩ := DataW.trod_int Try.underlying3 t4
  obtain ⟨b5, e5, _⟩ := DataW.trod_bool Try.underlying4 t5
  have e0 : (cs.drop 0).take (Try.prog.cellsOf 3) = [.int .i64 k0] := e0
  have e1 : (cs.drop 1).take (Try.prog.cellsOf 3) = [.int .i64 k1] := e1
  have e2 : (cs.drop 2).take (Try.prog.cellsOf 3) = [.int .i64 k2] := e2
  have e3 : (cs.drop 3).take (Try.prog.cellsOf 3) = [.int .i64 k3] := e3
  have e4 : (cs.drop 4).take (Try.prog.cellsOf 3) = [.int .i64 k4] := e4
  have e5 : (cs.drop 5).take (Try.prog.cellsOf 4) = [.bool b5] := e5
  rw [c1] at e0 e1 e2 e3 e4
  rw [cb] at e5
  have r0 := one_at e0
  have r1 := one_at e1
  have r2 := one_at e2
  have r3 := one_at e3
  have r4 := one_at e4
  have r5 := one_at e5
  have g : ∀ j v, j < 6 → cs[j]? = some v → hcell w.heap (if j = 0 then q.add (i * 6) else ⟨(q.add (i * 6)).block, (q.add (i * 6)).off + j, none⟩) = some v := fun j v hj hv => by
   have := hcell' j hj
   rw [hv] at this
   cases j with
   | zero => exact this
   | succ j =>
    rw [if_neg (by omega)]
    rw [add_succ_addr] at this
    exact this
  exact ⟨q, ⟨k0, k1, k2, k3, k4, b5⟩, h1, ⟨g 0 _ (by omega) r0, g 1 _ (by omega) r1, g 2 _ (by omega) r2, g 3 _ (by omega) r3, g 4 _ (by omega) r4, g 5 _ (by omega) r5⟩, ⟨fit_of_wf w0, fit_of_wf w1, fit_of_wf w2, fit_of_wf w3, fit_of_wf w4⟩⟩
 refine ⟨hl, fun i => if h : i < len then (each i h).choose_spec.choose else ⟨0, 0, 0, 0, 0, false⟩, fun i hlt => ?_⟩
 have e := (each i hlt).choose_spec.choose_spec
 simp only [hlt, dif_pos]
 exact ⟨_, e.1, e.2.1, e.2.2⟩
end
end Go.Proofs.Ytoplhfhjokjbiaa
