/-
  Splay forests as sequences: All.
  Splay forests for whoever uses them: what each public call answers and does.
  The helpers of a law's package: pick, same.
  The helpers of the laws of layer 3: items, awake.
  The document's forest (isthmusref03) in memory; Has, of, may, Get, Set.
  The document's forest: its parts grow; Set, Make.
-/
import Derived.Test.YtndkbhlfbeiniaaG3
import Derived.Test.YtndkbhlfbeiniaaHpV
import Derived.Test.YtndkbhlfbeiniaaTabM
import Derived.Test.YtndkbhlfbeiniaaHpU
import Derived.Test.YtndkbhlfbeiniaaG0
namespace Go.Sp
open Go Go.Hp
set_option linter.unusedVariables false
def stL (st : List (Nat × Tr)) : List Nat := st.reverse.flatMap fun x => x.1 :: x.2.list
theorem stL_len (l : List (Nat × Tr)) : l.length ≤ (stL l).length := by
 unfold stL
 rw [List.length_flatMap]
 have : ∀ l : List (Nat × Tr), l.length ≤ (l.map fun x => (x.1 :: x.2.list).length).sum := by
  intro l
  induction l with
  | nil => simp
  | cons a l ih =>
   rw [List.map_cons, List.sum_cons, List.length_cons, List.length_cons]
   omega
 have := this l.reverse
 rw [List.length_reverse] at this
 exact this
theorem stL_push (st : List (Nat × Tr)) (k : Nat) (r : Tr) : stL (st ++ [(k, r)]) = k :: r.list ++ stL st := by simp [stL]
end Go.Sp
namespace Go.Hp
open Go
theorem IR.pop {H : Heap} {g n c : Nat} {xs : List Int} {x : Int} (h : IR H (some g) (.slice (some ⟨g, 0, none⟩) n c) (xs ++ [x])) : IR H (some g) (.slice (some ⟨g, 0, none⟩) (n - 1) c) xs := by
 obtain ⟨hl, h | ⟨g', c', rest, h1, h2, h3, h4, h5⟩⟩ := h
 ·cases h.1
 ·obtain rfl := Option.some.inj h1
  simp only [Value.slice.injEq, List.length_append, List.length_singleton] at h2 h5
  obtain ⟨_, rfl, rfl⟩ := h2
  refine ⟨by simp, .inr ⟨g, c, .int .i64 x :: rest, rfl, by simp, ?_, ?_, by omega⟩⟩
  ·simpa using h3
  ·simp at h4 ⊢; omega
theorem IR.fresh (H : Heap) (l : List Value) (T : TypeId) : IR (H.push (.cells l.toArray T)) (some H.size) (.slice (some ⟨H.size, 0, none⟩) 0 l.length) [] :=
 ⟨rfl, .inr ⟨H.size, l.length, l, rfl, rfl, Blk.new H l T, by simp, Nat.zero_le _⟩⟩
end Go.Hp
namespace Go.Proofs.Ytndkbhlfbeiniaa
open Go Go.Hp Go.Sp
set_option linter.all false
set_option maxRecDepth 100000
set_option maxHeartbeats 1600000

section
variable {H H' : Heap} {f p g : Nat} {A : Ar} {nb : Nat → Nat} {N : Nodes} {S : Fo} {xs ys : List Nat} {k j : Nat} {R : List (List Nat)}
def StOk (A : Ar) (N : Nodes) (it : Nat → Sp.Item) (st : List (Nat × Tr)) : Prop := ∀ x ∈ st, U A x.1 ∧ (N x.1).r = x.2.root ∧ TrAt N it x.1 x.2
theorem FoAt.other {B : Option Nat} (h : FoAt H f p g A nb N S) {H2 : Heap} (h2 : ∀ b, Foot f p g A nb b → b < H2.size) (hf : Fr (fun b => B = some b) H H') (hB : ∀ b, B = some b → H2.size ≤ b) : FoAt H' f p g A nb N S :=
 h.frame hf fun b hb e => by have := h2 b hb; have := hB b e; omega
theorem all_inner {Q : HX → Env → Heap → Prop} {e : Env} {H2 : Heap} {t : Tr} {up : Nat} {st : List (Nat × Tr)} {os : List Nat} {B6 B7 : Option Nat} {v6 v7 : Value} (hF : FoAt H f p g A nb N S) (h2 : ∀ b, Foot f p g A nb b → b < H2.size) (hs2 : H2.size ≤ H.size) (hx : xs ∈ S.rows)
  (e0 : e 0 = .pointer (some ⟨f, 0, none⟩)) (e1 : e 1 = .int .i64 (t.root : Nat)) (e6 : e 6 = v6) (e7 : e 7 = v7) (ht : TrAt N S.it up t) (hst : StOk A N S.it st) (r6 : IR H B6 v6 (os.map Int.ofNat)) (r7 : IR H B7 v7 ((st.map (·.1)).map Int.ofNat))
  (d6 : ∀ b, B6 = some b → H2.size ≤ b ∧ B7 ≠ some b) (d7 : ∀ b, B7 = some b → H2.size ≤ b) (hcat : os ++ t.list ++ stL st = xs)
  (hQ : ∀ e' H' st' B7' v7', e' 0 = .pointer (some ⟨f, 0, none⟩) → e' 1 = .int .i64 0 → e' 6 = v6 → e' 7 = v7' → FoAt H' f p g A nb N S → StOk A N S.it st' → IR H' B6 v6 (os.map Int.ofNat) → IR H' B7' v7' ((st'.map (·.1)).map Int.ofNat) →
   (∀ b, B6 = some b → H2.size ≤ b ∧ B7' ≠ some b) → (∀ b, B7' = some b → H2.size ≤ b) → os ++ stL st' = xs → (st' = [] → st = [] ∧ t = .nil) → Fr (fun b => H2.size ≤ b) H H' → Q .normal e' H') :
  codeX Try.prog [] (loopAt Try.f35.body 1) (blockQ 2 Q) e H := by
 have hlen := (hF.row hx).len
 refine x_loop (fun m e' H' => ∃ (t' : Tr) (up : Nat) (st' : List (Nat × Tr)) (B7 : Option Nat) (v7 : Value), FoAt H' f p g A nb N S ∧ e' 1 = .int .i64 (t'.root : Nat) ∧ e' 7 = v7 ∧ TrAt N S.it up t' ∧ StOk A N S.it st' ∧ IR H' B6 v6 (os.map Int.ofNat) ∧
   IR H' B7 v7 ((st'.map (·.1)).map Int.ofNat) ∧ (∀ b, B6 = some b → H2.size ≤ b ∧ B7 ≠ some b) ∧ (∀ b, B7 = some b → H2.size ≤ b) ∧ os ++ t'.list ++ stL st' = xs ∧ (t' = .nil → st' = [] → st = [] ∧ t = .nil) ∧ Fr (fun b => H2.size ≤ b) H H' ∧ m = t'.list.length)
  t.list.length ⟨t, up, st, B7, v7, hF, e1, e7, ht, hst, r6, r7, d6, d7, hcat, fun h1 h2 => ⟨h2, h1⟩, .refl _ _, rfl⟩ ?_
 rintro m e' H1 ⟨t1, up1, st1, B, v, hF1, i1, i7, ht1, hst1, s6, s7, c6, c7, hcat1, hemp, hf1, rfl⟩ hoff
 have i0 := (hoff 0 rfl).trans e0
 have i6 := (hoff 6 rfl).trans e6
 clear hoff e0 e1 e6 e7
 cases t1 with
 | nil =>
  have i1' : e' 1 = .int .i64 0 := i1
  have q1 : ((0 : Int) != 0) = false := rfl
  repeat' (first|(with_reducible first|refine jA ?_|(refine hK _ _ ?_;clear hK K)|refine jJ fun K hK=>?_|refine jK ?_|refine jL ?_|refine jM ?_|refine jN ?_|refine jO ?_|refine jP ?_|refine jQ ?_|(refine jB ?_;clear hK K)|(refine jC ?_;clear hK K)|refine jD ?_|refine jE ?_|refine jG ?_|refine jH ?_|refine jI ?_)|((with_reducible refine jR ?hq ?_);case hq=>rfl)|((first|(with_reducible first|refine jS fun K hK=>?_|refine jT ?_|refine jU ?_)|((with_reducible refine jV ?hy fun K hK=>?_);case hy=>rfl));simp only [go_sem, Nat.reduceEqDiff, Nat.reduceAdd, Nat.reduceMul, Nat.reduceLeDiff, Nat.reduceLT, Int.reduceLT, Int.reduceLE, Int.reduceEq, Int.reduceNeg, Int.reduceToNat, Nat.reducePow, reduceIte, reduceCtorEq, i1', q1])|((with_reducible first|refine jW ?hy ?_|refine jY ?hy ?_);case hy=>rfl)|((with_reducible first|refine jX ?hy ?_|refine jZ ?hy ?_);case hy=>rfl)|((with_reducible refine jF ?hy ?_);case hy=>decide))
  exact hQ _ _ st1 B v i0 i1' i6 i7 hF1 hst1 s6 s7 c6 c7 (by simpa [Tr.list] using hcat1) (fun h => hemp rfl h) hf1
 | node l h r =>
  simp only [Tr.root] at i1
  have hhx : h ∈ xs := by rw [← hcat1]; simp [Tr.list]
  have hUh := hF.u hx hhx
  obtain ⟨q1, q2, q3, q4⟩ := ht1
  have el : (N h).l = l.root := by rw [q2]; rfl
  have er : (N h).r = r.root := by rw [q2]; rfl
  have t1 : ((h : Int) != 0) = true := by simp [q1]
  have hsl : st1.length ≤ 4096 := by
   have : (stL st1).length ≤ xs.length := by rw [← hcat1]; simp; omega
   have h3 := stL_len st1
   omega
  repeat' (first|(with_reducible first|refine jA ?_|(refine hK _ _ ?_;clear hK K)|refine jJ fun K hK=>?_|refine jK ?_|refine jL ?_|refine jM ?_|refine jN ?_|refine jO ?_|refine jP ?_|refine jQ ?_|(refine jB ?_;clear hK K)|(refine jC ?_;clear hK K)|refine jD ?_|refine jE ?_|refine jG ?_|refine jH ?_|refine jI ?_)|((with_reducible refine jR ?hq ?_);case hq=>rfl)|((first|(with_reducible first|refine jS fun K hK=>?_|refine jT ?_|refine jU ?_)|((with_reducible refine jV ?hy fun K hK=>?_);case hy=>rfl));simp only [go_sem, Nat.reduceEqDiff, Nat.reduceAdd, Nat.reduceMul, Nat.reduceLeDiff, Nat.reduceLT, Int.reduceLT, Int.reduceLE, Int.reduceEq, Int.reduceNeg, Int.reduceToNat, Nat.reducePow, reduceIte, reduceCtorEq, i0, i1, i7, t1])|((with_reducible first|refine jW ?hy ?_|refine jY ?hy ?_);case hy=>rfl)|((with_reducible first|refine jX ?hy ?_|refine jZ ?hy ?_);case hy=>rfl)|((with_reducible refine jF ?hy ?_);case hy=>decide))
  refine append_ir elems23 tl3 s7 rfl (by decide) (by simp; omega) rfl ?_
  intro v' H3 B' s7' hf3 hB
  have hF3 := hF1.other h2 hf3 c7
  have s6' := s6.frame hf3 fun b hb e => (c6 b hb).2 e
  have c4 := (hF3.mem.nd h hUh).cellOf (i := 4) rfl
  rw [el] at c4
  have hf13 : Fr (fun b => H2.size ≤ b) H1 H3 := hf3.mono fun b _ e => c7 b e
  have hs1 := hf1.size
  repeat' (first|(with_reducible first|refine jA ?_|(refine hK _ _ ?_;clear hK K)|refine jJ fun K hK=>?_|refine jK ?_|refine jL ?_|refine jM ?_|refine jN ?_|refine jO ?_|refine jP ?_|refine jQ ?_|(refine jB ?_;clear hK K)|(refine jC ?_;clear hK K)|refine jD ?_|refine jE ?_|refine jG ?_|refine jH ?_|refine jI ?_)|((with_reducible refine jR ?hq ?_);case hq=>rfl)|((first|(with_reducible first|refine jS fun K hK=>?_|refine jT ?_|refine jU ?_)|((with_reducible refine jV ?hy fun K hK=>?_);case hy=>rfl));simp only [go_sem, Nat.reduceEqDiff, Nat.reduceAdd, Nat.reduceMul, Nat.reduceLeDiff, Nat.reduceLT, Int.reduceLT, Int.reduceLE, Int.reduceEq, Int.reduceNeg, Int.reduceToNat, Nat.reducePow, reduceIte, reduceCtorEq, i0, i1, i7, t1])|((with_reducible first|refine jW ?hy ?_|refine jY ?hy ?_);case hy=>rfl)|((with_reducible first|refine jX ?hy ?_|refine jZ ?hy ?_);case hy=>rfl)|((with_reducible refine jF ?hy ?_);case hy=>decide))
  refine node_ok hF3.mem hUh ?_
  repeat' (first|(with_reducible first|refine jA ?_|(refine hK _ _ ?_;clear hK K)|refine jJ fun K hK=>?_|refine jK ?_|refine jL ?_|refine jM ?_|refine jN ?_|refine jO ?_|refine jP ?_|refine jQ ?_|(refine jB ?_;clear hK K)|(refine jC ?_;clear hK K)|refine jD ?_|refine jE ?_|refine jG ?_|refine jH ?_|refine jI ?_)|((with_reducible refine jR ?hq ?_);case hq=>rfl)|((first|(with_reducible first|refine jS fun K hK=>?_|refine jT ?_|refine jU ?_)|((with_reducible refine jV ?hy fun K hK=>?_);case hy=>rfl));simp only [go_sem, Nat.reduceEqDiff, Nat.reduceAdd, Nat.reduceMul, Nat.reduceLeDiff, Nat.reduceLT, Int.reduceLT, Int.reduceLE, Int.reduceEq, Int.reduceNeg, Int.reduceToNat, Nat.reducePow, reduceIte, reduceCtorEq, c4])|((with_reducible first|refine jW ?hy ?_|refine jY ?hy ?_);case hy=>rfl)|((with_reducible first|refine jX ?hy ?_|refine jZ ?hy ?_);case hy=>rfl)|((with_reducible refine jF ?hy ?_);case hy=>decide))
  refine loop_normal (m' := l.list.length) (by simp [Tr.list] <;> omega) ⟨l, h, st1 ++ [(h, r)], B', v', hF3, rfl, rfl, q3, ?_, s6', ?_, ?_, ?_, ?_, ?_, hf1.trans hf13, rfl⟩
  ·intro x hx'
   rcases List.mem_append.1 hx' with hx' | hx'
   ·exact hst1 x hx'
   ·rw [List.mem_singleton.1 hx']
    exact ⟨hUh, er, q4⟩
  ·simpa using s7'
  ·intro b hb
   obtain ⟨a1, a2⟩ := c6 b hb
   refine ⟨a1, fun e => ?_⟩
   rcases hB with rfl | ⟨g', h1, h2⟩
   ·exact a2 e
   ·rw [h1] at e
    obtain rfl := Option.some.inj e
    have := s6.lt hb
    omega
  ·intro b hb
   rcases hB with rfl | ⟨g', h1, h2⟩
   ·exact c7 b hb
   ·rw [h1] at hb
    obtain rfl := Option.some.inj hb
    omega
  ·rw [stL_push, ← hcat1]; simp [Tr.list]
  ·intro _ h; simp at h
theorem all_none {K : Value → Heap → Prop} {i : Int} (hF : FoAt H f p g A nb N S) (hi : ¬ ∃ k : Nat, i = (k : Int) ∧ k ∈ S.rows.flatten) (fin : K (.tuple #[.slice none 0 0, .int .i64 31]) H) :
  CallsH Try.prog 35 #[.pointer (some ⟨f, 0, none⟩), .int .i64 i] H K := by
 refine call35 (by simp) ?_
 simp only [Try.f35, Option.getD_some]
 repeat' (first|(with_reducible first|refine jA ?_|(refine hK _ _ ?_;clear hK K)|refine jJ fun K hK=>?_|refine jK ?_|refine jL ?_|refine jM ?_|refine jN ?_|refine jO ?_|refine jP ?_|refine jQ ?_|(refine jB ?_;clear hK K)|(refine jC ?_;clear hK K)|refine jD ?_|refine jE ?_|refine jG ?_|refine jH ?_|refine jI ?_)|((with_reducible refine jR ?hq ?_);case hq=>rfl)|((first|(with_reducible first|refine jS fun K hK=>?_|refine jT ?_|refine jU ?_)|((with_reducible refine jV ?hy fun K hK=>?_);case hy=>rfl));simp only [go_sem, Nat.reduceEqDiff, Nat.reduceAdd, Nat.reduceMul, Nat.reduceLeDiff, Nat.reduceLT, Int.reduceLT, Int.reduceLE, Int.reduceEq, Int.reduceNeg, Int.reduceToNat, Nat.reducePow, reduceIte, reduceCtorEq])|((with_reducible first|refine jW ?hy ?_|refine jY ?hy ?_);case hy=>rfl)|((with_reducible first|refine jX ?hy ?_|refine jZ ?hy ?_);case hy=>rfl)|((with_reducible refine jF ?hy ?_);case hy=>decide))
 refine node_no hF.mem (hF.none hi) ?_
 repeat' (first|(with_reducible first|refine jA ?_|(refine hK _ _ ?_;clear hK K)|refine jJ fun K hK=>?_|refine jK ?_|refine jL ?_|refine jM ?_|refine jN ?_|refine jO ?_|refine jP ?_|refine jQ ?_|(refine jB ?_;clear hK K)|(refine jC ?_;clear hK K)|refine jD ?_|refine jE ?_|refine jG ?_|refine jH ?_|refine jI ?_)|((with_reducible refine jR ?hq ?_);case hq=>rfl)|((first|(with_reducible first|refine jS fun K hK=>?_|refine jT ?_|refine jU ?_)|((with_reducible refine jV ?hy fun K hK=>?_);case hy=>rfl));simp only [go_sem, Nat.reduceEqDiff, Nat.reduceAdd, Nat.reduceMul, Nat.reduceLeDiff, Nat.reduceLT, Int.reduceLT, Int.reduceLE, Int.reduceEq, Int.reduceNeg, Int.reduceToNat, Nat.reducePow, reduceIte, reduceCtorEq])|((with_reducible first|refine jW ?hy ?_|refine jY ?hy ?_);case hy=>rfl)|((with_reducible first|refine jX ?hy ?_|refine jZ ?hy ?_);case hy=>rfl)|((with_reducible refine jF ?hy ?_);case hy=>decide))
 exact fin
theorem all_ok {K : Value → Heap → Prop} (hF : FoAt H f p g A nb N S) (hx : xs ∈ S.rows) (hk : k ∈ xs)
  (fin : ∀ H' N' B v, FoAt H' f p g A nb N' S → IR H' B v (xs.map Int.ofNat) → (∀ b, B = some b → H.size ≤ b) → Fr (NB A nb) H H' → K (.tuple #[v, .int .i64 0]) H') :
  CallsH Try.prog 35 #[.pointer (some ⟨f, 0, none⟩), .int .i64 k] H K := by
 have hU := hF.u hx hk
 have hlen := (hF.row hx).len
 refine call35 (by simp) ?_
 simp only [Try.f35, Option.getD_some]
 repeat' (first|(with_reducible first|refine jA ?_|(refine hK _ _ ?_;clear hK K)|refine jJ fun K hK=>?_|refine jK ?_|refine jL ?_|refine jM ?_|refine jN ?_|refine jO ?_|refine jP ?_|refine jQ ?_|(refine jB ?_;clear hK K)|(refine jC ?_;clear hK K)|refine jD ?_|refine jE ?_|refine jG ?_|refine jH ?_|refine jI ?_)|((with_reducible refine jR ?hq ?_);case hq=>rfl)|((first|(with_reducible first|refine jS fun K hK=>?_|refine jT ?_|refine jU ?_)|((with_reducible refine jV ?hy fun K hK=>?_);case hy=>rfl));simp only [go_sem, Nat.reduceEqDiff, Nat.reduceAdd, Nat.reduceMul, Nat.reduceLeDiff, Nat.reduceLT, Int.reduceLT, Int.reduceLE, Int.reduceEq, Int.reduceNeg, Int.reduceToNat, Nat.reducePow, reduceIte, reduceCtorEq])|((with_reducible first|refine jW ?hy ?_|refine jY ?hy ?_);case hy=>rfl)|((with_reducible first|refine jX ?hy ?_|refine jZ ?hy ?_);case hy=>rfl)|((with_reducible refine jF ?hy ?_);case hy=>decide))
 refine node_ok hF.mem hU ?_
 repeat' (first|(with_reducible first|refine jA ?_|(refine hK _ _ ?_;clear hK K)|refine jJ fun K hK=>?_|refine jK ?_|refine jL ?_|refine jM ?_|refine jN ?_|refine jO ?_|refine jP ?_|refine jQ ?_|(refine jB ?_;clear hK K)|(refine jC ?_;clear hK K)|refine jD ?_|refine jE ?_|refine jG ?_|refine jH ?_|refine jI ?_)|((with_reducible refine jR ?hq ?_);case hq=>rfl)|((first|(with_reducible first|refine jS fun K hK=>?_|refine jT ?_|refine jU ?_)|((with_reducible refine jV ?hy fun K hK=>?_);case hy=>rfl));simp only [go_sem, Nat.reduceEqDiff, Nat.reduceAdd, Nat.reduceMul, Nat.reduceLeDiff, Nat.reduceLT, Int.reduceLT, Int.reduceLE, Int.reduceEq, Int.reduceNeg, Int.reduceToNat, Nat.reducePow, reduceIte, reduceCtorEq])|((with_reducible first|refine jW ?hy ?_|refine jY ?hy ?_);case hy=>rfl)|((with_reducible first|refine jX ?hy ?_|refine jZ ?hy ?_);case hy=>rfl)|((with_reducible refine jF ?hy ?_);case hy=>decide))
 refine splay_row hF hx hk (hF.apart hx) ?_
 intro H2 N2 a b hF2 ht e hf hoff
 have c6 := (hF2.mem.nd k hU).cellOf (i := 6) rfl
 have em : (N2 k).many = (xs.length : Int) := by
  obtain ⟨_, ek, _⟩ := ht
  rw [ek, ← e]; rfl
 rw [em] at c6
 have h2 : ∀ b, Foot f p g A nb b → b < H2.size := fun b hb => hF2.mem.lt hb
 have hs2 := hf.size
 have tb : (xs.length * 8 ≤ 281474976710656) = True := by simp; omega
 repeat' (first|(with_reducible first|refine jA ?_|(refine hK _ _ ?_;clear hK K)|refine jJ fun K hK=>?_|refine jK ?_|refine jL ?_|refine jM ?_|refine jN ?_|refine jO ?_|refine jP ?_|refine jQ ?_|(refine jB ?_;clear hK K)|(refine jC ?_;clear hK K)|refine jD ?_|refine jE ?_|refine jG ?_|refine jH ?_|refine jI ?_)|((with_reducible refine jR ?hq ?_);case hq=>rfl)|((first|(with_reducible first|refine jS fun K hK=>?_|refine jT ?_|refine jU ?_)|((with_reducible refine jV ?hy fun K hK=>?_);case hy=>rfl));simp only [go_sem, Nat.reduceEqDiff, Nat.reduceAdd, Nat.reduceMul, Nat.reduceLeDiff, Nat.reduceLT, Int.reduceLT, Int.reduceLE, Int.reduceEq, Int.reduceNeg, Int.reduceToNat, Nat.reducePow, reduceIte, reduceCtorEq])|((with_reducible first|refine jW ?hy ?_|refine jY ?hy ?_);case hy=>rfl)|((with_reducible first|refine jX ?hy ?_|refine jZ ?hy ?_);case hy=>rfl)|((with_reducible refine jF ?hy ?_);case hy=>decide))
 refine node_ok hF2.mem hU ?_
 repeat' (first|(with_reducible first|refine jA ?_|(refine hK _ _ ?_;clear hK K)|refine jJ fun K hK=>?_|refine jK ?_|refine jL ?_|refine jM ?_|refine jN ?_|refine jO ?_|refine jP ?_|refine jQ ?_|(refine jB ?_;clear hK K)|(refine jC ?_;clear hK K)|refine jD ?_|refine jE ?_|refine jG ?_|refine jH ?_|refine jI ?_)|((with_reducible refine jR ?hq ?_);case hq=>rfl)|((first|(with_reducible first|refine jS fun K hK=>?_|refine jT ?_|refine jU ?_)|((with_reducible refine jV ?hy fun K hK=>?_);case hy=>rfl));simp only [go_sem, Nat.reduceEqDiff, Nat.reduceAdd, Nat.reduceMul, Nat.reduceLeDiff, Nat.reduceLT, Int.reduceLT, Int.reduceLE, Int.reduceEq, Int.reduceNeg, Int.reduceToNat, Nat.reducePow, reduceIte, reduceCtorEq, c6, tb])|((with_reducible first|refine jW ?hy ?_|refine jY ?hy ?_);case hy=>rfl)|((with_reducible first|refine jX ?hy ?_|refine jZ ?hy ?_);case hy=>rfl)|((with_reducible refine jF ?hy ?_);case hy=>decide))
 have rl : (repL xs.length [Value.int .i64 0]).length = xs.length := by simp [repL_length]
 have r6 := IR.fresh H2 (repL xs.length [Value.int .i64 0]) 3
 rw [rl] at r6
 generalize hH3 : H2.push _ = H3 at r6 ⊢
 have hf23 : Fr (fun _ => False) H2 H3 := by rw [← hH3]; exact (Fr.refl _ _).push _
 have hF3 := hF2.grow hf23
 have hs3 := hf23.size
 clear hH3
 refine x_loop (fun m e' H' => ∃ (t : Tr) (up : Nat) (st : List (Nat × Tr)) (os : List Nat) (B6 B7 : Option Nat) (v6 v7 : Value), FoAt H' f p g A nb N2 S ∧ Fr (fun b => H2.size ≤ b) H2 H' ∧ e' 1 = .int .i64 (t.root : Nat) ∧ e' 6 = v6 ∧ e' 7 = v7 ∧ TrAt N2 S.it up t ∧ StOk A N2 S.it st ∧
   IR H' B6 v6 (os.map Int.ofNat) ∧ IR H' B7 v7 ((st.map (·.1)).map Int.ofNat) ∧ (∀ b, B6 = some b → H2.size ≤ b ∧ B7 ≠ some b) ∧ (∀ b, B7 = some b → H2.size ≤ b) ∧ os ++ t.list ++ stL st = xs ∧ m = xs.length - os.length)
  xs.length ⟨.node a k b, 0, [], [], some H2.size, none, _, _, hF3, hf23.mono (fun _ _ h => h.elim), rfl, rfl, rfl, ht, (fun x h => by cases h), r6, IR.nil H3, (fun b hb => by obtain rfl := Option.some.inj hb; exact ⟨Nat.le_refl _, by simp⟩), (fun b hb => by cases hb), by simp [stL]; exact e, by simp⟩ ?_
 rintro m e1 H4 ⟨t, up, st, os, B6, B7, v6, v7, hF4, hf4, i1, i6, i7, ht4, hst, s6, s7, d6, d7, hcat, rfl⟩ hoff4
 have i0 := (hoff4 0 rfl).trans rfl
 clear hoff4
 obtain ⟨a7, c7, hv7⟩ := s7.slice
 simp only [List.length_map] at hv7
 have i7' := i7.trans hv7
 have hs4 := hf4.size
 have hfin : Fr (NB A nb) H H4 := by
  refine hf.trans' hf4 fun b hb hle => ?_
  omega
 by_cases hend : t = .nil ∧ st = []
 ·obtain ⟨rfl, rfl⟩ := hend
  have i1' : e1 1 = .int .i64 0 := i1
  have q1 : ((0 : Int) != 0) = false := rfl
  have eos : os = xs := by simpa [Tr.list, stL] using hcat
  have i7'' : e1 7 = .slice a7 0 c7 := i7'
  repeat' (first|(with_reducible first|refine jA ?_|(refine hK _ _ ?_;clear hK K)|refine jJ fun K hK=>?_|refine jK ?_|refine jL ?_|refine jM ?_|refine jN ?_|refine jO ?_|refine jP ?_|refine jQ ?_|(refine jB ?_;clear hK K)|(refine jC ?_;clear hK K)|refine jD ?_|refine jE ?_|refine jG ?_|refine jH ?_|refine jI ?_)|((with_reducible refine jR ?hq ?_);case hq=>rfl)|((first|(with_reducible first|refine jS fun K hK=>?_|refine jT ?_|refine jU ?_)|((with_reducible refine jV ?hy fun K hK=>?_);case hy=>rfl));simp only [go_sem, Nat.reduceEqDiff, Nat.reduceAdd, Nat.reduceMul, Nat.reduceLeDiff, Nat.reduceLT, Int.reduceLT, Int.reduceLE, Int.reduceEq, Int.reduceNeg, Int.reduceToNat, Nat.reducePow, reduceIte, reduceCtorEq, i1', i7'', q1, Int.natCast_zero, Int.lt_irrefl])|((with_reducible first|refine jW ?hy ?_|refine jY ?hy ?_);case hy=>rfl)|((with_reducible first|refine jX ?hy ?_|refine jZ ?hy ?_);case hy=>rfl)|((with_reducible refine jF ?hy ?_);case hy=>decide))
  rw [eos] at s6
  rw [i6]
  exact fin _ _ _ _ hF4 s6 (fun b hb => by have := (d6 b hb).1; omega) hfin
 ·have hos : os.length < xs.length := by
   rw [← hcat]
   by_cases hs : st = []
   ·have ht0 : t ≠ .nil := fun h => hend ⟨h, hs⟩
    cases t with
    | nil => exact absurd rfl ht0
    | node l h r => simp [Tr.list]; omega
   ·obtain ⟨x, hx'⟩ := List.exists_mem_of_ne_nil st hs
    have : x.1 ∈ stL st := by unfold stL; rw [List.mem_flatMap]; exact ⟨x, List.mem_reverse.2 hx', .head _⟩
    have := List.length_pos_of_mem this
    simp; omega
  have hgo : t.root ≠ 0 ∨ (t.root = 0 ∧ 0 < st.length) := by
   by_cases h0 : t.root = 0
   ·refine .inr ⟨h0, List.length_pos_iff.2 fun hs => hend ⟨nil_of_root ht4 h0, hs⟩⟩
   ·exact .inl h0
  have rest : True := trivial
  rcases hgo with h0 | ⟨h0, hst0⟩
  case' inl =>
   have q1 : ((t.root : Int) != 0) = true := by simp [h0]
   repeat' (first|(with_reducible first|refine jA ?_|(refine hK _ _ ?_;clear hK K)|refine jJ fun K hK=>?_|refine jK ?_|refine jL ?_|refine jM ?_|refine jN ?_|refine jO ?_|refine jP ?_|refine jQ ?_|(refine jB ?_;clear hK K)|(refine jC ?_;clear hK K)|refine jD ?_|refine jE ?_|refine jG ?_|refine jH ?_|refine jI ?_)|((with_reducible refine jR ?hq ?_);case hq=>rfl)|((first|(with_reducible first|refine jS fun K hK=>?_|refine jT ?_|refine jU ?_)|((with_reducible refine jV ?hy fun K hK=>?_);case hy=>rfl));simp only [go_sem, Nat.reduceEqDiff, Nat.reduceAdd, Nat.reduceMul, Nat.reduceLeDiff, Nat.reduceLT, Int.reduceLT, Int.reduceLE, Int.reduceEq, Int.reduceNeg, Int.reduceToNat, Nat.reducePow, reduceIte, reduceCtorEq, i1, q1])|((with_reducible first|refine jW ?hy ?_|refine jY ?hy ?_);case hy=>rfl)|((with_reducible first|refine jX ?hy ?_|refine jZ ?hy ?_);case hy=>rfl)|((with_reducible refine jF ?hy ?_);case hy=>decide))
  case' inr =>
   have q1 : ((t.root : Int) != 0) = false := by simp [h0]
   have q2 : (0 < st.length) = True := by simp; omega
   have q3 : ((0 : Int) < (st.length : Int)) = True := by simp; omega
   repeat' (first|(with_reducible first|refine jA ?_|(refine hK _ _ ?_;clear hK K)|refine jJ fun K hK=>?_|refine jK ?_|refine jL ?_|refine jM ?_|refine jN ?_|refine jO ?_|refine jP ?_|refine jQ ?_|(refine jB ?_;clear hK K)|(refine jC ?_;clear hK K)|refine jD ?_|refine jE ?_|refine jG ?_|refine jH ?_|refine jI ?_)|((with_reducible refine jR ?hq ?_);case hq=>rfl)|((first|(with_reducible first|refine jS fun K hK=>?_|refine jT ?_|refine jU ?_)|((with_reducible refine jV ?hy fun K hK=>?_);case hy=>rfl));simp only [go_sem, Nat.reduceEqDiff, Nat.reduceAdd, Nat.reduceMul, Nat.reduceLeDiff, Nat.reduceLT, Int.reduceLT, Int.reduceLE, Int.reduceEq, Int.reduceNeg, Int.reduceToNat, Nat.reducePow, reduceIte, reduceCtorEq, i1, i7', q1, q2, q3])|((with_reducible first|refine jW ?hy ?_|refine jY ?hy ?_);case hy=>rfl)|((with_reducible first|refine jX ?hy ?_|refine jZ ?hy ?_);case hy=>rfl)|((with_reducible refine jF ?hy ?_);case hy=>decide))
  all_goals
   refine all_inner (H2 := H2) hF4 h2 hs4 hx (by exact i0) (by exact i1) (by exact i6) (by exact i7) ht4 hst s6 s7 d6 d7 hcat ?_
   intro e5 H5 st5 B5 v5 j0 j1 j6 j7 hF5 hst5 r6' r7' f6 f7 hcat5 hemp5 hf5
   obtain ⟨st', x, rfl⟩ : ∃ st' x, st5 = st' ++ [x] := by
    rcases List.eq_nil_or_concat st5 with h | ⟨st', x, h⟩
    ·obtain ⟨h1, h2⟩ := hemp5 h
     exact absurd ⟨h2, h1⟩ hend
    ·exact ⟨st', x, by simpa using h⟩
   obtain ⟨k5, r5⟩ := x
   obtain ⟨hU5, er5, ht5⟩ := hst5 (k5, r5) (by simp)
   simp only [List.map_append, List.map_cons, List.map_nil] at r7'
   obtain ⟨g7, c7', rst, hg7, hv5, _, _, _⟩ := r7'.row (by simp)
   simp only [List.length_append, List.length_map, List.length_singleton] at hv5
   have j7' := j7.trans hv5
   rw [hg7, hv5] at r7'
   have rx := r7'.cell (i := st'.length) (x := (k5 : Int)) (by simp)
   have r7p := r7'.pop
   have ew : IntKind.i64.wrap (((st'.length + 1 : Nat) : Int) - 1) = (st'.length : Int) := by
    have : st'.length ≤ 9000000000000000000 := by
     have h1 : (stL (st' ++ [(k5, r5)])).length ≤ xs.length := by rw [← hcat5]; simp
     rw [stL_push] at h1
     have := stL_len st'
     simp at h1
     omega
    rw [wrap_i64] <;> omega
   have hle5 : st'.length < st'.length + 1 := by omega
   have hle6 : (st'.length ≤ c7') := by
    obtain ⟨_, h | ⟨g', c', rest', q1, q2, q3, q4, q5⟩⟩ := r7p
    ·cases h.1
    ·simp only [Value.slice.injEq] at q2
     obtain ⟨_, q21, q22⟩ := q2
     simp only [List.length_map] at q5
     omega
   repeat' (first|(with_reducible first|refine jA ?_|(refine hK _ _ ?_;clear hK K)|refine jJ fun K hK=>?_|refine jK ?_|refine jL ?_|refine jM ?_|refine jN ?_|refine jO ?_|refine jP ?_|refine jQ ?_|(refine jB ?_;clear hK K)|(refine jC ?_;clear hK K)|refine jD ?_|refine jE ?_|refine jG ?_|refine jH ?_|refine jI ?_)|((with_reducible refine jR ?hq ?_);case hq=>rfl)|((first|(with_reducible first|refine jS fun K hK=>?_|refine jT ?_|refine jU ?_)|((with_reducible refine jV ?hy fun K hK=>?_);case hy=>rfl));simp only [go_sem, Nat.reduceEqDiff, Nat.reduceAdd, Nat.reduceMul, Nat.reduceLeDiff, Nat.reduceLT, Int.reduceLT, Int.reduceLE, Int.reduceEq, Int.reduceNeg, Int.reduceToNat, Nat.reducePow, reduceIte, reduceCtorEq, j0, j1, j6, j7', ew, hle5, hle6, rx, ite_self])|((with_reducible first|refine jW ?hy ?_|refine jY ?hy ?_);case hy=>rfl)|((with_reducible first|refine jX ?hy ?_|refine jZ ?hy ?_);case hy=>rfl)|((with_reducible refine jF ?hy ?_);case hy=>decide))
   refine append_ir elems23 tl3 r6' rfl (by decide) (by simp; omega) rfl ?_
   intro v8 H8 B8 s8 hf8 hB8
   have hF8 := hF5.other h2 hf8 fun b hb => (f6 b hb).1
   have c5 := (hF8.mem.nd k5 hU5).cellOf (i := 5) rfl
   rw [er5] at c5
   have hf28 : Fr (fun b => H2.size ≤ b) H2 H8 := (hf4.trans hf5).trans (hf8.mono fun b _ e => (f6 b e).1)
   repeat' (first|(with_reducible first|refine jA ?_|(refine hK _ _ ?_;clear hK K)|refine jJ fun K hK=>?_|refine jK ?_|refine jL ?_|refine jM ?_|refine jN ?_|refine jO ?_|refine jP ?_|refine jQ ?_|(refine jB ?_;clear hK K)|(refine jC ?_;clear hK K)|refine jD ?_|refine jE ?_|refine jG ?_|refine jH ?_|refine jI ?_)|((with_reducible refine jR ?hq ?_);case hq=>rfl)|((first|(with_reducible first|refine jS fun K hK=>?_|refine jT ?_|refine jU ?_)|((with_reducible refine jV ?hy fun K hK=>?_);case hy=>rfl));simp only [go_sem, Nat.reduceEqDiff, Nat.reduceAdd, Nat.reduceMul, Nat.reduceLeDiff, Nat.reduceLT, Int.reduceLT, Int.reduceLE, Int.reduceEq, Int.reduceNeg, Int.reduceToNat, Nat.reducePow, reduceIte, reduceCtorEq, j0, j1, j6, j7'])|((with_reducible first|refine jW ?hy ?_|refine jY ?hy ?_);case hy=>rfl)|((with_reducible first|refine jX ?hy ?_|refine jZ ?hy ?_);case hy=>rfl)|((with_reducible refine jF ?hy ?_);case hy=>decide))
   refine node_ok hF8.mem hU5 ?_
   repeat' (first|(with_reducible first|refine jA ?_|(refine hK _ _ ?_;clear hK K)|refine jJ fun K hK=>?_|refine jK ?_|refine jL ?_|refine jM ?_|refine jN ?_|refine jO ?_|refine jP ?_|refine jQ ?_|(refine jB ?_;clear hK K)|(refine jC ?_;clear hK K)|refine jD ?_|refine jE ?_|refine jG ?_|refine jH ?_|refine jI ?_)|((with_reducible refine jR ?hq ?_);case hq=>rfl)|((first|(with_reducible first|refine jS fun K hK=>?_|refine jT ?_|refine jU ?_)|((with_reducible refine jV ?hy fun K hK=>?_);case hy=>rfl));simp only [go_sem, Nat.reduceEqDiff, Nat.reduceAdd, Nat.reduceMul, Nat.reduceLeDiff, Nat.reduceLT, Int.reduceLT, Int.reduceLE, Int.reduceEq, Int.reduceNeg, Int.reduceToNat, Nat.reducePow, reduceIte, reduceCtorEq, c5])|((with_reducible first|refine jW ?hy ?_|refine jY ?hy ?_);case hy=>rfl)|((with_reducible first|refine jX ?hy ?_|refine jZ ?hy ?_);case hy=>rfl)|((with_reducible refine jF ?hy ?_);case hy=>decide))
   have s7f : IR H8 (some g7) (.slice (some ⟨g7, 0, none⟩) st'.length c7') ((st'.map (·.1)).map Int.ofNat) := by
    refine (IR.frame ?_ hf8 fun b hb e => (f6 b e).2 (hg7.trans hb))
    simpa using r7p
   have hs5 := hf5.size
   refine loop_normal (m' := xs.length - (os ++ [k5]).length) (by simp; omega) ⟨r5, k5, st', os ++ [k5], B8, some g7, v8, _, hF8, hf28, rfl, rfl, rfl, ht5, (fun x hx' => hst5 x (by simp [hx'])), by simpa using s8, s7f, ?_, ?_, ?_, rfl⟩
   ·intro b hb
    rcases hB8 with h | ⟨g', h1, h2'⟩
    ·rw [h] at hb
     obtain ⟨a1, a2⟩ := f6 b hb
     exact ⟨a1, fun e => a2 (hg7.trans e)⟩
    ·rw [h1] at hb
     obtain rfl := Option.some.inj hb
     refine ⟨by omega, fun e => ?_⟩
     obtain rfl := Option.some.inj e
     have := r7'.lt rfl
     omega
   ·intro b hb
    exact f7 b (hg7.trans hb)
   ·rw [← hcat5, stL_push]; simp
end
end Go.Proofs.Ytndkbhlfbeiniaa
namespace Go.Proofs.Ytndkbhlfbeiniaa
open Go Go.Hp Go.Sp
set_option linter.all false
set_option maxRecDepth 100000
set_option maxHeartbeats 1600000

section
variable {H H' : Heap} {f : Nat} {T : Nat → Prop} {S : Sq} {K : Value → Heap → Prop} {k j : Nat} {R : List (List Nat)} {xs ys : List Nat}
theorem get_none {p g : Nat} {A : Ar} {nb : Nat → Nat} {N : Nodes} {S : Fo} {i : Int} (hF : FoAt H f p g A nb N S) (hi : ¬ ∃ k : Nat, i = (k : Int) ∧ k ∈ S.rows.flatten) (fin : ∀ H', Fr (fun _ => False) H H' → K (.tuple #[Sp.Item.zero.val, .int .i64 31]) H') :
  CallsH Try.prog 16 #[.pointer (some ⟨f, 0, none⟩), .int .i64 i] H K := by
 refine call16 (by simp) ?_
 simp only [Try.f16, Option.getD_some]
 repeat' (first|(with_reducible first|refine jA ?_|(refine hK _ _ ?_;clear hK K)|refine jJ fun K hK=>?_|refine jK ?_|refine jL ?_|refine jM ?_|refine jN ?_|refine jO ?_|refine jP ?_|refine jQ ?_|(refine jB ?_;clear hK K)|(refine jC ?_;clear hK K)|refine jD ?_|refine jE ?_|refine jG ?_|refine jH ?_|refine jI ?_)|((with_reducible refine jR ?hq ?_);case hq=>rfl)|((first|(with_reducible first|refine jS fun K hK=>?_|refine jT ?_|refine jU ?_)|((with_reducible refine jV ?hy fun K hK=>?_);case hy=>rfl));simp only [go_sem, Nat.reduceEqDiff, Nat.reduceAdd, Nat.reduceMul, Nat.reduceLeDiff, Nat.reduceLT, Int.reduceLT, Int.reduceLE, Int.reduceEq, Int.reduceNeg, Int.reduceToNat, Nat.reducePow, reduceIte, reduceCtorEq, hcell_push, hcell_top, okW_push, okW_top, hcell_hset_ne, hcell_hset_off, hcell_hset_eq, okW_hset, hset_size, Array.size_push, Nat.lt_add_one, ne_add_one, add_one_ne, Nat.add_assoc, add_same, add_lt_same, Nat.reduceEqDiff, lt_add_k, add_k_ne, ne_add_k])|((with_reducible first|refine jW ?hy ?_|refine jY ?hy ?_);case hy=>rfl)|((with_reducible first|refine jX ?hy ?_|refine jZ ?hy ?_);case hy=>rfl)|((with_reducible refine jF ?hy ?_);case hy=>decide))
 refine node_no (hF.grow ((Fr.refl _ _).push _)).mem (hF.none hi) ?_
 repeat' (first|(with_reducible first|refine jA ?_|(refine hK _ _ ?_;clear hK K)|refine jJ fun K hK=>?_|refine jK ?_|refine jL ?_|refine jM ?_|refine jN ?_|refine jO ?_|refine jP ?_|refine jQ ?_|(refine jB ?_;clear hK K)|(refine jC ?_;clear hK K)|refine jD ?_|refine jE ?_|refine jG ?_|refine jH ?_|refine jI ?_)|((with_reducible refine jR ?hq ?_);case hq=>rfl)|((first|(with_reducible first|refine jS fun K hK=>?_|refine jT ?_|refine jU ?_)|((with_reducible refine jV ?hy fun K hK=>?_);case hy=>rfl));simp only [go_sem, Nat.reduceEqDiff, Nat.reduceAdd, Nat.reduceMul, Nat.reduceLeDiff, Nat.reduceLT, Int.reduceLT, Int.reduceLE, Int.reduceEq, Int.reduceNeg, Int.reduceToNat, Nat.reducePow, reduceIte, reduceCtorEq, hcell_push, hcell_top, okW_push, okW_top, hcell_hset_ne, hcell_hset_off, hcell_hset_eq, okW_hset, hset_size, Array.size_push, Nat.lt_add_one, ne_add_one, add_one_ne, Nat.add_assoc, add_same, add_lt_same, Nat.reduceEqDiff, lt_add_k, add_k_ne, ne_add_k])|((with_reducible first|refine jW ?hy ?_|refine jY ?hy ?_);case hy=>rfl)|((with_reducible first|refine jX ?hy ?_|refine jZ ?hy ?_);case hy=>rfl)|((with_reducible refine jF ?hy ?_);case hy=>decide))
 exact fin _ (by ((repeat (first | refine Fr.set ?_ (by simp) _ | refine Fr.push ?_ _)); exact Fr.refl _ _))
theorem rank_none {p g : Nat} {A : Ar} {nb : Nat → Nat} {N : Nodes} {S : Fo} {i : Int} (hF : FoAt H f p g A nb N S) (hi : ¬ ∃ k : Nat, i = (k : Int) ∧ k ∈ S.rows.flatten) (fin : K (.tuple #[.int .i64 0, .int .i64 31]) H) :
  CallsH Try.prog 18 #[.pointer (some ⟨f, 0, none⟩), .int .i64 i] H K := by
 refine call18 (by simp) ?_
 simp only [Try.f18, Option.getD_some]
 repeat' (first|(with_reducible first|refine jA ?_|(refine hK _ _ ?_;clear hK K)|refine jJ fun K hK=>?_|refine jK ?_|refine jL ?_|refine jM ?_|refine jN ?_|refine jO ?_|refine jP ?_|refine jQ ?_|(refine jB ?_;clear hK K)|(refine jC ?_;clear hK K)|refine jD ?_|refine jE ?_|refine jG ?_|refine jH ?_|refine jI ?_)|((with_reducible refine jR ?hq ?_);case hq=>rfl)|((first|(with_reducible first|refine jS fun K hK=>?_|refine jT ?_|refine jU ?_)|((with_reducible refine jV ?hy fun K hK=>?_);case hy=>rfl));simp only [go_sem, Nat.reduceEqDiff, Nat.reduceAdd, Nat.reduceMul, Nat.reduceLeDiff, Nat.reduceLT, Int.reduceLT, Int.reduceLE, Int.reduceEq, Int.reduceNeg, Int.reduceToNat, Nat.reducePow, reduceIte, reduceCtorEq])|((with_reducible first|refine jW ?hy ?_|refine jY ?hy ?_);case hy=>rfl)|((with_reducible first|refine jX ?hy ?_|refine jZ ?hy ?_);case hy=>rfl)|((with_reducible refine jF ?hy ?_);case hy=>decide))
 refine node_no hF.mem (hF.none hi) ?_
 repeat' (first|(with_reducible first|refine jA ?_|(refine hK _ _ ?_;clear hK K)|refine jJ fun K hK=>?_|refine jK ?_|refine jL ?_|refine jM ?_|refine jN ?_|refine jO ?_|refine jP ?_|refine jQ ?_|(refine jB ?_;clear hK K)|(refine jC ?_;clear hK K)|refine jD ?_|refine jE ?_|refine jG ?_|refine jH ?_|refine jI ?_)|((with_reducible refine jR ?hq ?_);case hq=>rfl)|((first|(with_reducible first|refine jS fun K hK=>?_|refine jT ?_|refine jU ?_)|((with_reducible refine jV ?hy fun K hK=>?_);case hy=>rfl));simp only [go_sem, Nat.reduceEqDiff, Nat.reduceAdd, Nat.reduceMul, Nat.reduceLeDiff, Nat.reduceLT, Int.reduceLT, Int.reduceLE, Int.reduceEq, Int.reduceNeg, Int.reduceToNat, Nat.reducePow, reduceIte, reduceCtorEq])|((with_reducible first|refine jW ?hy ?_|refine jY ?hy ?_);case hy=>rfl)|((with_reducible first|refine jX ?hy ?_|refine jZ ?hy ?_);case hy=>rfl)|((with_reducible refine jF ?hy ?_);case hy=>decide))
 exact fin
theorem sum_none {p g : Nat} {A : Ar} {nb : Nat → Nat} {N : Nodes} {S : Fo} {i : Int} (hF : FoAt H f p g A nb N S) (hi : ¬ ∃ k : Nat, i = (k : Int) ∧ k ∈ S.rows.flatten) (fin : ∀ H', Fr (fun _ => False) H H' → K (.tuple #[Agg.zero.val, .int .i64 31]) H') :
  CallsH Try.prog 20 #[.pointer (some ⟨f, 0, none⟩), .int .i64 i] H K := by
 refine call20 (by simp) ?_
 simp only [Try.f20, Option.getD_some]
 repeat' (first|(with_reducible first|refine jA ?_|(refine hK _ _ ?_;clear hK K)|refine jJ fun K hK=>?_|refine jK ?_|refine jL ?_|refine jM ?_|refine jN ?_|refine jO ?_|refine jP ?_|refine jQ ?_|(refine jB ?_;clear hK K)|(refine jC ?_;clear hK K)|refine jD ?_|refine jE ?_|refine jG ?_|refine jH ?_|refine jI ?_)|((with_reducible refine jR ?hq ?_);case hq=>rfl)|((first|(with_reducible first|refine jS fun K hK=>?_|refine jT ?_|refine jU ?_)|((with_reducible refine jV ?hy fun K hK=>?_);case hy=>rfl));simp only [go_sem, Nat.reduceEqDiff, Nat.reduceAdd, Nat.reduceMul, Nat.reduceLeDiff, Nat.reduceLT, Int.reduceLT, Int.reduceLE, Int.reduceEq, Int.reduceNeg, Int.reduceToNat, Nat.reducePow, reduceIte, reduceCtorEq, hcell_push, hcell_top, okW_push, okW_top, hcell_hset_ne, hcell_hset_off, hcell_hset_eq, okW_hset, hset_size, Array.size_push, Nat.lt_add_one, ne_add_one, add_one_ne, Nat.add_assoc, add_same, add_lt_same, Nat.reduceEqDiff, lt_add_k, add_k_ne, ne_add_k])|((with_reducible first|refine jW ?hy ?_|refine jY ?hy ?_);case hy=>rfl)|((with_reducible first|refine jX ?hy ?_|refine jZ ?hy ?_);case hy=>rfl)|((with_reducible refine jF ?hy ?_);case hy=>decide))
 refine node_no (hF.grow ((Fr.refl _ _).push _)).mem (hF.none hi) ?_
 repeat' (first|(with_reducible first|refine jA ?_|(refine hK _ _ ?_;clear hK K)|refine jJ fun K hK=>?_|refine jK ?_|refine jL ?_|refine jM ?_|refine jN ?_|refine jO ?_|refine jP ?_|refine jQ ?_|(refine jB ?_;clear hK K)|(refine jC ?_;clear hK K)|refine jD ?_|refine jE ?_|refine jG ?_|refine jH ?_|refine jI ?_)|((with_reducible refine jR ?hq ?_);case hq=>rfl)|((first|(with_reducible first|refine jS fun K hK=>?_|refine jT ?_|refine jU ?_)|((with_reducible refine jV ?hy fun K hK=>?_);case hy=>rfl));simp only [go_sem, Nat.reduceEqDiff, Nat.reduceAdd, Nat.reduceMul, Nat.reduceLeDiff, Nat.reduceLT, Int.reduceLT, Int.reduceLE, Int.reduceEq, Int.reduceNeg, Int.reduceToNat, Nat.reducePow, reduceIte, reduceCtorEq, hcell_push, hcell_top, okW_push, okW_top, hcell_hset_ne, hcell_hset_off, hcell_hset_eq, okW_hset, hset_size, Array.size_push, Nat.lt_add_one, ne_add_one, add_one_ne, Nat.add_assoc, add_same, add_lt_same, Nat.reduceEqDiff, lt_add_k, add_k_ne, ne_add_k])|((with_reducible first|refine jW ?hy ?_|refine jY ?hy ?_);case hy=>rfl)|((with_reducible first|refine jX ?hy ?_|refine jZ ?hy ?_);case hy=>rfl)|((with_reducible refine jF ?hy ?_);case hy=>decide))
 exact fin _ (by ((repeat (first | refine Fr.set ?_ (by simp) _ | refine Fr.push ?_ _)); exact Fr.refl _ _))
theorem split_none {p g : Nat} {A : Ar} {nb : Nat → Nat} {N : Nodes} {S : Fo} {i : Int} (hF : FoAt H f p g A nb N S) (hi : ¬ ∃ k : Nat, i = (k : Int) ∧ k ∈ S.rows.flatten) (fin : K (.int .i64 31) H) :
  CallsH Try.prog 23 #[.pointer (some ⟨f, 0, none⟩), .int .i64 i] H K := by
 refine call23 (by simp) ?_
 simp only [Try.f23, Option.getD_some]
 repeat' (first|(with_reducible first|refine jA ?_|(refine hK _ _ ?_;clear hK K)|refine jJ fun K hK=>?_|refine jK ?_|refine jL ?_|refine jM ?_|refine jN ?_|refine jO ?_|refine jP ?_|refine jQ ?_|(refine jB ?_;clear hK K)|(refine jC ?_;clear hK K)|refine jD ?_|refine jE ?_|refine jG ?_|refine jH ?_|refine jI ?_)|((with_reducible refine jR ?hq ?_);case hq=>rfl)|((first|(with_reducible first|refine jS fun K hK=>?_|refine jT ?_|refine jU ?_)|((with_reducible refine jV ?hy fun K hK=>?_);case hy=>rfl));simp only [go_sem, Nat.reduceEqDiff, Nat.reduceAdd, Nat.reduceMul, Nat.reduceLeDiff, Nat.reduceLT, Int.reduceLT, Int.reduceLE, Int.reduceEq, Int.reduceNeg, Int.reduceToNat, Nat.reducePow, reduceIte, reduceCtorEq])|((with_reducible first|refine jW ?hy ?_|refine jY ?hy ?_);case hy=>rfl)|((with_reducible first|refine jX ?hy ?_|refine jZ ?hy ?_);case hy=>rfl)|((with_reducible refine jF ?hy ?_);case hy=>decide))
 refine node_no hF.mem (hF.none hi) ?_
 repeat' (first|(with_reducible first|refine jA ?_|(refine hK _ _ ?_;clear hK K)|refine jJ fun K hK=>?_|refine jK ?_|refine jL ?_|refine jM ?_|refine jN ?_|refine jO ?_|refine jP ?_|refine jQ ?_|(refine jB ?_;clear hK K)|(refine jC ?_;clear hK K)|refine jD ?_|refine jE ?_|refine jG ?_|refine jH ?_|refine jI ?_)|((with_reducible refine jR ?hq ?_);case hq=>rfl)|((first|(with_reducible first|refine jS fun K hK=>?_|refine jT ?_|refine jU ?_)|((with_reducible refine jV ?hy fun K hK=>?_);case hy=>rfl));simp only [go_sem, Nat.reduceEqDiff, Nat.reduceAdd, Nat.reduceMul, Nat.reduceLeDiff, Nat.reduceLT, Int.reduceLT, Int.reduceLE, Int.reduceEq, Int.reduceNeg, Int.reduceToNat, Nat.reducePow, reduceIte, reduceCtorEq])|((with_reducible first|refine jW ?hy ?_|refine jY ?hy ?_);case hy=>rfl)|((with_reducible first|refine jX ?hy ?_|refine jZ ?hy ?_);case hy=>rfl)|((with_reducible refine jF ?hy ?_);case hy=>decide))
 exact fin
theorem psame_none {p g : Nat} {A : Ar} {nb : Nat → Nat} {N : Nodes} {S : Fo} {a b : Int} (hF : FoAt H f p g A nb N S) (hi : (¬ ∃ k : Nat, a = (k : Int) ∧ k ∈ S.rows.flatten) ∨ (¬ ∃ k : Nat, b = (k : Int) ∧ k ∈ S.rows.flatten)) (fin : K (.tuple #[.bool false, .int .i64 31]) H) :
  CallsH Try.prog 27 #[.pointer (some ⟨f, 0, none⟩), .int .i64 a, .int .i64 b] H K := by
 refine call27 (by simp) ?_
 simp only [Try.f27, Option.getD_some]
 repeat' (first|(with_reducible first|refine jA ?_|(refine hK _ _ ?_;clear hK K)|refine jJ fun K hK=>?_|refine jK ?_|refine jL ?_|refine jM ?_|refine jN ?_|refine jO ?_|refine jP ?_|refine jQ ?_|(refine jB ?_;clear hK K)|(refine jC ?_;clear hK K)|refine jD ?_|refine jE ?_|refine jG ?_|refine jH ?_|refine jI ?_)|((with_reducible refine jR ?hq ?_);case hq=>rfl)|((first|(with_reducible first|refine jS fun K hK=>?_|refine jT ?_|refine jU ?_)|((with_reducible refine jV ?hy fun K hK=>?_);case hy=>rfl));simp only [go_sem, Nat.reduceEqDiff, Nat.reduceAdd, Nat.reduceMul, Nat.reduceLeDiff, Nat.reduceLT, Int.reduceLT, Int.reduceLE, Int.reduceEq, Int.reduceNeg, Int.reduceToNat, Nat.reducePow, reduceIte, reduceCtorEq])|((with_reducible first|refine jW ?hy ?_|refine jY ?hy ?_);case hy=>rfl)|((with_reducible first|refine jX ?hy ?_|refine jZ ?hy ?_);case hy=>rfl)|((with_reducible refine jF ?hy ?_);case hy=>decide))
 by_cases ha : ∃ k : Nat, a = (k : Int) ∧ k ∈ S.rows.flatten
 ·obtain ⟨k, rfl, hk⟩ := ha
  have hi := hi.resolve_left (fun h => h ⟨k, rfl, hk⟩)
  refine node_ok hF.mem ((hF.use k).1 hk) ?_
  repeat' (first|(with_reducible first|refine jA ?_|(refine hK _ _ ?_;clear hK K)|refine jJ fun K hK=>?_|refine jK ?_|refine jL ?_|refine jM ?_|refine jN ?_|refine jO ?_|refine jP ?_|refine jQ ?_|(refine jB ?_;clear hK K)|(refine jC ?_;clear hK K)|refine jD ?_|refine jE ?_|refine jG ?_|refine jH ?_|refine jI ?_)|((with_reducible refine jR ?hq ?_);case hq=>rfl)|((first|(with_reducible first|refine jS fun K hK=>?_|refine jT ?_|refine jU ?_)|((with_reducible refine jV ?hy fun K hK=>?_);case hy=>rfl));simp only [go_sem, Nat.reduceEqDiff, Nat.reduceAdd, Nat.reduceMul, Nat.reduceLeDiff, Nat.reduceLT, Int.reduceLT, Int.reduceLE, Int.reduceEq, Int.reduceNeg, Int.reduceToNat, Nat.reducePow, reduceIte, reduceCtorEq])|((with_reducible first|refine jW ?hy ?_|refine jY ?hy ?_);case hy=>rfl)|((with_reducible first|refine jX ?hy ?_|refine jZ ?hy ?_);case hy=>rfl)|((with_reducible refine jF ?hy ?_);case hy=>decide))
  refine node_no hF.mem (hF.none hi) ?_
  repeat' (first|(with_reducible first|refine jA ?_|(refine hK _ _ ?_;clear hK K)|refine jJ fun K hK=>?_|refine jK ?_|refine jL ?_|refine jM ?_|refine jN ?_|refine jO ?_|refine jP ?_|refine jQ ?_|(refine jB ?_;clear hK K)|(refine jC ?_;clear hK K)|refine jD ?_|refine jE ?_|refine jG ?_|refine jH ?_|refine jI ?_)|((with_reducible refine jR ?hq ?_);case hq=>rfl)|((first|(with_reducible first|refine jS fun K hK=>?_|refine jT ?_|refine jU ?_)|((with_reducible refine jV ?hy fun K hK=>?_);case hy=>rfl));simp only [go_sem, Nat.reduceEqDiff, Nat.reduceAdd, Nat.reduceMul, Nat.reduceLeDiff, Nat.reduceLT, Int.reduceLT, Int.reduceLE, Int.reduceEq, Int.reduceNeg, Int.reduceToNat, Nat.reducePow, reduceIte, reduceCtorEq])|((with_reducible first|refine jW ?hy ?_|refine jY ?hy ?_);case hy=>rfl)|((with_reducible first|refine jX ?hy ?_|refine jZ ?hy ?_);case hy=>rfl)|((with_reducible refine jF ?hy ?_);case hy=>decide))
  exact fin
 ·refine node_no hF.mem (hF.none ha) ?_
  repeat' (first|(with_reducible first|refine jA ?_|(refine hK _ _ ?_;clear hK K)|refine jJ fun K hK=>?_|refine jK ?_|refine jL ?_|refine jM ?_|refine jN ?_|refine jO ?_|refine jP ?_|refine jQ ?_|(refine jB ?_;clear hK K)|(refine jC ?_;clear hK K)|refine jD ?_|refine jE ?_|refine jG ?_|refine jH ?_|refine jI ?_)|((with_reducible refine jR ?hq ?_);case hq=>rfl)|((first|(with_reducible first|refine jS fun K hK=>?_|refine jT ?_|refine jU ?_)|((with_reducible refine jV ?hy fun K hK=>?_);case hy=>rfl));simp only [go_sem, Nat.reduceEqDiff, Nat.reduceAdd, Nat.reduceMul, Nat.reduceLeDiff, Nat.reduceLT, Int.reduceLT, Int.reduceLE, Int.reduceEq, Int.reduceNeg, Int.reduceToNat, Nat.reducePow, reduceIte, reduceCtorEq])|((with_reducible first|refine jW ?hy ?_|refine jY ?hy ?_);case hy=>rfl)|((with_reducible first|refine jX ?hy ?_|refine jZ ?hy ?_);case hy=>rfl)|((with_reducible refine jF ?hy ?_);case hy=>decide))
  exact fin
theorem psame_ok {p g : Nat} {A : Ar} {nb : Nat → Nat} {N : Nodes} {S : Fo} (hF : FoAt H f p g A nb N S) (hx : xs ∈ S.rows) (hk : k ∈ xs) (hy : ys ∈ S.rows) (hj : j ∈ ys)
  (fin : ∀ H' N' (b : Bool), FoAt H' f p g A nb N' S → Fr (NB A nb) H H' → (b = true ↔ ys = xs) → K (.tuple #[.bool b, .int .i64 0]) H') :
  CallsH Try.prog 27 #[.pointer (some ⟨f, 0, none⟩), .int .i64 k, .int .i64 j] H K := by
 refine call27 (by simp) ?_
 simp only [Try.f27, Option.getD_some]
 repeat' (first|(with_reducible first|refine jA ?_|(refine hK _ _ ?_;clear hK K)|refine jJ fun K hK=>?_|refine jK ?_|refine jL ?_|refine jM ?_|refine jN ?_|refine jO ?_|refine jP ?_|refine jQ ?_|(refine jB ?_;clear hK K)|(refine jC ?_;clear hK K)|refine jD ?_|refine jE ?_|refine jG ?_|refine jH ?_|refine jI ?_)|((with_reducible refine jR ?hq ?_);case hq=>rfl)|((first|(with_reducible first|refine jS fun K hK=>?_|refine jT ?_|refine jU ?_)|((with_reducible refine jV ?hy fun K hK=>?_);case hy=>rfl));simp only [go_sem, Nat.reduceEqDiff, Nat.reduceAdd, Nat.reduceMul, Nat.reduceLeDiff, Nat.reduceLT, Int.reduceLT, Int.reduceLE, Int.reduceEq, Int.reduceNeg, Int.reduceToNat, Nat.reducePow, reduceIte, reduceCtorEq])|((with_reducible first|refine jW ?hy ?_|refine jY ?hy ?_);case hy=>rfl)|((with_reducible first|refine jX ?hy ?_|refine jZ ?hy ?_);case hy=>rfl)|((with_reducible refine jF ?hy ?_);case hy=>decide))
 refine node_ok hF.mem (hF.u hx hk) ?_
 repeat' (first|(with_reducible first|refine jA ?_|(refine hK _ _ ?_;clear hK K)|refine jJ fun K hK=>?_|refine jK ?_|refine jL ?_|refine jM ?_|refine jN ?_|refine jO ?_|refine jP ?_|refine jQ ?_|(refine jB ?_;clear hK K)|(refine jC ?_;clear hK K)|refine jD ?_|refine jE ?_|refine jG ?_|refine jH ?_|refine jI ?_)|((with_reducible refine jR ?hq ?_);case hq=>rfl)|((first|(with_reducible first|refine jS fun K hK=>?_|refine jT ?_|refine jU ?_)|((with_reducible refine jV ?hy fun K hK=>?_);case hy=>rfl));simp only [go_sem, Nat.reduceEqDiff, Nat.reduceAdd, Nat.reduceMul, Nat.reduceLeDiff, Nat.reduceLT, Int.reduceLT, Int.reduceLE, Int.reduceEq, Int.reduceNeg, Int.reduceToNat, Nat.reducePow, reduceIte, reduceCtorEq])|((with_reducible first|refine jW ?hy ?_|refine jY ?hy ?_);case hy=>rfl)|((with_reducible first|refine jX ?hy ?_|refine jZ ?hy ?_);case hy=>rfl)|((with_reducible refine jF ?hy ?_);case hy=>decide))
 refine node_ok hF.mem (hF.u hy hj) ?_
 repeat' (first|(with_reducible first|refine jA ?_|(refine hK _ _ ?_;clear hK K)|refine jJ fun K hK=>?_|refine jK ?_|refine jL ?_|refine jM ?_|refine jN ?_|refine jO ?_|refine jP ?_|refine jQ ?_|(refine jB ?_;clear hK K)|(refine jC ?_;clear hK K)|refine jD ?_|refine jE ?_|refine jG ?_|refine jH ?_|refine jI ?_)|((with_reducible refine jR ?hq ?_);case hq=>rfl)|((first|(with_reducible first|refine jS fun K hK=>?_|refine jT ?_|refine jU ?_)|((with_reducible refine jV ?hy fun K hK=>?_);case hy=>rfl));simp only [go_sem, Nat.reduceEqDiff, Nat.reduceAdd, Nat.reduceMul, Nat.reduceLeDiff, Nat.reduceLT, Int.reduceLT, Int.reduceLE, Int.reduceEq, Int.reduceNeg, Int.reduceToNat, Nat.reducePow, reduceIte, reduceCtorEq])|((with_reducible first|refine jW ?hy ?_|refine jY ?hy ?_);case hy=>rfl)|((with_reducible first|refine jX ?hy ?_|refine jZ ?hy ?_);case hy=>rfl)|((with_reducible refine jF ?hy ?_);case hy=>decide))
 refine same_ok hF hx hk hy hj ?_
 intro H1 N1 b hF1 hf1 hb
 repeat' (first|(with_reducible first|refine jA ?_|(refine hK _ _ ?_;clear hK K)|refine jJ fun K hK=>?_|refine jK ?_|refine jL ?_|refine jM ?_|refine jN ?_|refine jO ?_|refine jP ?_|refine jQ ?_|(refine jB ?_;clear hK K)|(refine jC ?_;clear hK K)|refine jD ?_|refine jE ?_|refine jG ?_|refine jH ?_|refine jI ?_)|((with_reducible refine jR ?hq ?_);case hq=>rfl)|((first|(with_reducible first|refine jS fun K hK=>?_|refine jT ?_|refine jU ?_)|((with_reducible refine jV ?hy fun K hK=>?_);case hy=>rfl));simp only [go_sem, Nat.reduceEqDiff, Nat.reduceAdd, Nat.reduceMul, Nat.reduceLeDiff, Nat.reduceLT, Int.reduceLT, Int.reduceLE, Int.reduceEq, Int.reduceNeg, Int.reduceToNat, Nat.reducePow, reduceIte, reduceCtorEq])|((with_reducible first|refine jW ?hy ?_|refine jY ?hy ?_);case hy=>rfl)|((with_reducible first|refine jX ?hy ?_|refine jZ ?hy ?_);case hy=>rfl)|((with_reducible refine jF ?hy ?_);case hy=>decide))
 exact fin _ _ _ hF1 hf1 hb
theorem FoM.after {p g : Nat} {A : Ar} {nb : Nat → Nat} {N' : Nodes} {it' : Nat → Sp.Item} {R : List (List Nat)} (h2 : A.room = S.room) (h3 : A.vals.length = S.top) (h4 : A.free = S.free) (h5 : ∀ b, Foot f p g A nb b → T b) (h6 : ∀ b, T b → b < H.size)
  (hF : FoAt H' f p g A nb N' ⟨it', R⟩) (hf : Fr (NB A nb) H H') : FoM H' f T { S with it := it', rows := R } ∧ Fr T H H' :=
 ⟨⟨p, g, A, nb, N', hF, h2, h3, h4, h5, fun b hb => Nat.lt_of_lt_of_le (h6 b hb) hf.size⟩, hf.mono fun b _ hb => h5 b (.inr (.inr (.inr hb)))⟩
theorem m_get (hM : FoM H f T S) (hk : k ∈ S.rows.flatten) (fin : ∀ H', FoM H' f T S → Fr T H H' → K (.tuple #[(S.it k).val, .int .i64 0]) H') : CallsH Try.prog 16 #[.pointer (some ⟨f, 0, none⟩), .int .i64 k] H K := by
 have hM' := hM
 obtain ⟨p, g, A, nb, N, hF, h2, h3, h4, h5, h6⟩ := hM
 obtain ⟨xs, hx, hk⟩ := List.mem_flatten.1 hk
 exact get_ok hF hx hk fun H' hf => fin H' (hM'.grow hf) (hf.mono fun _ _ h => h.elim)
theorem m_get_none {i : Int} (hM : FoM H f T S) (hi : ¬ S.Has i) (fin : ∀ H', FoM H' f T S → Fr T H H' → K (.tuple #[Sp.Item.zero.val, .int .i64 31]) H') : CallsH Try.prog 16 #[.pointer (some ⟨f, 0, none⟩), .int .i64 i] H K := by
 have hM' := hM
 obtain ⟨p, g, A, nb, N, hF, h2, h3, h4, h5, h6⟩ := hM
 exact get_none hF hi fun H' hf => fin H' (hM'.grow hf) (hf.mono fun _ _ h => h.elim)
theorem m_rank {l r : List Nat} (hM : FoM H f T S) (hx : xs ∈ S.rows) (hxs : xs = l ++ k :: r) (fin : ∀ H', FoM H' f T S → Fr T H H' → K (.tuple #[.int .i64 (l.length : Nat), .int .i64 0]) H') : CallsH Try.prog 18 #[.pointer (some ⟨f, 0, none⟩), .int .i64 k] H K := by
 obtain ⟨p, g, A, nb, N, hF, h2, h3, h4, h5, h6⟩ := hM
 refine rank_ok hF hx hxs fun H' N' hF' hf => ?_
 obtain ⟨a, b⟩ := FoM.after h2 h3 h4 h5 h6 hF' hf
 exact fin H' a b
theorem m_rank_none {i : Int} (hM : FoM H f T S) (hi : ¬ S.Has i) (fin : K (.tuple #[.int .i64 0, .int .i64 31]) H) : CallsH Try.prog 18 #[.pointer (some ⟨f, 0, none⟩), .int .i64 i] H K := by
 obtain ⟨p, g, A, nb, N, hF, h2, h3, h4, h5, h6⟩ := hM
 exact rank_none hF hi fin
theorem m_sum (hM : FoM H f T S) (hx : xs ∈ S.rows) (hk : k ∈ xs) (fin : ∀ H', FoM H' f T S → Fr T H H' → K (.tuple #[(aggOf S.it xs).val, .int .i64 0]) H') : CallsH Try.prog 20 #[.pointer (some ⟨f, 0, none⟩), .int .i64 k] H K := by
 obtain ⟨p, g, A, nb, N, hF, h2, h3, h4, h5, h6⟩ := hM
 refine sum_ok hF hx hk fun H' N' hF' hf => ?_
 obtain ⟨a, b⟩ := FoM.after h2 h3 h4 h5 h6 hF' hf
 exact fin H' a b
theorem m_sum_none {i : Int} (hM : FoM H f T S) (hi : ¬ S.Has i) (fin : ∀ H', FoM H' f T S → Fr T H H' → K (.tuple #[Agg.zero.val, .int .i64 31]) H') : CallsH Try.prog 20 #[.pointer (some ⟨f, 0, none⟩), .int .i64 i] H K := by
 have hM' := hM
 obtain ⟨p, g, A, nb, N, hF, h2, h3, h4, h5, h6⟩ := hM
 exact sum_none hF hi fun H' hf => fin H' (hM'.grow hf) (hf.mono fun _ _ h => h.elim)
theorem m_split_first {r : List Nat} (hM : FoM H f T S) (hx : k :: r ∈ S.rows) (fin : ∀ H', FoM H' f T S → Fr T H H' → K (.int .i64 0) H') : CallsH Try.prog 23 #[.pointer (some ⟨f, 0, none⟩), .int .i64 k] H K := by
 obtain ⟨p, g, A, nb, N, hF, h2, h3, h4, h5, h6⟩ := hM
 refine split_first hF hx fun H' N' hF' hf => ?_
 obtain ⟨a, b⟩ := FoM.after h2 h3 h4 h5 h6 hF' hf
 exact fin H' a b
theorem m_split {l r : List Nat} (hM : FoM H f T S) (hr : S.rows.Perm ((l ++ k :: r) :: R)) (hl : l ≠ []) (fin : ∀ H', FoM H' f T { S with rows := l :: (k :: r) :: R } → Fr T H H' → K (.int .i64 0) H') : CallsH Try.prog 23 #[.pointer (some ⟨f, 0, none⟩), .int .i64 k] H K := by
 obtain ⟨p, g, A, nb, N, hF, h2, h3, h4, h5, h6⟩ := hM
 refine split_ok hF hr hl fun H' N' hF' hf => ?_
 obtain ⟨a, b⟩ := FoM.after h2 h3 h4 h5 h6 hF' hf
 exact fin H' a b
theorem m_split_none {i : Int} (hM : FoM H f T S) (hi : ¬ S.Has i) (fin : K (.int .i64 31) H) : CallsH Try.prog 23 #[.pointer (some ⟨f, 0, none⟩), .int .i64 i] H K := by
 obtain ⟨p, g, A, nb, N, hF, h2, h3, h4, h5, h6⟩ := hM
 exact split_none hF hi fin
theorem m_join (hM : FoM H f T S) (hr : S.rows.Perm (xs :: ys :: R)) (hk : k ∈ xs) (hj : j ∈ ys) (fin : ∀ H', FoM H' f T { S with rows := (xs ++ ys) :: R } → Fr T H H' → K (.int .i64 0) H') : CallsH Try.prog 24 #[.pointer (some ⟨f, 0, none⟩), .int .i64 k, .int .i64 j] H K := by
 obtain ⟨p, g, A, nb, N, hF, h2, h3, h4, h5, h6⟩ := hM
 refine join_ok hF hr hk hj fun H' N' hF' hf => ?_
 obtain ⟨a, b⟩ := FoM.after h2 h3 h4 h5 h6 hF' hf
 exact fin H' a b
theorem m_join_same (hM : FoM H f T S) (hx : xs ∈ S.rows) (hk : k ∈ xs) (hj : j ∈ xs) (fin : ∀ H', FoM H' f T S → Fr T H H' → K (.int .i64 33) H') : CallsH Try.prog 24 #[.pointer (some ⟨f, 0, none⟩), .int .i64 k, .int .i64 j] H K := by
 obtain ⟨p, g, A, nb, N, hF, h2, h3, h4, h5, h6⟩ := hM
 refine join_same hF hx hk hj fun H' N' hF' hf => ?_
 obtain ⟨a, b⟩ := FoM.after h2 h3 h4 h5 h6 hF' hf
 exact fin H' a b
theorem m_join_none {a b : Int} (hM : FoM H f T S) (hi : ¬ S.Has a ∨ ¬ S.Has b) (fin : K (.int .i64 31) H) : CallsH Try.prog 24 #[.pointer (some ⟨f, 0, none⟩), .int .i64 a, .int .i64 b] H K := by
 obtain ⟨p, g, A, nb, N, hF, h2, h3, h4, h5, h6⟩ := hM
 exact join_none hF hi fin
theorem m_same (hM : FoM H f T S) (hx : xs ∈ S.rows) (hk : k ∈ xs) (hy : ys ∈ S.rows) (hj : j ∈ ys) (fin : ∀ H' (b : Bool), FoM H' f T S → Fr T H H' → (b = true ↔ ys = xs) → K (.tuple #[.bool b, .int .i64 0]) H') :
  CallsH Try.prog 27 #[.pointer (some ⟨f, 0, none⟩), .int .i64 k, .int .i64 j] H K := by
 obtain ⟨p, g, A, nb, N, hF, h2, h3, h4, h5, h6⟩ := hM
 refine psame_ok hF hx hk hy hj fun H' N' b hF' hf hb => ?_
 obtain ⟨a, b'⟩ := FoM.after h2 h3 h4 h5 h6 hF' hf
 exact fin H' b a b' hb
theorem m_same_none {a b : Int} (hM : FoM H f T S) (hi : ¬ S.Has a ∨ ¬ S.Has b) (fin : K (.tuple #[.bool false, .int .i64 31]) H) : CallsH Try.prog 27 #[.pointer (some ⟨f, 0, none⟩), .int .i64 a, .int .i64 b] H K := by
 obtain ⟨p, g, A, nb, N, hF, h2, h3, h4, h5, h6⟩ := hM
 exact psame_none hF hi fin
theorem m_set {x : Sp.Item} (hM : FoM H f T S) (hk : k ∈ S.rows.flatten) (hx1 : Fits x) (hx2 : May x) (fin : ∀ H', FoM H' f T { S with it := fun i => if i = k then x else S.it i } → Fr T H H' → K (.int .i64 0) H') : CallsH Try.prog 15 #[.pointer (some ⟨f, 0, none⟩), .int .i64 k, x.val] H K := by
 obtain ⟨p, g, A, nb, N, hF, h2, h3, h4, h5, h6⟩ := hM
 obtain ⟨xs, hx, hk⟩ := List.mem_flatten.1 hk
 refine set_ok hF hx hk hx1 hx2 fun H' N' hF' hf => ?_
 obtain ⟨a, b⟩ := FoM.after h2 h3 h4 h5 h6 hF' hf
 exact fin H' a b
theorem m_set_none {i : Int} {x : Sp.Item} (hM : FoM H f T S) (hi : ¬ S.Has i) (fin : ∀ H', FoM H' f T S → Fr T H H' → K (.int .i64 31) H') : CallsH Try.prog 15 #[.pointer (some ⟨f, 0, none⟩), .int .i64 i, x.val] H K := by
 have hM' := hM
 obtain ⟨p, g, A, nb, N, hF, h2, h3, h4, h5, h6⟩ := hM
 exact set_none hF hi fun H' hf => fin H' (hM'.grow hf) (hf.mono fun _ _ h => h.elim)
theorem m_set_bad {x : Sp.Item} (hM : FoM H f T S) (hk : k ∈ S.rows.flatten) (hx1 : Fits x) (hx2 : ¬ May x) (fin : ∀ H', FoM H' f T S → Fr T H H' → K (.int .i64 1) H') : CallsH Try.prog 15 #[.pointer (some ⟨f, 0, none⟩), .int .i64 k, x.val] H K := by
 have hM' := hM
 obtain ⟨p, g, A, nb, N, hF, h2, h3, h4, h5, h6⟩ := hM
 exact set_bad hF hk hx1 hx2 fun H' hf => fin H' (hM'.grow hf) (hf.mono fun _ _ h => h.elim)
theorem m_at {n : Nat} (hM : FoM H f T S) (hx : xs ∈ S.rows) (hk : k ∈ xs) (hn : xs[n]? = some j) (fin : ∀ H', FoM H' f T S → Fr T H H' → K (.tuple #[.int .i64 j, .int .i64 0]) H') : CallsH Try.prog 19 #[.pointer (some ⟨f, 0, none⟩), .int .i64 k, .int .i64 (n : Nat)] H K := by
 obtain ⟨p, g, A, nb, N, hF, h2, h3, h4, h5, h6⟩ := hM
 refine at_ok hF hx hk hn fun H' N' hF' hf => ?_
 obtain ⟨a, b⟩ := FoM.after h2 h3 h4 h5 h6 hF' hf
 exact fin H' a b
theorem m_at_bad {n : Int} (hM : FoM H f T S) (hx : xs ∈ S.rows) (hk : k ∈ xs) (hn : n < 0 ∨ (xs.length : Int) ≤ n) (fin : ∀ H', FoM H' f T S → Fr T H H' → K (.tuple #[.int .i64 0, .int .i64 34]) H') : CallsH Try.prog 19 #[.pointer (some ⟨f, 0, none⟩), .int .i64 k, .int .i64 n] H K := by
 obtain ⟨p, g, A, nb, N, hF, h2, h3, h4, h5, h6⟩ := hM
 refine at_bad hF hx hk hn fun H' N' hF' hf => ?_
 obtain ⟨a, b⟩ := FoM.after h2 h3 h4 h5 h6 hF' hf
 exact fin H' a b
theorem m_at_none {i n : Int} (hM : FoM H f T S) (hi : ¬ S.Has i) (fin : K (.tuple #[.int .i64 0, .int .i64 31]) H) : CallsH Try.prog 19 #[.pointer (some ⟨f, 0, none⟩), .int .i64 i, .int .i64 n] H K := by
 obtain ⟨p, g, A, nb, N, hF, h2, h3, h4, h5, h6⟩ := hM
 exact at_none hF hi fin
theorem m_flagged {fl : Nat} (hM : FoM H f T S) (hx : xs ∈ S.rows) (hk : k ∈ xs) (hfl : fl < 256) (fin : ∀ H', FoM H' f T S → Fr T H H' → K (.tuple #[.int .i64 ((firstF S.it fl xs).getD 0 : Nat), .int .i64 (if (firstF S.it fl xs).isSome then 0 else 35)]) H') :
  CallsH Try.prog 37 #[.pointer (some ⟨f, 0, none⟩), .int .i64 k, .int .i64 (fl : Nat)] H K := by
 obtain ⟨p, g, A, nb, N, hF, h2, h3, h4, h5, h6⟩ := hM
 cases hn : firstF S.it fl xs with
 | none =>
  rw [hn] at fin
  refine flagged_no hF hx hk hfl hn fun H' N' hF' hf => ?_
  obtain ⟨a, b⟩ := FoM.after h2 h3 h4 h5 h6 hF' hf
  exact fin H' a b
 | some j =>
  rw [hn] at fin
  refine flagged_ok hF hx hk hfl hn fun H' N' hF' hf => ?_
  obtain ⟨a, b⟩ := FoM.after h2 h3 h4 h5 h6 hF' hf
  exact fin H' a b
theorem m_flagged_none {i n : Int} (hM : FoM H f T S) (hi : ¬ S.Has i) (fin : K (.tuple #[.int .i64 0, .int .i64 31]) H) : CallsH Try.prog 37 #[.pointer (some ⟨f, 0, none⟩), .int .i64 i, .int .i64 n] H K := by
 obtain ⟨p, g, A, nb, N, hF, h2, h3, h4, h5, h6⟩ := hM
 exact flagged_none hF hi fin
theorem m_flagged_bad {n : Int} (hM : FoM H f T S) (hk : k ∈ S.rows.flatten) (h1 : -9223372036854775808 ≤ n) (h2' : n ≤ 9223372036854775807) (hn : ¬ (0 ≤ n ∧ n < 256)) (fin : K (.tuple #[.int .i64 0, .int .i64 1]) H) : CallsH Try.prog 37 #[.pointer (some ⟨f, 0, none⟩), .int .i64 k, .int .i64 n] H K := by
 obtain ⟨p, g, A, nb, N, hF, h2, h3, h4, h5, h6⟩ := hM
 exact flagged_bad hF hk h1 h2' hn fin
theorem m_all (hM : FoM H f T S) (hx : xs ∈ S.rows) (hk : k ∈ xs) (fin : ∀ H' B v, FoM H' f T S → IR H' B v (xs.map Int.ofNat) → (∀ b, B = some b → H.size ≤ b) → Fr T H H' → K (.tuple #[v, .int .i64 0]) H') : CallsH Try.prog 35 #[.pointer (some ⟨f, 0, none⟩), .int .i64 k] H K := by
 obtain ⟨p, g, A, nb, N, hF, h2, h3, h4, h5, h6⟩ := hM
 refine all_ok hF hx hk fun H' N' B v hF' hi hB hf => ?_
 obtain ⟨a, b⟩ := FoM.after h2 h3 h4 h5 h6 hF' hf
 exact fin H' B v a hi hB b
theorem m_all_none {i : Int} (hM : FoM H f T S) (hi : ¬ S.Has i) (fin : K (.tuple #[.slice none 0 0, .int .i64 31]) H) : CallsH Try.prog 35 #[.pointer (some ⟨f, 0, none⟩), .int .i64 i] H K := by
 obtain ⟨p, g, A, nb, N, hF, h2, h3, h4, h5, h6⟩ := hM
 exact all_none hF hi fin
end
end Go.Proofs.Ytndkbhlfbeiniaa
namespace Go.Proofs.Ytndkbhlfbeiniaa.Pkisthmuslaw03
open Go Go.Hp
set_option linter.all false
set_option maxRecDepth 100000

theorem pick_ok {H : Heap} {c n : Int} {K : Value → Heap → Prop} (h0 : -9223372036854775808 ≤ c) (h1 : c ≤ 9223372036854775807) (hn : 0 < n) (hk : K (.int .i64 (pickN c n)) H) :
  CallsH Try.prog 14 #[.int .i64 c, .int .i64 n] H K := by
 have en : (n = 0) = False := by simp; omega
 refine call14 (by simp) ?_
 simp only [Try.f14, Option.getD_some]
 by_cases hc : c < 0
 ·have e1 : (c < 0) = True := by simp [hc]
  have e2 : IntKind.i64.wrap (c + 1) = c + 1 := wrap_i64 (by omega) (by omega)
  have e3 : IntKind.i64.wrap (0 - (c + 1)) = -(c + 1) := by rw [wrap_i64] <;> omega
  have e4 : (-(c + 1)).tmod n = pickN c n := by
   unfold pickN
   rw [if_pos hc, Int.tmod_eq_emod_of_nonneg (by omega)]
  repeat' (first|(with_reducible first|refine jA ?_|(refine hK _ _ ?_;clear hK K)|refine jJ fun K hK=>?_|refine jK ?_|refine jL ?_|refine jM ?_|refine jN ?_|refine jO ?_|refine jP ?_|refine jQ ?_|(refine jB ?_;clear hK K)|(refine jC ?_;clear hK K)|refine jD ?_|refine jE ?_|refine jG ?_|refine jH ?_|refine jI ?_)|((with_reducible refine jR ?hq ?_);case hq=>rfl)|((first|(with_reducible first|refine jS fun K hK=>?_|refine jT ?_|refine jU ?_)|((with_reducible refine jV ?hy fun K hK=>?_);case hy=>rfl));simp only [go_sem, Nat.reduceEqDiff, Nat.reduceAdd, Nat.reduceMul, Nat.reduceLeDiff, Nat.reduceLT, Int.reduceLT, Int.reduceLE, Int.reduceEq, Int.reduceNeg, Int.reduceToNat, Nat.reducePow, reduceIte, reduceCtorEq, e1, e2, e3, e4, en])|((with_reducible first|refine jW ?hy ?_|refine jY ?hy ?_);case hy=>rfl)|((with_reducible first|refine jX ?hy ?_|refine jZ ?hy ?_);case hy=>rfl)|((with_reducible refine jF ?hy ?_);case hy=>decide))
  exact hk
 ·have e1 : (c < 0) = False := by simp [hc]
  have e4 : c.tmod n = pickN c n := by
   unfold pickN
   rw [if_neg hc, Int.tmod_eq_emod_of_nonneg (by omega)]
  repeat' (first|(with_reducible first|refine jA ?_|(refine hK _ _ ?_;clear hK K)|refine jJ fun K hK=>?_|refine jK ?_|refine jL ?_|refine jM ?_|refine jN ?_|refine jO ?_|refine jP ?_|refine jQ ?_|(refine jB ?_;clear hK K)|(refine jC ?_;clear hK K)|refine jD ?_|refine jE ?_|refine jG ?_|refine jH ?_|refine jI ?_)|((with_reducible refine jR ?hq ?_);case hq=>rfl)|((first|(with_reducible first|refine jS fun K hK=>?_|refine jT ?_|refine jU ?_)|((with_reducible refine jV ?hy fun K hK=>?_);case hy=>rfl));simp only [go_sem, Nat.reduceEqDiff, Nat.reduceAdd, Nat.reduceMul, Nat.reduceLeDiff, Nat.reduceLT, Int.reduceLT, Int.reduceLE, Int.reduceEq, Int.reduceNeg, Int.reduceToNat, Nat.reducePow, reduceIte, reduceCtorEq, e1, e4, en])|((with_reducible first|refine jW ?hy ?_|refine jY ?hy ?_);case hy=>rfl)|((with_reducible first|refine jX ?hy ?_|refine jZ ?hy ?_);case hy=>rfl)|((with_reducible refine jF ?hy ?_);case hy=>decide))
  exact hk
theorem same_ok {H : Heap} {B C : Option Nat} {v w : Value} {xs ys : List Int} {K : Value → Heap → Prop} (hv : Rds H B v xs) (hw : Rds H C w ys) (hl : xs.length ≤ 4611686018427387904) (fin : K (.bool (decide (xs = ys))) H) :
  CallsH Try.prog 36 #[v, w] H K := by
 obtain ⟨a, c, ev⟩ := hv.slice
 obtain ⟨a', c', ew⟩ := hw.slice
 refine call36 (by simp) ?_
 simp only [Try.f36, Option.getD_some]
 by_cases h : xs.length = ys.length
 ·have t1 : ((xs.length : Int) != (ys.length : Int)) = false := by simp [h]
  rw [ev, ew]
  repeat' (first|(with_reducible first|refine jA ?_|(refine hK _ _ ?_;clear hK K)|refine jJ fun K hK=>?_|refine jK ?_|refine jL ?_|refine jM ?_|refine jN ?_|refine jO ?_|refine jP ?_|refine jQ ?_|(refine jB ?_;clear hK K)|(refine jC ?_;clear hK K)|refine jD ?_|refine jE ?_|refine jG ?_|refine jH ?_|refine jI ?_)|((with_reducible refine jR ?hq ?_);case hq=>rfl)|((first|(with_reducible first|refine jS fun K hK=>?_|refine jT ?_|refine jU ?_)|((with_reducible refine jV ?hy fun K hK=>?_);case hy=>rfl));simp only [go_sem, Nat.reduceEqDiff, Nat.reduceAdd, Nat.reduceMul, Nat.reduceLeDiff, Nat.reduceLT, Int.reduceLT, Int.reduceLE, Int.reduceEq, Int.reduceNeg, Int.reduceToNat, Nat.reducePow, reduceIte, reduceCtorEq, t1])|((with_reducible first|refine jW ?hy ?_|refine jY ?hy ?_);case hy=>rfl)|((with_reducible first|refine jX ?hy ?_|refine jZ ?hy ?_);case hy=>rfl)|((with_reducible refine jF ?hy ?_);case hy=>decide))
  refine x_loop (fun m e' H' => ∃ i : Nat, H' = H ∧ e' 5 = .int .i64 (i : Nat) ∧ i ≤ xs.length ∧ xs.take i = ys.take i ∧ m = xs.length - i) xs.length ⟨0, rfl, rfl, Nat.zero_le _, rfl, rfl⟩ ?_
  rintro m e1 H1 ⟨i, rfl, i5, hi, heq, rfl⟩ hoff
  have i0 := (hoff 0 rfl).trans rfl
  have i1 := (hoff 1 rfl).trans rfl
  clear hoff
  by_cases hlt : i < xs.length
  ·obtain ⟨x, hx⟩ : ∃ x, xs[i]? = some x := ⟨_, List.getElem?_eq_getElem hlt⟩
   obtain ⟨y, hy⟩ : ∃ y, ys[i]? = some y := ⟨_, List.getElem?_eq_getElem (by omega)⟩
   obtain ⟨b, o, c1, _, hv1, cx⟩ := hv.read hx
   obtain ⟨b2, o2, c2, _, hw1, cy⟩ := hw.read hy
   have i0' := i0.trans (ev.symm.trans hv1)
   have i1' := i1.trans (ew.symm.trans hw1)
   have hlt' : (i < ys.length) = True := by simp; omega
   have ewr : IntKind.i64.wrap ((i : Int) + 1) = ((i + 1 : Nat) : Int) := by rw [wrap_i64] <;> omega
   by_cases hxy : x = y
   ·have t2 : (x != y) = false := by simp [hxy]
    repeat' (first|(with_reducible first|refine jA ?_|(refine hK _ _ ?_;clear hK K)|refine jJ fun K hK=>?_|refine jK ?_|refine jL ?_|refine jM ?_|refine jN ?_|refine jO ?_|refine jP ?_|refine jQ ?_|(refine jB ?_;clear hK K)|(refine jC ?_;clear hK K)|refine jD ?_|refine jE ?_|refine jG ?_|refine jH ?_|refine jI ?_)|((with_reducible refine jR ?hq ?_);case hq=>rfl)|((first|(with_reducible first|refine jS fun K hK=>?_|refine jT ?_|refine jU ?_)|((with_reducible refine jV ?hy fun K hK=>?_);case hy=>rfl));simp only [go_sem, Nat.reduceEqDiff, Nat.reduceAdd, Nat.reduceMul, Nat.reduceLeDiff, Nat.reduceLT, Int.reduceLT, Int.reduceLE, Int.reduceEq, Int.reduceNeg, Int.reduceToNat, Nat.reducePow, reduceIte, reduceCtorEq, i5, i0', i1', hlt, hlt', cx, cy, t2, ewr])|((with_reducible first|refine jW ?hy ?_|refine jY ?hy ?_);case hy=>rfl)|((with_reducible first|refine jX ?hy ?_|refine jZ ?hy ?_);case hy=>rfl)|((with_reducible refine jF ?hy ?_);case hy=>decide))
    refine loop_normal (m' := xs.length - (i + 1)) (by omega) ⟨i + 1, rfl, rfl, by omega, ?_, rfl⟩
    rw [List.take_add_one, List.take_add_one, heq, hx, hy, hxy]
   ·have t2 : (x != y) = true := by simp [hxy]
    repeat' (first|(with_reducible first|refine jA ?_|(refine hK _ _ ?_;clear hK K)|refine jJ fun K hK=>?_|refine jK ?_|refine jL ?_|refine jM ?_|refine jN ?_|refine jO ?_|refine jP ?_|refine jQ ?_|(refine jB ?_;clear hK K)|(refine jC ?_;clear hK K)|refine jD ?_|refine jE ?_|refine jG ?_|refine jH ?_|refine jI ?_)|((with_reducible refine jR ?hq ?_);case hq=>rfl)|((first|(with_reducible first|refine jS fun K hK=>?_|refine jT ?_|refine jU ?_)|((with_reducible refine jV ?hy fun K hK=>?_);case hy=>rfl));simp only [go_sem, Nat.reduceEqDiff, Nat.reduceAdd, Nat.reduceMul, Nat.reduceLeDiff, Nat.reduceLT, Int.reduceLT, Int.reduceLE, Int.reduceEq, Int.reduceNeg, Int.reduceToNat, Nat.reducePow, reduceIte, reduceCtorEq, i5, i0', i1', hlt, hlt', cx, cy, t2])|((with_reducible first|refine jW ?hy ?_|refine jY ?hy ?_);case hy=>rfl)|((with_reducible first|refine jX ?hy ?_|refine jZ ?hy ?_);case hy=>rfl)|((with_reducible refine jF ?hy ?_);case hy=>decide))
    have : decide (xs = ys) = false := by
     rw [decide_eq_false_iff_not]
     intro e
     rw [e, hy] at hx
     exact hxy (Option.some.inj hx).symm
    rw [this] at fin
    exact fin
  ·have hlt' : (i < xs.length) = False := by simp; omega
   repeat' (first|(with_reducible first|refine jA ?_|(refine hK _ _ ?_;clear hK K)|refine jJ fun K hK=>?_|refine jK ?_|refine jL ?_|refine jM ?_|refine jN ?_|refine jO ?_|refine jP ?_|refine jQ ?_|(refine jB ?_;clear hK K)|(refine jC ?_;clear hK K)|refine jD ?_|refine jE ?_|refine jG ?_|refine jH ?_|refine jI ?_)|((with_reducible refine jR ?hq ?_);case hq=>rfl)|((first|(with_reducible first|refine jS fun K hK=>?_|refine jT ?_|refine jU ?_)|((with_reducible refine jV ?hy fun K hK=>?_);case hy=>rfl));simp only [go_sem, Nat.reduceEqDiff, Nat.reduceAdd, Nat.reduceMul, Nat.reduceLeDiff, Nat.reduceLT, Int.reduceLT, Int.reduceLE, Int.reduceEq, Int.reduceNeg, Int.reduceToNat, Nat.reducePow, reduceIte, reduceCtorEq, i5, i0, i1, hlt'])|((with_reducible first|refine jW ?hy ?_|refine jY ?hy ?_);case hy=>rfl)|((with_reducible first|refine jX ?hy ?_|refine jZ ?hy ?_);case hy=>rfl)|((with_reducible refine jF ?hy ?_);case hy=>decide))
   have : decide (xs = ys) = true := by
    rw [decide_eq_true_iff]
    have hi' : i = xs.length := by omega
    rw [hi', List.take_length] at heq
    rw [heq, h, List.take_length]
   rw [this] at fin
   exact fin
 ·have t1 : ((xs.length : Int) != (ys.length : Int)) = true := by simp; omega
  have : decide (xs = ys) = false := by
   rw [decide_eq_false_iff_not]
   intro e; exact h (by rw [e])
  rw [this] at fin
  rw [ev, ew]
  repeat' (first|(with_reducible first|refine jA ?_|(refine hK _ _ ?_;clear hK K)|refine jJ fun K hK=>?_|refine jK ?_|refine jL ?_|refine jM ?_|refine jN ?_|refine jO ?_|refine jP ?_|refine jQ ?_|(refine jB ?_;clear hK K)|(refine jC ?_;clear hK K)|refine jD ?_|refine jE ?_|refine jG ?_|refine jH ?_|refine jI ?_)|((with_reducible refine jR ?hq ?_);case hq=>rfl)|((first|(with_reducible first|refine jS fun K hK=>?_|refine jT ?_|refine jU ?_)|((with_reducible refine jV ?hy fun K hK=>?_);case hy=>rfl));simp only [go_sem, Nat.reduceEqDiff, Nat.reduceAdd, Nat.reduceMul, Nat.reduceLeDiff, Nat.reduceLT, Int.reduceLT, Int.reduceLE, Int.reduceEq, Int.reduceNeg, Int.reduceToNat, Nat.reducePow, reduceIte, reduceCtorEq, t1])|((with_reducible first|refine jW ?hy ?_|refine jY ?hy ?_);case hy=>rfl)|((with_reducible first|refine jX ?hy ?_|refine jZ ?hy ?_);case hy=>rfl)|((with_reducible refine jF ?hy ?_);case hy=>decide))
  exact fin
end Go.Proofs.Ytndkbhlfbeiniaa.Pkisthmuslaw03
namespace Go.Proofs.Ytndkbhlfbeiniaa
open Go Go.Hp Go.Sp
set_option linter.all false
set_option maxRecDepth 100000
set_option maxHeartbeats 1600000

def InItems (H : Heap) (a : Option Addr) (len : Nat) (zs : Nat → Sp.Item) : Prop :=
 ∀ i, i < len → ∃ p : Addr, a = some p ∧ hcell H (p.add (i * 3)) = some (.int .i64 (zs i).value) ∧ hcell H ⟨(p.add (i * 3)).block, (p.add (i * 3)).off + 1, none⟩ = some (.bool (zs i).counts) ∧ hcell H ⟨(p.add (i * 3)).block, (p.add (i * 3)).off + 2, none⟩ = some (.int .i64 (zs i).flags) ∧ Fits (zs i)
theorem add_block (a : Addr) (n : Nat) : (a.add n).block = a.block := by unfold Addr.add; split <;> rfl
theorem InItems.frame {H H' : Heap} {a : Option Addr} {len : Nat} {zs : Nat → Sp.Item} (h : InItems H a len zs) (hf : Fr (fun _ => False) H H') : InItems H' a len zs := fun i hi => by
 obtain ⟨p, h1, h2, h3, h4, h5⟩ := h i hi
 exact ⟨p, h1, by rw [hf.cell (hcell_lt h2) (fun h => h)]; exact h2, by rw [hf.cell (hcell_lt h3) (fun h => h)]; exact h3, by rw [hf.cell (hcell_lt h4) (fun h => h)]; exact h4, h5⟩
def Its (H : Heap) (B : Option Nat) (v : Value) (xs : List Sp.Item) : Prop := Own H B v 3 xs.length (xs.flatMap Sp.Item.cells)
theorem cells_len (xs : List Sp.Item) : (xs.flatMap Sp.Item.cells).length = xs.length * 3 := by
 induction xs with
 | nil => rfl
 | cons x xs ih => rw [List.flatMap_cons, List.length_append, ih, List.length_cons]; simp [Sp.Item.cells]; omega
theorem cells_get : ∀ (xs : List Sp.Item) {i : Nat} {x : Sp.Item}, xs[i]? = some x → ∀ j, j < 3 → (xs.flatMap Sp.Item.cells)[i * 3 + j]? = x.cells[j]?
 | [], i, x, h, j, hj => by cases h
 | y :: xs, 0, x, h, j, hj => by
  obtain rfl := Option.some.inj h
  rw [List.flatMap_cons, Nat.zero_mul, Nat.zero_add, List.getElem?_append_left (by simp [Sp.Item.cells]; omega)]
 | y :: xs, i + 1, x, h, j, hj => by
  rw [List.flatMap_cons, List.getElem?_append_right (by simp [Sp.Item.cells]; omega)]
  have e : (i + 1) * 3 + j - y.cells.length = i * 3 + j := by simp [Sp.Item.cells]; omega
  rw [e]
  exact cells_get xs (by simpa using h) j hj
theorem Its.frame {S : Nat → Prop} {H H' : Heap} {B : Option Nat} {v : Value} {xs : List Sp.Item} (h : Its H B v xs) (hf : Fr S H H') (hb : ∀ g, B = some g → ¬ S g) : Its H' B v xs := Own.frame h hf hb
theorem Its.slice {H : Heap} {B : Option Nat} {v : Value} {xs : List Sp.Item} (h : Its H B v xs) : ∃ a c, v = .slice a xs.length c := by
 obtain ⟨_, h | ⟨g', c, rest, h1, h2, h3, h4, h5⟩⟩ := h
 ·obtain ⟨_, h2, h3⟩ := h
  exact ⟨none, 0, by rw [h2, h3]⟩
 ·exact ⟨_, _, h2⟩
theorem Its.read {H : Heap} {B : Option Nat} {v : Value} {xs : List Sp.Item} (h : Its H B v xs) {i : Nat} {x : Sp.Item} (hi : xs[i]? = some x) :
  ∃ g c, B = some g ∧ v = .slice (some ⟨g, 0, none⟩) xs.length c ∧ hcell H ⟨g, i * 3, none⟩ = some (.int .i64 x.value) ∧ hcell H ⟨g, i * 3 + 1, none⟩ = some (.bool x.counts) ∧ hcell H ⟨g, i * 3 + 2, none⟩ = some (.int .i64 x.flags) := by
 obtain ⟨hl, h | ⟨g', c, rest, h1, h2, h3, h4, h5⟩⟩ := h
 ·have : xs = [] := List.length_eq_zero_iff.1 h.2.2
  rw [this] at hi; cases hi
 ·have hlt := (List.getElem?_eq_some_iff.1 hi).1
  have get : ∀ j, j < 3 → ((xs.flatMap Sp.Item.cells) ++ rest)[i * 3 + j]? = x.cells[j]? := fun j hj => by
   rw [List.getElem?_append_left (by rw [cells_len]; omega)]
   exact cells_get xs hi j hj
  exact ⟨g', c, h1, h2, h3.cellOf (get 0 (by omega)), h3.cellOf (get 1 (by omega)), h3.cellOf (get 2 (by omega))⟩
theorem Its.nil (H : Heap) : Its H none (.slice none 0 0) [] := ⟨rfl, .inl ⟨rfl, rfl, rfl⟩⟩
theorem Its.lt {H : Heap} {B : Option Nat} {v : Value} {xs : List Sp.Item} (h : Its H B v xs) {g : Nat} (hg : B = some g) : g < H.size := by
 obtain ⟨_, h | ⟨g', c, rest, h1, h2, h3, h4, h5⟩⟩ := h
 ·rw [h.1] at hg; cases hg
 ·rw [h1] at hg
  obtain rfl := Option.some.inj hg
  exact h3.lt
theorem append_item {s : Value} {H : Heap} {B : Option Nat} {b d : Nat} {xs : List Sp.Item} {x : Sp.Item} {K : Value → Heap → Prop}
  (h : Its H B s xs) (hr : Go.Hp.readL H ⟨b, 0, none⟩ 0 3 = some x.cells) (hl : xs.length ≤ 100000)
  (hk : ∀ v' H' B', Its H' B' v' (xs ++ [x]) → Fr (fun b => B = some b) H H' → (B' = B ∨ ∃ g, B' = some g ∧ H.size ≤ g) → K v' H') : appendX Try.prog 22 s (.slice (some ⟨b, 0, none⟩) 1 d) H K := by
 refine append_own elems22 tl31 h (m := 1) (.inl ⟨_, _, rfl, hr⟩) ?_ (by decide) (by simp only []; omega) rfl rfl ?_
 ·intro v hv
  simp only [Sp.Item.cells, List.mem_cons, List.not_mem_nil, or_false] at hv
  rcases hv with rfl | rfl | rfl <;> rfl
 ·intro v' H' B' ho hf hB
  exact hk v' H' B' (by unfold Its; simpa using ho) hf hB
def norm (x : Sp.Item) : Sp.Item := ⟨pickN x.value 2199023255553 - 1099511627776, x.counts, pickN x.flags 256⟩
theorem norm_may (x : Sp.Item) : May (norm x) := by
 have h1 := pickN_range x.value (n := 2199023255553) (by omega)
 have h2 := pickN_range x.flags (n := 256) (by omega)
 exact ⟨by simp only [norm]; omega, by simp only [norm]; omega, h2.1, h2.2⟩
theorem May.fits {x : Sp.Item} (h : May x) : Fits x := by
 have := h.lo; have := h.hi; have := h.f0; have := h.f1
 exact ⟨⟨by omega, by omega⟩, by omega, by omega⟩
theorem items_ok {H : Heap} {a : Option Addr} {len cap most : Nat} {zs : Nat → Sp.Item} {K : Value → Heap → Prop} (hin : InItems H a len zs) (hl : len ≤ 9223372036854775807) (hm : most ≤ 1000) (hm1 : 1 ≤ most)
  (fin : ∀ H' B v xs, Its H' B v xs → (∀ b, B = some b → H.size ≤ b) → 1 ≤ xs.length → xs.length ≤ most → (∀ x ∈ xs, May x) → Fr (fun _ => False) H H' → K v H') :
  CallsH Try.prog 13 #[.slice a len cap, .int .i64 (most : Nat)] H K := by
 refine call13 (by simp) ?_
 simp only [Try.f13, Option.getD_some]
 repeat' (first|(with_reducible first|refine jA ?_|(refine hK _ _ ?_;clear hK K)|refine jJ fun K hK=>?_|refine jK ?_|refine jL ?_|refine jM ?_|refine jN ?_|refine jO ?_|refine jP ?_|refine jQ ?_|(refine jB ?_;clear hK K)|(refine jC ?_;clear hK K)|refine jD ?_|refine jE ?_|refine jG ?_|refine jH ?_|refine jI ?_)|((with_reducible refine jR ?hq ?_);case hq=>rfl)|((first|(with_reducible first|refine jS fun K hK=>?_|refine jT ?_|refine jU ?_)|((with_reducible refine jV ?hy fun K hK=>?_);case hy=>rfl));simp only [go_sem, Nat.reduceEqDiff, Nat.reduceAdd, Nat.reduceMul, Nat.reduceLeDiff, Nat.reduceLT, Int.reduceLT, Int.reduceLE, Int.reduceEq, Int.reduceNeg, Int.reduceToNat, Nat.reducePow, reduceIte, reduceCtorEq])|((with_reducible first|refine jW ?hy ?_|refine jY ?hy ?_);case hy=>rfl)|((with_reducible first|refine jX ?hy ?_|refine jZ ?hy ?_);case hy=>rfl)|((with_reducible refine jF ?hy ?_);case hy=>decide))
 refine x_loop (fun m e' H' => ∃ (i : Nat) (B : Option Nat) (v : Value) (xs : List Sp.Item), e' 5 = v ∧ e' 6 = .int .i64 (i : Nat) ∧ Its H' B v xs ∧ (∀ b, B = some b → H.size ≤ b) ∧ xs.length = i ∧ i ≤ most ∧ i ≤ len ∧ (∀ x ∈ xs, May x) ∧ Fr (fun _ => False) H H' ∧ m = most - i)
  most ⟨0, none, _, [], rfl, rfl, Its.nil H, (fun b h => by cases h), rfl, by omega, by omega, (fun x h => by cases h), .refl _ _, rfl⟩ ?_
 rintro m e1 H1 ⟨i, B, v, xs, i5, i6, hv, hB, hxl, him, hil, hmay, hf1, rfl⟩ hoff
 have i0 := (hoff 0 rfl).trans rfl
 have i1 := (hoff 1 rfl).trans rfl
 clear hoff
 by_cases hgo : i < len ∧ i < most
 ·have t1 : (i < len) = True := by simp [hgo.1]
  have t2 : (i < most) = True := by simp [hgo.2]
  obtain ⟨p, rfl, c0, c1, c2, hfit⟩ := (hin.frame hf1) i hgo.1
  have w0 := okW_top (H := H1) (T := 31) (cs := #[.int .i64 0, .bool false, .int .i64 0]) (b := H1.size) (i := 0) rfl (by decide)
  have ew : IntKind.i64.wrap ((i : Int) + 1) = ((i + 1 : Nat) : Int) := by rw [wrap_i64] <;> omega
  have p1 := pickN_range (zs i).value (n := 2199023255553) (by omega)
  have p2 := pickN_range (zs i).flags (n := 256) (by omega)
  have ew2 : IntKind.i64.wrap (pickN (zs i).value 2199023255553 - 1099511627776) = pickN (zs i).value 2199023255553 - 1099511627776 := by rw [wrap_i64] <;> omega
  have hs1 := hf1.size
  repeat' (first|(with_reducible first|refine jA ?_|(refine hK _ _ ?_;clear hK K)|refine jJ fun K hK=>?_|refine jK ?_|refine jL ?_|refine jM ?_|refine jN ?_|refine jO ?_|refine jP ?_|refine jQ ?_|(refine jB ?_;clear hK K)|(refine jC ?_;clear hK K)|refine jD ?_|refine jE ?_|refine jG ?_|refine jH ?_|refine jI ?_)|((with_reducible refine jR ?hq ?_);case hq=>rfl)|((first|(with_reducible first|refine jS fun K hK=>?_|refine jT ?_|refine jU ?_)|((with_reducible refine jV ?hy fun K hK=>?_);case hy=>rfl));simp only [go_sem, Nat.reduceEqDiff, Nat.reduceAdd, Nat.reduceMul, Nat.reduceLeDiff, Nat.reduceLT, Int.reduceLT, Int.reduceLE, Int.reduceEq, Int.reduceNeg, Int.reduceToNat, Nat.reducePow, reduceIte, reduceCtorEq, i0, i1, i5, i6, t1, t2, c0, c1, c2, hcell_push, hcell_top, okW_push, okW_top, hcell_hset_ne, hcell_hset_off, hcell_hset_eq, okW_hset, hset_size, Array.size_push, Nat.lt_add_one, ne_add_one, add_one_ne, Nat.add_assoc, add_same, add_lt_same, Nat.reduceEqDiff, lt_add_k, add_k_ne, ne_add_k])|((with_reducible first|refine jW ?hy ?_|refine jY ?hy ?_);case hy=>rfl)|((with_reducible first|refine jX ?hy ?_|refine jZ ?hy ?_);case hy=>rfl)|((with_reducible refine jF ?hy ?_);case hy=>decide))
  refine x_drawS [12, 13] [0, 1, 2, 5, 6, 7, 8, 3, 4, 9, 10, 11, 12, 13] rfl (by kernel_rfl) (Cells [(H1.size, 0, .int .i64 (zs i).value), (H1.size, 1, .bool (zs i).counts), (H1.size, 2, .int .i64 (zs i).flags)]) (by simp only [go_sem, Nat.reduceEqDiff, Nat.reduceAdd, Nat.reduceMul, Nat.reduceLeDiff, Nat.reduceLT, Int.reduceLT, Int.reduceLE, Int.reduceEq, Int.reduceNeg, Int.reduceToNat, Nat.reducePow, reduceIte, reduceCtorEq, Cells, and_true, hcell_push, hcell_top, okW_push, okW_top, hcell_hset_ne, hcell_hset_off, hcell_hset_eq, okW_hset, hset_size, Array.size_push, Nat.lt_add_one, ne_add_one, add_one_ne, Nat.add_assoc, add_same, add_lt_same, Nat.reduceEqDiff, lt_add_k, add_k_ne, ne_add_k]) ?_
  repeat' (first|(with_reducible refine xs_nil ?_)|((first|((with_reducible apply xs_rd);case hi=>rfl)|((with_reducible apply xs_guard_yes);(case hi=>rfl);(case hy=>rfl)));(case hr=>rfl);(case h1=>intro H' hS'; (try simp only [Cells, and_true] at hS');simp only [go_sem, Nat.reduceEqDiff, Nat.reduceAdd, Nat.reduceMul, Nat.reduceLeDiff, Nat.reduceLT, Int.reduceLT, Int.reduceLE, Int.reduceEq, Int.reduceNeg, Int.reduceToNat, Nat.reducePow, reduceIte, reduceCtorEq, i5, hcell_push, hcell_top, okW_push, okW_top, hcell_hset_ne, hcell_hset_off, hcell_hset_eq, okW_hset, hset_size, Array.size_push, Nat.lt_add_one, ne_add_one, add_one_ne, Nat.add_assoc, add_same, add_lt_same, Nat.reduceEqDiff, lt_add_k, add_k_ne, ne_add_k, hS']; rfl))|((with_reducible refine xs_tail ?hz ?_);case hz=>rfl)|((with_reducible refine xs_keep ?hz ?_);case hz=>first|(with_reducible assumption)|assumption|(simp only [go_sem, Nat.reduceEqDiff, Nat.reduceAdd, Nat.reduceMul, Nat.reduceLeDiff, Nat.reduceLT, Int.reduceLT, Int.reduceLE, Int.reduceEq, Int.reduceNeg, Int.reduceToNat, Nat.reducePow, reduceIte, reduceCtorEq, Cells, and_true, i5, hcell_push, hcell_top, okW_push, okW_top, hcell_hset_ne, hcell_hset_off, hcell_hset_eq, okW_hset, hset_size, Array.size_push, Nat.lt_add_one, ne_add_one, add_one_ne, Nat.add_assoc, add_same, add_lt_same, Nat.reduceEqDiff, lt_add_k, add_k_ne, ne_add_k]))|((with_reducible apply xs_guard_no);(case hi=>rfl);(case hy=>rfl);(case hS=>assumption))|((first|((with_reducible apply xs_op);(case hi=>rfl))|((with_reducible apply xs_op_yes);(case hi=>rfl);(case hy=>rfl)));(case hr=>rfl);intro K hK; simp only [go_sem, Nat.reduceEqDiff, Nat.reduceAdd, Nat.reduceMul, Nat.reduceLeDiff, Nat.reduceLT, Int.reduceLT, Int.reduceLE, Int.reduceEq, Int.reduceNeg, Int.reduceToNat, Nat.reducePow, reduceIte, reduceCtorEq, i5, hcell_push, hcell_top, okW_push, okW_top, hcell_hset_ne, hcell_hset_off, hcell_hset_eq, okW_hset, hset_size, Array.size_push, Nat.lt_add_one, ne_add_one, add_one_ne, Nat.add_assoc, add_same, add_lt_same, Nat.reduceEqDiff, lt_add_k, add_k_ne, ne_add_k])|(with_reducible first|refine jA ?_|(refine hK _ _ ?_;clear hK K)|refine jJ fun K hK=>?_|refine jK ?_|refine jL ?_|refine jM ?_|refine jN ?_|refine jO ?_|refine jP ?_|refine jQ ?_|(refine jB ?_;clear hK K)|(refine jC ?_;clear hK K)|refine jD ?_|refine jE ?_|refine jG ?_|refine jH ?_|refine jI ?_)|((with_reducible refine jR ?hq ?_);case hq=>rfl)|((first|(with_reducible first|refine jS fun K hK=>?_|refine jT ?_|refine jU ?_)|((with_reducible refine jV ?hy fun K hK=>?_);case hy=>rfl));simp only [go_sem, Nat.reduceEqDiff, Nat.reduceAdd, Nat.reduceMul, Nat.reduceLeDiff, Nat.reduceLT, Int.reduceLT, Int.reduceLE, Int.reduceEq, Int.reduceNeg, Int.reduceToNat, Nat.reducePow, reduceIte, reduceCtorEq, i5, hcell_push, hcell_top, okW_push, okW_top, hcell_hset_ne, hcell_hset_off, hcell_hset_eq, okW_hset, hset_size, Array.size_push, Nat.lt_add_one, ne_add_one, add_one_ne, Nat.add_assoc, add_same, add_lt_same, Nat.reduceEqDiff, lt_add_k, add_k_ne, ne_add_k])|((with_reducible first|refine jW ?hy ?_|refine jY ?hy ?_);case hy=>rfl)|((with_reducible first|refine jX ?hy ?_|refine jZ ?hy ?_);case hy=>rfl)|((with_reducible refine jF ?hy ?_);case hy=>decide))
  refine Pkisthmuslaw03.pick_ok hfit.1.1 hfit.1.2 (by omega) ?_
  repeat' (first|(with_reducible refine xs_nil ?_)|((first|((with_reducible apply xs_rd);case hi=>rfl)|((with_reducible apply xs_guard_yes);(case hi=>rfl);(case hy=>rfl)));(case hr=>rfl);(case h1=>intro H' hS'; (try simp only [Cells, and_true] at hS');simp only [go_sem, Nat.reduceEqDiff, Nat.reduceAdd, Nat.reduceMul, Nat.reduceLeDiff, Nat.reduceLT, Int.reduceLT, Int.reduceLE, Int.reduceEq, Int.reduceNeg, Int.reduceToNat, Nat.reducePow, reduceIte, reduceCtorEq, i5, ew2, hcell_push, hcell_top, okW_push, okW_top, hcell_hset_ne, hcell_hset_off, hcell_hset_eq, okW_hset, hset_size, Array.size_push, Nat.lt_add_one, ne_add_one, add_one_ne, Nat.add_assoc, add_same, add_lt_same, Nat.reduceEqDiff, lt_add_k, add_k_ne, ne_add_k, hS']; rfl))|((with_reducible refine xs_tail ?hz ?_);case hz=>rfl)|((with_reducible refine xs_keep ?hz ?_);case hz=>first|(with_reducible assumption)|assumption|(simp only [go_sem, Nat.reduceEqDiff, Nat.reduceAdd, Nat.reduceMul, Nat.reduceLeDiff, Nat.reduceLT, Int.reduceLT, Int.reduceLE, Int.reduceEq, Int.reduceNeg, Int.reduceToNat, Nat.reducePow, reduceIte, reduceCtorEq, Cells, and_true, i5, ew2, hcell_push, hcell_top, okW_push, okW_top, hcell_hset_ne, hcell_hset_off, hcell_hset_eq, okW_hset, hset_size, Array.size_push, Nat.lt_add_one, ne_add_one, add_one_ne, Nat.add_assoc, add_same, add_lt_same, Nat.reduceEqDiff, lt_add_k, add_k_ne, ne_add_k]))|((with_reducible apply xs_guard_no);(case hi=>rfl);(case hy=>rfl);(case hS=>assumption))|((first|((with_reducible apply xs_op);(case hi=>rfl))|((with_reducible apply xs_op_yes);(case hi=>rfl);(case hy=>rfl)));(case hr=>rfl);intro K hK; simp only [go_sem, Nat.reduceEqDiff, Nat.reduceAdd, Nat.reduceMul, Nat.reduceLeDiff, Nat.reduceLT, Int.reduceLT, Int.reduceLE, Int.reduceEq, Int.reduceNeg, Int.reduceToNat, Nat.reducePow, reduceIte, reduceCtorEq, i5, ew2, hcell_push, hcell_top, okW_push, okW_top, hcell_hset_ne, hcell_hset_off, hcell_hset_eq, okW_hset, hset_size, Array.size_push, Nat.lt_add_one, ne_add_one, add_one_ne, Nat.add_assoc, add_same, add_lt_same, Nat.reduceEqDiff, lt_add_k, add_k_ne, ne_add_k])|(with_reducible first|refine jA ?_|(refine hK _ _ ?_;clear hK K)|refine jJ fun K hK=>?_|refine jK ?_|refine jL ?_|refine jM ?_|refine jN ?_|refine jO ?_|refine jP ?_|refine jQ ?_|(refine jB ?_;clear hK K)|(refine jC ?_;clear hK K)|refine jD ?_|refine jE ?_|refine jG ?_|refine jH ?_|refine jI ?_)|((with_reducible refine jR ?hq ?_);case hq=>rfl)|((first|(with_reducible first|refine jS fun K hK=>?_|refine jT ?_|refine jU ?_)|((with_reducible refine jV ?hy fun K hK=>?_);case hy=>rfl));simp only [go_sem, Nat.reduceEqDiff, Nat.reduceAdd, Nat.reduceMul, Nat.reduceLeDiff, Nat.reduceLT, Int.reduceLT, Int.reduceLE, Int.reduceEq, Int.reduceNeg, Int.reduceToNat, Nat.reducePow, reduceIte, reduceCtorEq, i5, ew2, hcell_push, hcell_top, okW_push, okW_top, hcell_hset_ne, hcell_hset_off, hcell_hset_eq, okW_hset, hset_size, Array.size_push, Nat.lt_add_one, ne_add_one, add_one_ne, Nat.add_assoc, add_same, add_lt_same, Nat.reduceEqDiff, lt_add_k, add_k_ne, ne_add_k])|((with_reducible first|refine jW ?hy ?_|refine jY ?hy ?_);case hy=>rfl)|((with_reducible first|refine jX ?hy ?_|refine jZ ?hy ?_);case hy=>rfl)|((with_reducible refine jF ?hy ?_);case hy=>decide))
  refine Pkisthmuslaw03.pick_ok hfit.2.1 hfit.2.2 (by omega) ?_
  repeat' (first|(with_reducible refine xs_nil ?_)|((first|((with_reducible apply xs_rd);case hi=>rfl)|((with_reducible apply xs_guard_yes);(case hi=>rfl);(case hy=>rfl)));(case hr=>rfl);(case h1=>intro H' hS'; (try simp only [Cells, and_true] at hS');simp only [go_sem, Nat.reduceEqDiff, Nat.reduceAdd, Nat.reduceMul, Nat.reduceLeDiff, Nat.reduceLT, Int.reduceLT, Int.reduceLE, Int.reduceEq, Int.reduceNeg, Int.reduceToNat, Nat.reducePow, reduceIte, reduceCtorEq, i5, hcell_push, hcell_top, okW_push, okW_top, hcell_hset_ne, hcell_hset_off, hcell_hset_eq, okW_hset, hset_size, Array.size_push, Nat.lt_add_one, ne_add_one, add_one_ne, Nat.add_assoc, add_same, add_lt_same, Nat.reduceEqDiff, lt_add_k, add_k_ne, ne_add_k, hS']; rfl))|((with_reducible refine xs_tail ?hz ?_);case hz=>rfl)|((with_reducible refine xs_keep ?hz ?_);case hz=>first|(with_reducible assumption)|assumption|(simp only [go_sem, Nat.reduceEqDiff, Nat.reduceAdd, Nat.reduceMul, Nat.reduceLeDiff, Nat.reduceLT, Int.reduceLT, Int.reduceLE, Int.reduceEq, Int.reduceNeg, Int.reduceToNat, Nat.reducePow, reduceIte, reduceCtorEq, Cells, and_true, i5, hcell_push, hcell_top, okW_push, okW_top, hcell_hset_ne, hcell_hset_off, hcell_hset_eq, okW_hset, hset_size, Array.size_push, Nat.lt_add_one, ne_add_one, add_one_ne, Nat.add_assoc, add_same, add_lt_same, Nat.reduceEqDiff, lt_add_k, add_k_ne, ne_add_k]))|((with_reducible apply xs_guard_no);(case hi=>rfl);(case hy=>rfl);(case hS=>assumption))|((first|((with_reducible apply xs_op);(case hi=>rfl))|((with_reducible apply xs_op_yes);(case hi=>rfl);(case hy=>rfl)));(case hr=>rfl);intro K hK; simp only [go_sem, Nat.reduceEqDiff, Nat.reduceAdd, Nat.reduceMul, Nat.reduceLeDiff, Nat.reduceLT, Int.reduceLT, Int.reduceLE, Int.reduceEq, Int.reduceNeg, Int.reduceToNat, Nat.reducePow, reduceIte, reduceCtorEq, i5, hcell_push, hcell_top, okW_push, okW_top, hcell_hset_ne, hcell_hset_off, hcell_hset_eq, okW_hset, hset_size, Array.size_push, Nat.lt_add_one, ne_add_one, add_one_ne, Nat.add_assoc, add_same, add_lt_same, Nat.reduceEqDiff, lt_add_k, add_k_ne, ne_add_k])|(with_reducible first|refine jA ?_|(refine hK _ _ ?_;clear hK K)|refine jJ fun K hK=>?_|refine jK ?_|refine jL ?_|refine jM ?_|refine jN ?_|refine jO ?_|refine jP ?_|refine jQ ?_|(refine jB ?_;clear hK K)|(refine jC ?_;clear hK K)|refine jD ?_|refine jE ?_|refine jG ?_|refine jH ?_|refine jI ?_)|((with_reducible refine jR ?hq ?_);case hq=>rfl)|((first|(with_reducible first|refine jS fun K hK=>?_|refine jT ?_|refine jU ?_)|((with_reducible refine jV ?hy fun K hK=>?_);case hy=>rfl));simp only [go_sem, Nat.reduceEqDiff, Nat.reduceAdd, Nat.reduceMul, Nat.reduceLeDiff, Nat.reduceLT, Int.reduceLT, Int.reduceLE, Int.reduceEq, Int.reduceNeg, Int.reduceToNat, Nat.reducePow, reduceIte, reduceCtorEq, i5, hcell_push, hcell_top, okW_push, okW_top, hcell_hset_ne, hcell_hset_off, hcell_hset_eq, okW_hset, hset_size, Array.size_push, Nat.lt_add_one, ne_add_one, add_one_ne, Nat.add_assoc, add_same, add_lt_same, Nat.reduceEqDiff, lt_add_k, add_k_ne, ne_add_k])|((with_reducible first|refine jW ?hy ?_|refine jY ?hy ?_);case hy=>rfl)|((with_reducible first|refine jX ?hy ?_|refine jZ ?hy ?_);case hy=>rfl)|((with_reducible refine jF ?hy ?_);case hy=>decide))
  generalize hH2 : hset _ _ _ = H2
  have hf2 : Fr (fun _ => False) H1 H2 := by rw [← hH2]; exact (by ((repeat (first | refine Fr.set ?_ (by simp) _ | refine Fr.push ?_ _)); exact Fr.refl _ _))
  have hs2 : H2.size = H1.size + 1 := by rw [← hH2]; simp [hset_size]
  clear hH2
  rw [← hs2]
  refine append_item (x := norm (zs i)) (hv.frame (hf2.push _) (fun _ _ h => h)) (readL_blk (Blk.new H2 (norm (zs i)).cells _) 3 0 0 (by simp [Sp.Item.cells])) (by omega) ?_
  intro v3 H3 B3 hv3 hf3 hB3
  have hf13 : Fr (fun b => B = some b) H1 H3 := ((hf2.push _).mono (fun _ _ h => h.elim)).trans hf3
  repeat' (first|(with_reducible refine xs_nil ?_)|((first|((with_reducible apply xs_rd);case hi=>rfl)|((with_reducible apply xs_guard_yes);(case hi=>rfl);(case hy=>rfl)));(case hr=>rfl);(case h1=>intro H' hS'; (try simp only [Cells, and_true] at hS');simp only [go_sem, Nat.reduceEqDiff, Nat.reduceAdd, Nat.reduceMul, Nat.reduceLeDiff, Nat.reduceLT, Int.reduceLT, Int.reduceLE, Int.reduceEq, Int.reduceNeg, Int.reduceToNat, Nat.reducePow, reduceIte, reduceCtorEq, i6, ew, hS']; rfl))|((with_reducible refine xs_tail ?hz ?_);case hz=>rfl)|((with_reducible refine xs_keep ?hz ?_);case hz=>first|(with_reducible assumption)|assumption|(simp only [go_sem, Nat.reduceEqDiff, Nat.reduceAdd, Nat.reduceMul, Nat.reduceLeDiff, Nat.reduceLT, Int.reduceLT, Int.reduceLE, Int.reduceEq, Int.reduceNeg, Int.reduceToNat, Nat.reducePow, reduceIte, reduceCtorEq, Cells, and_true, i6, ew]))|((with_reducible apply xs_guard_no);(case hi=>rfl);(case hy=>rfl);(case hS=>assumption))|((first|((with_reducible apply xs_op);(case hi=>rfl))|((with_reducible apply xs_op_yes);(case hi=>rfl);(case hy=>rfl)));(case hr=>rfl);intro K hK; simp only [go_sem, Nat.reduceEqDiff, Nat.reduceAdd, Nat.reduceMul, Nat.reduceLeDiff, Nat.reduceLT, Int.reduceLT, Int.reduceLE, Int.reduceEq, Int.reduceNeg, Int.reduceToNat, Nat.reducePow, reduceIte, reduceCtorEq, i6, ew])|(with_reducible first|refine jA ?_|(refine hK _ _ ?_;clear hK K)|refine jJ fun K hK=>?_|refine jK ?_|refine jL ?_|refine jM ?_|refine jN ?_|refine jO ?_|refine jP ?_|refine jQ ?_|(refine jB ?_;clear hK K)|(refine jC ?_;clear hK K)|refine jD ?_|refine jE ?_|refine jG ?_|refine jH ?_|refine jI ?_)|((with_reducible refine jR ?hq ?_);case hq=>rfl)|((first|(with_reducible first|refine jS fun K hK=>?_|refine jT ?_|refine jU ?_)|((with_reducible refine jV ?hy fun K hK=>?_);case hy=>rfl));simp only [go_sem, Nat.reduceEqDiff, Nat.reduceAdd, Nat.reduceMul, Nat.reduceLeDiff, Nat.reduceLT, Int.reduceLT, Int.reduceLE, Int.reduceEq, Int.reduceNeg, Int.reduceToNat, Nat.reducePow, reduceIte, reduceCtorEq, i6, ew])|((with_reducible first|refine jW ?hy ?_|refine jY ?hy ?_);case hy=>rfl)|((with_reducible first|refine jX ?hy ?_|refine jZ ?hy ?_);case hy=>rfl)|((with_reducible refine jF ?hy ?_);case hy=>decide))
  refine loop_normal (m' := most - (i + 1)) (by omega) ⟨i + 1, B3, v3, xs ++ [norm (zs i)], rfl, rfl, hv3, ?_, by simp [hxl], by omega, by omega, ?_, hf1.trans' hf13 fun b hb e => ?_, rfl⟩
  ·intro b hb
   rcases hB3 with h | ⟨g', h1, h2⟩
   ·exact hB b (h ▸ hb)
   ·rw [h1] at hb
    obtain rfl := Option.some.inj hb
    simp at h2
    omega
  ·intro x hx
   rcases List.mem_append.1 hx with hx | hx
   ·exact hmay x hx
   ·rw [List.mem_singleton.1 hx]; exact norm_may _
  ·have := hB b e; omega
 ·have hor : ¬ i < len ∨ (i < len ∧ ¬ i < most) := by
   by_cases h : i < len
   ·exact .inr ⟨h, fun h2 => hgo ⟨h, h2⟩⟩
   ·exact .inl h
  obtain ⟨a5, c5, hv5⟩ := hv.slice
  have i5' := i5.trans hv5
  rcases hor with h | ⟨h, h2⟩
  case' inl =>
   have t1 : (i < len) = False := by simp [h]
   repeat' (first|(with_reducible first|refine jA ?_|(refine hK _ _ ?_;clear hK K)|refine jJ fun K hK=>?_|refine jK ?_|refine jL ?_|refine jM ?_|refine jN ?_|refine jO ?_|refine jP ?_|refine jQ ?_|(refine jB ?_;clear hK K)|(refine jC ?_;clear hK K)|refine jD ?_|refine jE ?_|refine jG ?_|refine jH ?_|refine jI ?_)|((with_reducible refine jR ?hq ?_);case hq=>rfl)|((first|(with_reducible first|refine jS fun K hK=>?_|refine jT ?_|refine jU ?_)|((with_reducible refine jV ?hy fun K hK=>?_);case hy=>rfl));simp only [go_sem, Nat.reduceEqDiff, Nat.reduceAdd, Nat.reduceMul, Nat.reduceLeDiff, Nat.reduceLT, Int.reduceLT, Int.reduceLE, Int.reduceEq, Int.reduceNeg, Int.reduceToNat, Nat.reducePow, reduceIte, reduceCtorEq, i0, i1, i5', i6, t1])|((with_reducible first|refine jW ?hy ?_|refine jY ?hy ?_);case hy=>rfl)|((with_reducible first|refine jX ?hy ?_|refine jZ ?hy ?_);case hy=>rfl)|((with_reducible refine jF ?hy ?_);case hy=>decide))
  case' inr =>
   have t1 : (i < len) = True := by simp [h]
   have t2 : (i < most) = False := by simp [h2]
   repeat' (first|(with_reducible first|refine jA ?_|(refine hK _ _ ?_;clear hK K)|refine jJ fun K hK=>?_|refine jK ?_|refine jL ?_|refine jM ?_|refine jN ?_|refine jO ?_|refine jP ?_|refine jQ ?_|(refine jB ?_;clear hK K)|(refine jC ?_;clear hK K)|refine jD ?_|refine jE ?_|refine jG ?_|refine jH ?_|refine jI ?_)|((with_reducible refine jR ?hq ?_);case hq=>rfl)|((first|(with_reducible first|refine jS fun K hK=>?_|refine jT ?_|refine jU ?_)|((with_reducible refine jV ?hy fun K hK=>?_);case hy=>rfl));simp only [go_sem, Nat.reduceEqDiff, Nat.reduceAdd, Nat.reduceMul, Nat.reduceLeDiff, Nat.reduceLT, Int.reduceLT, Int.reduceLE, Int.reduceEq, Int.reduceNeg, Int.reduceToNat, Nat.reducePow, reduceIte, reduceCtorEq, i0, i1, i5', i6, t1, t2])|((with_reducible first|refine jW ?hy ?_|refine jY ?hy ?_);case hy=>rfl)|((with_reducible first|refine jX ?hy ?_|refine jZ ?hy ?_);case hy=>rfl)|((with_reducible refine jF ?hy ?_);case hy=>decide))
  all_goals
   by_cases hx0 : xs = []
   ·have t3 : ((xs.length : Int) == 0) = true := by simp [hx0]
    refine x_cond_true (show _ = Value.bool true by rw [← t3]; rfl) ?_
    repeat' (first|(with_reducible first|refine jA ?_|(refine hK _ _ ?_;clear hK K)|refine jJ fun K hK=>?_|refine jK ?_|refine jL ?_|refine jM ?_|refine jN ?_|refine jO ?_|refine jP ?_|refine jQ ?_|(refine jB ?_;clear hK K)|(refine jC ?_;clear hK K)|refine jD ?_|refine jE ?_|refine jG ?_|refine jH ?_|refine jI ?_)|((with_reducible refine jR ?hq ?_);case hq=>rfl)|((first|(with_reducible first|refine jS fun K hK=>?_|refine jT ?_|refine jU ?_)|((with_reducible refine jV ?hy fun K hK=>?_);case hy=>rfl));simp only [go_sem, Nat.reduceEqDiff, Nat.reduceAdd, Nat.reduceMul, Nat.reduceLeDiff, Nat.reduceLT, Int.reduceLT, Int.reduceLE, Int.reduceEq, Int.reduceNeg, Int.reduceToNat, Nat.reducePow, reduceIte, reduceCtorEq, i5'])|((with_reducible first|refine jW ?hy ?_|refine jY ?hy ?_);case hy=>rfl)|((with_reducible first|refine jX ?hy ?_|refine jZ ?hy ?_);case hy=>rfl)|((with_reducible refine jF ?hy ?_);case hy=>decide))
    rw [← hv5]
    refine append_item (x := ⟨1, true, 0⟩) (hv.frame ((Fr.refl _ _).push _) (fun _ _ h => h)) (readL_blk (Blk.new H1 (Sp.Item.cells ⟨1, true, 0⟩) _) 3 0 0 (by simp [Sp.Item.cells])) (by omega) ?_
    intro v3 H3 B3 hv3 hf3 hB3
    have hf13 : Fr (fun b => B = some b) H1 H3 := Fr.trans (Fr.mono (S := fun _ => False) ((Fr.refl _ _).push _) (fun _ _ h => h.elim)) hf3
    have hs1 := hf1.size
    repeat' (first|(with_reducible first|refine jA ?_|(refine hK _ _ ?_;clear hK K)|refine jJ fun K hK=>?_|refine jK ?_|refine jL ?_|refine jM ?_|refine jN ?_|refine jO ?_|refine jP ?_|refine jQ ?_|(refine jB ?_;clear hK K)|(refine jC ?_;clear hK K)|refine jD ?_|refine jE ?_|refine jG ?_|refine jH ?_|refine jI ?_)|((with_reducible refine jR ?hq ?_);case hq=>rfl)|((first|(with_reducible first|refine jS fun K hK=>?_|refine jT ?_|refine jU ?_)|((with_reducible refine jV ?hy fun K hK=>?_);case hy=>rfl));simp only [go_sem, Nat.reduceEqDiff, Nat.reduceAdd, Nat.reduceMul, Nat.reduceLeDiff, Nat.reduceLT, Int.reduceLT, Int.reduceLE, Int.reduceEq, Int.reduceNeg, Int.reduceToNat, Nat.reducePow, reduceIte, reduceCtorEq])|((with_reducible first|refine jW ?hy ?_|refine jY ?hy ?_);case hy=>rfl)|((with_reducible first|refine jX ?hy ?_|refine jZ ?hy ?_);case hy=>rfl)|((with_reducible refine jF ?hy ?_);case hy=>decide))
    refine fin _ B3 _ _ hv3 ?_ (by simp) (by simp [hx0]; omega) ?_ (hf1.trans' hf13 fun b hb e => ?_)
    ·intro b hb
     rcases hB3 with h | ⟨g', h1, h2⟩
     ·exact hB b (h ▸ hb)
     ·rw [h1] at hb
      obtain rfl := Option.some.inj hb
      simp at h2
      omega
    ·intro x hx
     rcases List.mem_append.1 hx with hx | hx
     ·exact hmay x hx
     ·rw [List.mem_singleton.1 hx]; exact ⟨by decide, by decide, by decide, by decide⟩
    ·have := hB b e; omega
   ·have t3 : ((xs.length : Int) == 0) = false := by simp [hx0]
    refine x_cond_false (show _ = Value.bool false by rw [← t3]; rfl) ?_
    repeat' (first|(with_reducible first|refine jA ?_|(refine hK _ _ ?_;clear hK K)|refine jJ fun K hK=>?_|refine jK ?_|refine jL ?_|refine jM ?_|refine jN ?_|refine jO ?_|refine jP ?_|refine jQ ?_|(refine jB ?_;clear hK K)|(refine jC ?_;clear hK K)|refine jD ?_|refine jE ?_|refine jG ?_|refine jH ?_|refine jI ?_)|((with_reducible refine jR ?hq ?_);case hq=>rfl)|((first|(with_reducible first|refine jS fun K hK=>?_|refine jT ?_|refine jU ?_)|((with_reducible refine jV ?hy fun K hK=>?_);case hy=>rfl));simp only [go_sem, Nat.reduceEqDiff, Nat.reduceAdd, Nat.reduceMul, Nat.reduceLeDiff, Nat.reduceLT, Int.reduceLT, Int.reduceLE, Int.reduceEq, Int.reduceNeg, Int.reduceToNat, Nat.reducePow, reduceIte, reduceCtorEq, i5'])|((with_reducible first|refine jW ?hy ?_|refine jY ?hy ?_);case hy=>rfl)|((with_reducible first|refine jX ?hy ?_|refine jZ ?hy ?_);case hy=>rfl)|((with_reducible refine jF ?hy ?_);case hy=>decide))
    rw [← hv5]
    have := List.length_pos_iff.2 hx0
    exact fin _ B _ _ hv hB (by omega) (by omega) hmay hf1
theorem Its.wr {H : Heap} {g n c : Nat} {xs : List Sp.Item} (h : Its H (some g) (.slice (some ⟨g, 0, none⟩) n c) xs) {i : Nat} (hi : i < xs.length) (y : Sp.Item) :
  okW H ⟨g, i * 3, none⟩ ∧ okW H ⟨g, i * 3 + 1, none⟩ ∧ okW H ⟨g, i * 3 + 2, none⟩ ∧
   Its (hset (hset (hset H ⟨g, i * 3, none⟩ (.int .i64 y.value)) ⟨g, i * 3 + 1, none⟩ (.bool y.counts)) ⟨g, i * 3 + 2, none⟩ (.int .i64 y.flags)) (some g) (.slice (some ⟨g, 0, none⟩) n c) (xs.set i y) := by
 obtain ⟨hl, h | ⟨g', c', rest, h1, h2, h3, h4, h5⟩⟩ := h
 ·cases h.1
 ·obtain rfl := Option.some.inj h1
  simp only [Value.slice.injEq] at h2
  obtain ⟨_, rfl, rfl⟩ := h2
  have hlen : ∀ j, j < 3 → i * 3 + j < (xs.flatMap Sp.Item.cells ++ rest).length := fun j hj => by
   rw [List.length_append, cells_len]; omega
  refine ⟨h3.okW (hlen 0 (by omega)), h3.okW (hlen 1 (by omega)), h3.okW (hlen 2 (by omega)), by rw [cells_len], .inr ⟨g, c, rest, rfl, by simp, ?_, ?_, by simpa using h5⟩⟩
  ·have := ((h3.set_same (i * 3) (.int .i64 y.value)).set_same (i * 3 + 1) (.bool y.counts)).set_same (i * 3 + 2) (.int .i64 y.flags)
   have e : (xs.map Sp.Item.cells).flatten = xs.flatMap Sp.Item.cells := by rw [List.flatMap_def]
   have r := rows3 (rows := xs.map Sp.Item.cells) (fun r hr => by obtain ⟨z, _, rfl⟩ := List.mem_map.1 hr; rfl) (i := i) (by simpa using hi) (.int .i64 y.value) (.bool y.counts) (.int .i64 y.flags) rest
   rw [e] at r
   rw [r] at this
   have e2 : ((xs.map Sp.Item.cells).set i [.int .i64 y.value, .bool y.counts, .int .i64 y.flags]).flatten = (xs.set i y).flatMap Sp.Item.cells := by
    rw [List.flatMap_def, List.map_set]; rfl
   rw [e2] at this
   exact this
  ·have := h4
   rw [List.length_append, cells_len] at this ⊢
   rw [List.length_set]; exact this
structure RgP (H : Heap) (x : Nat) (col : Nat → Nat) (R : Rf) (its : List Sp.Item) (inn : List Int) (L : List (List Int)) (q : Nat) (TR : Nat → Prop) (Bi : Option Nat) (vi : Value) (Bn : Option Nat) (vn : Value) (TL : Nat → Prop) (vl : Value) : Prop where
 b : Blk H x [.pointer (some ⟨q, 0, none⟩), vi, vn, vl]
 rf : RfM H q TR R
 it : Its H Bi vi its
 inn : OR (Value.int .i64) H Bn vn inn
 ls : LL (Value.int .i64) H TL vl L
 cx : col x = 1
 cr : ∀ b, TR b → col b = 2
 ci : ∀ b, Bi = some b → col b = 3
 cn : ∀ b, Bn = some b → col b = 4
 cl : ∀ b, TL b → col b = 5
 lt : ∀ b, col b ≠ 0 → b < H.size
section
variable {H : Heap} {x : Nat} {col : Nat → Nat} {R : Rf} {its : List Sp.Item} {inn : List Int} {L : List (List Int)} {q : Nat} {TR : Nat → Prop} {Bi : Option Nat} {vi : Value} {Bn : Option Nat} {vn : Value} {TL : Nat → Prop} {vl : Value} {K : Value → Heap → Prop}
theorem RgP.grow {H' : Heap} {S : Nat → Prop} (h : RgP H x col R its inn L q TR Bi vi Bn vn TL vl) (hf : Fr S H H') (hS : ∀ b, col b ≠ 0 → ¬ S b) : RgP H' x col R its inn L q TR Bi vi Bn vn TL vl where
 b := h.b.frame hf (hS x (by rw [h.cx]; decide))
 rf := h.rf.frame hf fun b hb => hS b (by rw [h.cr b hb]; decide)
 it := h.it.frame hf fun b hb => hS b (by rw [h.ci b hb]; decide)
 inn := h.inn.frame hf fun b hb => hS b (by rw [h.cn b hb]; decide)
 ls := h.ls.frame hf fun b hb => hS b (by rw [h.cl b hb]; decide)
 cx := h.cx
 cr := h.cr
 ci := h.ci
 cn := h.cn
 cl := h.cl
 lt := fun b hb => Nat.lt_of_lt_of_le (h.lt b hb) hf.size
theorem rg_has {i : Int} (hG : RgP H x col R its inn L q TR Bi vi Bn vn TL vl) (fin : K (.bool (R.hasB i)) H) :
  CallsH Try.prog 72 #[.pointer (some ⟨x, 0, none⟩), .int .i64 i] H K := by
 have c0 := hG.b.cellOf (i := 0) rfl
 refine call72 (by simp) ?_
 simp only [Try.f72, Option.getD_some]
 repeat' (first|(with_reducible first|refine jA ?_|(refine hK _ _ ?_;clear hK K)|refine jJ fun K hK=>?_|refine jK ?_|refine jL ?_|refine jM ?_|refine jN ?_|refine jO ?_|refine jP ?_|refine jQ ?_|(refine jB ?_;clear hK K)|(refine jC ?_;clear hK K)|refine jD ?_|refine jE ?_|refine jG ?_|refine jH ?_|refine jI ?_)|((with_reducible refine jR ?hq ?_);case hq=>rfl)|((first|(with_reducible first|refine jS fun K hK=>?_|refine jT ?_|refine jU ?_)|((with_reducible refine jV ?hy fun K hK=>?_);case hy=>rfl));simp only [go_sem, Nat.reduceEqDiff, Nat.reduceAdd, Nat.reduceMul, Nat.reduceLeDiff, Nat.reduceLT, Int.reduceLT, Int.reduceLE, Int.reduceEq, Int.reduceNeg, Int.reduceToNat, Nat.reducePow, reduceIte, reduceCtorEq, c0])|((with_reducible first|refine jW ?hy ?_|refine jY ?hy ?_);case hy=>rfl)|((with_reducible first|refine jX ?hy ?_|refine jZ ?hy ?_);case hy=>rfl)|((with_reducible refine jF ?hy ?_);case hy=>decide))
 refine rf_has hG.rf ?_
 repeat' (first|(with_reducible first|refine jA ?_|(refine hK _ _ ?_;clear hK K)|refine jJ fun K hK=>?_|refine jK ?_|refine jL ?_|refine jM ?_|refine jN ?_|refine jO ?_|refine jP ?_|refine jQ ?_|(refine jB ?_;clear hK K)|(refine jC ?_;clear hK K)|refine jD ?_|refine jE ?_|refine jG ?_|refine jH ?_|refine jI ?_)|((with_reducible refine jR ?hq ?_);case hq=>rfl)|((first|(with_reducible first|refine jS fun K hK=>?_|refine jT ?_|refine jU ?_)|((with_reducible refine jV ?hy fun K hK=>?_);case hy=>rfl));simp only [go_sem, Nat.reduceEqDiff, Nat.reduceAdd, Nat.reduceMul, Nat.reduceLeDiff, Nat.reduceLT, Int.reduceLT, Int.reduceLE, Int.reduceEq, Int.reduceNeg, Int.reduceToNat, Nat.reducePow, reduceIte, reduceCtorEq])|((with_reducible first|refine jW ?hy ?_|refine jY ?hy ?_);case hy=>rfl)|((with_reducible first|refine jX ?hy ?_|refine jZ ?hy ?_);case hy=>rfl)|((with_reducible refine jF ?hy ?_);case hy=>decide))
 exact fin
theorem rg_of {h n : Nat} {xs : List Int} (hG : RgP H x col R its inn L q TR Bi vi Bn vn TL vl) (h1 : inn[h]? = some (n : Int)) (h2 : L[n]? = some xs)
  (fin : ∀ B v, OR (Value.int .i64) H B v xs → (∀ b, B = some b → TL b) → K v H) :
  CallsH Try.prog 73 #[.pointer (some ⟨x, 0, none⟩), .int .i64 (h : Nat)] H K := by
 have c2 := hG.b.cellOf (i := 2) rfl
 have c3 := hG.b.cellOf (i := 3) rfl
 obtain ⟨gn, cn, rfl, rfl, d1⟩ := hG.inn.at h1
 obtain ⟨gl, cl, B, v, rfl, d2, o2, _, hB, _⟩ := hG.ls.at h2
 have l1 := (List.getElem?_eq_some_iff.1 h1).1
 have l2 := (List.getElem?_eq_some_iff.1 h2).1
 obtain ⟨a, c, rfl⟩ := o2.slice
 refine call73 (by simp) ?_
 simp only [Try.f73, Option.getD_some]
 repeat' (first|(with_reducible first|refine jA ?_|(refine hK _ _ ?_;clear hK K)|refine jJ fun K hK=>?_|refine jK ?_|refine jL ?_|refine jM ?_|refine jN ?_|refine jO ?_|refine jP ?_|refine jQ ?_|(refine jB ?_;clear hK K)|(refine jC ?_;clear hK K)|refine jD ?_|refine jE ?_|refine jG ?_|refine jH ?_|refine jI ?_)|((with_reducible refine jR ?hq ?_);case hq=>rfl)|((first|(with_reducible first|refine jS fun K hK=>?_|refine jT ?_|refine jU ?_)|((with_reducible refine jV ?hy fun K hK=>?_);case hy=>rfl));simp only [go_sem, Nat.reduceEqDiff, Nat.reduceAdd, Nat.reduceMul, Nat.reduceLeDiff, Nat.reduceLT, Int.reduceLT, Int.reduceLE, Int.reduceEq, Int.reduceNeg, Int.reduceToNat, Nat.reducePow, reduceIte, reduceCtorEq, c2, c3, d1, d2, l1, l2])|((with_reducible first|refine jW ?hy ?_|refine jY ?hy ?_);case hy=>rfl)|((with_reducible first|refine jX ?hy ?_|refine jZ ?hy ?_);case hy=>rfl)|((with_reducible refine jF ?hy ?_);case hy=>decide))
 exact fin B _ o2 fun b hb => (hB b hb).1
theorem rg_may {z : Sp.Item} (fin : ∀ H', Fr (fun _ => False) H H' → K (.bool (mayB z)) H') : CallsH Try.prog 70 #[z.val] H K := by
 have hb : mayB z = (decide (-1099511627776 ≤ z.value) && (decide (z.value ≤ 1099511627776) && (decide (0 ≤ z.flags) && decide (z.flags ≤ 255)))) := by
  unfold mayB
  rw [Bool.eq_iff_iff]
  simp only [decide_eq_true_iff, Bool.and_eq_true]
  omega
 rw [hb] at fin
 refine call70 (by simp) ?_
 simp only [Try.f70, Option.getD_some]
 by_cases h1 : -1099511627776 ≤ z.value
 ·have t1 : (-1099511627776 ≤ z.value) = True := by simp [h1]
  by_cases h2 : z.value ≤ 1099511627776
  ·have t2 : (z.value ≤ 1099511627776) = True := by simp [h2]
   by_cases h3 : 0 ≤ z.flags
   ·have t3 : (0 ≤ z.flags) = True := by simp [h3]
    by_cases h4 : z.flags ≤ 255
    ·have t4 : (z.flags ≤ 255) = True := by simp [h4]
     simp only [t1, t2, t3, t4, decide_true, Bool.true_and] at fin
     repeat' (first|(with_reducible first|refine jA ?_|(refine hK _ _ ?_;clear hK K)|refine jJ fun K hK=>?_|refine jK ?_|refine jL ?_|refine jM ?_|refine jN ?_|refine jO ?_|refine jP ?_|refine jQ ?_|(refine jB ?_;clear hK K)|(refine jC ?_;clear hK K)|refine jD ?_|refine jE ?_|refine jG ?_|refine jH ?_|refine jI ?_)|((with_reducible refine jR ?hq ?_);case hq=>rfl)|((first|(with_reducible first|refine jS fun K hK=>?_|refine jT ?_|refine jU ?_)|((with_reducible refine jV ?hy fun K hK=>?_);case hy=>rfl));simp only [go_sem, Nat.reduceEqDiff, Nat.reduceAdd, Nat.reduceMul, Nat.reduceLeDiff, Nat.reduceLT, Int.reduceLT, Int.reduceLE, Int.reduceEq, Int.reduceNeg, Int.reduceToNat, Nat.reducePow, reduceIte, reduceCtorEq, Sp.Item.val, t1, t2, t3, t4, hcell_push, hcell_top, okW_push, okW_top, hcell_hset_ne, hcell_hset_off, hcell_hset_eq, okW_hset, hset_size, Array.size_push, Nat.lt_add_one, ne_add_one, add_one_ne, Nat.add_assoc, add_same, add_lt_same, Nat.reduceEqDiff, lt_add_k, add_k_ne, ne_add_k])|((with_reducible first|refine jW ?hy ?_|refine jY ?hy ?_);case hy=>rfl)|((with_reducible first|refine jX ?hy ?_|refine jZ ?hy ?_);case hy=>rfl)|((with_reducible refine jF ?hy ?_);case hy=>decide))
     exact fin _ (by ((repeat (first | refine Fr.set ?_ (by simp) _ | refine Fr.push ?_ _)); exact Fr.refl _ _))
    ·have t4 : (z.flags ≤ 255) = False := by simp; omega
     simp only [t1, t2, t3, t4, decide_true, decide_false, Bool.true_and] at fin
     repeat' (first|(with_reducible first|refine jA ?_|(refine hK _ _ ?_;clear hK K)|refine jJ fun K hK=>?_|refine jK ?_|refine jL ?_|refine jM ?_|refine jN ?_|refine jO ?_|refine jP ?_|refine jQ ?_|(refine jB ?_;clear hK K)|(refine jC ?_;clear hK K)|refine jD ?_|refine jE ?_|refine jG ?_|refine jH ?_|refine jI ?_)|((with_reducible refine jR ?hq ?_);case hq=>rfl)|((first|(with_reducible first|refine jS fun K hK=>?_|refine jT ?_|refine jU ?_)|((with_reducible refine jV ?hy fun K hK=>?_);case hy=>rfl));simp only [go_sem, Nat.reduceEqDiff, Nat.reduceAdd, Nat.reduceMul, Nat.reduceLeDiff, Nat.reduceLT, Int.reduceLT, Int.reduceLE, Int.reduceEq, Int.reduceNeg, Int.reduceToNat, Nat.reducePow, reduceIte, reduceCtorEq, Sp.Item.val, t1, t2, t3, t4, hcell_push, hcell_top, okW_push, okW_top, hcell_hset_ne, hcell_hset_off, hcell_hset_eq, okW_hset, hset_size, Array.size_push, Nat.lt_add_one, ne_add_one, add_one_ne, Nat.add_assoc, add_same, add_lt_same, Nat.reduceEqDiff, lt_add_k, add_k_ne, ne_add_k])|((with_reducible first|refine jW ?hy ?_|refine jY ?hy ?_);case hy=>rfl)|((with_reducible first|refine jX ?hy ?_|refine jZ ?hy ?_);case hy=>rfl)|((with_reducible refine jF ?hy ?_);case hy=>decide))
     exact fin _ (by ((repeat (first | refine Fr.set ?_ (by simp) _ | refine Fr.push ?_ _)); exact Fr.refl _ _))
   ·have t3 : (0 ≤ z.flags) = False := by simp; omega
    simp only [t1, t2, t3, decide_true, decide_false, Bool.true_and, Bool.false_and] at fin
    repeat' (first|(with_reducible first|refine jA ?_|(refine hK _ _ ?_;clear hK K)|refine jJ fun K hK=>?_|refine jK ?_|refine jL ?_|refine jM ?_|refine jN ?_|refine jO ?_|refine jP ?_|refine jQ ?_|(refine jB ?_;clear hK K)|(refine jC ?_;clear hK K)|refine jD ?_|refine jE ?_|refine jG ?_|refine jH ?_|refine jI ?_)|((with_reducible refine jR ?hq ?_);case hq=>rfl)|((first|(with_reducible first|refine jS fun K hK=>?_|refine jT ?_|refine jU ?_)|((with_reducible refine jV ?hy fun K hK=>?_);case hy=>rfl));simp only [go_sem, Nat.reduceEqDiff, Nat.reduceAdd, Nat.reduceMul, Nat.reduceLeDiff, Nat.reduceLT, Int.reduceLT, Int.reduceLE, Int.reduceEq, Int.reduceNeg, Int.reduceToNat, Nat.reducePow, reduceIte, reduceCtorEq, Sp.Item.val, t1, t2, t3, hcell_push, hcell_top, okW_push, okW_top, hcell_hset_ne, hcell_hset_off, hcell_hset_eq, okW_hset, hset_size, Array.size_push, Nat.lt_add_one, ne_add_one, add_one_ne, Nat.add_assoc, add_same, add_lt_same, Nat.reduceEqDiff, lt_add_k, add_k_ne, ne_add_k])|((with_reducible first|refine jW ?hy ?_|refine jY ?hy ?_);case hy=>rfl)|((with_reducible first|refine jX ?hy ?_|refine jZ ?hy ?_);case hy=>rfl)|((with_reducible refine jF ?hy ?_);case hy=>decide))
    exact fin _ (by ((repeat (first | refine Fr.set ?_ (by simp) _ | refine Fr.push ?_ _)); exact Fr.refl _ _))
  ·have t2 : (z.value ≤ 1099511627776) = False := by simp; omega
   simp only [t1, t2, decide_true, decide_false, Bool.true_and, Bool.false_and] at fin
   repeat' (first|(with_reducible first|refine jA ?_|(refine hK _ _ ?_;clear hK K)|refine jJ fun K hK=>?_|refine jK ?_|refine jL ?_|refine jM ?_|refine jN ?_|refine jO ?_|refine jP ?_|refine jQ ?_|(refine jB ?_;clear hK K)|(refine jC ?_;clear hK K)|refine jD ?_|refine jE ?_|refine jG ?_|refine jH ?_|refine jI ?_)|((with_reducible refine jR ?hq ?_);case hq=>rfl)|((first|(with_reducible first|refine jS fun K hK=>?_|refine jT ?_|refine jU ?_)|((with_reducible refine jV ?hy fun K hK=>?_);case hy=>rfl));simp only [go_sem, Nat.reduceEqDiff, Nat.reduceAdd, Nat.reduceMul, Nat.reduceLeDiff, Nat.reduceLT, Int.reduceLT, Int.reduceLE, Int.reduceEq, Int.reduceNeg, Int.reduceToNat, Nat.reducePow, reduceIte, reduceCtorEq, Sp.Item.val, t1, t2, hcell_push, hcell_top, okW_push, okW_top, hcell_hset_ne, hcell_hset_off, hcell_hset_eq, okW_hset, hset_size, Array.size_push, Nat.lt_add_one, ne_add_one, add_one_ne, Nat.add_assoc, add_same, add_lt_same, Nat.reduceEqDiff, lt_add_k, add_k_ne, ne_add_k])|((with_reducible first|refine jW ?hy ?_|refine jY ?hy ?_);case hy=>rfl)|((with_reducible first|refine jX ?hy ?_|refine jZ ?hy ?_);case hy=>rfl)|((with_reducible refine jF ?hy ?_);case hy=>decide))
   exact fin _ (by ((repeat (first | refine Fr.set ?_ (by simp) _ | refine Fr.push ?_ _)); exact Fr.refl _ _))
 ·have t1 : (-1099511627776 ≤ z.value) = False := by simp; omega
  simp only [t1, decide_false, Bool.false_and] at fin
  repeat' (first|(with_reducible first|refine jA ?_|(refine hK _ _ ?_;clear hK K)|refine jJ fun K hK=>?_|refine jK ?_|refine jL ?_|refine jM ?_|refine jN ?_|refine jO ?_|refine jP ?_|refine jQ ?_|(refine jB ?_;clear hK K)|(refine jC ?_;clear hK K)|refine jD ?_|refine jE ?_|refine jG ?_|refine jH ?_|refine jI ?_)|((with_reducible refine jR ?hq ?_);case hq=>rfl)|((first|(with_reducible first|refine jS fun K hK=>?_|refine jT ?_|refine jU ?_)|((with_reducible refine jV ?hy fun K hK=>?_);case hy=>rfl));simp only [go_sem, Nat.reduceEqDiff, Nat.reduceAdd, Nat.reduceMul, Nat.reduceLeDiff, Nat.reduceLT, Int.reduceLT, Int.reduceLE, Int.reduceEq, Int.reduceNeg, Int.reduceToNat, Nat.reducePow, reduceIte, reduceCtorEq, Sp.Item.val, t1, hcell_push, hcell_top, okW_push, okW_top, hcell_hset_ne, hcell_hset_off, hcell_hset_eq, okW_hset, hset_size, Array.size_push, Nat.lt_add_one, ne_add_one, add_one_ne, Nat.add_assoc, add_same, add_lt_same, Nat.reduceEqDiff, lt_add_k, add_k_ne, ne_add_k])|((with_reducible first|refine jW ?hy ?_|refine jY ?hy ?_);case hy=>rfl)|((with_reducible first|refine jX ?hy ?_|refine jZ ?hy ?_);case hy=>rfl)|((with_reducible refine jF ?hy ?_);case hy=>decide))
  exact fin _ (by ((repeat (first | refine Fr.set ?_ (by simp) _ | refine Fr.push ?_ _)); exact Fr.refl _ _))
theorem rg_get_none {i : Int} (hG : RgP H x col R its inn L q TR Bi vi Bn vn TL vl) (hi : R.hasB i = false) (fin : ∀ H', Fr (fun _ => False) H H' → K (.tuple #[Sp.Item.zero.val, .int .i64 31]) H') :
  CallsH Try.prog 56 #[.pointer (some ⟨x, 0, none⟩), .int .i64 i] H K := by
 have fr0 : Fr (fun _ => False) H (H.push (.cells #[.int .i64 0, .bool false, .int .i64 0] 31)) := (Fr.refl _ _).push _
 have hG1 := hG.grow fr0 (fun _ _ h => h)
 refine call56 (by simp) ?_
 simp only [Try.f56, Option.getD_some]
 repeat' (first|(with_reducible first|refine jA ?_|(refine hK _ _ ?_;clear hK K)|refine jJ fun K hK=>?_|refine jK ?_|refine jL ?_|refine jM ?_|refine jN ?_|refine jO ?_|refine jP ?_|refine jQ ?_|(refine jB ?_;clear hK K)|(refine jC ?_;clear hK K)|refine jD ?_|refine jE ?_|refine jG ?_|refine jH ?_|refine jI ?_)|((with_reducible refine jR ?hq ?_);case hq=>rfl)|((first|(with_reducible first|refine jS fun K hK=>?_|refine jT ?_|refine jU ?_)|((with_reducible refine jV ?hy fun K hK=>?_);case hy=>rfl));simp only [go_sem, Nat.reduceEqDiff, Nat.reduceAdd, Nat.reduceMul, Nat.reduceLeDiff, Nat.reduceLT, Int.reduceLT, Int.reduceLE, Int.reduceEq, Int.reduceNeg, Int.reduceToNat, Nat.reducePow, reduceIte, reduceCtorEq])|((with_reducible first|refine jW ?hy ?_|refine jY ?hy ?_);case hy=>rfl)|((with_reducible first|refine jX ?hy ?_|refine jZ ?hy ?_);case hy=>rfl)|((with_reducible refine jF ?hy ?_);case hy=>decide))
 refine rg_has hG1 ?_
 rw [hi]
 repeat' (first|(with_reducible first|refine jA ?_|(refine hK _ _ ?_;clear hK K)|refine jJ fun K hK=>?_|refine jK ?_|refine jL ?_|refine jM ?_|refine jN ?_|refine jO ?_|refine jP ?_|refine jQ ?_|(refine jB ?_;clear hK K)|(refine jC ?_;clear hK K)|refine jD ?_|refine jE ?_|refine jG ?_|refine jH ?_|refine jI ?_)|((with_reducible refine jR ?hq ?_);case hq=>rfl)|((first|(with_reducible first|refine jS fun K hK=>?_|refine jT ?_|refine jU ?_)|((with_reducible refine jV ?hy fun K hK=>?_);case hy=>rfl));simp only [go_sem, Nat.reduceEqDiff, Nat.reduceAdd, Nat.reduceMul, Nat.reduceLeDiff, Nat.reduceLT, Int.reduceLT, Int.reduceLE, Int.reduceEq, Int.reduceNeg, Int.reduceToNat, Nat.reducePow, reduceIte, reduceCtorEq, hcell_push, hcell_top, okW_push, okW_top, hcell_hset_ne, hcell_hset_off, hcell_hset_eq, okW_hset, hset_size, Array.size_push, Nat.lt_add_one, ne_add_one, add_one_ne, Nat.add_assoc, add_same, add_lt_same, Nat.reduceEqDiff, lt_add_k, add_k_ne, ne_add_k])|((with_reducible first|refine jW ?hy ?_|refine jY ?hy ?_);case hy=>rfl)|((with_reducible first|refine jX ?hy ?_|refine jZ ?hy ?_);case hy=>rfl)|((with_reducible refine jF ?hy ?_);case hy=>decide))
 exact fin _ (by ((repeat (first | refine Fr.set ?_ (by simp) _ | refine Fr.push ?_ _)); exact Fr.refl _ _))
theorem rg_get {h : Nat} {z : Sp.Item} (hG : RgP H x col R its inn L q TR Bi vi Bn vn TL vl) (hi : R.hasB (h : Nat) = true) (hz : its[h]? = some z) (fin : ∀ H', Fr (fun _ => False) H H' → K (.tuple #[z.val, .int .i64 0]) H') :
  CallsH Try.prog 56 #[.pointer (some ⟨x, 0, none⟩), .int .i64 (h : Nat)] H K := by
 have fr0 : Fr (fun _ => False) H (H.push (.cells #[.int .i64 0, .bool false, .int .i64 0] 31)) := (Fr.refl _ _).push _
 have hG1 := hG.grow fr0 (fun _ _ h => h)
 have c1 := hG1.b.cellOf (i := 1) rfl
 obtain ⟨g, c, rfl, rfl, d0, d1, d2⟩ := hG1.it.read hz
 have hl := (List.getElem?_eq_some_iff.1 hz).1
 refine call56 (by simp) ?_
 simp only [Try.f56, Option.getD_some]
 repeat' (first|(with_reducible first|refine jA ?_|(refine hK _ _ ?_;clear hK K)|refine jJ fun K hK=>?_|refine jK ?_|refine jL ?_|refine jM ?_|refine jN ?_|refine jO ?_|refine jP ?_|refine jQ ?_|(refine jB ?_;clear hK K)|(refine jC ?_;clear hK K)|refine jD ?_|refine jE ?_|refine jG ?_|refine jH ?_|refine jI ?_)|((with_reducible refine jR ?hq ?_);case hq=>rfl)|((first|(with_reducible first|refine jS fun K hK=>?_|refine jT ?_|refine jU ?_)|((with_reducible refine jV ?hy fun K hK=>?_);case hy=>rfl));simp only [go_sem, Nat.reduceEqDiff, Nat.reduceAdd, Nat.reduceMul, Nat.reduceLeDiff, Nat.reduceLT, Int.reduceLT, Int.reduceLE, Int.reduceEq, Int.reduceNeg, Int.reduceToNat, Nat.reducePow, reduceIte, reduceCtorEq])|((with_reducible first|refine jW ?hy ?_|refine jY ?hy ?_);case hy=>rfl)|((with_reducible first|refine jX ?hy ?_|refine jZ ?hy ?_);case hy=>rfl)|((with_reducible refine jF ?hy ?_);case hy=>decide))
 refine rg_has hG1 ?_
 rw [hi]
 repeat' (first|(with_reducible first|refine jA ?_|(refine hK _ _ ?_;clear hK K)|refine jJ fun K hK=>?_|refine jK ?_|refine jL ?_|refine jM ?_|refine jN ?_|refine jO ?_|refine jP ?_|refine jQ ?_|(refine jB ?_;clear hK K)|(refine jC ?_;clear hK K)|refine jD ?_|refine jE ?_|refine jG ?_|refine jH ?_|refine jI ?_)|((with_reducible refine jR ?hq ?_);case hq=>rfl)|((first|(with_reducible first|refine jS fun K hK=>?_|refine jT ?_|refine jU ?_)|((with_reducible refine jV ?hy fun K hK=>?_);case hy=>rfl));simp only [go_sem, Nat.reduceEqDiff, Nat.reduceAdd, Nat.reduceMul, Nat.reduceLeDiff, Nat.reduceLT, Int.reduceLT, Int.reduceLE, Int.reduceEq, Int.reduceNeg, Int.reduceToNat, Nat.reducePow, reduceIte, reduceCtorEq, c1, hl, d0, d1, d2, okW_push, okW_top, Array.size_push])|((with_reducible first|refine jW ?hy ?_|refine jY ?hy ?_);case hy=>rfl)|((with_reducible first|refine jX ?hy ?_|refine jZ ?hy ?_);case hy=>rfl)|((with_reducible refine jF ?hy ?_);case hy=>decide))
 simp only [go_sem, Nat.reduceEqDiff, Nat.reduceAdd, Nat.reduceMul, Nat.reduceLeDiff, Nat.reduceLT, Int.reduceLT, Int.reduceLE, Int.reduceEq, Int.reduceNeg, Int.reduceToNat, Nat.reducePow, reduceIte, reduceCtorEq, okW_hset, okW_top, okW_push, hcell_push, hcell_top, okW_push, okW_top, hcell_hset_ne, hcell_hset_off, hcell_hset_eq, okW_hset, hset_size, Array.size_push, Nat.lt_add_one, ne_add_one, add_one_ne, Nat.add_assoc, add_same, add_lt_same, Nat.reduceEqDiff, lt_add_k, add_k_ne, ne_add_k]
 repeat' (first|(with_reducible first|refine jA ?_|(refine hK _ _ ?_;clear hK K)|refine jJ fun K hK=>?_|refine jK ?_|refine jL ?_|refine jM ?_|refine jN ?_|refine jO ?_|refine jP ?_|refine jQ ?_|(refine jB ?_;clear hK K)|(refine jC ?_;clear hK K)|refine jD ?_|refine jE ?_|refine jG ?_|refine jH ?_|refine jI ?_)|((with_reducible refine jR ?hq ?_);case hq=>rfl)|((first|(with_reducible first|refine jS fun K hK=>?_|refine jT ?_|refine jU ?_)|((with_reducible refine jV ?hy fun K hK=>?_);case hy=>rfl));simp only [go_sem, Nat.reduceEqDiff, Nat.reduceAdd, Nat.reduceMul, Nat.reduceLeDiff, Nat.reduceLT, Int.reduceLT, Int.reduceLE, Int.reduceEq, Int.reduceNeg, Int.reduceToNat, Nat.reducePow, reduceIte, reduceCtorEq, Sp.Item.val, hcell_push, hcell_top, okW_push, okW_top, hcell_hset_ne, hcell_hset_off, hcell_hset_eq, okW_hset, hset_size, Array.size_push, Nat.lt_add_one, ne_add_one, add_one_ne, Nat.add_assoc, add_same, add_lt_same, Nat.reduceEqDiff, lt_add_k, add_k_ne, ne_add_k])|((with_reducible first|refine jW ?hy ?_|refine jY ?hy ?_);case hy=>rfl)|((with_reducible first|refine jX ?hy ?_|refine jZ ?hy ?_);case hy=>rfl)|((with_reducible refine jF ?hy ?_);case hy=>decide))
 exact fin _ (by ((repeat (first | refine Fr.set ?_ (by simp) _ | refine Fr.push ?_ _)); exact Fr.refl _ _))
theorem RgP.old (h : RgP H x col R its inn L q TR Bi vi Bn vn TL vl) {b n' k j : Nat} (hj : col b = j) (h0 : j ≠ 0) : extC col H.size n' k b = j := by
 rw [extC_old (h.lt b (by rw [hj]; exact h0)), hj]
theorem RgP.setRf {H' : Heap} {R' : Rf} {TR' : Nat → Prop} (h : RgP H x col R its inn L q TR Bi vi Bn vn TL vl) (hf : Fr TR H H') (hr : RfM H' q TR' R') (hT : ∀ b, TR' b → TR b ∨ H.size ≤ b) :
  RgP H' x (extC col H.size H'.size 2) R' its inn L q TR' Bi vi Bn vn TL vl ∧ Nx col (extC col H.size H'.size 2) H H' := by
 have hne : ∀ b, col b ≠ 2 → ¬ TR b := fun b hb e => hb (h.cr b e)
 refine ⟨⟨h.b.frame hf (hne _ (by rw [h.cx]; decide)), hr, h.it.frame hf fun b hb => hne b (by rw [h.ci b hb]; decide), h.inn.frame hf fun b hb => hne b (by rw [h.cn b hb]; decide), h.ls.frame hf fun b hb => hne b (by rw [h.cl b hb]; decide),
  h.old h.cx (by decide), fun b hb => ?_, fun b hb => h.old (h.ci b hb) (by decide), fun b hb => h.old (h.cn b hb) (by decide), fun b hb => h.old (h.cl b hb) (by decide), fun b hb => extC_lt hf.size hb⟩, Nx.ext hf fun b hb => by rw [h.cr b hb]; decide⟩
 rcases hT b hb with h' | h'
 ·exact h.old (h.cr b h') (by decide)
 ·exact extC_new h' (hr.lt hb)
theorem RgP.wrIt {z : Sp.Item} {i gi n c : Nat} (h : RgP H x col R its inn L q TR (some gi) (.slice (some ⟨gi, 0, none⟩) n c) Bn vn TL vl) (hi : i < its.length) :
  okW H ⟨gi, i * 3, none⟩ ∧ okW H ⟨gi, i * 3 + 1, none⟩ ∧ okW H ⟨gi, i * 3 + 2, none⟩ ∧
   RgP (hset (hset (hset H ⟨gi, i * 3, none⟩ (.int .i64 z.value)) ⟨gi, i * 3 + 1, none⟩ (.bool z.counts)) ⟨gi, i * 3 + 2, none⟩ (.int .i64 z.flags)) x col R (its.set i z) inn L q TR (some gi) (.slice (some ⟨gi, 0, none⟩) n c) Bn vn TL vl ∧
   Nx col col H (hset (hset (hset H ⟨gi, i * 3, none⟩ (.int .i64 z.value)) ⟨gi, i * 3 + 1, none⟩ (.bool z.counts)) ⟨gi, i * 3 + 2, none⟩ (.int .i64 z.flags)) := by
 obtain ⟨w0, w1, w2, hk⟩ := h.it.wr hi z
 have hf : Fr (· = gi) H (hset (hset (hset H ⟨gi, i * 3, none⟩ (.int .i64 z.value)) ⟨gi, i * 3 + 1, none⟩ (.bool z.counts)) ⟨gi, i * 3 + 2, none⟩ (.int .i64 z.flags)) :=
  Fr.set (S := (· = gi)) (a := ⟨gi, i * 3 + 2, none⟩) (Fr.set (S := (· = gi)) (a := ⟨gi, i * 3 + 1, none⟩) (Fr.set (S := (· = gi)) (a := ⟨gi, i * 3, none⟩) (Fr.refl _ H) (.inl rfl) _) (.inl rfl) _) (.inl rfl) _
 have hck := h.ci gi rfl
 have hne : ∀ b, col b ≠ 3 → ¬ b = gi := by
  rintro b h4 rfl
  exact h4 hck
 exact ⟨w0, w1, w2, ⟨h.b.frame hf (hne _ (by rw [h.cx]; decide)), h.rf.frame hf fun b hb => hne b (by rw [h.cr b hb]; decide), hk, h.inn.frame hf fun b hb => hne b (by rw [h.cn b hb]; decide), h.ls.frame hf fun b hb => hne b (by rw [h.cl b hb]; decide),
  h.cx, h.cr, h.ci, h.cn, h.cl, fun b hb => by simp only [hset_size]; exact h.lt b hb⟩, Nx.same hf fun b (e : b = gi) => by rw [e, hck]; decide⟩
theorem RgP.wrIn {z : Int} {i gi n c : Nat} (h : RgP H x col R its inn L q TR Bi vi (some gi) (.slice (some ⟨gi, 0, none⟩) n c) TL vl) (hi : i < inn.length) :
  okW H ⟨gi, i, none⟩ ∧ RgP (hset H ⟨gi, i, none⟩ (.int .i64 z)) x col R its (inn.set i z) L q TR Bi vi (some gi) (.slice (some ⟨gi, 0, none⟩) n c) TL vl ∧ Nx col col H (hset H ⟨gi, i, none⟩ (.int .i64 z)) := by
 obtain ⟨w, hk⟩ := h.inn.write hi z
 have hf : Fr (· = gi) H (hset H ⟨gi, i, none⟩ (.int .i64 z)) := Fr.set (S := (· = gi)) (a := ⟨gi, i, none⟩) (Fr.refl _ H) (.inl rfl) _
 have hck := h.cn gi rfl
 have hne : ∀ b, col b ≠ 4 → ¬ b = gi := by
  rintro b h4 rfl
  exact h4 hck
 exact ⟨w, ⟨h.b.frame hf (hne _ (by rw [h.cx]; decide)), h.rf.frame hf fun b hb => hne b (by rw [h.cr b hb]; decide), h.it.frame hf fun b hb => hne b (by rw [h.ci b hb]; decide), hk, h.ls.frame hf fun b hb => hne b (by rw [h.cl b hb]; decide),
  h.cx, h.cr, h.ci, h.cn, h.cl, fun b hb => by rw [hset_size]; exact h.lt b hb⟩, Nx.same hf fun b (e : b = gi) => by rw [e, hck]; decide⟩
end
end Go.Proofs.Ytndkbhlfbeiniaa
namespace Go.Hp
open Go
set_option linter.unusedVariables false
theorem LL.clear {α : Type} {C : α → Value} {H : Heap} {T : Nat → Prop} {va : Value} {L : List (List α)} {i : Nat} (h : LL C H T va L) (hi : i < L.length) :
  ∃ g c, va = .slice (some ⟨g, 0, none⟩) L.length c ∧ okW H ⟨g, i, none⟩ ∧ T g ∧ LL C (hset H ⟨g, i, none⟩ (.slice none 0 0)) T va (L.set i []) := by
 obtain ⟨Ba, es, h1, h2, h3, h4, h5, h6, h7⟩ := h
 obtain ⟨e, he⟩ : ∃ e, es[i]? = some e := ⟨_, List.getElem?_eq_getElem (by omega)⟩
 obtain ⟨g, c, rfl, rfl, hc⟩ := h2.at he
 obtain ⟨w, h2'⟩ := h2.write (i := i) (by omega) ((none, .slice none 0 0) : Option Nat × Value)
 have hfr : Fr (· = g) H (hset H ⟨g, i, none⟩ (.slice none 0 0)) := Fr.set (S := (· = g)) (a := ⟨g, i, none⟩) (Fr.refl _ H) (.inl rfl) _
 have hes : ∀ (j : Nat) (e : Option Nat × Value), (es.set i (none, .slice none 0 0))[j]? = some e → (j = i ∧ e = (none, .slice none 0 0)) ∨ (j ≠ i ∧ es[j]? = some e) := by
  intro j e hj
  rw [List.getElem?_set] at hj
  by_cases hji : i = j
  ·rw [if_pos hji, if_pos (by omega)] at hj
   exact .inl ⟨hji.symm, (Option.some.inj hj).symm⟩
  ·rw [if_neg hji] at hj
   exact .inr ⟨fun e => hji e.symm, hj⟩
 have hsl : ∀ (j : Nat) (zs : List α), (L.set i [])[j]? = some zs → (j = i ∧ zs = []) ∨ (j ≠ i ∧ L[j]? = some zs) := by
  intro j zs hj
  rw [List.getElem?_set] at hj
  by_cases hji : i = j
  ·rw [if_pos hji, if_pos hi] at hj
   exact .inl ⟨hji.symm, (Option.some.inj hj).symm⟩
  ·rw [if_neg hji] at hj
   exact .inr ⟨fun e => hji e.symm, hj⟩
 refine ⟨g, c, by rw [h1], w, h6 g rfl, some g, es.set i (none, .slice none 0 0), by simpa using h1, h2', fun j e zs hj hz => ?_, fun j k e e' g' hj hk hg1 hg2 => ?_, fun j e g' hj hg1 => ?_, h6, fun b hb => by rw [hset_size]; exact h7 b hb⟩
 ·rcases hes j e hj with ⟨rfl, rfl⟩ | ⟨hne, hj'⟩
  ·rcases hsl j zs hz with ⟨_, rfl⟩ | ⟨hne, _⟩
   ·exact OR.nil _ _
   ·exact absurd rfl hne
  ·rcases hsl j zs hz with ⟨rfl, _⟩ | ⟨_, hz'⟩
   ·exact absurd rfl hne
   ·exact (h3 j e zs hj' hz').frame hfr fun g' hg' (e' : g' = g) => (h5 j e g' hj' hg').1 (by rw [e'])
 ·rcases hes j e hj with ⟨rfl, rfl⟩ | ⟨_, hj'⟩
  ·cases hg1
  ·rcases hes k e' hk with ⟨rfl, rfl⟩ | ⟨_, hk'⟩
   ·cases hg2
   ·exact h4 j k e e' g' hj' hk' hg1 hg2
 ·rcases hes j e hj with ⟨rfl, rfl⟩ | ⟨_, hj'⟩
  ·cases hg1
  ·exact h5 j e g' hj' hg1
end Go.Hp
namespace Go.Proofs.Ytndkbhlfbeiniaa
open Go Go.Hp Go.Sp
set_option linter.all false
set_option maxRecDepth 100000
set_option maxHeartbeats 1600000
section
variable {H : Heap} {x : Nat} {col : Nat → Nat} {R : Rf} {its : List Sp.Item} {inn : List Int} {L : List (List Int)} {q : Nat} {TR : Nat → Prop} {Bi : Option Nat} {vi : Value} {Bn : Option Nat} {vn : Value} {TL : Nat → Prop} {vl : Value} {K : Value → Heap → Prop}
theorem RgP.setIt {H' : Heap} {its' : List Sp.Item} {Bi' : Option Nat} {vi' : Value} (h : RgP H x col R its inn L q TR Bi vi Bn vn TL vl) (hf : Fr (fun b => Bi = some b) H H') (hk : Its H' Bi' vi' its') (hB : Bi' = Bi ∨ ∃ g, Bi' = some g ∧ H.size ≤ g) :
  okW H' ⟨x, 1, none⟩ ∧ RgP (hset H' ⟨x, 1, none⟩ vi') x (extC col H.size H'.size 3) R its' inn L q TR Bi' vi' Bn vn TL vl ∧ Nx col (extC col H.size H'.size 3) H (hset H' ⟨x, 1, none⟩ vi') := by
 have hsz : (hset H' ⟨x, 1, none⟩ vi').size = H'.size := hset_size ..
 have hb := h.b.frame hf fun e => by have := h.ci x e; rw [h.cx] at this; cases this
 have hf2 : Fr (fun b => Bi = some b ∨ b = x) H (hset H' ⟨x, 1, none⟩ vi') := Fr.set (S := fun b => Bi = some b ∨ b = x) (a := ⟨x, 1, none⟩) (hf.mono fun b _ h => .inl h) (.inl (.inr rfl)) _
 have hne : ∀ b, col b ≠ 3 → col b ≠ 1 → ¬ (Bi = some b ∨ b = x) := by
  rintro b h4 h1 (e | rfl)
  ·exact h4 (h.ci b e)
  ·exact h1 h.cx
 have hBn : ∀ b, Bi' = some b → extC col H.size H'.size 3 b = 3 := fun b hb => by
  rcases hB with rfl | ⟨g', rfl, hg'⟩
  ·exact h.old (h.ci b hb) (by decide)
  ·have hl := hk.lt hb
   rw [← Option.some.inj hb] at hl ⊢
   exact extC_new hg' hl
 have hcs := h.old (n' := H'.size) (k := 3) h.cx (by decide)
 have hnx : Nx col (extC col H.size H'.size 3) H (hset H' ⟨x, 1, none⟩ vi') := by
  rw [← hsz]
  refine Nx.ext hf2 ?_
  rintro b (e | rfl)
  ·rw [h.ci b e]; decide
  ·rw [h.cx]; decide
 refine ⟨hb.okW (by simp), ⟨hb.set_same 1 vi', h.rf.frame hf2 fun b hb => hne b (by rw [h.cr b hb]; decide) (by rw [h.cr b hb]; decide),
  hk.frame (Fr.set (S := (· = x)) (a := ⟨x, 1, none⟩) (Fr.refl _ H') (.inl rfl) _) (fun b hb' e => ?_),
  h.inn.frame hf2 fun b hb => hne b (by rw [h.cn b hb]; decide) (by rw [h.cn b hb]; decide), h.ls.frame hf2 fun b hb => hne b (by rw [h.cl b hb]; decide) (by rw [h.cl b hb]; decide),
  hcs, fun b hb => h.old (h.cr b hb) (by decide), hBn, fun b hb => h.old (h.cn b hb) (by decide), fun b hb => h.old (h.cl b hb) (by decide), fun b hb => by rw [hsz]; exact extC_lt hf.size hb⟩, hnx⟩
 have := hBn b hb'
 rw [e, hcs] at this
 cases this
theorem RgP.setIn {H' : Heap} {inn' : List Int} {Bn' : Option Nat} {vn' : Value} (h : RgP H x col R its inn L q TR Bi vi Bn vn TL vl) (hf : Fr (fun b => Bn = some b) H H') (hk : OR (Value.int .i64) H' Bn' vn' inn') (hB : Bn' = Bn ∨ ∃ g, Bn' = some g ∧ H.size ≤ g) :
  okW H' ⟨x, 2, none⟩ ∧ RgP (hset H' ⟨x, 2, none⟩ vn') x (extC col H.size H'.size 4) R its inn' L q TR Bi vi Bn' vn' TL vl ∧ Nx col (extC col H.size H'.size 4) H (hset H' ⟨x, 2, none⟩ vn') := by
 have hsz : (hset H' ⟨x, 2, none⟩ vn').size = H'.size := hset_size ..
 have hb := h.b.frame hf fun e => by have := h.cn x e; rw [h.cx] at this; cases this
 have hf2 : Fr (fun b => Bn = some b ∨ b = x) H (hset H' ⟨x, 2, none⟩ vn') := Fr.set (S := fun b => Bn = some b ∨ b = x) (a := ⟨x, 2, none⟩) (hf.mono fun b _ h => .inl h) (.inl (.inr rfl)) _
 have hne : ∀ b, col b ≠ 4 → col b ≠ 1 → ¬ (Bn = some b ∨ b = x) := by
  rintro b h4 h1 (e | rfl)
  ·exact h4 (h.cn b e)
  ·exact h1 h.cx
 have hBn : ∀ b, Bn' = some b → extC col H.size H'.size 4 b = 4 := fun b hb => by
  rcases hB with rfl | ⟨g', rfl, hg'⟩
  ·exact h.old (h.cn b hb) (by decide)
  ·have hl := hk.lt hb
   rw [← Option.some.inj hb] at hl ⊢
   exact extC_new hg' hl
 have hcs := h.old (n' := H'.size) (k := 4) h.cx (by decide)
 have hnx : Nx col (extC col H.size H'.size 4) H (hset H' ⟨x, 2, none⟩ vn') := by
  rw [← hsz]
  refine Nx.ext hf2 ?_
  rintro b (e | rfl)
  ·rw [h.cn b e]; decide
  ·rw [h.cx]; decide
 refine ⟨hb.okW (by simp), ⟨hb.set_same 2 vn', h.rf.frame hf2 fun b hb => hne b (by rw [h.cr b hb]; decide) (by rw [h.cr b hb]; decide), h.it.frame hf2 fun b hb => hne b (by rw [h.ci b hb]; decide) (by rw [h.ci b hb]; decide),
  hk.frame (Fr.set (S := (· = x)) (a := ⟨x, 2, none⟩) (Fr.refl _ H') (.inl rfl) _) (fun b hb' e => ?_), h.ls.frame hf2 fun b hb => hne b (by rw [h.cl b hb]; decide) (by rw [h.cl b hb]; decide),
  hcs, fun b hb => h.old (h.cr b hb) (by decide), fun b hb => h.old (h.ci b hb) (by decide), hBn, fun b hb => h.old (h.cl b hb) (by decide), fun b hb => by rw [hsz]; exact extC_lt hf.size hb⟩, hnx⟩
 have := hBn b hb'
 rw [e, hcs] at this
 cases this
theorem RgP.chL {H' : Heap} {M : List (List Int)} {TL' : Nat → Prop} (h : RgP H x col R its inn L q TR Bi vi Bn vn TL vl) (hf : Fr TL H H') (hk : LL (Value.int .i64) H' TL' vl M) (hB : ∀ b, TL' b → TL b ∨ H.size ≤ b) :
  RgP H' x (extC col H.size H'.size 5) R its inn M q TR Bi vi Bn vn TL' vl ∧ Nx col (extC col H.size H'.size 5) H H' := by
 have hne : ∀ b, col b ≠ 5 → ¬ TL b := fun b h5 e => h5 (h.cl b e)
 refine ⟨⟨h.b.frame hf (hne _ (by rw [h.cx]; decide)), h.rf.frame hf fun b hb => hne b (by rw [h.cr b hb]; decide), h.it.frame hf fun b hb => hne b (by rw [h.ci b hb]; decide), h.inn.frame hf fun b hb => hne b (by rw [h.cn b hb]; decide), hk,
  h.old h.cx (by decide), fun b hb => h.old (h.cr b hb) (by decide), fun b hb => h.old (h.ci b hb) (by decide), fun b hb => h.old (h.cn b hb) (by decide), fun b hb => ?_, fun b hb => extC_lt hf.size hb⟩, Nx.ext hf fun b e => by rw [h.cl b e]; decide⟩
 rcases hB b hb with e | e
 ·exact h.old (h.cl b e) (by decide)
 ·exact extC_new e (hk.lt hb)
theorem RgP.setL {H' : Heap} {M : List (List Int)} {TL' : Nat → Prop} {vl' : Value} (h : RgP H x col R its inn L q TR Bi vi Bn vn TL vl) (hf : Fr TL H H') (hk : LL (Value.int .i64) H' TL' vl' M) (hB : ∀ b, TL' b → TL b ∨ H.size ≤ b) :
  okW H' ⟨x, 3, none⟩ ∧ RgP (hset H' ⟨x, 3, none⟩ vl') x (extC col H.size H'.size 5) R its inn M q TR Bi vi Bn vn TL' vl' ∧ Nx col (extC col H.size H'.size 5) H (hset H' ⟨x, 3, none⟩ vl') := by
 have hsz : (hset H' ⟨x, 3, none⟩ vl').size = H'.size := hset_size ..
 have hb := h.b.frame hf fun e => by have := h.cl x e; rw [h.cx] at this; cases this
 have hf2 : Fr (fun b => TL b ∨ b = x) H (hset H' ⟨x, 3, none⟩ vl') := Fr.set (S := fun b => TL b ∨ b = x) (a := ⟨x, 3, none⟩) (hf.mono fun b _ h => .inl h) (.inl (.inr rfl)) _
 have hne : ∀ b, col b ≠ 5 → col b ≠ 1 → ¬ (TL b ∨ b = x) := by
  rintro b h4 h1 (e | rfl)
  ·exact h4 (h.cl b e)
  ·exact h1 h.cx
 have hBn : ∀ b, TL' b → extC col H.size H'.size 5 b = 5 := fun b hb => by
  rcases hB b hb with e | e
  ·exact h.old (h.cl b e) (by decide)
  ·exact extC_new e (hk.lt hb)
 have hcs := h.old (n' := H'.size) (k := 5) h.cx (by decide)
 have hnx : Nx col (extC col H.size H'.size 5) H (hset H' ⟨x, 3, none⟩ vl') := by
  rw [← hsz]
  refine Nx.ext hf2 ?_
  rintro b (e | rfl)
  ·rw [h.cl b e]; decide
  ·rw [h.cx]; decide
 refine ⟨hb.okW (by simp), ⟨hb.set_same 3 vl', h.rf.frame hf2 fun b hb => hne b (by rw [h.cr b hb]; decide) (by rw [h.cr b hb]; decide), h.it.frame hf2 fun b hb => hne b (by rw [h.ci b hb]; decide) (by rw [h.ci b hb]; decide), h.inn.frame hf2 fun b hb => hne b (by rw [h.cn b hb]; decide) (by rw [h.cn b hb]; decide),
  hk.frame (Fr.set (S := (· = x)) (a := ⟨x, 3, none⟩) (Fr.refl _ H') (.inl rfl) _) (fun b hb' e => ?_),
  hcs, fun b hb => h.old (h.cr b hb) (by decide), fun b hb => h.old (h.ci b hb) (by decide), fun b hb => h.old (h.cn b hb) (by decide), hBn, fun b hb => by rw [hsz]; exact extC_lt hf.size hb⟩, hnx⟩
 have := hBn b hb'
 rw [e, hcs] at this
 cases this
end
end Go.Proofs.Ytndkbhlfbeiniaa
