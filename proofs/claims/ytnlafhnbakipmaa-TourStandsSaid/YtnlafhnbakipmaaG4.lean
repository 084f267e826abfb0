/-
  Tours in memory; the program's small functions: has, begin, behind, turn, step, gone.
  Tours in memory: a step more, a step gone.
  Tours: turned, linked, cut, valued, marked: what is known behind it (plain).
  Tours in memory for whoever uses them; Link.
  Tours cut: what is known behind it (plain).
-/
import Derived.Test.YtnlafhnbakipmaaG2
import Derived.Test.YtnlafhnbakipmaaHpMa
import Derived.Test.YtnlafhnbakipmaaG3
namespace Go.Proofs.Ytnlafhnbakipmaa
open Go Go.Hp Go.Sp Go.To
set_option linter.all false
set_option maxRecDepth 100000
set_option maxHeartbeats 1600000
def natV (h : Nat) : Value := .int .i64 h
@[go_sem] theorem mapT_steps : mapT Try.prog 72 = some (83, .int .i64 0) := by kernel_rfl
@[go_sem] theorem mapT_pairs : mapT Try.prog 73 = some (3, .agg #[.int .i64 0, .int .i64 0]) := by kernel_rfl
theorem tabI : ∃ tk, tab Try.prog 3 = some tk ∧ tk.desc = .int .i64 ∧ tk.size = 1 := by
 have h : (tab Try.prog 3).map (fun tk => (decide (tk.size = 1), match tk.desc with | .int .i64 => true | _ => false)) = some (true, true) := by kernel_rfl
 cases ht : tab Try.prog 3 with
 | none => rw [ht] at h; cases h
 | some tk =>
  rw [ht] at h
  simp only [Option.map_some, Option.some.injEq, Prod.mk.injEq, decide_eq_true_iff] at h
  refine ⟨tk, rfl, ?_, h.1⟩
  have h2 := h.2
  split at h2
  ·rename_i hd; exact hd
  ·cases h2
theorem tabA : ∃ tk, tab Try.prog 83 = some tk ∧ tk.desc = .array 2 3 := by
 have h : (tab Try.prog 83).map (fun tk => match tk.desc with | .array 2 e => decide (e = 3) | _ => false) = some true := by kernel_rfl
 cases ht : tab Try.prog 83 with
 | none => rw [ht] at h; cases h
 | some tk =>
  rw [ht] at h
  simp only [Option.map_some, Option.some.injEq] at h
  refine ⟨tk, rfl, ?_⟩
  split at h
  ·rename_i hd
   simp only [decide_eq_true_iff] at h
   rw [hd, h]
  ·cases h
theorem kInt : KeyT Try.prog 3 intK := by
 obtain ⟨tk, h1, h2, _⟩ := tabI
 exact keyInt h1 h2
theorem kArr : KeyT Try.prog 83 arrK := by
 obtain ⟨tk, h1, h2⟩ := tabA
 obtain ⟨te, h3, h4, h5⟩ := tabI
 exact keyArr h1 h2 h3 h4 h5
structure ToAt (H : Heap) (t f : Nat) (Tf : Nat → Prop) (S : Sq) (B c r1 r2 n : Nat) (st : Int × Int → Option Nat) (pr : Int → Option (Int × Int)) : Prop where
 hd : Blk H t [.pointer (some ⟨f, 0, none⟩), .slice (some ⟨B, 0, none⟩) n c, .map (some r1), .map (some r2)]
 fo : FoM H f Tf S
 sp : IR H (some B) (.slice (some ⟨B, 0, none⟩) n c) ((List.range n).map fun v => ((v + 1 : Nat) : Int))
 m1 : ∃ k, MapF arrK natV H r1 st k
 m2 : ∃ k, MapF intK arrK H r2 pr k
 ap : ¬ Tf t ∧ ¬ Tf B ∧ ¬ Tf r1 ∧ ¬ Tf r2 ∧ t ≠ B ∧ t ≠ r1 ∧ t ≠ r2 ∧ B ≠ r1 ∧ B ≠ r2 ∧ r1 ≠ r2
def ToFt (t : Nat) (Tf : Nat → Prop) (B r1 r2 : Nat) (b : Nat) : Prop := b = t ∨ b = B ∨ b = r1 ∨ b = r2 ∨ Tf b
section
variable {H H' : Heap} {t f : Nat} {Tf T' : Nat → Prop} {S S' : Sq} {B c r1 r2 n : Nat} {st st' : Int × Int → Option Nat} {pr pr' : Int → Option (Int × Int)} {K : Value → Heap → Prop}
theorem ToAt.lt (h : ToAt H t f Tf S B c r1 r2 n st pr) : ∀ b, ToFt t Tf B r1 r2 b → b < H.size := by
 rintro b (rfl | rfl | rfl | rfl | hb)
 ·exact h.hd.lt
 ·exact h.sp.lt rfl
 ·exact h.m1.choose_spec.lt
 ·exact h.m2.choose_spec.lt
 ·exact h.fo.lt hb
theorem ToAt.frame {T0 : Nat → Prop} (h : ToAt H t f Tf S B c r1 r2 n st pr) (hf : Fr T0 H H') (hT : ∀ b, ToFt t Tf B r1 r2 b → ¬ T0 b) : ToAt H' t f Tf S B c r1 r2 n st pr where
 hd := h.hd.frame hf (hT _ (.inl rfl))
 fo := h.fo.frame hf fun b hb => hT b (.inr (.inr (.inr (.inr hb))))
 sp := h.sp.frame hf fun g hg => by obtain rfl := Option.some.inj hg; exact hT _ (.inr (.inl rfl))
 m1 := ⟨_, h.m1.choose_spec.frame hf (hT _ (.inr (.inr (.inl rfl))))⟩
 m2 := ⟨_, h.m2.choose_spec.frame hf (hT _ (.inr (.inr (.inr (.inl rfl)))))⟩
 ap := h.ap
theorem ToAt.grow (h : ToAt H t f Tf S B c r1 r2 n st pr) (hf : Fr (fun _ => False) H H') : ToAt H' t f Tf S B c r1 r2 n st pr := h.frame hf fun _ _ h => h
theorem ToAt.op (h : ToAt H t f Tf S B c r1 r2 n st pr) (hF : FoM H' f Tf S') (hf : Fr Tf H H') : ToAt H' t f Tf S' B c r1 r2 n st pr where
 hd := h.hd.frame hf h.ap.1
 fo := hF
 sp := h.sp.frame hf fun g hg => by obtain rfl := Option.some.inj hg; exact h.ap.2.1
 m1 := ⟨_, h.m1.choose_spec.frame hf h.ap.2.2.1⟩
 m2 := ⟨_, h.m2.choose_spec.frame hf h.ap.2.2.2.1⟩
 ap := h.ap
theorem ToAt.op' (h : ToAt H t f Tf S B c r1 r2 n st pr) (hF : FoM H' f T' S') (hf : Fr Tf H H') (hT : ∀ b, T' b → Tf b ∨ H.size ≤ b) : ToAt H' t f T' S' B c r1 r2 n st pr := by
 have k := h.op (S' := S) (h.fo.frame (T0 := fun _ => False) ⟨Nat.le_refl _, fun _ _ _ => rfl⟩ fun _ _ h => h) (.refl _ _)
 have no : ∀ b, b < H.size → ¬ Tf b → ¬ T' b := fun b hb hn ht => by
  rcases hT b ht with h | h
  ·exact hn h
  ·omega
 exact ⟨h.hd.frame hf h.ap.1, hF, h.sp.frame hf fun g hg => (by obtain rfl := Option.some.inj hg; exact h.ap.2.1), ⟨_, h.m1.choose_spec.frame hf h.ap.2.2.1⟩, ⟨_, h.m2.choose_spec.frame hf h.ap.2.2.2.1⟩,
  no _ h.hd.lt h.ap.1, no _ (h.sp.lt rfl) h.ap.2.1, no _ h.m1.choose_spec.lt h.ap.2.2.1, no _ h.m2.choose_spec.lt h.ap.2.2.2.1, h.ap.2.2.2.2⟩
theorem ToAt.set1 (h : ToAt H t f Tf S B c r1 r2 n st pr) {k : Nat} (hM : MapF arrK natV H' r1 st' k) (hf : Fr (· = r1) H H') : ToAt H' t f Tf S B c r1 r2 n st' pr := by
 obtain ⟨a1, a2, a3, a4, a5, a6, a7, a8, a9, a10⟩ := h.ap
 exact ⟨h.hd.frame hf a6, h.fo.frame hf fun b hb (e : b = r1) => a3 (by rw [← e]; exact hb), h.sp.frame hf fun g hg => (by obtain rfl := Option.some.inj hg; exact a8), ⟨k, hM⟩, ⟨_, h.m2.choose_spec.frame hf (Ne.symm a10)⟩, h.ap⟩
theorem ToAt.set2 (h : ToAt H t f Tf S B c r1 r2 n st pr) {k : Nat} (hM : MapF intK arrK H' r2 pr' k) (hf : Fr (· = r2) H H') : ToAt H' t f Tf S B c r1 r2 n st pr' := by
 obtain ⟨a1, a2, a3, a4, a5, a6, a7, a8, a9, a10⟩ := h.ap
 exact ⟨h.hd.frame hf a7, h.fo.frame hf fun b hb (e : b = r2) => a4 (by rw [← e]; exact hb), h.sp.frame hf fun g hg => (by obtain rfl := Option.some.inj hg; exact a9), ⟨_, h.m1.choose_spec.frame hf a10⟩, ⟨k, hM⟩, h.ap⟩
theorem ToAt.stop (h : ToAt H t f Tf S B c r1 r2 n st pr) {v : Nat} (hv : v < n) : hcell H ⟨B, v, none⟩ = some (.int .i64 ((v + 1 : Nat) : Int)) :=
 h.sp.cell (by rw [List.getElem?_map, List.getElem?_range hv]; rfl)
def inB (n : Nat) (x : Int) : Bool := decide (0 ≤ x) && decide (x < n)
theorem inB_nat {n : Nat} {x : Int} (h : inB n x = true) : ∃ v : Nat, x = (v : Int) ∧ v < n := by
 unfold inB at h
 simp only [Bool.and_eq_true, decide_eq_true_iff] at h
 exact ⟨x.toNat, by omega, by omega⟩
theorem inB_of {n v : Nat} (h : v < n) : inB n (v : Int) = true := by unfold inB; simp; omega
theorem has_ok {b cap : Nat} {xs : List Int} (h1 : hcell H ⟨t, 1, none⟩ = some (.slice (some ⟨B, 0, none⟩) n c)) (hx : ∀ i x, xs[i]? = some x → hcell H ⟨b, i, none⟩ = some (.int .i64 x)) (hl : xs.length < 1000) (fin : K (.bool (xs.all (inB n))) H) :
  CallsH Try.prog 32 #[.pointer (some ⟨t, 0, none⟩), .slice (some ⟨b, 0, none⟩) xs.length cap] H K := by
 refine call32 (by simp) ?_
 simp only [Try.f32, Option.getD_some]
 repeat' (first|(with_reducible first|refine jA ?_|(refine hK _ _ ?_;clear hK K)|refine jJ fun K hK=>?_|refine jK ?_|refine jL ?_|refine jM ?_|refine jN ?_|refine jO ?_|refine jP ?_|refine jQ ?_|(refine jB ?_;clear hK K)|(refine jC ?_;clear hK K)|refine jD ?_|refine jE ?_|refine jG ?_|refine jH ?_|refine jI ?_)|((with_reducible refine jR ?hq ?_);case hq=>rfl)|((first|(with_reducible first|refine jS fun K hK=>?_|refine jT ?_|refine jU ?_)|((with_reducible refine jV ?hy fun K hK=>?_);case hy=>rfl));simp only [go_sem, Nat.reduceEqDiff, Nat.reduceAdd, Nat.reduceMul, Nat.reduceLeDiff, Nat.reduceLT, Int.reduceLT, Int.reduceLE, Int.reduceEq, Int.reduceNeg, Int.reduceToNat, Nat.reducePow, reduceIte, reduceCtorEq])|((with_reducible first|refine jW ?hy ?_|refine jY ?hy ?_);case hy=>rfl)|((with_reducible first|refine jX ?hy ?_|refine jZ ?hy ?_);case hy=>rfl)|((with_reducible refine jF ?hy ?_);case hy=>decide))
 refine x_loop (fun m e' H' => ∃ i : Nat, H' = H ∧ e' 9 = .int .i64 (i : Nat) ∧ i ≤ xs.length ∧ (∀ j x, j < i → xs[j]? = some x → inB n x = true) ∧ m = xs.length - i) xs.length ⟨0, rfl, rfl, Nat.zero_le _, fun j x h => (by omega), rfl⟩ ?_
 rintro m e1 H1 ⟨i, rfl, i9, hi, hall, rfl⟩ hoff
 have i0 : e1 0 = .pointer (some ⟨t, 0, none⟩) := (hoff 0 rfl).trans rfl
 have i7 : e1 7 = .slice (some ⟨b, 0, none⟩) xs.length cap := (hoff 7 rfl).trans rfl
 have i8 : e1 8 = .int .i64 (xs.length : Nat) := (hoff 8 rfl).trans rfl
 clear hoff
 by_cases hlt : i < xs.length
 ·obtain ⟨x, hxi⟩ : ∃ x, xs[i]? = some x := ⟨_, List.getElem?_eq_getElem hlt⟩
  have cx := hx i x hxi
  have ew : IntKind.i64.wrap ((i : Int) + 1) = ((i + 1 : Nat) : Int) := by rw [wrap_i64] <;> omega
  by_cases h0 : x < 0
  ·have t1 : (x < 0) = True := by simp [h0]
   have e : xs.all (inB n) = false := by
    rw [List.all_eq_false]
    exact ⟨x, List.mem_of_getElem? hxi, by unfold inB; simp; omega⟩
   rw [e] at fin
   repeat' (first|(with_reducible first|refine jA ?_|(refine hK _ _ ?_;clear hK K)|refine jJ fun K hK=>?_|refine jK ?_|refine jL ?_|refine jM ?_|refine jN ?_|refine jO ?_|refine jP ?_|refine jQ ?_|(refine jB ?_;clear hK K)|(refine jC ?_;clear hK K)|refine jD ?_|refine jE ?_|refine jG ?_|refine jH ?_|refine jI ?_)|((with_reducible refine jR ?hq ?_);case hq=>rfl)|((first|(with_reducible first|refine jS fun K hK=>?_|refine jT ?_|refine jU ?_)|((with_reducible refine jV ?hy fun K hK=>?_);case hy=>rfl));simp only [go_sem, Nat.reduceEqDiff, Nat.reduceAdd, Nat.reduceMul, Nat.reduceLeDiff, Nat.reduceLT, Int.reduceLT, Int.reduceLE, Int.reduceEq, Int.reduceNeg, Int.reduceToNat, Nat.reducePow, reduceIte, reduceCtorEq, i0, i7, i8, i9, hlt, cx, t1])|((with_reducible first|refine jW ?hy ?_|refine jY ?hy ?_);case hy=>rfl)|((with_reducible first|refine jX ?hy ?_|refine jZ ?hy ?_);case hy=>rfl)|((with_reducible refine jF ?hy ?_);case hy=>decide))
   exact fin
  ·have t1 : (x < 0) = False := by simp [h0]
   by_cases h2 : (n : Int) ≤ x
   ·have t2 : ((n : Int) ≤ x) = True := by simp [h2]
    have e : xs.all (inB n) = false := by
     rw [List.all_eq_false]
     exact ⟨x, List.mem_of_getElem? hxi, by unfold inB; simp; omega⟩
    rw [e] at fin
    repeat' (first|(with_reducible first|refine jA ?_|(refine hK _ _ ?_;clear hK K)|refine jJ fun K hK=>?_|refine jK ?_|refine jL ?_|refine jM ?_|refine jN ?_|refine jO ?_|refine jP ?_|refine jQ ?_|(refine jB ?_;clear hK K)|(refine jC ?_;clear hK K)|refine jD ?_|refine jE ?_|refine jG ?_|refine jH ?_|refine jI ?_)|((with_reducible refine jR ?hq ?_);case hq=>rfl)|((first|(with_reducible first|refine jS fun K hK=>?_|refine jT ?_|refine jU ?_)|((with_reducible refine jV ?hy fun K hK=>?_);case hy=>rfl));simp only [go_sem, Nat.reduceEqDiff, Nat.reduceAdd, Nat.reduceMul, Nat.reduceLeDiff, Nat.reduceLT, Int.reduceLT, Int.reduceLE, Int.reduceEq, Int.reduceNeg, Int.reduceToNat, Nat.reducePow, reduceIte, reduceCtorEq, i0, i7, i8, i9, hlt, cx, t1, t2, h1])|((with_reducible first|refine jW ?hy ?_|refine jY ?hy ?_);case hy=>rfl)|((with_reducible first|refine jX ?hy ?_|refine jZ ?hy ?_);case hy=>rfl)|((with_reducible refine jF ?hy ?_);case hy=>decide))
    exact fin
   ·have t2 : ((n : Int) ≤ x) = False := by simp [h2]
    repeat' (first|(with_reducible first|refine jA ?_|(refine hK _ _ ?_;clear hK K)|refine jJ fun K hK=>?_|refine jK ?_|refine jL ?_|refine jM ?_|refine jN ?_|refine jO ?_|refine jP ?_|refine jQ ?_|(refine jB ?_;clear hK K)|(refine jC ?_;clear hK K)|refine jD ?_|refine jE ?_|refine jG ?_|refine jH ?_|refine jI ?_)|((with_reducible refine jR ?hq ?_);case hq=>rfl)|((first|(with_reducible first|refine jS fun K hK=>?_|refine jT ?_|refine jU ?_)|((with_reducible refine jV ?hy fun K hK=>?_);case hy=>rfl));simp only [go_sem, Nat.reduceEqDiff, Nat.reduceAdd, Nat.reduceMul, Nat.reduceLeDiff, Nat.reduceLT, Int.reduceLT, Int.reduceLE, Int.reduceEq, Int.reduceNeg, Int.reduceToNat, Nat.reducePow, reduceIte, reduceCtorEq, i0, i7, i8, i9, hlt, cx, t1, t2, h1, ew])|((with_reducible first|refine jW ?hy ?_|refine jY ?hy ?_);case hy=>rfl)|((with_reducible first|refine jX ?hy ?_|refine jZ ?hy ?_);case hy=>rfl)|((with_reducible refine jF ?hy ?_);case hy=>decide))
    refine loop_normal (m' := xs.length - (i + 1)) (by omega) ⟨i + 1, rfl, rfl, hlt, fun j y hj hy => ?_, rfl⟩
    rcases Nat.lt_succ_iff_lt_or_eq.1 hj with hj | rfl
    ·exact hall j y hj hy
    ·rw [hxi] at hy
     obtain rfl := Option.some.inj hy
     unfold inB; simp; omega
 ·have t1 : (i < xs.length) = False := by simp [hlt]
  have e : xs.all (inB n) = true := by
   rw [List.all_eq_true]
   intro x hx'
   obtain ⟨j, hj, rfl⟩ := List.mem_iff_getElem.1 hx'
   exact hall j _ (by omega) (List.getElem?_eq_getElem hj)
  rw [e] at fin
  repeat' (first|(with_reducible first|refine jA ?_|(refine hK _ _ ?_;clear hK K)|refine jJ fun K hK=>?_|refine jK ?_|refine jL ?_|refine jM ?_|refine jN ?_|refine jO ?_|refine jP ?_|refine jQ ?_|(refine jB ?_;clear hK K)|(refine jC ?_;clear hK K)|refine jD ?_|refine jE ?_|refine jG ?_|refine jH ?_|refine jI ?_)|((with_reducible refine jR ?hq ?_);case hq=>rfl)|((first|(with_reducible first|refine jS fun K hK=>?_|refine jT ?_|refine jU ?_)|((with_reducible refine jV ?hy fun K hK=>?_);case hy=>rfl));simp only [go_sem, Nat.reduceEqDiff, Nat.reduceAdd, Nat.reduceMul, Nat.reduceLeDiff, Nat.reduceLT, Int.reduceLT, Int.reduceLE, Int.reduceEq, Int.reduceNeg, Int.reduceToNat, Nat.reducePow, reduceIte, reduceCtorEq, i8, i9, t1])|((with_reducible first|refine jW ?hy ?_|refine jY ?hy ?_);case hy=>rfl)|((with_reducible first|refine jX ?hy ?_|refine jZ ?hy ?_);case hy=>rfl)|((with_reducible refine jF ?hy ?_);case hy=>decide))
  exact fin
theorem has1 {u : Int} {T : TypeId} (h : ToAt H t f Tf S B c r1 r2 n st pr) (fin : ∀ H', ToAt H' t f Tf S B c r1 r2 n st pr → Fr (fun _ => False) H H' → K (.bool (inB n u)) H') :
  CallsH Try.prog 32 #[.pointer (some ⟨t, 0, none⟩), .slice (some ⟨H.size, 0, none⟩) 1 1] (H.push (.cells #[.int .i64 u] T)) K := by
 have hf : Fr (fun _ => False) H (H.push (.cells #[.int .i64 u] T)) := (Fr.refl _ _).push _
 have h' := h.grow hf
 have bn := Blk.new H [.int .i64 u] T
 refine has_ok (xs := [u]) (h'.hd.cellOf (i := 1) rfl) (fun i x hi => ?_) (by simp) ?_
 ·rw [bn.cell]
  cases i with
  | zero => simp at hi; subst hi; rfl
  | succ i => simp at hi
 ·have := fin _ h' hf
  simpa using this
theorem has2 {u v : Int} {T : TypeId} (h : ToAt H t f Tf S B c r1 r2 n st pr) (fin : ∀ H', ToAt H' t f Tf S B c r1 r2 n st pr → Fr (fun _ => False) H H' → K (.bool (inB n u && inB n v)) H') :
  CallsH Try.prog 32 #[.pointer (some ⟨t, 0, none⟩), .slice (some ⟨H.size, 0, none⟩) 2 2] (H.push (.cells #[.int .i64 u, .int .i64 v] T)) K := by
 have hf : Fr (fun _ => False) H (H.push (.cells #[.int .i64 u, .int .i64 v] T)) := (Fr.refl _ _).push _
 have h' := h.grow hf
 have bn := Blk.new H [.int .i64 u, .int .i64 v] T
 refine has_ok (xs := [u, v]) (h'.hd.cellOf (i := 1) rfl) (fun i x hi => ?_) (by simp) ?_
 ·rw [bn.cell]
  rcases i with _ | _ | i
  ·simp at hi; subst hi; rfl
  ·simp at hi; subst hi; rfl
  ·simp at hi
 ·have := fin _ h' hf
  simpa using this
theorem begin_ok {k j : Nat} {r : List Nat} (h : ToAt H t f Tf S B c r1 r2 n st pr) (hx : j :: r ∈ S.rows) (hk : k ∈ j :: r) (fin : ∀ H', ToAt H' t f Tf S B c r1 r2 n st pr → Fr Tf H H' → K (.int .i64 (j : Nat)) H') :
  CallsH Try.prog 42 #[.pointer (some ⟨t, 0, none⟩), .int .i64 (k : Nat)] H K := by
 have c0 := h.hd.cellOf (i := 0) rfl
 refine call42 (by simp) ?_
 simp only [Try.f42, Option.getD_some]
 repeat' (first|(with_reducible first|refine jA ?_|(refine hK _ _ ?_;clear hK K)|refine jJ fun K hK=>?_|refine jK ?_|refine jL ?_|refine jM ?_|refine jN ?_|refine jO ?_|refine jP ?_|refine jQ ?_|(refine jB ?_;clear hK K)|(refine jC ?_;clear hK K)|refine jD ?_|refine jE ?_|refine jG ?_|refine jH ?_|refine jI ?_)|((with_reducible refine jR ?hq ?_);case hq=>rfl)|((first|(with_reducible first|refine jS fun K hK=>?_|refine jT ?_|refine jU ?_)|((with_reducible refine jV ?hy fun K hK=>?_);case hy=>rfl));simp only [go_sem, Nat.reduceEqDiff, Nat.reduceAdd, Nat.reduceMul, Nat.reduceLeDiff, Nat.reduceLT, Int.reduceLT, Int.reduceLE, Int.reduceEq, Int.reduceNeg, Int.reduceToNat, Nat.reducePow, reduceIte, reduceCtorEq, c0])|((with_reducible first|refine jW ?hy ?_|refine jY ?hy ?_);case hy=>rfl)|((with_reducible first|refine jX ?hy ?_|refine jZ ?hy ?_);case hy=>rfl)|((with_reducible refine jF ?hy ?_);case hy=>decide))
 refine m_at (n := 0) h.fo hx hk rfl fun H1 hF1 hf1 => ?_
 repeat' (first|(with_reducible first|refine jA ?_|(refine hK _ _ ?_;clear hK K)|refine jJ fun K hK=>?_|refine jK ?_|refine jL ?_|refine jM ?_|refine jN ?_|refine jO ?_|refine jP ?_|refine jQ ?_|(refine jB ?_;clear hK K)|(refine jC ?_;clear hK K)|refine jD ?_|refine jE ?_|refine jG ?_|refine jH ?_|refine jI ?_)|((with_reducible refine jR ?hq ?_);case hq=>rfl)|((first|(with_reducible first|refine jS fun K hK=>?_|refine jT ?_|refine jU ?_)|((with_reducible refine jV ?hy fun K hK=>?_);case hy=>rfl));simp only [go_sem, Nat.reduceEqDiff, Nat.reduceAdd, Nat.reduceMul, Nat.reduceLeDiff, Nat.reduceLT, Int.reduceLT, Int.reduceLE, Int.reduceEq, Int.reduceNeg, Int.reduceToNat, Nat.reducePow, reduceIte, reduceCtorEq])|((with_reducible first|refine jW ?hy ?_|refine jY ?hy ?_);case hy=>rfl)|((with_reducible first|refine jX ?hy ?_|refine jZ ?hy ?_);case hy=>rfl)|((with_reducible refine jF ?hy ?_);case hy=>decide))
 exact fin _ (h.op hF1 hf1) hf1
theorem behind_ok {k : Nat} {l r : List Nat} (h : ToAt H t f Tf S B c r1 r2 n st pr) (hx : l ++ k :: r ∈ S.rows) (fin : ∀ H', ToAt H' t f Tf S B c r1 r2 n st pr → Fr Tf H H' → K (.int .i64 (r.headD 0 : Nat)) H') :
  CallsH Try.prog 35 #[.pointer (some ⟨t, 0, none⟩), .int .i64 (k : Nat)] H K := by
 have c0 := h.hd.cellOf (i := 0) rfl
 have hlen : l.length < 4096 := by
  have := h.fo.len
  have h2 := (List.sublist_flatten_of_mem hx).length_le
  simp only [List.length_append, List.length_cons] at h2; omega
 have ew : IntKind.i64.wrap ((l.length : Int) + 1) = ((l.length + 1 : Nat) : Int) := by rw [wrap_i64] <;> omega
 refine call35 (by simp) ?_
 simp only [Try.f35, Option.getD_some]
 repeat' (first|(with_reducible first|refine jA ?_|(refine hK _ _ ?_;clear hK K)|refine jJ fun K hK=>?_|refine jK ?_|refine jL ?_|refine jM ?_|refine jN ?_|refine jO ?_|refine jP ?_|refine jQ ?_|(refine jB ?_;clear hK K)|(refine jC ?_;clear hK K)|refine jD ?_|refine jE ?_|refine jG ?_|refine jH ?_|refine jI ?_)|((with_reducible refine jR ?hq ?_);case hq=>rfl)|((first|(with_reducible first|refine jS fun K hK=>?_|refine jT ?_|refine jU ?_)|((with_reducible refine jV ?hy fun K hK=>?_);case hy=>rfl));simp only [go_sem, Nat.reduceEqDiff, Nat.reduceAdd, Nat.reduceMul, Nat.reduceLeDiff, Nat.reduceLT, Int.reduceLT, Int.reduceLE, Int.reduceEq, Int.reduceNeg, Int.reduceToNat, Nat.reducePow, reduceIte, reduceCtorEq, c0])|((with_reducible first|refine jW ?hy ?_|refine jY ?hy ?_);case hy=>rfl)|((with_reducible first|refine jX ?hy ?_|refine jZ ?hy ?_);case hy=>rfl)|((with_reducible refine jF ?hy ?_);case hy=>decide))
 refine m_rank h.fo hx rfl fun H1 hF1 hf1 => ?_
 have h1 := h.op hF1 hf1
 have d0 := h1.hd.cellOf (i := 0) rfl
 repeat' (first|(with_reducible first|refine jA ?_|(refine hK _ _ ?_;clear hK K)|refine jJ fun K hK=>?_|refine jK ?_|refine jL ?_|refine jM ?_|refine jN ?_|refine jO ?_|refine jP ?_|refine jQ ?_|(refine jB ?_;clear hK K)|(refine jC ?_;clear hK K)|refine jD ?_|refine jE ?_|refine jG ?_|refine jH ?_|refine jI ?_)|((with_reducible refine jR ?hq ?_);case hq=>rfl)|((first|(with_reducible first|refine jS fun K hK=>?_|refine jT ?_|refine jU ?_)|((with_reducible refine jV ?hy fun K hK=>?_);case hy=>rfl));simp only [go_sem, Nat.reduceEqDiff, Nat.reduceAdd, Nat.reduceMul, Nat.reduceLeDiff, Nat.reduceLT, Int.reduceLT, Int.reduceLE, Int.reduceEq, Int.reduceNeg, Int.reduceToNat, Nat.reducePow, reduceIte, reduceCtorEq, d0, ew])|((with_reducible first|refine jW ?hy ?_|refine jY ?hy ?_);case hy=>rfl)|((with_reducible first|refine jX ?hy ?_|refine jZ ?hy ?_);case hy=>rfl)|((with_reducible refine jF ?hy ?_);case hy=>decide))
 cases r with
 | nil =>
  refine m_at_bad (n := ((l.length + 1 : Nat) : Int)) h1.fo hx (by simp) (.inr (by simp)) fun H2 hF2 hf2 => ?_
  repeat' (first|(with_reducible first|refine jA ?_|(refine hK _ _ ?_;clear hK K)|refine jJ fun K hK=>?_|refine jK ?_|refine jL ?_|refine jM ?_|refine jN ?_|refine jO ?_|refine jP ?_|refine jQ ?_|(refine jB ?_;clear hK K)|(refine jC ?_;clear hK K)|refine jD ?_|refine jE ?_|refine jG ?_|refine jH ?_|refine jI ?_)|((with_reducible refine jR ?hq ?_);case hq=>rfl)|((first|(with_reducible first|refine jS fun K hK=>?_|refine jT ?_|refine jU ?_)|((with_reducible refine jV ?hy fun K hK=>?_);case hy=>rfl));simp only [go_sem, Nat.reduceEqDiff, Nat.reduceAdd, Nat.reduceMul, Nat.reduceLeDiff, Nat.reduceLT, Int.reduceLT, Int.reduceLE, Int.reduceEq, Int.reduceNeg, Int.reduceToNat, Nat.reducePow, reduceIte, reduceCtorEq])|((with_reducible first|refine jW ?hy ?_|refine jY ?hy ?_);case hy=>rfl)|((with_reducible first|refine jX ?hy ?_|refine jZ ?hy ?_);case hy=>rfl)|((with_reducible refine jF ?hy ?_);case hy=>decide))
  exact fin _ (h1.op hF2 hf2) (hf1.trans hf2)
 | cons j r =>
  refine m_at (n := l.length + 1) h1.fo hx (by simp) (j := j) (by simp) fun H2 hF2 hf2 => ?_
  repeat' (first|(with_reducible first|refine jA ?_|(refine hK _ _ ?_;clear hK K)|refine jJ fun K hK=>?_|refine jK ?_|refine jL ?_|refine jM ?_|refine jN ?_|refine jO ?_|refine jP ?_|refine jQ ?_|(refine jB ?_;clear hK K)|(refine jC ?_;clear hK K)|refine jD ?_|refine jE ?_|refine jG ?_|refine jH ?_|refine jI ?_)|((with_reducible refine jR ?hq ?_);case hq=>rfl)|((first|(with_reducible first|refine jS fun K hK=>?_|refine jT ?_|refine jU ?_)|((with_reducible refine jV ?hy fun K hK=>?_);case hy=>rfl));simp only [go_sem, Nat.reduceEqDiff, Nat.reduceAdd, Nat.reduceMul, Nat.reduceLeDiff, Nat.reduceLT, Int.reduceLT, Int.reduceLE, Int.reduceEq, Int.reduceNeg, Int.reduceToNat, Nat.reducePow, reduceIte, reduceCtorEq])|((with_reducible first|refine jW ?hy ?_|refine jY ?hy ?_);case hy=>rfl)|((with_reducible first|refine jX ?hy ?_|refine jZ ?hy ?_);case hy=>rfl)|((with_reducible refine jF ?hy ?_);case hy=>decide))
  exact fin _ (h1.op hF2 hf2) (hf1.trans hf2)
theorem turn_ok' {v : Nat} {l r : List Nat} {R : List (List Nat)} (h : ToAt H t f Tf S B c r1 r2 n st pr) (hv : v < n) (hr : S.rows.Perm ((l ++ (v + 1) :: r) :: R))
  (fin : ∀ H', ToAt H' t f Tf { S with rows := ((v + 1) :: r ++ l) :: R } B c r1 r2 n st pr → Fr Tf H H' → K (.tuple #[]) H') :
  CallsH Try.prog 34 #[.pointer (some ⟨t, 0, none⟩), .int .i64 (v : Nat)] H K := by
 have c1 := h.hd.cellOf (i := 1) rfl
 have cs := h.stop hv
 have hx : l ++ (v + 1) :: r ∈ S.rows := hr.mem_iff.2 (.head _)
 have hnd : (l ++ (v + 1) :: r).Nodup := (List.sublist_flatten_of_mem hx).nodup h.fo.nodup
 refine call34 (by simp) ?_
 simp only [Try.f34, Option.getD_some]
 repeat' (first|(with_reducible first|refine jA ?_|(refine hK _ _ ?_;clear hK K)|refine jJ fun K hK=>?_|refine jK ?_|refine jL ?_|refine jM ?_|refine jN ?_|refine jO ?_|refine jP ?_|refine jQ ?_|(refine jB ?_;clear hK K)|(refine jC ?_;clear hK K)|refine jD ?_|refine jE ?_|refine jG ?_|refine jH ?_|refine jI ?_)|((with_reducible refine jR ?hq ?_);case hq=>rfl)|((first|(with_reducible first|refine jS fun K hK=>?_|refine jT ?_|refine jU ?_)|((with_reducible refine jV ?hy fun K hK=>?_);case hy=>rfl));simp only [go_sem, Nat.reduceEqDiff, Nat.reduceAdd, Nat.reduceMul, Nat.reduceLeDiff, Nat.reduceLT, Int.reduceLT, Int.reduceLE, Int.reduceEq, Int.reduceNeg, Int.reduceToNat, Nat.reducePow, reduceIte, reduceCtorEq, c1, cs, hv])|((with_reducible first|refine jW ?hy ?_|refine jY ?hy ?_);case hy=>rfl)|((with_reducible first|refine jX ?hy ?_|refine jZ ?hy ?_);case hy=>rfl)|((with_reducible refine jF ?hy ?_);case hy=>decide))
 cases l with
 | nil =>
  refine begin_ok h hx (.head _) fun H1 h1 hf1 => ?_
  have e1 : ((((v + 1 : Nat) : Int)) != ((v + 1 : Nat) : Int)) = false := by simp
  repeat' (first|(with_reducible first|refine jA ?_|(refine hK _ _ ?_;clear hK K)|refine jJ fun K hK=>?_|refine jK ?_|refine jL ?_|refine jM ?_|refine jN ?_|refine jO ?_|refine jP ?_|refine jQ ?_|(refine jB ?_;clear hK K)|(refine jC ?_;clear hK K)|refine jD ?_|refine jE ?_|refine jG ?_|refine jH ?_|refine jI ?_)|((with_reducible refine jR ?hq ?_);case hq=>rfl)|((first|(with_reducible first|refine jS fun K hK=>?_|refine jT ?_|refine jU ?_)|((with_reducible refine jV ?hy fun K hK=>?_);case hy=>rfl));simp only [go_sem, Nat.reduceEqDiff, Nat.reduceAdd, Nat.reduceMul, Nat.reduceLeDiff, Nat.reduceLT, Int.reduceLT, Int.reduceLE, Int.reduceEq, Int.reduceNeg, Int.reduceToNat, Nat.reducePow, reduceIte, reduceCtorEq, e1])|((with_reducible first|refine jW ?hy ?_|refine jY ?hy ?_);case hy=>rfl)|((with_reducible first|refine jX ?hy ?_|refine jZ ?hy ?_);case hy=>rfl)|((with_reducible refine jF ?hy ?_);case hy=>decide))
  have h2 : FoM H1 f Tf { S with rows := ((v + 1) :: r ++ []) :: R } := by simpa using h1.fo.perm hr
  exact fin _ (h1.op h2 (.refl _ _)) hf1
 | cons j l =>
  refine begin_ok h hx (by simp) fun H1 h1 hf1 => ?_
  have hne : j ≠ v + 1 := by
   rintro rfl
   simp at hnd
  have e1 : ((j : Int) != ((v + 1 : Nat) : Int)) = true := by simp; omega
  have d0 := h1.hd.cellOf (i := 0) rfl
  repeat' (first|(with_reducible first|refine jA ?_|(refine hK _ _ ?_;clear hK K)|refine jJ fun K hK=>?_|refine jK ?_|refine jL ?_|refine jM ?_|refine jN ?_|refine jO ?_|refine jP ?_|refine jQ ?_|(refine jB ?_;clear hK K)|(refine jC ?_;clear hK K)|refine jD ?_|refine jE ?_|refine jG ?_|refine jH ?_|refine jI ?_)|((with_reducible refine jR ?hq ?_);case hq=>rfl)|((first|(with_reducible first|refine jS fun K hK=>?_|refine jT ?_|refine jU ?_)|((with_reducible refine jV ?hy fun K hK=>?_);case hy=>rfl));simp only [go_sem, Nat.reduceEqDiff, Nat.reduceAdd, Nat.reduceMul, Nat.reduceLeDiff, Nat.reduceLT, Int.reduceLT, Int.reduceLE, Int.reduceEq, Int.reduceNeg, Int.reduceToNat, Nat.reducePow, reduceIte, reduceCtorEq, e1, d0])|((with_reducible first|refine jW ?hy ?_|refine jY ?hy ?_);case hy=>rfl)|((with_reducible first|refine jX ?hy ?_|refine jZ ?hy ?_);case hy=>rfl)|((with_reducible refine jF ?hy ?_);case hy=>decide))
  refine m_split h1.fo hr (by simp) fun H2 hF2 hf2 => ?_
  have h2 := h1.op hF2 hf2
  have g0 := h2.hd.cellOf (i := 0) rfl
  repeat' (first|(with_reducible first|refine jA ?_|(refine hK _ _ ?_;clear hK K)|refine jJ fun K hK=>?_|refine jK ?_|refine jL ?_|refine jM ?_|refine jN ?_|refine jO ?_|refine jP ?_|refine jQ ?_|(refine jB ?_;clear hK K)|(refine jC ?_;clear hK K)|refine jD ?_|refine jE ?_|refine jG ?_|refine jH ?_|refine jI ?_)|((with_reducible refine jR ?hq ?_);case hq=>rfl)|((first|(with_reducible first|refine jS fun K hK=>?_|refine jT ?_|refine jU ?_)|((with_reducible refine jV ?hy fun K hK=>?_);case hy=>rfl));simp only [go_sem, Nat.reduceEqDiff, Nat.reduceAdd, Nat.reduceMul, Nat.reduceLeDiff, Nat.reduceLT, Int.reduceLT, Int.reduceLE, Int.reduceEq, Int.reduceNeg, Int.reduceToNat, Nat.reducePow, reduceIte, reduceCtorEq, g0])|((with_reducible first|refine jW ?hy ?_|refine jY ?hy ?_);case hy=>rfl)|((with_reducible first|refine jX ?hy ?_|refine jZ ?hy ?_);case hy=>rfl)|((with_reducible refine jF ?hy ?_);case hy=>decide))
  refine m_join (xs := (v + 1) :: r) (ys := j :: l) (R := R) h2.fo (List.Perm.swap _ _ _) (.head _) (.head _) fun H3 hF3 hf3 => ?_
  repeat' (first|(with_reducible first|refine jA ?_|(refine hK _ _ ?_;clear hK K)|refine jJ fun K hK=>?_|refine jK ?_|refine jL ?_|refine jM ?_|refine jN ?_|refine jO ?_|refine jP ?_|refine jQ ?_|(refine jB ?_;clear hK K)|(refine jC ?_;clear hK K)|refine jD ?_|refine jE ?_|refine jG ?_|refine jH ?_|refine jI ?_)|((with_reducible refine jR ?hq ?_);case hq=>rfl)|((first|(with_reducible first|refine jS fun K hK=>?_|refine jT ?_|refine jU ?_)|((with_reducible refine jV ?hy fun K hK=>?_);case hy=>rfl));simp only [go_sem, Nat.reduceEqDiff, Nat.reduceAdd, Nat.reduceMul, Nat.reduceLeDiff, Nat.reduceLT, Int.reduceLT, Int.reduceLE, Int.reduceEq, Int.reduceNeg, Int.reduceToNat, Nat.reducePow, reduceIte, reduceCtorEq])|((with_reducible first|refine jW ?hy ?_|refine jY ?hy ?_);case hy=>rfl)|((with_reducible first|refine jX ?hy ?_|refine jZ ?hy ?_);case hy=>rfl)|((with_reducible refine jF ?hy ?_);case hy=>decide))
  exact fin _ (h2.op hF3 hf3) ((hf1.trans hf2).trans hf3)
end
section
variable {H H' : Heap} {t f : Nat} {Tf T' : Nat → Prop} {S S' : Sq} {B c r1 r2 n : Nat} {st st' : Int × Int → Option Nat} {pr pr' : Int → Option (Int × Int)} {K : Value → Heap → Prop}
def updK {κ V : Type} [DecidableEq κ] (g : κ → Option V) (k : κ) (v : Option V) : κ → Option V := fun j => if j = k then v else g j
theorem ToFt.grow {b : Nat} (hT : ∀ b, T' b → Tf b ∨ H.size ≤ b) (h : ToFt t T' B r1 r2 b) : ToFt t Tf B r1 r2 b ∨ H.size ≤ b := by
 rcases h with h | h | h | h | h
 ·exact .inl (.inl h)
 ·exact .inl (.inr (.inl h))
 ·exact .inl (.inr (.inr (.inl h)))
 ·exact .inl (.inr (.inr (.inr (.inl h))))
 ·exact (hT b h).imp (fun h => .inr (.inr (.inr (.inr h)))) id
theorem step_ok' {u v : Nat} (h : ToAt H t f Tf S B c r1 r2 n st pr) (hr : S.rows.flatten.length < S.room)
  (fin : ∀ H' T', ToAt H' t f T' (S.made ⟨0, false, 0⟩) B c r1 r2 n (updK st ((u : Int), (v : Int)) (some S.next)) (updK pr (S.next : Int) (some ((u : Int), (v : Int)))) → Fr (ToFt t Tf B r1 r2) H H' → (∀ b, T' b → Tf b ∨ H.size ≤ b) → K (.int .i64 (S.next : Nat)) H') :
  CallsH Try.prog 37 #[.pointer (some ⟨t, 0, none⟩), .int .i64 (u : Nat), .int .i64 (v : Nat)] H K := by
 have c0 := h.hd.cellOf (i := 0) rfl
 refine call37 (by simp) ?_
 simp only [Try.f37, Option.getD_some]
 repeat' (first|(with_reducible first|refine jA ?_|(refine hK _ _ ?_;clear hK K)|refine jJ fun K hK=>?_|refine jK ?_|refine jL ?_|refine jM ?_|refine jN ?_|refine jO ?_|refine jP ?_|refine jQ ?_|(refine jB ?_;clear hK K)|(refine jC ?_;clear hK K)|refine jD ?_|refine jE ?_|refine jG ?_|refine jH ?_|refine jI ?_)|((with_reducible refine jR ?hq ?_);case hq=>rfl)|((first|(with_reducible first|refine jS fun K hK=>?_|refine jT ?_|refine jU ?_)|((with_reducible refine jV ?hy fun K hK=>?_);case hy=>rfl));simp only [go_sem, Nat.reduceEqDiff, Nat.reduceAdd, Nat.reduceMul, Nat.reduceLeDiff, Nat.reduceLT, Int.reduceLT, Int.reduceLE, Int.reduceEq, Int.reduceNeg, Int.reduceToNat, Nat.reducePow, reduceIte, reduceCtorEq, c0])|((with_reducible first|refine jW ?hy ?_|refine jY ?hy ?_);case hy=>rfl)|((with_reducible first|refine jX ?hy ?_|refine jZ ?hy ?_);case hy=>rfl)|((with_reducible refine jF ?hy ?_);case hy=>decide))
 refine make_ok (x := ⟨0, false, 0⟩) h.fo ⟨⟨by decide, by decide⟩, by decide, by decide⟩ ⟨by decide, by decide, by decide, by decide⟩ hr fun H1 T1 hF1 hf1 hT1 _ => ?_
 have h1 := h.op' hF1 hf1 hT1
 have c2 := h1.hd.cellOf (i := 2) rfl
 have c3 := h1.hd.cellOf (i := 3) rfl
 repeat' (first|(with_reducible first|refine jA ?_|(refine hK _ _ ?_;clear hK K)|refine jJ fun K hK=>?_|refine jK ?_|refine jL ?_|refine jM ?_|refine jN ?_|refine jO ?_|refine jP ?_|refine jQ ?_|(refine jB ?_;clear hK K)|(refine jC ?_;clear hK K)|refine jD ?_|refine jE ?_|refine jG ?_|refine jH ?_|refine jI ?_)|((with_reducible refine jR ?hq ?_);case hq=>rfl)|((first|(with_reducible first|refine jS fun K hK=>?_|refine jT ?_|refine jU ?_)|((with_reducible refine jV ?hy fun K hK=>?_);case hy=>rfl));simp only [go_sem, Nat.reduceEqDiff, Nat.reduceAdd, Nat.reduceMul, Nat.reduceLeDiff, Nat.reduceLT, Int.reduceLT, Int.reduceLE, Int.reduceEq, Int.reduceNeg, Int.reduceToNat, Nat.reducePow, reduceIte, reduceCtorEq, c2, c3])|((with_reducible first|refine jW ?hy ?_|refine jY ?hy ?_);case hy=>rfl)|((with_reducible first|refine jX ?hy ?_|refine jZ ?hy ?_);case hy=>rfl)|((with_reducible refine jF ?hy ?_);case hy=>decide))
 refine hp_updF (vf := natV) mapT_steps kArr h1.m1.choose_spec ((u : Int), (v : Int)) S.next fun H2 hM2 hf2 hs2 hc2 => ?_
 have h2 := h1.set1 hM2 hf2
 have d3 := h2.hd.cellOf (i := 3) rfl
 repeat' (first|(with_reducible first|refine jA ?_|(refine hK _ _ ?_;clear hK K)|refine jJ fun K hK=>?_|refine jK ?_|refine jL ?_|refine jM ?_|refine jN ?_|refine jO ?_|refine jP ?_|refine jQ ?_|(refine jB ?_;clear hK K)|(refine jC ?_;clear hK K)|refine jD ?_|refine jE ?_|refine jG ?_|refine jH ?_|refine jI ?_)|((with_reducible refine jR ?hq ?_);case hq=>rfl)|((first|(with_reducible first|refine jS fun K hK=>?_|refine jT ?_|refine jU ?_)|((with_reducible refine jV ?hy fun K hK=>?_);case hy=>rfl));simp only [go_sem, Nat.reduceEqDiff, Nat.reduceAdd, Nat.reduceMul, Nat.reduceLeDiff, Nat.reduceLT, Int.reduceLT, Int.reduceLE, Int.reduceEq, Int.reduceNeg, Int.reduceToNat, Nat.reducePow, reduceIte, reduceCtorEq, d3])|((with_reducible first|refine jW ?hy ?_|refine jY ?hy ?_);case hy=>rfl)|((with_reducible first|refine jX ?hy ?_|refine jZ ?hy ?_);case hy=>rfl)|((with_reducible refine jF ?hy ?_);case hy=>decide))
 refine hp_updF (vf := arrK) mapT_pairs kInt h2.m2.choose_spec (S.next : Int) ((u : Int), (v : Int)) fun H3 hM3 hf3 hs3 hc3 => ?_
 have h3 := h2.set2 hM3 hf3
 repeat' (first|(with_reducible first|refine jA ?_|(refine hK _ _ ?_;clear hK K)|refine jJ fun K hK=>?_|refine jK ?_|refine jL ?_|refine jM ?_|refine jN ?_|refine jO ?_|refine jP ?_|refine jQ ?_|(refine jB ?_;clear hK K)|(refine jC ?_;clear hK K)|refine jD ?_|refine jE ?_|refine jG ?_|refine jH ?_|refine jI ?_)|((with_reducible refine jR ?hq ?_);case hq=>rfl)|((first|(with_reducible first|refine jS fun K hK=>?_|refine jT ?_|refine jU ?_)|((with_reducible refine jV ?hy fun K hK=>?_);case hy=>rfl));simp only [go_sem, Nat.reduceEqDiff, Nat.reduceAdd, Nat.reduceMul, Nat.reduceLeDiff, Nat.reduceLT, Int.reduceLT, Int.reduceLE, Int.reduceEq, Int.reduceNeg, Int.reduceToNat, Nat.reducePow, reduceIte, reduceCtorEq])|((with_reducible first|refine jW ?hy ?_|refine jY ?hy ?_);case hy=>rfl)|((with_reducible first|refine jX ?hy ?_|refine jZ ?hy ?_);case hy=>rfl)|((with_reducible refine jF ?hy ?_);case hy=>decide))
 refine fin _ _ h3 (((hf1.mono fun b _ hb => .inr (.inr (.inr (.inr hb)))).trans (hf2.mono fun b _ e => ?_)).trans (hf3.mono fun b _ e => ?_)) hT1
 ·exact .inr (.inr (.inl e))
 ·exact .inr (.inr (.inr (.inl e)))
theorem gone_ok {k : Nat} {p : Int × Int} {R : List (List Nat)} (h : ToAt H t f Tf S B c r1 r2 n st pr) (hp : pr (k : Int) = some p) (hr : S.rows.Perm ([k] :: R))
  (fin : ∀ H', ToAt H' t f Tf (S.freed k R) B c r1 r2 n (updK st p none) (updK pr (k : Int) none) → Fr (ToFt t Tf B r1 r2) H H' → K (.tuple #[]) H') :
  CallsH Try.prog 43 #[.pointer (some ⟨t, 0, none⟩), .int .i64 (k : Nat)] H K := by
 have c2 := h.hd.cellOf (i := 2) rfl
 have c3 := h.hd.cellOf (i := 3) rfl
 refine call43 (by simp) ?_
 simp only [Try.f43, Option.getD_some]
 repeat' (first|(with_reducible first|refine jA ?_|(refine hK _ _ ?_;clear hK K)|refine jJ fun K hK=>?_|refine jK ?_|refine jL ?_|refine jM ?_|refine jN ?_|refine jO ?_|refine jP ?_|refine jQ ?_|(refine jB ?_;clear hK K)|(refine jC ?_;clear hK K)|refine jD ?_|refine jE ?_|refine jG ?_|refine jH ?_|refine jI ?_)|((with_reducible refine jR ?hq ?_);case hq=>rfl)|((first|(with_reducible first|refine jS fun K hK=>?_|refine jT ?_|refine jU ?_)|((with_reducible refine jV ?hy fun K hK=>?_);case hy=>rfl));simp only [go_sem, Nat.reduceEqDiff, Nat.reduceAdd, Nat.reduceMul, Nat.reduceLeDiff, Nat.reduceLT, Int.reduceLT, Int.reduceLE, Int.reduceEq, Int.reduceNeg, Int.reduceToNat, Nat.reducePow, reduceIte, reduceCtorEq, c2, c3])|((with_reducible first|refine jW ?hy ?_|refine jY ?hy ?_);case hy=>rfl)|((with_reducible first|refine jX ?hy ?_|refine jZ ?hy ?_);case hy=>rfl)|((with_reducible refine jF ?hy ?_);case hy=>decide))
 refine rd_lookupQ (vf := arrK) mapT_pairs kInt h.m2.choose_spec (k : Int) false ?_
 rw [hp]
 simp only [Option.map_some, gotV]
 repeat' (first|(with_reducible first|refine jA ?_|(refine hK _ _ ?_;clear hK K)|refine jJ fun K hK=>?_|refine jK ?_|refine jL ?_|refine jM ?_|refine jN ?_|refine jO ?_|refine jP ?_|refine jQ ?_|(refine jB ?_;clear hK K)|(refine jC ?_;clear hK K)|refine jD ?_|refine jE ?_|refine jG ?_|refine jH ?_|refine jI ?_)|((with_reducible refine jR ?hq ?_);case hq=>rfl)|((first|(with_reducible first|refine jS fun K hK=>?_|refine jT ?_|refine jU ?_)|((with_reducible refine jV ?hy fun K hK=>?_);case hy=>rfl));simp only [go_sem, Nat.reduceEqDiff, Nat.reduceAdd, Nat.reduceMul, Nat.reduceLeDiff, Nat.reduceLT, Int.reduceLT, Int.reduceLE, Int.reduceEq, Int.reduceNeg, Int.reduceToNat, Nat.reducePow, reduceIte, reduceCtorEq])|((with_reducible first|refine jW ?hy ?_|refine jY ?hy ?_);case hy=>rfl)|((with_reducible first|refine jX ?hy ?_|refine jZ ?hy ?_);case hy=>rfl)|((with_reducible refine jF ?hy ?_);case hy=>decide))
 refine hp_delF (ty := 0) (vf := natV) mapT_steps kArr h.m1.choose_spec p fun H1 hM1 hf1 hs1 hc1 => ?_
 have h1 := h.set1 hM1 hf1
 have d3 := h1.hd.cellOf (i := 3) rfl
 repeat' (first|(with_reducible first|refine jA ?_|(refine hK _ _ ?_;clear hK K)|refine jJ fun K hK=>?_|refine jK ?_|refine jL ?_|refine jM ?_|refine jN ?_|refine jO ?_|refine jP ?_|refine jQ ?_|(refine jB ?_;clear hK K)|(refine jC ?_;clear hK K)|refine jD ?_|refine jE ?_|refine jG ?_|refine jH ?_|refine jI ?_)|((with_reducible refine jR ?hq ?_);case hq=>rfl)|((first|(with_reducible first|refine jS fun K hK=>?_|refine jT ?_|refine jU ?_)|((with_reducible refine jV ?hy fun K hK=>?_);case hy=>rfl));simp only [go_sem, Nat.reduceEqDiff, Nat.reduceAdd, Nat.reduceMul, Nat.reduceLeDiff, Nat.reduceLT, Int.reduceLT, Int.reduceLE, Int.reduceEq, Int.reduceNeg, Int.reduceToNat, Nat.reducePow, reduceIte, reduceCtorEq, d3])|((with_reducible first|refine jW ?hy ?_|refine jY ?hy ?_);case hy=>rfl)|((with_reducible first|refine jX ?hy ?_|refine jZ ?hy ?_);case hy=>rfl)|((with_reducible refine jF ?hy ?_);case hy=>decide))
 refine hp_delF (ty := 0) (vf := arrK) mapT_pairs kInt h1.m2.choose_spec (k : Int) fun H2 hM2 hf2 hs2 hc2 => ?_
 have h2 := h1.set2 hM2 hf2
 have d0 := h2.hd.cellOf (i := 0) rfl
 repeat' (first|(with_reducible first|refine jA ?_|(refine hK _ _ ?_;clear hK K)|refine jJ fun K hK=>?_|refine jK ?_|refine jL ?_|refine jM ?_|refine jN ?_|refine jO ?_|refine jP ?_|refine jQ ?_|(refine jB ?_;clear hK K)|(refine jC ?_;clear hK K)|refine jD ?_|refine jE ?_|refine jG ?_|refine jH ?_|refine jI ?_)|((with_reducible refine jR ?hq ?_);case hq=>rfl)|((first|(with_reducible first|refine jS fun K hK=>?_|refine jT ?_|refine jU ?_)|((with_reducible refine jV ?hy fun K hK=>?_);case hy=>rfl));simp only [go_sem, Nat.reduceEqDiff, Nat.reduceAdd, Nat.reduceMul, Nat.reduceLeDiff, Nat.reduceLT, Int.reduceLT, Int.reduceLE, Int.reduceEq, Int.reduceNeg, Int.reduceToNat, Nat.reducePow, reduceIte, reduceCtorEq, d0])|((with_reducible first|refine jW ?hy ?_|refine jY ?hy ?_);case hy=>rfl)|((with_reducible first|refine jX ?hy ?_|refine jZ ?hy ?_);case hy=>rfl)|((with_reducible refine jF ?hy ?_);case hy=>decide))
 refine free_ok h2.fo hr fun H3 hF3 hf3 => ?_
 repeat' (first|(with_reducible first|refine jA ?_|(refine hK _ _ ?_;clear hK K)|refine jJ fun K hK=>?_|refine jK ?_|refine jL ?_|refine jM ?_|refine jN ?_|refine jO ?_|refine jP ?_|refine jQ ?_|(refine jB ?_;clear hK K)|(refine jC ?_;clear hK K)|refine jD ?_|refine jE ?_|refine jG ?_|refine jH ?_|refine jI ?_)|((with_reducible refine jR ?hq ?_);case hq=>rfl)|((first|(with_reducible first|refine jS fun K hK=>?_|refine jT ?_|refine jU ?_)|((with_reducible refine jV ?hy fun K hK=>?_);case hy=>rfl));simp only [go_sem, Nat.reduceEqDiff, Nat.reduceAdd, Nat.reduceMul, Nat.reduceLeDiff, Nat.reduceLT, Int.reduceLT, Int.reduceLE, Int.reduceEq, Int.reduceNeg, Int.reduceToNat, Nat.reducePow, reduceIte, reduceCtorEq])|((with_reducible first|refine jW ?hy ?_|refine jY ?hy ?_);case hy=>rfl)|((with_reducible first|refine jX ?hy ?_|refine jZ ?hy ?_);case hy=>rfl)|((with_reducible refine jF ?hy ?_);case hy=>decide))
 refine fin _ (h2.op hF3 hf3) (((hf1.mono fun b _ e => ?_).trans (hf2.mono fun b _ e => ?_)).trans (hf3.mono fun b _ hb => .inr (.inr (.inr (.inr hb)))))
 ·exact .inr (.inr (.inl e))
 ·exact .inr (.inr (.inr (.inl e)))
end
end Go.Proofs.Ytnlafhnbakipmaa
namespace Go.To
open Go Go.Hp Go.Sp Go.Proofs.Ytnlafhnbakipmaa
set_option linter.unusedVariables false
set_option linter.unusedSimpArgs false
theorem split_idx {l : List St} {x : St} (h : x ∈ l) : l = l.take (l.idxOf x) ++ x :: l.drop (l.idxOf x + 1) ∧ l.drop (l.idxOf x) = x :: l.drop (l.idxOf x + 1) := by
 have hlt := List.idxOf_lt_length_of_mem h
 have he : l[l.idxOf x] = x := List.getElem_idxOf hlt
 have hd : l.drop (l.idxOf x) = x :: l.drop (l.idxOf x + 1) := by rw [List.drop_eq_getElem_cons hlt, he]
 exact ⟨by rw [← hd, List.take_append_drop], hd⟩
def turnedL (l : List St) (v : Nat) : List St := l.drop (l.idxOf (v, v)) ++ l.take (l.idxOf (v, v))
theorem turnedL_eq {l a b : List St} {v : Nat} (hn : l.Nodup) (h : l = a ++ (v, v) :: b) : turnedL l v = (v, v) :: b ++ a := by
 have hi : l.idxOf (v, v) = a.length := by
  rw [h] at hn ⊢
  rw [List.nodup_append] at hn
  rw [List.idxOf_append, if_neg (fun hm => hn.2.2 _ hm _ (.head _) rfl)]
  simp
 unfold turnedL
 rw [hi, h]
 simp
def Tq.linkRow (Q : Tq) (u v : Nat) : List St :=
 (Q.row u).take ((Q.row u).idxOf (u, u)) ++ (u, u) :: (u, v) :: (turnedL (Q.row v) v ++ (v, u) :: (Q.row u).drop ((Q.row u).idxOf (u, u) + 1))
section
variable {S S' : Sq} {Q : Tq} {st : Int × Int → Option Nat} {pr : Int → Option (Int × Int)}
theorem mem_turnedL {l : List St} {v : Nat} {x : St} : x ∈ turnedL l v ↔ x ∈ l := by
 unfold turnedL
 rw [List.mem_append]
 constructor
 ·rintro (h | h)
  ·exact List.mem_of_mem_drop h
  ·exact List.mem_of_mem_take h
 ·intro h
  rw [← List.take_append_drop (l.idxOf (v, v)) l, List.mem_append] at h
  exact h.symm
theorem Tq.mem_linkRow {u v : Nat} (hu : (u, u) ∈ Q.row u) {x : St} : x ∈ Q.linkRow u v ↔ x ∈ Q.row u ∨ x ∈ Q.row v ∨ x = (u, v) ∨ x = (v, u) := by
 obtain ⟨h1, _⟩ := split_idx hu
 unfold Tq.linkRow
 conv => rhs; lhs; rw [h1]
 simp only [List.mem_append, List.mem_cons, mem_turnedL]
 constructor
 ·rintro (h | h | h | h | h | h)
  ·exact .inl (.inl h)
  ·exact .inl (.inr (.inl h))
  ·exact .inr (.inr (.inl h))
  ·exact .inr (.inl h)
  ·exact .inr (.inr (.inr h))
  ·exact .inl (.inr (.inr h))
 ·rintro ((h | h | h) | h | h | h)
  ·exact .inl h
  ·exact .inr (.inl h)
  ·exact .inr (.inr (.inr (.inr (.inr h))))
  ·exact .inr (.inr (.inr (.inl h)))
  ·exact .inr (.inr (.inl h))
  ·exact .inr (.inr (.inr (.inr (.inl h))))
theorem Rel.turn (h : Rel S Q st pr) {v : Nat} (hv : v < Q.n) {R : List (List Nat)} {l r : List St} (hl : Q.row v = l ++ (v, v) :: r) (hr : S.rows.Perm ((Q.row v).map (hd st) :: R)) (hnd : S.rows.flatten.Nodup) :
  Rel { S with rows := ((v + 1) :: r.map (hd st) ++ l.map (hd st)) :: R } (Q.lay ((v, v) :: r ++ l)) st pr := by
 have hm : ∀ x, x ∈ (v, v) :: r ++ l ↔ x ∈ Q.row v := fun x => by
  rw [hl]
  simp only [List.cons_append, List.mem_cons, List.mem_append]
  constructor
  ·rintro (h | h | h)
   ·exact .inr (.inl h)
   ·exact .inr (.inr h)
   ·exact .inl h
  ·rintro (h | h | h)
   ·exact .inr (.inr h)
   ·exact .inl h
   ·exact .inr (.inl h)
 have hrow : ∀ w, w < Q.n → ((∃ l' ∈ [(v, v) :: r ++ l], (w, w) ∈ l' ∧ (Q.lay ((v, v) :: r ++ l)).row w = l') ∨ ((w, w) ∉ [(v, v) :: r ++ l].flatten ∧ (Q.lay ((v, v) :: r ++ l)).row w = Q.row w)) := fun w hw => by
  by_cases hw2 : (w, w) ∈ (v, v) :: r ++ l
  ·exact .inl ⟨_, .head _, hw2, if_pos hw2⟩
  ·exact .inr ⟨by simpa using hw2, if_neg hw2⟩
 have hrm : ∀ w, w < Q.n → ∀ x, x ∈ (Q.lay ((v, v) :: r ++ l)).row w ↔ x ∈ Q.row w := fun w hw x => by
  rcases hrow w hw with ⟨l', h1, h2, h3⟩ | ⟨_, h2⟩
  ·rw [h3]
   obtain rfl := List.mem_singleton.1 h1
   rw [hm, (h.ok.same v hv w ((hm _).1 h2)).2]
  ·rw [h2]
 have hfl : ∀ w : Nat, (w, w) ∈ [(v, v) :: r ++ l].flatten ↔ (w, w) ∈ [Q.row v].flatten := fun w => by
  rw [List.flatten_cons, List.flatten_nil, List.append_nil, List.flatten_cons, List.flatten_nil, List.append_nil]
  exact hm _
 have hrot : Tour ((v, v) :: r ++ l) := by
  have := h.ok.tour v hv
  rw [hl] at this
  exact this.rot
 have hndr : ((v, v) :: r ++ l).Nodup := by
  have := h.ok.nd v hv
  rw [hl] at this
  exact (List.perm_append_comm.nodup_iff).1 this
 refine ⟨h.ok.relay [Q.row v] [(v, v) :: r ++ l] rfl rfl (fun l' hl' => ⟨v, hv, List.mem_singleton.1 hl'⟩) (fun l' hl' => by obtain rfl := List.mem_singleton.1 hl'; exact ⟨hrot, hndr⟩) hfl (fun a ha b hb w _ _ => by rw [List.mem_singleton.1 ha, List.mem_singleton.1 hb]) hrow h.ok.sym (fun a b e => ?_),
  h.room, fun p k hk => ?_, fun a b ha hab hmm => h.ts a b ha hab ((hrm a ha _).1 hmm), h.pro, ?_, h.itv, h.its⟩
 ·obtain ⟨h1, h2, h3⟩ := h.ok.em a b e
  exact ⟨h1, h2, (hrm a h1 _).2 h3⟩
 ·obtain ⟨a, b, h1, h2, h3, h4, h5⟩ := h.sto p k hk
  exact ⟨a, b, h1, h2, h3, (hrm a h3 _).2 h4, h5⟩
 ·refine h.relay rfl [Q.row v] [(v, v) :: r ++ l] R hr ?_ hnd (fun l' hl' => ⟨v, hv, List.mem_singleton.1 hl'⟩) (fun l' hl' => ⟨v, hv, ?_⟩) (fun w _ => hfl w) hrow fun _ _ _ _ _ => rfl
  ·simp [hd_stop]
  ·obtain rfl := List.mem_singleton.1 hl'
   exact if_pos (.head _)
theorem Rel.link (h : Rel S Q st pr) {u v h1 h2 : Nat} (hu : u < Q.n) (hv : v < Q.n) (hne : (v, v) ∉ Q.row u) {R : List (List Nat)} {a1 a2 b1 b2 : List St} (ha : Q.row u = a1 ++ (u, u) :: a2) (hb : Q.row v = b1 ++ (v, v) :: b2)
  (hr : S.rows.Perm ((Q.row u).map (hd st) :: (Q.row v).map (hd st) :: R)) (hnd : S.rows.flatten.Nodup) (f1 : h1 ∉ S.rows.flatten) (f2 : h2 ∉ S.rows.flatten) (p1 : 1 ≤ h1) (p2 : 1 ≤ h2) (h12 : h1 ≠ h2)
  (hroom : S'.room = S.room) (hit : ∀ i, S'.it i = if i = h2 then ⟨0, false, 0⟩ else if i = h1 then ⟨0, false, 0⟩ else S.it i)
  (hr' : S'.rows.Perm ((a1.map (hd st) ++ (u + 1) :: h1 :: (((v + 1) :: b2.map (hd st) ++ b1.map (hd st)) ++ h2 :: a2.map (hd st))) :: R)) (hnd' : S'.rows.flatten.Nodup) :
  Rel S' (Q.lay (a1 ++ (u, u) :: (u, v) :: (((v, v) :: b2 ++ b1) ++ (v, u) :: a2))) (updK (updK st ((u : Int), (v : Int)) (some h1)) ((v : Int), (u : Int)) (some h2)) (updK (updK pr (h1 : Int) (some ((u : Int), (v : Int)))) (h2 : Int) (some ((v : Int), (u : Int)))) := by
 have huv : u ≠ v := by rintro rfl; exact hne (h.ok.self u hu)
 have no_uv : ∀ w, w < Q.n → (u, v) ∉ Q.row w := fun w hw hm => by
  obtain ⟨_, _, e1, e2⟩ := h.ok.of_mem hw hm
  exact hne (by rw [e1, ← e2]; exact h.ok.self v hv)
 have no_vu : ∀ w, w < Q.n → (v, u) ∉ Q.row w := fun w hw hm => by
  obtain ⟨_, _, e1, e2⟩ := h.ok.of_mem hw hm
  exact hne (by rw [e2, ← e1]; exact h.ok.self v hv)
 obtain ⟨new, hnew⟩ : ∃ new, new = a1 ++ (u, u) :: (u, v) :: (((v, v) :: b2 ++ b1) ++ (v, u) :: a2) := ⟨_, rfl⟩
 rw [← hnew]
 obtain ⟨st', hst'⟩ : ∃ st', st' = updK (updK st ((u : Int), (v : Int)) (some h1)) ((v : Int), (u : Int)) (some h2) := ⟨_, rfl⟩
 rw [← hst']
 have hvu : ((u : Int), (v : Int)) ≠ ((v : Int), (u : Int)) := fun e => huv (by have := (Prod.mk.inj e).1; omega)
 have s_uv : st' ((u : Int), (v : Int)) = some h1 := by rw [hst']; unfold updK; rw [if_neg hvu, if_pos rfl]
 have s_vu : st' ((v : Int), (u : Int)) = some h2 := by rw [hst']; unfold updK; rw [if_pos rfl]
 have s_ne : ∀ p, p ≠ ((u : Int), (v : Int)) → p ≠ ((v : Int), (u : Int)) → st' p = st p := fun p e1 e2 => by rw [hst']; unfold updK; rw [if_neg e2, if_neg e1]
 have cst : ∀ (a b : Nat), (a, b) ≠ (u, v) → (a, b) ≠ (v, u) → st' ((a : Int), (b : Int)) = st ((a : Int), (b : Int)) := fun a b e1 e2 => by
  refine s_ne _ (fun e => e1 ?_) (fun e => e2 ?_)
  all_goals
   obtain ⟨e3, e4⟩ := Prod.mk.inj e
   rw [show a = _ from Int.natCast_inj.1 e3, show b = _ from Int.natCast_inj.1 e4]
 have hst : ∀ w, w < Q.n → ∀ x ∈ Q.row w, hd st' x = hd st x := fun w hw x hx => by
  obtain ⟨a, b⟩ := x
  unfold hd
  simp only
  rw [cst a b (fun e => no_uv w hw (by rw [← e]; exact hx)) (fun e => no_vu w hw (by rw [← e]; exact hx))]
 have mem : ∀ x, x ∈ new ↔ x ∈ Q.row u ∨ x ∈ Q.row v ∨ x = (u, v) ∨ x = (v, u) := fun x => by
  rw [hnew, ha, hb]
  simp only [List.mem_append, List.mem_cons]
  constructor
  ·rintro (h | h | h | ((h | h) | h) | h | h)
   ·exact .inl (.inl h)
   ·exact .inl (.inr (.inl h))
   ·exact .inr (.inr (.inl h))
   ·exact .inr (.inl (.inr (.inl h)))
   ·exact .inr (.inl (.inr (.inr h)))
   ·exact .inr (.inl (.inl h))
   ·exact .inr (.inr (.inr h))
   ·exact .inl (.inr (.inr h))
  ·rintro ((h | h | h) | (h | h | h) | h | h)
   ·exact .inl h
   ·exact .inr (.inl h)
   ·exact .inr (.inr (.inr (.inr (.inr h))))
   ·exact .inr (.inr (.inr (.inl (.inr h))))
   ·exact .inr (.inr (.inr (.inl (.inl (.inl h)))))
   ·exact .inr (.inr (.inr (.inl (.inl (.inr h)))))
   ·exact .inr (.inr (.inl h))
   ·exact .inr (.inr (.inr (.inr (.inl h))))
 have memd : ∀ w : Nat, (w, w) ∈ new ↔ (w, w) ∈ Q.row u ∨ (w, w) ∈ Q.row v := fun w => by
  rw [mem]
  constructor
  ·rintro (h | h | h | h)
   ·exact .inl h
   ·exact .inr h
   ·obtain ⟨rfl, rfl⟩ := Prod.mk.inj h; exact absurd rfl huv
   ·obtain ⟨rfl, rfl⟩ := Prod.mk.inj h; exact absurd rfl huv
  ·rintro (h | h)
   ·exact .inl h
   ·exact .inr (.inl h)
 have hrow : ∀ w, w < Q.n → ((∃ l' ∈ [new], (w, w) ∈ l' ∧ (Q.lay new).row w = l') ∨ ((w, w) ∉ [new].flatten ∧ (Q.lay new).row w = Q.row w)) := fun w hw => by
  by_cases hw2 : (w, w) ∈ new
  ·exact .inl ⟨_, .head _, hw2, if_pos hw2⟩
  ·exact .inr ⟨by simpa using hw2, if_neg hw2⟩
 have hfl : ∀ w : Nat, (w, w) ∈ [new].flatten ↔ (w, w) ∈ [Q.row u, Q.row v].flatten := fun w => by
  simp only [List.flatten_cons, List.flatten_nil, List.append_nil, List.mem_append]
  exact memd w
 have hmap : new.map (hd st') = a1.map (hd st) ++ (u + 1) :: h1 :: (((v + 1) :: b2.map (hd st) ++ b1.map (hd st)) ++ h2 :: a2.map (hd st)) := by
  have e1 : ∀ l : List St, (∀ x ∈ l, x ∈ Q.row u) → l.map (hd st') = l.map (hd st) := fun l hl => List.map_congr_left fun x hx => hst u hu x (hl x hx)
  have e2 : ∀ l : List St, (∀ x ∈ l, x ∈ Q.row v) → l.map (hd st') = l.map (hd st) := fun l hl => List.map_congr_left fun x hx => hst v hv x (hl x hx)
  rw [hnew]
  simp only [List.map_append, List.map_cons, hd_stop, hd_step huv s_uv, hd_step huv.symm s_vu]
  rw [e1 a1 (fun x hx => by rw [ha]; simp [hx]), e1 a2 (fun x hx => by rw [ha]; simp [hx]), e2 b1 (fun x hx => by rw [hb]; simp [hx]), e2 b2 (fun x hx => by rw [hb]; simp [hx])]
 have hr2 : S'.rows.Perm ([new].map (·.map (hd st')) ++ R) := by
  rw [List.map_singleton, hmap]; exact hr'
 have htour : Tour new := by
  have t1 := h.ok.tour u hu
  have t2 := h.ok.tour v hv
  rw [ha] at t1
  rw [hb] at t2
  rw [hnew]
  exact Tour.link huv.symm t1 (b := b2 ++ b1) (Tour.rot (a := b1) t2)
 have hnn : new.Nodup := by
  have : (new.map (hd st')).Nodup := (List.sublist_flatten_of_mem (hr2.mem_iff.2 (.head _))).nodup hnd'
  exact List.Pairwise.of_map (hd st') (fun a b h e => h (by rw [e])) this
 have hun : (Q.lay new).row u = new := if_pos ((memd u).2 (.inl (h.ok.self u hu)))
 have hvn : (Q.lay new).row v = new := if_pos ((memd v).2 (.inr (h.ok.self v hv)))
 have up : ∀ w, w < Q.n → ∀ x ∈ Q.row w, x ∈ (Q.lay new).row w := fun w hw x hx => by
  rcases hrow w hw with ⟨l', g1, g2, g3⟩ | ⟨_, g2⟩
  ·rw [g3]
   obtain rfl := List.mem_singleton.1 g1
   rcases (memd w).1 g2 with g | g
   ·exact (mem x).2 (.inl (by rw [← (h.ok.same u hu w g).2]; exact hx))
   ·exact (mem x).2 (.inr (.inl (by rw [← (h.ok.same v hv w g).2]; exact hx)))
  ·rw [g2]; exact hx
 have big : ∀ k, 1 ≤ k → k ∉ S.rows.flatten → Q.n < k := fun k hk hf => by
  refine Decidable.byContradiction fun hn => hf ?_
  have := h.stop_flat (v := k - 1) (by omega)
  rw [show k - 1 + 1 = k by omega] at this
  exact this
 refine ⟨h.ok.relay [Q.row u, Q.row v] [new] rfl rfl (fun l' hl' => ?_) (fun l' hl' => by obtain rfl := List.mem_singleton.1 hl'; exact ⟨htour, hnn⟩) hfl (fun a ha b hb w _ _ => by rw [List.mem_singleton.1 ha, List.mem_singleton.1 hb]) hrow h.ok.sym (fun a b e => ?_),
  hroom.trans h.room, fun p k hk => ?_, fun a b han hab hmm => ?_, fun k p => ?_, ?_, fun w hw => ?_, fun a b k hk => ?_⟩
 ·simp only [List.mem_cons, List.not_mem_nil, or_false] at hl'
  rcases hl' with rfl | rfl
  ·exact ⟨u, hu, rfl⟩
  ·exact ⟨v, hv, rfl⟩
 ·obtain ⟨g1, g2, g3⟩ := h.ok.em a b e
  exact ⟨g1, g2, up a g1 _ g3⟩
 ·by_cases e1 : p = ((v : Int), (u : Int))
  ·subst e1
   rw [s_vu] at hk
   obtain rfl := Option.some.inj hk
   exact ⟨v, u, rfl, huv.symm, hv, by rw [hvn]; exact (mem _).2 (.inr (.inr (.inr rfl))), big _ p2 f2⟩
  ·by_cases e2 : p = ((u : Int), (v : Int))
   ·subst e2
    rw [s_uv] at hk
    obtain rfl := Option.some.inj hk
    exact ⟨u, v, rfl, huv, hu, by rw [hun]; exact (mem _).2 (.inr (.inr (.inl rfl))), big _ p1 f1⟩
   ·rw [s_ne p e2 e1] at hk
    obtain ⟨a, b, g1, g2, g3, g4, g5⟩ := h.sto p k hk
    exact ⟨a, b, g1, g2, g3, up a g3 _ g4, g5⟩
 ·by_cases e1 : (a, b) = (v, u)
  ·obtain ⟨rfl, rfl⟩ := Prod.mk.inj e1; exact ⟨_, s_vu⟩
  ·by_cases e2 : (a, b) = (u, v)
   ·obtain ⟨rfl, rfl⟩ := Prod.mk.inj e2; exact ⟨_, s_uv⟩
   ·rw [cst a b e2 e1]
    refine h.ts a b han hab ?_
    have han : a < Q.n := han
    rcases hrow a han with ⟨l', g1, g2, g3⟩ | ⟨_, g2⟩
    ·rw [g3] at hmm
     obtain rfl := List.mem_singleton.1 g1
     rcases (mem _).1 hmm with g | g | g | g
     ·rw [(h.ok.of_mem hu g).2.2.1]; exact g
     ·rw [(h.ok.of_mem hv g).2.2.1]; exact g
     ·exact absurd g e2
     ·exact absurd g e1
    ·rw [g2] at hmm; exact hmm
 ·by_cases e1 : k = (h2 : Int)
  ·subst e1
   unfold updK
   rw [if_pos rfl]
   constructor
   ·intro e
    obtain rfl := Option.some.inj e
    exact ⟨h2, rfl, s_vu⟩
   ·rintro ⟨k', ek, e⟩
    obtain rfl : h2 = k' := Int.natCast_inj.1 ek
    by_cases e2 : p = ((v : Int), (u : Int))
    ·rw [e2]
    ·by_cases e3 : p = ((u : Int), (v : Int))
     ·rw [e3, s_uv] at e
      exact absurd (Option.some.inj e) h12
     ·rw [s_ne p e3 e2] at e
      exact absurd (h.st_flat e) f2
  ·unfold updK
   rw [if_neg e1]
   by_cases e4 : k = (h1 : Int)
   ·subst e4
    rw [if_pos rfl]
    constructor
    ·intro e
     obtain rfl := Option.some.inj e
     exact ⟨h1, rfl, s_uv⟩
    ·rintro ⟨k', ek, e⟩
     obtain rfl : h1 = k' := Int.natCast_inj.1 ek
     by_cases e2 : p = ((u : Int), (v : Int))
     ·rw [e2]
     ·by_cases e3 : p = ((v : Int), (u : Int))
      ·rw [e3, s_vu] at e
       exact absurd (Option.some.inj e).symm h12
      ·rw [s_ne p e2 e3] at e
       exact absurd (h.st_flat e) f1
   ·rw [if_neg e4, h.pro]
    constructor
    ·rintro ⟨k', ek, e⟩
     refine ⟨k', ek, ?_⟩
     rw [s_ne p (fun ep => ?_) (fun ep => ?_)]
     ·exact e
     ·obtain ⟨a, b, g1, g2, g3, g4, g5⟩ := h.sto p k' e
      rw [ep] at g1
      obtain ⟨g6, g7⟩ := Prod.mk.inj g1
      obtain rfl := Int.natCast_inj.1 g6
      obtain rfl := Int.natCast_inj.1 g7
      exact no_uv _ g3 g4
     ·obtain ⟨a, b, g1, g2, g3, g4, g5⟩ := h.sto p k' e
      rw [ep] at g1
      obtain ⟨g6, g7⟩ := Prod.mk.inj g1
      obtain rfl := Int.natCast_inj.1 g6
      obtain rfl := Int.natCast_inj.1 g7
      exact no_vu _ g3 g4
    ·rintro ⟨k', ek, e⟩
     refine ⟨k', ek, ?_⟩
     rw [s_ne p (fun ep => ?_) (fun ep => ?_)] at e
     ·exact e
     ·rw [ep, s_uv] at e
      exact e4 (by rw [ek, Option.some.inj e])
     ·rw [ep, s_vu] at e
      exact e1 (by rw [ek, Option.some.inj e])
 ·refine h.relay rfl [Q.row u, Q.row v] [new] R hr hr2 hnd (fun l' hl' => ?_) (fun l' hl' => ⟨u, hu, ?_⟩) (fun w _ => hfl w) hrow fun w hw _ x hx => hst w hw x hx
  ·simp only [List.mem_cons, List.not_mem_nil, or_false] at hl'
   rcases hl' with rfl | rfl
   ·exact ⟨u, hu, rfl⟩
   ·exact ⟨v, hv, rfl⟩
  ·obtain rfl := List.mem_singleton.1 hl'
   exact hun
 ·have hw : w < Q.n := hw
  have b1 := big h1 p1 f1
  have b2 := big h2 p2 f2
  rw [hit, if_neg (by omega), if_neg (by omega)]
  exact h.itv w hw
 ·have noem : Q.em u v = false := by
   cases e : Q.em u v with
   | false => rfl
   | true => exact absurd (h.ok.em u v e).2.2 (no_uv u hu)
  by_cases e1 : (a, b) = (v, u)
  ·obtain ⟨rfl, rfl⟩ := Prod.mk.inj e1
   rw [s_vu] at hk
   obtain rfl := Option.some.inj hk
   rw [hit, if_pos rfl]
   show _ = stepIt (Q.em a b)
   rw [h.ok.sym, noem]; rfl
  ·by_cases e2 : (a, b) = (u, v)
   ·obtain ⟨rfl, rfl⟩ := Prod.mk.inj e2
    rw [s_uv] at hk
    obtain rfl := Option.some.inj hk
    rw [hit, if_neg h12, if_pos rfl]
    show _ = stepIt (Q.em a b)
    rw [noem]; rfl
   ·rw [cst a b e2 e1] at hk
    have kf := h.st_flat hk
    rw [hit, if_neg (fun e => f2 (by rw [← e]; exact kf)), if_neg (fun e => f1 (by rw [← e]; exact kf))]
    exact h.its a b k hk
end
end Go.To
namespace Go.Proofs.Ytnlafhnbakipmaa
open Go Go.Hp Go.Sp Go.To
set_option linter.all false
set_option maxRecDepth 100000
set_option maxHeartbeats 1600000
def ToM (H : Heap) (t : Nat) (T : Nat → Prop) (Q : Tq) : Prop :=
 ∃ f Tf S B c r1 r2 st pr, ToAt H t f Tf S B c r1 r2 Q.n st pr ∧ Rel S Q st pr ∧ (∀ b, ToFt t Tf B r1 r2 b → T b) ∧ ∀ b, T b → b < H.size
def oL (l : List Nat) : List (List Nat) := if l = [] then [] else [l]
section
variable {H H' : Heap} {t f : Nat} {T Tf T' : Nat → Prop} {S S' : Sq} {Q Q' : Tq} {B c r1 r2 n : Nat} {st st' : Int × Int → Option Nat} {pr pr' : Int → Option (Int × Int)} {K : Value → Heap → Prop}
theorem ToM.lt (h : ToM H t T Q) {b : Nat} (hb : T b) : b < H.size := by
 obtain ⟨f, Tf, S, B, c, r1, r2, st, pr, h1, h2, h3, h4⟩ := h
 exact h4 b hb
theorem ToM.ok (h : ToM H t T Q) : Q.Ok := by
 obtain ⟨f, Tf, S, B, c, r1, r2, st, pr, h1, h2, h3, h4⟩ := h
 exact h2.ok
theorem ToM.frame {T0 : Nat → Prop} (h : ToM H t T Q) (hf : Fr T0 H H') (hT : ∀ b, T b → ¬ T0 b) : ToM H' t T Q := by
 obtain ⟨f, Tf, S, B, c, r1, r2, st, pr, h1, h2, h3, h4⟩ := h
 exact ⟨f, Tf, S, B, c, r1, r2, st, pr, h1.frame hf fun b hb => hT b (h3 b hb), h2, h3, fun b hb => Nat.lt_of_lt_of_le (h4 b hb) hf.size⟩
theorem ToM.grow (h : ToM H t T Q) (hf : Fr (fun _ => False) H H') : ToM H' t T Q := h.frame hf fun _ _ h => h
theorem ToM.after {v : Value} (h3 : ∀ b, ToFt t Tf B r1 r2 b → T b) (h4 : ∀ b, T b → b < H.size) (hA : ToAt H' t f T' S' B c r1 r2 Q'.n st' pr') (hR : Rel S' Q' st' pr') (hf : Fr (ToFt t Tf B r1 r2) H H') (hT : ∀ b, T' b → Tf b ∨ H.size ≤ b)
  (fin : ∀ T'', ToM H' t T'' Q' → Fr T H H' → (∀ b, T'' b → T b ∨ H.size ≤ b) → K v H') : K v H' := by
 refine fin (fun b => T b ∨ T' b) ⟨f, T', S', B, c, r1, r2, st', pr', hA, hR, fun b hb => ?_, fun b hb => ?_⟩ (hf.mono fun b _ hb => h3 b hb) fun b hb => ?_
 ·rcases hb with h | h | h | h | h
  ·exact .inl (h3 b (.inl h))
  ·exact .inl (h3 b (.inr (.inl h)))
  ·exact .inl (h3 b (.inr (.inr (.inl h))))
  ·exact .inl (h3 b (.inr (.inr (.inr (.inl h)))))
  ·exact .inr h
 ·rcases hb with h | h
  ·exact Nat.lt_of_lt_of_le (h4 b h) hf.size
  ·exact hA.fo.lt h
 ·rcases hb with h | h
  ·exact .inl h
  ·exact (hT b h).imp (fun h => h3 b (.inr (.inr (.inr (.inr h))))) id
theorem ToFt.fo {b : Nat} (h : Tf b) : ToFt t Tf B r1 r2 b := .inr (.inr (.inr (.inr h)))
theorem m_split_any {k : Nat} {l r : List Nat} {R : List (List Nat)} (hM : FoM H f Tf S) (hr : S.rows.Perm ((l ++ k :: r) :: R)) (fin : ∀ H', FoM H' f Tf { S with rows := oL l ++ (k :: r) :: R } → Fr Tf H H' → K (.int .i64 0) H') :
  CallsH Try.prog 36 #[.pointer (some ⟨f, 0, none⟩), .int .i64 k] H K := by
 unfold oL at fin
 cases l with
 | nil => exact m_split_first hM (r := r) (hr.mem_iff.2 (.head _)) fun H' hF hf => fin H' (hF.perm hr) hf
 | cons j l => exact m_split hM hr (by simp) fun H' hF hf => fin H' hF hf
theorem fresh_next (hM : FoM H f Tf S) : S.next ∉ S.rows.flatten ∧ 1 ≤ S.next := by
 unfold Sq.next
 have h3 := hM.room.2.2
 cases hf : S.free with
 | nil =>
  simp only [List.headD_nil]
  refine ⟨fun hm => ?_, by omega⟩
  have := hM.lt_top hm
  omega
 | cons i l =>
  simp only [List.headD_cons]
  have := (hM.free_mem i).1 (by rw [hf]; exact .head _)
  exact ⟨this.2.2, this.1⟩
theorem inB_no {n : Nat} {u v : Int} (h : ¬ (inB n u = true ∧ inB n v = true)) : (inB n u && inB n v) = false := by
 cases h1 : inB n u <;> cases h2 : inB n v <;> simp_all
theorem perm_rows {xs ys : List Nat} {L : List (List Nat)} (h1 : xs ∈ L) (h2 : ys ∈ L) (hne : ys ≠ xs) : L.Perm (xs :: ys :: (L.erase xs).erase ys) :=
 (List.perm_cons_erase h1).trans (List.Perm.cons _ (List.perm_cons_erase ((List.mem_erase_of_ne hne).2 h2)))
theorem t_link {L : Value → Heap → Prop} {u v : Nat} (hM : ToM H t T Q) (hu : u < Q.n) (hv : v < Q.n) (hne : (v, v) ∉ Q.row u)
  (fin : ∀ H' T', ToM H' t T' (Q.lay (Q.linkRow u v)) → Fr T H H' → (∀ b, T' b → T b ∨ H.size ≤ b) → L (.int .i64 0) H') :
  CallsH Try.prog 11 #[.pointer (some ⟨t, 0, none⟩), .int .i64 (u : Nat), .int .i64 (v : Nat)] H L := by
 obtain ⟨f, Tf, S, B, c, r1, r2, st, pr, h, hR, h3, h4⟩ := hM
 obtain ⟨a1, a2, ea1, ea2⟩ : ∃ a1 a2, a1 = (Q.row u).take ((Q.row u).idxOf (u, u)) ∧ a2 = (Q.row u).drop ((Q.row u).idxOf (u, u) + 1) := ⟨_, _, rfl, rfl⟩
 have ha : Q.row u = a1 ++ (u, u) :: a2 := by rw [ea1, ea2]; exact (split_idx (hR.ok.self u hu)).1
 obtain ⟨b1, b2, eb1, eb2⟩ : ∃ b1 b2, b1 = (Q.row v).take ((Q.row v).idxOf (v, v)) ∧ b2 = (Q.row v).drop ((Q.row v).idxOf (v, v) + 1) := ⟨_, _, rfl, rfl⟩
 have hb : Q.row v = b1 ++ (v, v) :: b2 := by rw [eb1, eb2]; exact (split_idx (hR.ok.self v hv)).1
 have hnew : Q.linkRow u v = a1 ++ (u, u) :: (u, v) :: (((v, v) :: b2 ++ b1) ++ (v, u) :: a2) := by
  unfold Tq.linkRow
  rw [turnedL_eq (hR.ok.nd v hv) hb, ← ea1, ← ea2]
 rw [hnew] at fin
 obtain ⟨A1, eA1⟩ : ∃ A1, A1 = a1.map (hd st) := ⟨_, rfl⟩
 obtain ⟨A2, eA2⟩ : ∃ A2, A2 = a2.map (hd st) := ⟨_, rfl⟩
 obtain ⟨B1, eB1⟩ : ∃ B1, B1 = b1.map (hd st) := ⟨_, rfl⟩
 obtain ⟨B2, eB2⟩ : ∃ B2, B2 = b2.map (hd st) := ⟨_, rfl⟩
 have hA : (Q.row u).map (hd st) = A1 ++ (u + 1) :: A2 := by rw [ha, List.map_append, List.map_cons, hd_stop, eA1, eA2]
 have hB : (Q.row v).map (hd st) = B1 ++ (v + 1) :: B2 := by rw [hb, List.map_append, List.map_cons, hd_stop, eB1, eB2]
 have hXY : (Q.row v).map (hd st) ≠ (Q.row u).map (hd st) := fun e => hne ((hR.same_iff hu hv).1 e.symm)
 obtain ⟨R, hRR⟩ : ∃ R, S.rows.Perm ((Q.row u).map (hd st) :: (Q.row v).map (hd st) :: R) := ⟨_, perm_rows (hR.row_mem hu) (hR.row_mem hv) hXY⟩
 have hcount := hR.count h.fo.nodup fun k hk => h.fo.pos hk
 have hlen2 : 2 ≤ S.rows.length := by rw [hRR.length_eq]; simp
 have hroom := hR.room
 have n1 := hR.ok.n1
 have cu := h.stop hu
 have cv := h.stop hv
 refine call11 (by simp) ?_
 simp only [Try.f11, Option.getD_some]
 repeat' (first|(with_reducible first|refine jA ?_|(refine hK _ _ ?_;clear hK K)|refine jJ fun K hK=>?_|refine jK ?_|refine jL ?_|refine jM ?_|refine jN ?_|refine jO ?_|refine jP ?_|refine jQ ?_|(refine jB ?_;clear hK K)|(refine jC ?_;clear hK K)|refine jD ?_|refine jE ?_|refine jG ?_|refine jH ?_|refine jI ?_)|((with_reducible refine jR ?hq ?_);case hq=>rfl)|((first|(with_reducible first|refine jS fun K hK=>?_|refine jT ?_|refine jU ?_)|((with_reducible refine jV ?hy fun K hK=>?_);case hy=>rfl));simp only [go_sem, Nat.reduceEqDiff, Nat.reduceAdd, Nat.reduceMul, Nat.reduceLeDiff, Nat.reduceLT, Int.reduceLT, Int.reduceLE, Int.reduceEq, Int.reduceNeg, Int.reduceToNat, Nat.reducePow, reduceIte, reduceCtorEq])|((with_reducible first|refine jW ?hy ?_|refine jY ?hy ?_);case hy=>rfl)|((with_reducible first|refine jX ?hy ?_|refine jZ ?hy ?_);case hy=>rfl)|((with_reducible refine jF ?hy ?_);case hy=>decide))
 refine has2 h fun H1 h1 hf1 => ?_
 rw [inB_of hu, inB_of hv]
 have d0 := h1.hd.cellOf (i := 0) rfl
 have d1 := h1.hd.cellOf (i := 1) rfl
 have du := h1.stop hu
 have dv := h1.stop hv
 repeat' (first|(with_reducible first|refine jA ?_|(refine hK _ _ ?_;clear hK K)|refine jJ fun K hK=>?_|refine jK ?_|refine jL ?_|refine jM ?_|refine jN ?_|refine jO ?_|refine jP ?_|refine jQ ?_|(refine jB ?_;clear hK K)|(refine jC ?_;clear hK K)|refine jD ?_|refine jE ?_|refine jG ?_|refine jH ?_|refine jI ?_)|((with_reducible refine jR ?hq ?_);case hq=>rfl)|((first|(with_reducible first|refine jS fun K hK=>?_|refine jT ?_|refine jU ?_)|((with_reducible refine jV ?hy fun K hK=>?_);case hy=>rfl));simp only [go_sem, Nat.reduceEqDiff, Nat.reduceAdd, Nat.reduceMul, Nat.reduceLeDiff, Nat.reduceLT, Int.reduceLT, Int.reduceLE, Int.reduceEq, Int.reduceNeg, Int.reduceToNat, Nat.reducePow, reduceIte, reduceCtorEq, Bool.and_self, d0, d1, du, dv, hu, hv])|((with_reducible first|refine jW ?hy ?_|refine jY ?hy ?_);case hy=>rfl)|((with_reducible first|refine jX ?hy ?_|refine jZ ?hy ?_);case hy=>rfl)|((with_reducible refine jF ?hy ?_);case hy=>decide))
 refine m_same h1.fo (hR.row_mem hu) (hR.stop_in hu) (hR.row_mem hv) (hR.stop_in hv) fun H2 b hF2 hf2 hb2 => ?_
 obtain rfl : b = false := by
  cases b with
  | false => rfl
  | true => exact absurd (hb2.1 rfl) hXY
 have h2 := h1.op hF2 hf2
 repeat' (first|(with_reducible first|refine jA ?_|(refine hK _ _ ?_;clear hK K)|refine jJ fun K hK=>?_|refine jK ?_|refine jL ?_|refine jM ?_|refine jN ?_|refine jO ?_|refine jP ?_|refine jQ ?_|(refine jB ?_;clear hK K)|(refine jC ?_;clear hK K)|refine jD ?_|refine jE ?_|refine jG ?_|refine jH ?_|refine jI ?_)|((with_reducible refine jR ?hq ?_);case hq=>rfl)|((first|(with_reducible first|refine jS fun K hK=>?_|refine jT ?_|refine jU ?_)|((with_reducible refine jV ?hy fun K hK=>?_);case hy=>rfl));simp only [go_sem, Nat.reduceEqDiff, Nat.reduceAdd, Nat.reduceMul, Nat.reduceLeDiff, Nat.reduceLT, Int.reduceLT, Int.reduceLE, Int.reduceEq, Int.reduceNeg, Int.reduceToNat, Nat.reducePow, reduceIte, reduceCtorEq])|((with_reducible first|refine jW ?hy ?_|refine jY ?hy ?_);case hy=>rfl)|((with_reducible first|refine jX ?hy ?_|refine jZ ?hy ?_);case hy=>rfl)|((with_reducible refine jF ?hy ?_);case hy=>decide))
 have hRB : S.rows.Perm ((B1 ++ (v + 1) :: B2) :: (A1 ++ (u + 1) :: A2) :: R) := by
  rw [← hA, ← hB]; exact hRR.trans (List.Perm.swap _ _ _)
 refine turn_ok' h2 hv hRB fun H3 h3' hf3 => ?_
 repeat' (first|(with_reducible first|refine jA ?_|(refine hK _ _ ?_;clear hK K)|refine jJ fun K hK=>?_|refine jK ?_|refine jL ?_|refine jM ?_|refine jN ?_|refine jO ?_|refine jP ?_|refine jQ ?_|(refine jB ?_;clear hK K)|(refine jC ?_;clear hK K)|refine jD ?_|refine jE ?_|refine jG ?_|refine jH ?_|refine jI ?_)|((with_reducible refine jR ?hq ?_);case hq=>rfl)|((first|(with_reducible first|refine jS fun K hK=>?_|refine jT ?_|refine jU ?_)|((with_reducible refine jV ?hy fun K hK=>?_);case hy=>rfl));simp only [go_sem, Nat.reduceEqDiff, Nat.reduceAdd, Nat.reduceMul, Nat.reduceLeDiff, Nat.reduceLT, Int.reduceLT, Int.reduceLE, Int.reduceEq, Int.reduceNeg, Int.reduceToNat, Nat.reducePow, reduceIte, reduceCtorEq])|((with_reducible first|refine jW ?hy ?_|refine jY ?hy ?_);case hy=>rfl)|((with_reducible first|refine jX ?hy ?_|refine jZ ?hy ?_);case hy=>rfl)|((with_reducible refine jF ?hy ?_);case hy=>decide))
 refine behind_ok (l := A1) (k := u + 1) (r := A2) h3' (by simp) fun H4 h4' hf4 => ?_
 have g0 := h4'.hd.cellOf (i := 0) rfl
 obtain ⟨Z, eZ⟩ : ∃ Z, Z = (v + 1) :: B2 ++ B1 := ⟨_, rfl⟩
 have hfr4 : Fr (ToFt t Tf B r1 r2) H H4 := (((hf1.mono fun _ _ h => h.elim).trans (hf2.mono fun b _ hb => .fo hb)).trans (hf3.mono fun b _ hb => .fo hb)).trans (hf4.mono fun b _ hb => .fo hb)
 repeat' (first|(with_reducible first|refine jA ?_|(refine hK _ _ ?_;clear hK K)|refine jJ fun K hK=>?_|refine jK ?_|refine jL ?_|refine jM ?_|refine jN ?_|refine jO ?_|refine jP ?_|refine jQ ?_|(refine jB ?_;clear hK K)|(refine jC ?_;clear hK K)|refine jD ?_|refine jE ?_|refine jG ?_|refine jH ?_|refine jI ?_)|((with_reducible refine jR ?hq ?_);case hq=>rfl)|((first|(with_reducible first|refine jS fun K hK=>?_|refine jT ?_|refine jU ?_)|((with_reducible refine jV ?hy fun K hK=>?_);case hy=>rfl));simp only [go_sem, Nat.reduceEqDiff, Nat.reduceAdd, Nat.reduceMul, Nat.reduceLeDiff, Nat.reduceLT, Int.reduceLT, Int.reduceLE, Int.reduceEq, Int.reduceNeg, Int.reduceToNat, Nat.reducePow, reduceIte, reduceCtorEq])|((with_reducible first|refine jW ?hy ?_|refine jY ?hy ?_);case hy=>rfl)|((with_reducible first|refine jX ?hy ?_|refine jZ ?hy ?_);case hy=>rfl)|((with_reducible refine jF ?hy ?_);case hy=>decide))
 have tail : ∀ (e' : Env) (H5 : Heap), e' 0 = .pointer (some ⟨t, 0, none⟩) → e' 1 = .int .i64 (u : Nat) → e' 2 = .int .i64 (v : Nat) → e' 7 = .int .i64 ((u + 1 : Nat) : Int) → e' 8 = .int .i64 ((v + 1 : Nat) : Int) → e' 11 = .int .i64 (A2.headD 0 : Nat) →
   ToAt H5 t f Tf { S with rows := (A1 ++ [u + 1]) :: (oL A2 ++ Z :: R) } B c r1 r2 Q.n st pr → Fr (ToFt t Tf B r1 r2) H H5 → K e' H5 := by
  intro e' H5 i0 i1 i2 i7 i8 i11 h5 hf5
  refine hK _ _ ?_
  clear hK K
  have hfl : ((A1 ++ [u + 1]) :: (oL A2 ++ Z :: R)).flatten.length = S.rows.flatten.length := by
   rw [hRB.flatten.length_eq, eZ]
   unfold oL
   split
   ·rename_i e; subst e; simp; omega
   ·simp; omega
  repeat' (first|(with_reducible first|refine jA ?_|(refine hK _ _ ?_;clear hK K)|refine jJ fun K hK=>?_|refine jK ?_|refine jL ?_|refine jM ?_|refine jN ?_|refine jO ?_|refine jP ?_|refine jQ ?_|(refine jB ?_;clear hK K)|(refine jC ?_;clear hK K)|refine jD ?_|refine jE ?_|refine jG ?_|refine jH ?_|refine jI ?_)|((with_reducible refine jR ?hq ?_);case hq=>rfl)|((first|(with_reducible first|refine jS fun K hK=>?_|refine jT ?_|refine jU ?_)|((with_reducible refine jV ?hy fun K hK=>?_);case hy=>rfl));simp only [go_sem, Nat.reduceEqDiff, Nat.reduceAdd, Nat.reduceMul, Nat.reduceLeDiff, Nat.reduceLT, Int.reduceLT, Int.reduceLE, Int.reduceEq, Int.reduceNeg, Int.reduceToNat, Nat.reducePow, reduceIte, reduceCtorEq, i0, i1, i2])|((with_reducible first|refine jW ?hy ?_|refine jY ?hy ?_);case hy=>rfl)|((with_reducible first|refine jX ?hy ?_|refine jZ ?hy ?_);case hy=>rfl)|((with_reducible refine jF ?hy ?_);case hy=>decide))
  refine step_ok' h5 (by show _ < S.room; rw [hfl]; omega) fun H6 T6 h6 hf6 hT6 => ?_
  have fr1 := fresh_next h5.fo
  have fr2 := fresh_next h6.fo
  obtain ⟨k1, ek1⟩ : ∃ k1, k1 = Sq.next { S with rows := (A1 ++ [u + 1]) :: (oL A2 ++ Z :: R) } := ⟨_, rfl⟩
  rw [← ek1] at fr1 ⊢
  repeat' (first|(with_reducible first|refine jA ?_|(refine hK _ _ ?_;clear hK K)|refine jJ fun K hK=>?_|refine jK ?_|refine jL ?_|refine jM ?_|refine jN ?_|refine jO ?_|refine jP ?_|refine jQ ?_|(refine jB ?_;clear hK K)|(refine jC ?_;clear hK K)|refine jD ?_|refine jE ?_|refine jG ?_|refine jH ?_|refine jI ?_)|((with_reducible refine jR ?hq ?_);case hq=>rfl)|((first|(with_reducible first|refine jS fun K hK=>?_|refine jT ?_|refine jU ?_)|((with_reducible refine jV ?hy fun K hK=>?_);case hy=>rfl));simp only [go_sem, Nat.reduceEqDiff, Nat.reduceAdd, Nat.reduceMul, Nat.reduceLeDiff, Nat.reduceLT, Int.reduceLT, Int.reduceLE, Int.reduceEq, Int.reduceNeg, Int.reduceToNat, Nat.reducePow, reduceIte, reduceCtorEq, i0, i1, i2])|((with_reducible first|refine jW ?hy ?_|refine jY ?hy ?_);case hy=>rfl)|((with_reducible first|refine jX ?hy ?_|refine jZ ?hy ?_);case hy=>rfl)|((with_reducible refine jF ?hy ?_);case hy=>decide))
  refine step_ok' h6 (by
   show ([_] :: ((A1 ++ [u + 1]) :: (oL A2 ++ Z :: R))).flatten.length < S.room
   rw [List.flatten_cons, List.length_append, hfl]
   simp only [List.length_cons, List.length_nil]
   omega) fun H7 T7 h7 hf7 hT7 => ?_
  obtain ⟨S6, eS6⟩ : ∃ S6, S6 = Sq.made { S with rows := (A1 ++ [u + 1]) :: (oL A2 ++ Z :: R) } ⟨0, false, 0⟩ := ⟨_, rfl⟩
  have rows6 : S6.rows = [k1] :: (A1 ++ [u + 1]) :: (oL A2 ++ Z :: R) := by rw [eS6, ek1]; rfl
  have it6 : ∀ i, S6.it i = if i = k1 then ⟨0, false, 0⟩ else S.it i := by rw [eS6, ek1]; exact fun _ => rfl
  have room6 : S6.room = S.room := by rw [eS6]; rfl
  rw [← ek1, ← eS6] at h7
  rw [← eS6] at fr2
  rw [← eS6]
  obtain ⟨k2, ek2⟩ : ∃ k2, k2 = S6.next := ⟨_, rfl⟩
  rw [← ek2] at h7 fr2 ⊢
  have it7 : ∀ i, (S6.made ⟨0, false, 0⟩).it i = if i = k2 then ⟨0, false, 0⟩ else if i = k1 then ⟨0, false, 0⟩ else S.it i := fun i => by rw [ek2, ← it6]; rfl
  have rows7 : (S6.made ⟨0, false, 0⟩).rows = [k2] :: [k1] :: (A1 ++ [u + 1]) :: (oL A2 ++ Z :: R) := by rw [ek2, ← rows6]; rfl
  have room7 : (S6.made ⟨0, false, 0⟩).room = S.room := room6
  obtain ⟨S7, eS7⟩ : ∃ S7, S7 = S6.made ⟨0, false, 0⟩ := ⟨_, rfl⟩
  rw [← eS7] at h7 it7 rows7 room7
  have c70 := h7.hd.cellOf (i := 0) rfl
  repeat' (first|(with_reducible first|refine jA ?_|(refine hK _ _ ?_;clear hK K)|refine jJ fun K hK=>?_|refine jK ?_|refine jL ?_|refine jM ?_|refine jN ?_|refine jO ?_|refine jP ?_|refine jQ ?_|(refine jB ?_;clear hK K)|(refine jC ?_;clear hK K)|refine jD ?_|refine jE ?_|refine jG ?_|refine jH ?_|refine jI ?_)|((with_reducible refine jR ?hq ?_);case hq=>rfl)|((first|(with_reducible first|refine jS fun K hK=>?_|refine jT ?_|refine jU ?_)|((with_reducible refine jV ?hy fun K hK=>?_);case hy=>rfl));simp only [go_sem, Nat.reduceEqDiff, Nat.reduceAdd, Nat.reduceMul, Nat.reduceLeDiff, Nat.reduceLT, Int.reduceLT, Int.reduceLE, Int.reduceEq, Int.reduceNeg, Int.reduceToNat, Nat.reducePow, reduceIte, reduceCtorEq, i0, i7, c70])|((with_reducible first|refine jW ?hy ?_|refine jY ?hy ?_);case hy=>rfl)|((with_reducible first|refine jX ?hy ?_|refine jZ ?hy ?_);case hy=>rfl)|((with_reducible refine jF ?hy ?_);case hy=>decide))
  refine m_join (xs := A1 ++ [u + 1]) (ys := [k1]) (R := [k2] :: (oL A2 ++ Z :: R)) h7.fo (by rw [rows7]; exact List.perm_iff_count.2 fun x => by simp only [List.count_cons]; omega) (by simp) (.head _) fun H8 hF8 hf8 => ?_
  have h8 := h7.op hF8 hf8
  have c80 := h8.hd.cellOf (i := 0) rfl
  repeat' (first|(with_reducible first|refine jA ?_|(refine hK _ _ ?_;clear hK K)|refine jJ fun K hK=>?_|refine jK ?_|refine jL ?_|refine jM ?_|refine jN ?_|refine jO ?_|refine jP ?_|refine jQ ?_|(refine jB ?_;clear hK K)|(refine jC ?_;clear hK K)|refine jD ?_|refine jE ?_|refine jG ?_|refine jH ?_|refine jI ?_)|((with_reducible refine jR ?hq ?_);case hq=>rfl)|((first|(with_reducible first|refine jS fun K hK=>?_|refine jT ?_|refine jU ?_)|((with_reducible refine jV ?hy fun K hK=>?_);case hy=>rfl));simp only [go_sem, Nat.reduceEqDiff, Nat.reduceAdd, Nat.reduceMul, Nat.reduceLeDiff, Nat.reduceLT, Int.reduceLT, Int.reduceLE, Int.reduceEq, Int.reduceNeg, Int.reduceToNat, Nat.reducePow, reduceIte, reduceCtorEq, i0, i7, i8, c80])|((with_reducible first|refine jW ?hy ?_|refine jY ?hy ?_);case hy=>rfl)|((with_reducible first|refine jX ?hy ?_|refine jZ ?hy ?_);case hy=>rfl)|((with_reducible refine jF ?hy ?_);case hy=>decide))
  refine m_join (xs := A1 ++ [u + 1] ++ [k1]) (ys := Z) (R := [k2] :: (oL A2 ++ R)) h8.fo (List.perm_iff_count.2 fun x => by simp only [List.count_cons, List.count_append]; omega) (by simp) (by rw [eZ]; simp) fun H9 hF9 hf9 => ?_
  have h9 := h8.op hF9 hf9
  have c90 := h9.hd.cellOf (i := 0) rfl
  repeat' (first|(with_reducible first|refine jA ?_|(refine hK _ _ ?_;clear hK K)|refine jJ fun K hK=>?_|refine jK ?_|refine jL ?_|refine jM ?_|refine jN ?_|refine jO ?_|refine jP ?_|refine jQ ?_|(refine jB ?_;clear hK K)|(refine jC ?_;clear hK K)|refine jD ?_|refine jE ?_|refine jG ?_|refine jH ?_|refine jI ?_)|((with_reducible refine jR ?hq ?_);case hq=>rfl)|((first|(with_reducible first|refine jS fun K hK=>?_|refine jT ?_|refine jU ?_)|((with_reducible refine jV ?hy fun K hK=>?_);case hy=>rfl));simp only [go_sem, Nat.reduceEqDiff, Nat.reduceAdd, Nat.reduceMul, Nat.reduceLeDiff, Nat.reduceLT, Int.reduceLT, Int.reduceLE, Int.reduceEq, Int.reduceNeg, Int.reduceToNat, Nat.reducePow, reduceIte, reduceCtorEq, i0, i7, i8, c90])|((with_reducible first|refine jW ?hy ?_|refine jY ?hy ?_);case hy=>rfl)|((with_reducible first|refine jX ?hy ?_|refine jZ ?hy ?_);case hy=>rfl)|((with_reducible refine jF ?hy ?_);case hy=>decide))
  refine m_join (xs := A1 ++ [u + 1] ++ [k1] ++ Z) (ys := [k2]) (R := oL A2 ++ R) h9.fo (List.Perm.refl _) (by simp) (.head _) fun H10 hF10 hf10 => ?_
  have h10 := h9.op hF10 hf10
  have c100 := h10.hd.cellOf (i := 0) rfl
  have hfr7 : Fr (ToFt t Tf B r1 r2) H H7 := by
   refine (hf5.trans hf6).trans' hf7 fun b hb hx => ?_
   rcases ToFt.grow hT6 hx with h | h
   ·exact h
   ·have := hf5.size; omega
  have hT7' : ∀ b, T7 b → Tf b ∨ H.size ≤ b := fun b hb => by
   rcases hT7 b hb with h | h
   ·rcases hT6 b h with h | h
    ·exact .inl h
    ·have := hf5.size; exact .inr (by omega)
   ·have := hf5.size; have := hf6.size; exact .inr (by omega)
  have lift : ∀ {Ha Hb : Heap}, Fr (ToFt t Tf B r1 r2) H Ha → Fr T7 Ha Hb → Fr (ToFt t Tf B r1 r2) H Hb := fun a b => a.trans' b fun b hb hx => by
   rcases hT7' b hx with h | h
   ·exact .fo h
   ·omega
  have hfr10 := lift (lift (lift hfr7 hf8) hf9) hf10
  have last : ∀ (S' : Sq) (H' : Heap), S'.rows.Perm ((A1 ++ (u + 1) :: k1 :: (Z ++ k2 :: A2)) :: R) → S'.it = S7.it → S'.room = S7.room → ToAt H' t f T7 S' B c r1 r2 Q.n (updK (updK st ((u : Int), (v : Int)) (some k1)) ((v : Int), (u : Int)) (some k2)) (updK (updK pr (k1 : Int) (some ((u : Int), (v : Int)))) (k2 : Int) (some ((v : Int), (u : Int)))) →
    Fr (ToFt t Tf B r1 r2) H H' → L (.int .i64 0) H' := by
   intro S' H' hp hi hr h' hf'
   have fl6 : ∀ x, x ∈ S6.rows.flatten ↔ x = k1 ∨ x ∈ S.rows.flatten := fun x => by
    rw [rows6, List.flatten_cons, List.mem_append, List.mem_singleton]
    have : ((A1 ++ [u + 1]) :: (oL A2 ++ Z :: R)).flatten.Perm S.rows.flatten := by
     refine List.Perm.trans ?_ hRB.flatten.symm
     refine List.perm_iff_count.2 fun y => ?_
     rw [eZ]
     unfold oL
     split
     ·rename_i e; subst e; simp only [List.flatten_cons, List.count_append, List.flatten_append, List.flatten_nil, List.nil_append, List.count_nil, List.count_cons]; omega
     ·simp only [List.flatten_cons, List.count_append, List.flatten_append, List.flatten_nil, List.nil_append, List.count_nil, List.count_cons]; omega
    rw [this.mem_iff]
   have fl5 : k1 ∉ S.rows.flatten := fun hm => fr1.1 (by
    have h9 := (fl6 k1).2 (.inr hm)
    have : ((A1 ++ [u + 1]) :: (oL A2 ++ Z :: R)).flatten.Perm S.rows.flatten := by
     refine List.Perm.trans ?_ hRB.flatten.symm
     refine List.perm_iff_count.2 fun y => ?_
     rw [eZ]
     unfold oL
     split
     ·rename_i e; subst e; simp only [List.flatten_cons, List.count_append, List.flatten_append, List.flatten_nil, List.nil_append, List.count_nil, List.count_cons]; omega
     ·simp only [List.flatten_cons, List.count_append, List.flatten_append, List.flatten_nil, List.nil_append, List.count_nil, List.count_cons]; omega
    exact this.mem_iff.2 hm)
   have q1 : k2 ∉ S.rows.flatten := fun hm => fr2.1 ((fl6 k2).2 (.inr hm))
   have q2 : k1 ≠ k2 := fun e => fr2.1 ((fl6 k2).2 (.inl e.symm))
   have hRel := hR.link (S' := S') hu hv hne ha hb hRR h.fo.nodup fl5 q1 fr1.2 fr2.2 q2 (by rw [hr, room7]) (fun i => by rw [hi, it7]) (by rw [← eA1, ← eA2, ← eB1, ← eB2, ← eZ]; exact hp) h'.fo.nodup
   exact ToM.after h3 h4 (Q' := Q.lay _) h' hRel hf' hT7' fun T'' a b c => fin H' T'' a b c
  by_cases hz : A2 = []
  ·have t1 : ((A2.headD 0 : Nat) != (0 : Int)) = false := by rw [hz]; rfl
   repeat' (first|(with_reducible first|refine jA ?_|(refine hK _ _ ?_;clear hK K)|refine jJ fun K hK=>?_|refine jK ?_|refine jL ?_|refine jM ?_|refine jN ?_|refine jO ?_|refine jP ?_|refine jQ ?_|(refine jB ?_;clear hK K)|(refine jC ?_;clear hK K)|refine jD ?_|refine jE ?_|refine jG ?_|refine jH ?_|refine jI ?_)|((with_reducible refine jR ?hq ?_);case hq=>rfl)|((first|(with_reducible first|refine jS fun K hK=>?_|refine jT ?_|refine jU ?_)|((with_reducible refine jV ?hy fun K hK=>?_);case hy=>rfl));simp only [go_sem, Nat.reduceEqDiff, Nat.reduceAdd, Nat.reduceMul, Nat.reduceLeDiff, Nat.reduceLT, Int.reduceLT, Int.reduceLE, Int.reduceEq, Int.reduceNeg, Int.reduceToNat, Nat.reducePow, reduceIte, reduceCtorEq, i11, t1])|((with_reducible first|refine jW ?hy ?_|refine jY ?hy ?_);case hy=>rfl)|((with_reducible first|refine jX ?hy ?_|refine jZ ?hy ?_);case hy=>rfl)|((with_reducible refine jF ?hy ?_);case hy=>decide))
   refine last _ _ ?_ ?_ ?_ h10 hfr10
   ·rw [hz]
    exact List.Perm.of_eq (by simp [oL])
   ·rfl
   ·rfl
  ·obtain ⟨j, A3, rfl⟩ : ∃ j A3, A2 = j :: A3 := by
    cases hA2 : A2 with
    | nil => exact absurd hA2 hz
    | cons j A3 => exact ⟨j, A3, rfl⟩
   have hj : 1 ≤ j := h.fo.pos (List.mem_flatten.2 ⟨_, hR.row_mem hu, by rw [hA]; simp⟩)
   have t1 : (((j :: A3).headD 0 : Nat) != (0 : Int)) = true := by simp; omega
   repeat' (first|(with_reducible first|refine jA ?_|(refine hK _ _ ?_;clear hK K)|refine jJ fun K hK=>?_|refine jK ?_|refine jL ?_|refine jM ?_|refine jN ?_|refine jO ?_|refine jP ?_|refine jQ ?_|(refine jB ?_;clear hK K)|(refine jC ?_;clear hK K)|refine jD ?_|refine jE ?_|refine jG ?_|refine jH ?_|refine jI ?_)|((with_reducible refine jR ?hq ?_);case hq=>rfl)|((first|(with_reducible first|refine jS fun K hK=>?_|refine jT ?_|refine jU ?_)|((with_reducible refine jV ?hy fun K hK=>?_);case hy=>rfl));simp only [go_sem, Nat.reduceEqDiff, Nat.reduceAdd, Nat.reduceMul, Nat.reduceLeDiff, Nat.reduceLT, Int.reduceLT, Int.reduceLE, Int.reduceEq, Int.reduceNeg, Int.reduceToNat, Nat.reducePow, reduceIte, reduceCtorEq, i11, t1, i0, i7, c100])|((with_reducible first|refine jW ?hy ?_|refine jY ?hy ?_);case hy=>rfl)|((with_reducible first|refine jX ?hy ?_|refine jZ ?hy ?_);case hy=>rfl)|((with_reducible refine jF ?hy ?_);case hy=>decide))
   refine m_join (xs := A1 ++ [u + 1] ++ [k1] ++ Z ++ [k2]) (ys := j :: A3) (R := R) h10.fo (List.Perm.refl _) (by simp) (by simp) fun H11 hF11 hf11 => ?_
   have h11 := h10.op hF11 hf11
   repeat' (first|(with_reducible first|refine jA ?_|(refine hK _ _ ?_;clear hK K)|refine jJ fun K hK=>?_|refine jK ?_|refine jL ?_|refine jM ?_|refine jN ?_|refine jO ?_|refine jP ?_|refine jQ ?_|(refine jB ?_;clear hK K)|(refine jC ?_;clear hK K)|refine jD ?_|refine jE ?_|refine jG ?_|refine jH ?_|refine jI ?_)|((with_reducible refine jR ?hq ?_);case hq=>rfl)|((first|(with_reducible first|refine jS fun K hK=>?_|refine jT ?_|refine jU ?_)|((with_reducible refine jV ?hy fun K hK=>?_);case hy=>rfl));simp only [go_sem, Nat.reduceEqDiff, Nat.reduceAdd, Nat.reduceMul, Nat.reduceLeDiff, Nat.reduceLT, Int.reduceLT, Int.reduceLE, Int.reduceEq, Int.reduceNeg, Int.reduceToNat, Nat.reducePow, reduceIte, reduceCtorEq])|((with_reducible first|refine jW ?hy ?_|refine jY ?hy ?_);case hy=>rfl)|((with_reducible first|refine jX ?hy ?_|refine jZ ?hy ?_);case hy=>rfl)|((with_reducible refine jF ?hy ?_);case hy=>decide))
   refine last _ _ ?_ ?_ ?_ h11 (lift hfr10 hf11)
   ·exact List.Perm.of_eq (by simp)
   ·rfl
   ·rfl
 have hjp : ∀ j ∈ A2, 1 ≤ j := fun j hj => h.fo.pos (List.mem_flatten.2 ⟨_, hR.row_mem hu, by rw [hA]; simp [hj]⟩)
 refine x_cond (t := (((A2.headD 0 : Nat) : Int) != 0)) rfl (fun ht => ?_) (fun ht => ?_)
 ·obtain ⟨j, A3, rfl⟩ : ∃ j A3, A2 = j :: A3 := by
   cases hA2 : A2 with
   | nil => rw [hA2] at ht; simp at ht
   | cons j A3 => exact ⟨j, A3, rfl⟩
  repeat' (first|(with_reducible first|refine jA ?_|(refine hK _ _ ?_;clear hK K)|refine jJ fun K hK=>?_|refine jK ?_|refine jL ?_|refine jM ?_|refine jN ?_|refine jO ?_|refine jP ?_|refine jQ ?_|(refine jB ?_;clear hK K)|(refine jC ?_;clear hK K)|refine jD ?_|refine jE ?_|refine jG ?_|refine jH ?_|refine jI ?_)|((with_reducible refine jR ?hq ?_);case hq=>rfl)|((first|(with_reducible first|refine jS fun K hK=>?_|refine jT ?_|refine jU ?_)|((with_reducible refine jV ?hy fun K hK=>?_);case hy=>rfl));simp only [go_sem, Nat.reduceEqDiff, Nat.reduceAdd, Nat.reduceMul, Nat.reduceLeDiff, Nat.reduceLT, Int.reduceLT, Int.reduceLE, Int.reduceEq, Int.reduceNeg, Int.reduceToNat, Nat.reducePow, reduceIte, reduceCtorEq, g0])|((with_reducible first|refine jW ?hy ?_|refine jY ?hy ?_);case hy=>rfl)|((with_reducible first|refine jX ?hy ?_|refine jZ ?hy ?_);case hy=>rfl)|((with_reducible refine jF ?hy ?_);case hy=>decide))
  refine m_split (l := A1 ++ [u + 1]) (k := j) (r := A3) (R := Z :: R) h4'.fo (by rw [eZ]; simp only [List.append_assoc, List.singleton_append]; exact List.Perm.swap _ _ _) (by simp) fun H5 hF5 hf5 => ?_
  have h5 := h4'.op hF5 hf5
  repeat' (first|(with_reducible first|refine jA ?_|(refine hK _ _ ?_;clear hK K)|refine jJ fun K hK=>?_|refine jK ?_|refine jL ?_|refine jM ?_|refine jN ?_|refine jO ?_|refine jP ?_|refine jQ ?_|(refine jB ?_;clear hK K)|(refine jC ?_;clear hK K)|refine jD ?_|refine jE ?_|refine jG ?_|refine jH ?_|refine jI ?_)|((with_reducible refine jR ?hq ?_);case hq=>rfl)|((first|(with_reducible first|refine jS fun K hK=>?_|refine jT ?_|refine jU ?_)|((with_reducible refine jV ?hy fun K hK=>?_);case hy=>rfl));simp only [go_sem, Nat.reduceEqDiff, Nat.reduceAdd, Nat.reduceMul, Nat.reduceLeDiff, Nat.reduceLT, Int.reduceLT, Int.reduceLE, Int.reduceEq, Int.reduceNeg, Int.reduceToNat, Nat.reducePow, reduceIte, reduceCtorEq])|((with_reducible first|refine jW ?hy ?_|refine jY ?hy ?_);case hy=>rfl)|((with_reducible first|refine jX ?hy ?_|refine jZ ?hy ?_);case hy=>rfl)|((with_reducible refine jF ?hy ?_);case hy=>decide))
  exact tail _ _ rfl rfl rfl rfl rfl rfl h5 (hfr4.trans (hf5.mono fun b _ hb => .fo hb))
 ·have hz : A2 = [] := by
   cases hA2 : A2 with
   | nil => rfl
   | cons j A3 =>
    have := hjp j (by rw [hA2]; exact .head _)
    rw [hA2] at ht
    simp at ht
    omega
  repeat' (first|(with_reducible first|refine jA ?_|(refine hK _ _ ?_;clear hK K)|refine jJ fun K hK=>?_|refine jK ?_|refine jL ?_|refine jM ?_|refine jN ?_|refine jO ?_|refine jP ?_|refine jQ ?_|(refine jB ?_;clear hK K)|(refine jC ?_;clear hK K)|refine jD ?_|refine jE ?_|refine jG ?_|refine jH ?_|refine jI ?_)|((with_reducible refine jR ?hq ?_);case hq=>rfl)|((first|(with_reducible first|refine jS fun K hK=>?_|refine jT ?_|refine jU ?_)|((with_reducible refine jV ?hy fun K hK=>?_);case hy=>rfl));simp only [go_sem, Nat.reduceEqDiff, Nat.reduceAdd, Nat.reduceMul, Nat.reduceLeDiff, Nat.reduceLT, Int.reduceLT, Int.reduceLE, Int.reduceEq, Int.reduceNeg, Int.reduceToNat, Nat.reducePow, reduceIte, reduceCtorEq])|((with_reducible first|refine jW ?hy ?_|refine jY ?hy ?_);case hy=>rfl)|((with_reducible first|refine jX ?hy ?_|refine jZ ?hy ?_);case hy=>rfl)|((with_reducible refine jF ?hy ?_);case hy=>decide))
  refine tail _ _ rfl rfl rfl rfl rfl rfl ?_ hfr4
  refine h4'.op (h4'.fo.perm ?_) (.refl _ _)
  rw [hz, eZ]
  simp only [oL, if_true, List.nil_append]
  exact List.Perm.swap _ _ _
end
end Go.Proofs.Ytnlafhnbakipmaa
namespace Go.To
open Go Go.Hp Go.Sp Go.Proofs.Ytnlafhnbakipmaa
set_option linter.unusedVariables false
set_option linter.unusedSimpArgs false
def unmark (em : Nat → Nat → Bool) (u v : Nat) : Nat → Nat → Bool := fun a b => if (a, b) = (u, v) ∨ (a, b) = (v, u) then false else em a b
def Tq.cutTo (Q : Tq) (u v : Nat) (m o : List St) : Tq := { ((Q.lay m).lay o) with em := unmark Q.em u v }
section
variable {S S' : Sq} {Q : Tq} {st st' : Int × Int → Option Nat} {pr pr' : Int → Option (Int × Int)}
theorem Rel.cut (h : Rel S Q st pr) {u v : Nat} {x y : St} (hu : u < Q.n) (huv : u ≠ v) (hxy : (x = (u, v) ∧ y = (v, u)) ∨ (x = (v, u) ∧ y = (u, v))) {l1 m l2 : List St} (hl : Q.row u = l1 ++ x :: (m ++ y :: l2))
  {R : List (List Nat)} (hr : S.rows.Perm ((Q.row u).map (hd st) :: R)) (hnd : S.rows.flatten.Nodup) (hroom : S'.room = S.room) (hit : S'.it = S.it)
  (hr' : S'.rows.Perm (m.map (hd st) :: (l1 ++ l2).map (hd st) :: R))
  (hst : ∀ p, st' p = if p = ((x.1 : Int), (x.2 : Int)) ∨ p = ((y.1 : Int), (y.2 : Int)) then none else st p) (hpr : ∀ k, pr' k = if k = (hd st x : Int) ∨ k = (hd st y : Int) then none else pr k) :
  Rel S' (Q.cutTo u v m (l1 ++ l2)) st' pr' := by
 have hnn := h.ok.nd u hu
 rw [hl] at hnn
 have hxu : x ∈ Q.row u := by rw [hl]; simp
 have hyu : y ∈ Q.row u := by rw [hl]; simp
 have hxne : x.1 ≠ x.2 := by rcases hxy with ⟨rfl, rfl⟩ | ⟨rfl, rfl⟩ <;> first | exact huv | exact huv.symm
 have hyne : y.1 ≠ y.2 := by rcases hxy with ⟨rfl, rfl⟩ | ⟨rfl, rfl⟩ <;> first | exact huv.symm | exact huv
 have hpair : ∀ z : St, (z = (u, v) ∨ z = (v, u)) ↔ (z = x ∨ z = y) := fun z => by
  rcases hxy with ⟨rfl, rfl⟩ | ⟨rfl, rfl⟩
  ·exact Iff.rfl
  ·exact or_comm
 have nx : x ∉ l1 ∧ x ∉ m ∧ x ∉ l2 ∧ x ≠ y := by
  simp only [List.nodup_append, List.nodup_cons, List.mem_append, List.mem_cons, not_or] at hnn
  exact ⟨fun hm => hnn.2.2 _ hm _ (.inl rfl) rfl, hnn.2.1.1.1, hnn.2.1.1.2.2, hnn.2.1.1.2.1⟩
 have ny : y ∉ l1 ∧ y ∉ m ∧ y ∉ l2 := by
  simp only [List.nodup_append, List.nodup_cons, List.mem_append, List.mem_cons, not_or] at hnn
  exact ⟨fun hm => hnn.2.2 _ hm _ (.inr (.inr (.inl rfl))) rfl, fun hm => hnn.2.1.2.2.2 _ hm _ (.inl rfl) rfl, hnn.2.1.2.2.1.1⟩
 have htour : Tour m ∧ Tour (l1 ++ l2) := by
  have ht := h.ok.tour u hu
  rw [hl] at ht
  have hn2 := h.ok.nd u hu
  rw [hl] at hn2
  rcases hxy with ⟨rfl, rfl⟩ | ⟨rfl, rfl⟩
  ·exact Tour.cut huv (by simpa using hn2) (by simpa using ht)
  ·exact Tour.cut huv.symm (by simpa using hn2) (by simpa using ht)
 have hmn : m.Nodup := by
  simp only [List.nodup_append, List.nodup_cons, List.mem_append, List.mem_cons, not_or] at hnn
  exact hnn.2.1.2.1
 have hon : (l1 ++ l2).Nodup := by
  have hs : (l1 ++ l2).Sublist (l1 ++ x :: (m ++ y :: l2)) := List.Sublist.append (List.Sublist.refl _) (((List.sublist_cons_self y l2).trans (List.sublist_append_right m _)).cons x)
  exact hs.nodup hnn
 have hap : ∀ z, z ∈ m → z ∉ l1 ++ l2 := fun z hz ho => by
  simp only [List.nodup_append, List.nodup_cons, List.mem_append, List.mem_cons, not_or] at hnn
  rcases List.mem_append.1 ho with ho | ho
  ·exact hnn.2.2 _ ho _ (.inr (.inl hz)) rfl
  ·exact hnn.2.1.2.2.2 _ hz _ (.inr ho) rfl
 have memu : ∀ z, z ∈ Q.row u ↔ z ∈ m ∨ z ∈ l1 ++ l2 ∨ z = x ∨ z = y := fun z => by
  rw [hl]
  simp only [List.mem_append, List.mem_cons]
  constructor
  ·rintro (h | h | h | h | h)
   ·exact .inr (.inl (.inl h))
   ·exact .inr (.inr (.inl h))
   ·exact .inl h
   ·exact .inr (.inr (.inr h))
   ·exact .inr (.inl (.inr h))
  ·rintro (h | (h | h) | h | h)
   ·exact .inr (.inr (.inl h))
   ·exact .inl h
   ·exact .inr (.inr (.inr (.inr h)))
   ·exact .inr (.inl h)
   ·exact .inr (.inr (.inr (.inl h)))
 have stopne : ∀ w : Nat, (w, w) ≠ x ∧ (w, w) ≠ y := fun w => ⟨fun e => hxne (by rw [← e]), fun e => hyne (by rw [← e])⟩
 have memd : ∀ w : Nat, ((w, w) ∈ m ∨ (w, w) ∈ l1 ++ l2) ↔ (w, w) ∈ Q.row u := fun w => by
  rw [memu]
  constructor
  ·rintro (h | h)
   ·exact .inl h
   ·exact .inr (.inl h)
  ·rintro (h | h | h | h)
   ·exact .inl h
   ·exact .inr h
   ·exact absurd h (stopne w).1
   ·exact absurd h (stopne w).2
 obtain ⟨Q', hQ'⟩ : ∃ Q', Q' = Q.cutTo u v m (l1 ++ l2) := ⟨_, rfl⟩
 have rowO : ∀ w, (w, w) ∈ l1 ++ l2 → Q'.row w = l1 ++ l2 := fun w hw => by rw [hQ']; exact if_pos hw
 have rowM : ∀ w, (w, w) ∈ m → Q'.row w = m := fun w hw => by
  rw [hQ']
  show (if (w, w) ∈ l1 ++ l2 then l1 ++ l2 else if (w, w) ∈ m then m else Q.row w) = m
  rw [if_neg (hap _ hw), if_pos hw]
 have rowN : ∀ w, (w, w) ∉ Q.row u → Q'.row w = Q.row w := fun w hw => by
  rw [← memd] at hw
  rw [hQ']
  show (if (w, w) ∈ l1 ++ l2 then l1 ++ l2 else if (w, w) ∈ m then m else Q.row w) = Q.row w
  rw [if_neg (fun h => hw (.inr h)), if_neg (fun h => hw (.inl h))]
 have hfl : ∀ w : Nat, (w, w) ∈ [m, l1 ++ l2].flatten ↔ (w, w) ∈ [Q.row u].flatten := fun w => by
  simp only [List.flatten_cons, List.flatten_nil, List.append_nil, List.mem_append]
  rw [← memd, List.mem_append]
 have hrow : ∀ w, w < Q.n → ((∃ l' ∈ [m, l1 ++ l2], (w, w) ∈ l' ∧ Q'.row w = l') ∨ ((w, w) ∉ [m, l1 ++ l2].flatten ∧ Q'.row w = Q.row w)) := fun w hw => by
  by_cases h1 : (w, w) ∈ m
  ·exact .inl ⟨m, .head _, h1, rowM w h1⟩
  ·by_cases h2 : (w, w) ∈ l1 ++ l2
   ·exact .inl ⟨l1 ++ l2, .tail _ (.head _), h2, rowO w h2⟩
   ·have h3 : (w, w) ∉ Q.row u := fun hh => by rcases (memd w).2 hh with h | h; exact h1 h; exact h2 h
    exact .inr ⟨fun hh => h3 (by simpa using (hfl w).1 hh), rowN w h3⟩
 have up : ∀ a, a < Q.n → ∀ b : Nat, (a, b) ≠ x → (a, b) ≠ y → (a, b) ∈ Q.row a → (a, b) ∈ Q'.row a := fun a ha b h1 h2 hm => by
  by_cases hau : (a, a) ∈ Q.row u
  ·rw [(h.ok.same u hu a hau).2, memu] at hm
   rcases hm with hm | hm | hm | hm
   ·rw [rowM a (htour.1.ends hm).1]; exact hm
   ·rw [rowO a (htour.2.ends hm).1]; exact hm
   ·exact absurd hm h1
   ·exact absurd hm h2
  ·rw [rowN a hau]; exact hm
 have down : ∀ a, a < Q.n → ∀ b : Nat, (a, b) ∈ Q'.row a → (a, b) ∈ Q.row a ∧ (a, b) ≠ x ∧ (a, b) ≠ y := fun a ha b hm => by
  by_cases hau : (a, a) ∈ Q.row u
  ·rw [(h.ok.same u hu a hau).2]
   rcases (memd a).2 hau with h1 | h1
   ·rw [rowM a h1] at hm
    exact ⟨(memu _).2 (.inl hm), fun e => nx.2.1 (by rw [← e]; exact hm), fun e => ny.2.1 (by rw [← e]; exact hm)⟩
   ·rw [rowO a h1] at hm
    refine ⟨(memu _).2 (.inr (.inl hm)), fun e => ?_, fun e => ?_⟩
    ·rw [e] at hm
     rcases List.mem_append.1 hm with h | h
     ·exact nx.1 h
     ·exact nx.2.2.1 h
    ·rw [e] at hm
     rcases List.mem_append.1 hm with h | h
     ·exact ny.1 h
     ·exact ny.2.2 h
  ·rw [rowN a hau] at hm
   refine ⟨hm, fun e => ?_, fun e => ?_⟩
   ·rw [e] at hm
    have e1 := h.ok.row_eq ha hu hm hxu
    exact hau (by rw [← e1]; exact h.ok.self a ha)
   ·rw [e] at hm
    have e1 := h.ok.row_eq ha hu hm hyu
    exact hau (by rw [← e1]; exact h.ok.self a ha)
 have castx : ∀ (a b : Nat) (z : St), (((a : Int), (b : Int)) = ((z.1 : Int), (z.2 : Int))) ↔ (a, b) = z := fun a b z => by
  obtain ⟨c, d⟩ := z
  simp only [Prod.mk.injEq, Int.natCast_inj]
 have hstn : ∀ a b : Nat, (a, b) ≠ x → (a, b) ≠ y → st' ((a : Int), (b : Int)) = st ((a : Int), (b : Int)) := fun a b h1 h2 => by
  rw [hst, if_neg]
  rintro (e | e)
  ·exact h1 ((castx a b x).1 e)
  ·exact h2 ((castx a b y).1 e)
 have hhd : ∀ z : St, z ≠ x → z ≠ y → hd st' z = hd st z := fun z h1 h2 => by
  obtain ⟨a, b⟩ := z
  unfold hd
  simp only
  rw [hstn a b h1 h2]
 obtain ⟨kx, hx1, hx2, hx3⟩ := h.step_of hu (u := x.1) (v := x.2) hxne hxu
 obtain ⟨ky, hy1, hy2, hy3⟩ := h.step_of hu (u := y.1) (v := y.2) hyne hyu
 have hx2 : hd st x = kx := hx2
 have hy2 : hd st y = ky := hy2
 rw [← hQ']
 have hn' : Q'.n = Q.n := by rw [hQ']; rfl
 have hem' : ∀ a b, Q'.em a b = if (a, b) = x ∨ (a, b) = y then false else Q.em a b := fun a b => by
  rw [hQ']
  show unmark Q.em u v a b = _
  unfold unmark
  simp only [hpair]
 have hNmap : [m, l1 ++ l2].map (·.map (hd st')) = [m.map (hd st), (l1 ++ l2).map (hd st)] := by
  have e1 : m.map (hd st') = m.map (hd st) := List.map_congr_left fun z hz => hhd z (fun e => nx.2.1 (by rw [← e]; exact hz)) (fun e => ny.2.1 (by rw [← e]; exact hz))
  have e2 : (l1 ++ l2).map (hd st') = (l1 ++ l2).map (hd st) := List.map_congr_left fun z hz => hhd z
   (fun e => by rw [e] at hz; rcases List.mem_append.1 hz with h | h; exact nx.1 h; exact nx.2.2.1 h) (fun e => by rw [e] at hz; rcases List.mem_append.1 hz with h | h; exact ny.1 h; exact ny.2.2 h)
  rw [List.map_cons, List.map_singleton, e1, e2]
 refine ⟨h.ok.relay [Q.row u] [m, l1 ++ l2] hn' (by rw [hQ']; rfl) (fun l' hl' => ⟨u, hu, List.mem_singleton.1 hl'⟩) (fun l' hl' => ?_) hfl (fun a ha b hb w h1 h2 => ?_) hrow (fun a b => ?_) (fun a b e => ?_),
  by rw [hroom, hn']; exact h.room, fun p k hk => ?_, fun a b han hab hmm => ?_, fun k p => ?_, ?_, fun w hw => ?_, fun a b k hk => ?_⟩
 ·simp only [List.mem_cons, List.not_mem_nil, or_false] at hl'
  rcases hl' with rfl | rfl
  ·exact ⟨htour.1, hmn⟩
  ·exact ⟨htour.2, hon⟩
 ·simp only [List.mem_cons, List.not_mem_nil, or_false] at ha hb
  rcases ha with rfl | rfl <;> rcases hb with rfl | rfl
  ·rfl
  ·exact absurd h2 (hap _ h1)
  ·exact absurd h1 (hap _ h2)
  ·rfl
 ·rw [hem', hem', h.ok.sym a b]
  have : ((b, a) = x ∨ (b, a) = y) ↔ ((a, b) = x ∨ (a, b) = y) := by
   rw [← hpair, ← hpair]
   simp only [Prod.mk.injEq]
   constructor
   ·rintro (⟨h1, h2⟩ | ⟨h1, h2⟩)
    ·exact .inr ⟨h2, h1⟩
    ·exact .inl ⟨h2, h1⟩
   ·rintro (⟨h1, h2⟩ | ⟨h1, h2⟩)
    ·exact .inr ⟨h2, h1⟩
    ·exact .inl ⟨h2, h1⟩
  simp only [this]
 ·rw [hem'] at e
  split at e
  ·cases e
  ·rename_i hne
   rw [not_or] at hne
   obtain ⟨g1, g2, g3⟩ := h.ok.em a b e
   exact ⟨g1, g2, up a g1 b hne.1 hne.2 g3⟩
 ·rw [hst] at hk
  split at hk
  ·cases hk
  ·rename_i hne
   rw [not_or] at hne
   obtain ⟨a, b, rfl, g2, g3, g4, g5⟩ := h.sto p k hk
   exact ⟨a, b, rfl, g2, by rw [hn']; exact g3, up a g3 b (fun e => hne.1 ((castx a b x).2 e)) (fun e => hne.2 ((castx a b y).2 e)) g4, by rw [hn']; exact g5⟩
 ·rw [hn'] at han
  obtain ⟨g1, g2, g3⟩ := down a han b hmm
  rw [hstn a b g2 g3]
  exact h.ts a b han hab g1
 ·rw [hpr]
  have key : ∀ k' : Nat, ∀ p, st p = some k' → ((k' = kx ↔ p = ((x.1 : Int), (x.2 : Int))) ∧ (k' = ky ↔ p = ((y.1 : Int), (y.2 : Int)))) := fun k' p hp => by
   refine ⟨⟨fun e => ?_, fun e => ?_⟩, ⟨fun e => ?_, fun e => ?_⟩⟩
   ·subst e; exact h.inj_st hp hx1
   ·rw [e, hx1] at hp; exact (Option.some.inj hp).symm
   ·subst e; exact h.inj_st hp hy1
   ·rw [e, hy1] at hp; exact (Option.some.inj hp).symm
  rw [hx2, hy2]
  constructor
  ·intro e
   split at e
   ·cases e
   ·rename_i hne
    obtain ⟨k', rfl, hk⟩ := (h.pro k p).1 e
    refine ⟨k', rfl, ?_⟩
    rw [hst, if_neg]
    ·exact hk
    ·rintro (ep | ep)
     ·exact hne (.inl (by rw [((key k' p hk).1).2 ep]))
     ·exact hne (.inr (by rw [((key k' p hk).2).2 ep]))
  ·rintro ⟨k', rfl, hk⟩
   rw [hst] at hk
   split at hk
   ·cases hk
   ·rename_i hne
    rw [if_neg]
    ·exact (h.pro _ p).2 ⟨k', rfl, hk⟩
    ·rintro (ek | ek)
     ·exact hne (.inl (((key k' p hk).1).1 (Int.natCast_inj.1 ek)))
     ·exact hne (.inr (((key k' p hk).2).1 (Int.natCast_inj.1 ek)))
 ·refine h.relay hn' [Q.row u] [m, l1 ++ l2] R hr (by rw [hNmap]; exact hr') hnd (fun l' hl' => ⟨u, hu, List.mem_singleton.1 hl'⟩) (fun l' hl' => ?_) (fun w _ => hfl w) hrow fun w hw hwO z hz => ?_
  ·simp only [List.mem_cons, List.not_mem_nil, or_false] at hl'
   rcases hl' with rfl | rfl
   ·obtain ⟨w, hw⟩ := htour.1.some_stop
    exact ⟨w, (h.ok.same u hu w ((memd w).1 (.inl hw))).1, rowM w hw⟩
   ·obtain ⟨w, hw⟩ := htour.2.some_stop
    exact ⟨w, (h.ok.same u hu w ((memd w).1 (.inr hw))).1, rowO w hw⟩
  ·have hwu : (w, w) ∉ Q.row u := fun hh => hwO (by simpa using hh)
   refine hhd z (fun e => ?_) fun e => ?_
   ·rw [e] at hz
    exact hwu (by rw [← h.ok.row_eq hw hu hz hxu]; exact h.ok.self w hw)
   ·rw [e] at hz
    exact hwu (by rw [← h.ok.row_eq hw hu hz hyu]; exact h.ok.self w hw)
 ·rw [hn'] at hw
  rw [hit]
  have e1 : Q'.val = Q.val := by rw [hQ']; rfl
  have e2 : Q'.on = Q.on := by rw [hQ']; rfl
  rw [e1, e2]
  exact h.itv w hw
 ·rw [hit]
  rw [hst] at hk
  split at hk
  ·cases hk
  ·rename_i hne
   rw [not_or, castx, castx] at hne
   rw [hem', if_neg (by rw [not_or]; exact hne)]
   exact h.its a b k hk
end
end Go.To
