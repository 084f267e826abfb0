/-
  The laws' helpers: pick, graph, awake. Graphs whose edges stand otherwise.
  Plain: lists without one edge; which edges are bridges, as a list.
  BridgeCounts.
  What a law's walk is told of slices that came in.
  What a law's walk is told of slices of pairs that came in.
-/
import Derived.Test.YtpeaogldojepnaaG2
import Derived.Test.YtpeaogldojepnaaHpN
import Derived.WalkKit
import Derived.ProofKit
import Derived.OpenShut
import Derived.ShutString
import Derived.ChangeOld
import Derived.Below
import Derived.Deep.Fields
namespace Go.Br
open Go Go.Hp Go.Li
set_option linter.unusedVariables false
theorem srt_eq : ∀ {xs ys : List Int}, xs.Pairwise (· < ·) → ys.Pairwise (· < ·) → (∀ i, i ∈ xs ↔ i ∈ ys) → xs = ys
 | [], [], _, _, _ => rfl
 | [], y :: ys, _, _, h => by have := (h y).2 (.head _); cases this
 | x :: xs, [], _, _, h => by have := (h x).1 (.head _); cases this
 | x :: xs, y :: ys, hx, hy, h => by
  rw [List.pairwise_cons] at hx hy
  have e : x = y := by
   rcases List.mem_cons.1 ((h x).1 (.head _)) with e | e1
   ·exact e
   rcases List.mem_cons.1 ((h y).2 (.head _)) with e | e2
   ·exact e.symm
   have := hx.1 y e2
   have := hy.1 x e1
   omega
  subst e
  rw [srt_eq hx.2 hy.2 fun i => ⟨fun hi => ?_, fun hi => ?_⟩]
  ·rcases List.mem_cons.1 ((h i).1 (.tail _ hi)) with e | e
   ·have := hx.1 i hi; omega
   ·exact e
  ·rcases List.mem_cons.1 ((h i).2 (.tail _ hi)) with e | e
   ·have := hy.1 i hi; omega
   ·exact e
def Gr (n : Nat) (l : List Ed) : Prop := ∀ j x, l[j]? = some x → x.id = ((10 + j : Nat) : Int) ∧ x.w = 0 ∧ ∃ u v : Nat, x.u = (u : Int) ∧ x.v = (v : Int) ∧ u < n ∧ v < n ∧ u ≠ v
theorem Gr.nodup {n : Nat} {l : List Ed} (h : Gr n l) : (l.map (·.id)).Nodup := by
 rw [List.nodup_iff_pairwise_ne, List.pairwise_iff_getElem]
 intro i j hi hj hij
 rw [List.length_map] at hi hj
 rw [List.getElem_map, List.getElem_map, (h i _ (List.getElem?_eq_getElem hi)).1, (h j _ (List.getElem?_eq_getElem hj)).1]
 omega
theorem Gr.may {n : Nat} {l : List Ed} (h : Gr n l) (hl : l.length ≤ 1000) : May n l := by
 refine ⟨fun x hx => ?_, h.nodup⟩
 obtain ⟨j, hj, e⟩ := List.mem_iff_getElem.1 hx
 obtain ⟨h1, h2, u, v, h3, h4, h5, h6, h7⟩ := h j x (by rw [List.getElem?_eq_getElem hj, e])
 unfold okEd
 rw [decide_eq_true_iff]
 omega
theorem Gr.ends {n : Nat} {l : List Ed} (h : Gr n l) : ∀ x ∈ l, ∃ u v : Nat, x.u = u ∧ x.v = v ∧ u < n ∧ v < n := fun x hx => by
 obtain ⟨j, hj, e⟩ := List.mem_iff_getElem.1 hx
 obtain ⟨h1, h2, u, v, h3, h4, h5, h6, h7⟩ := h j x (by rw [List.getElem?_eq_getElem hj, e])
 exact ⟨u, v, h3, h4, h5, h6⟩
theorem Gr.more {n : Nat} {l : List Ed} {u v : Nat} (h : Gr n l) (hu : u < n) (hv : v < n) (huv : u ≠ v) : Gr n (l ++ [⟨((10 + l.length : Nat) : Int), u, v, 0⟩]) := by
 intro j x hx
 by_cases hj : j < l.length
 ·rw [List.getElem?_append_left hj] at hx
  exact h j x hx
 ·rw [List.getElem?_append_right (by omega)] at hx
  have hj' : j - l.length = 0 := by
   have := (List.getElem?_eq_some_iff.1 hx).1
   simp at this; omega
  rw [hj'] at hx
  obtain rfl := Option.some.inj hx
  exact ⟨by show ((10 + l.length : Nat) : Int) = _; omega, rfl, u, v, rfl, rfl, hu, hv, huv⟩
def InPairs (H : Heap) (a : Option Addr) (len : Nat) (zs : Nat → Int × Int) : Prop :=
 ∀ i, i < len → ∃ p : Addr, a = some p ∧ (hcell H (p.add (i * 2)) = some (.int .i64 (zs i).1) ∧ hcell H ⟨(p.add (i * 2)).block, (p.add (i * 2)).off + 1, none⟩ = some (.int .i64 (zs i).2)) ∧ (-9223372036854775808 ≤ (zs i).1 ∧ (zs i).1 ≤ 9223372036854775807) ∧ -9223372036854775808 ≤ (zs i).2 ∧ (zs i).2 ≤ 9223372036854775807
theorem InPairs.frame {H H' : Heap} {a : Option Addr} {len : Nat} {zs : Nat → Int × Int} (h : InPairs H a len zs) (hf : Fr (fun _ => False) H H') : InPairs H' a len zs := fun i hi => by
 obtain ⟨p, h1, ⟨c0, c1⟩, h5⟩ := h i hi
 have mv : ∀ {a : Addr} {v : Value}, hcell H a = some v → hcell H' a = some v := fun h => by rw [hf.cell (hcell_lt h) (fun h => h)]; exact h
 exact ⟨p, h1, ⟨mv c0, mv c1⟩, h5⟩
theorem sr_lit {α : Type} {C : α → List Value} {k : Nat} (hC : ∀ x, (C x).length = k) (H : Heap) (xs : List α) (T : TypeId) : SR C k (H.push (.cells (xs.flatMap C).toArray T)) (some H.size) (.slice (some ⟨H.size, 0, none⟩) xs.length xs.length) xs :=
 ⟨srf_len hC xs, .inr ⟨H.size, xs.length, [], rfl, rfl, by rw [List.append_nil]; exact Blk.new H _ T, by rw [List.append_nil, srf_len hC], Nat.le_refl _⟩⟩
theorem irlit (H : Heap) (xs : List Int) (T : TypeId) : IR (H.push (.cells (xs.map (Value.int .i64)).toArray T)) (some H.size) (.slice (some ⟨H.size, 0, none⟩) xs.length xs.length) xs :=
 ⟨by simp, .inr ⟨H.size, xs.length, [], rfl, rfl, by rw [List.append_nil]; exact Blk.new H _ T, by simp, Nat.le_refl _⟩⟩
def l5 : List Ed := [⟨1, 0, 1, 0⟩, ⟨2, 1, 2, 0⟩, ⟨3, 2, 0, 0⟩, ⟨4, 2, 3, 0⟩, ⟨5, 3, 4, 0⟩]
theorem inc5 {k x y : Nat} (h : Inc l5 k x y) : (k = 0 ∧ (x = 0 ∧ y = 1 ∨ x = 1 ∧ y = 0)) ∨ (k = 1 ∧ (x = 1 ∧ y = 2 ∨ x = 2 ∧ y = 1)) ∨ (k = 2 ∧ (x = 2 ∧ y = 0 ∨ x = 0 ∧ y = 2)) ∨ (k = 3 ∧ (x = 2 ∧ y = 3 ∨ x = 3 ∧ y = 2)) ∨ (k = 4 ∧ (x = 3 ∧ y = 4 ∨ x = 4 ∧ y = 3)) := by
 obtain ⟨e, he, h⟩ := h
 rcases k with _ | _ | _ | _ | _ | k
 ·have he' : some (⟨1, 0, 1, 0⟩ : Ed) = some e := he
  rw [← Option.some.inj he'] at h
  simp only at h
  refine .inl ⟨rfl, ?_⟩
  omega
 ·have he' : some (⟨2, 1, 2, 0⟩ : Ed) = some e := he
  rw [← Option.some.inj he'] at h
  simp only at h
  refine .inr (.inl ⟨rfl, ?_⟩)
  omega
 ·have he' : some (⟨3, 2, 0, 0⟩ : Ed) = some e := he
  rw [← Option.some.inj he'] at h
  simp only at h
  refine .inr (.inr (.inl ⟨rfl, ?_⟩))
  omega
 ·have he' : some (⟨4, 2, 3, 0⟩ : Ed) = some e := he
  rw [← Option.some.inj he'] at h
  simp only at h
  refine .inr (.inr (.inr (.inl ⟨rfl, ?_⟩)))
  omega
 ·have he' : some (⟨5, 3, 4, 0⟩ : Ed) = some e := he
  rw [← Option.some.inj he'] at h
  simp only at h
  refine .inr (.inr (.inr (.inr ⟨rfl, ?_⟩)))
  omega
 ·have he' : (none : Option Ed) = some e := he
  cases he'
theorem e50 : Inc l5 0 0 1 := ⟨_, rfl, .inl ⟨rfl, rfl⟩⟩
theorem e51 : Inc l5 1 1 2 := ⟨_, rfl, .inl ⟨rfl, rfl⟩⟩
theorem e52 : Inc l5 2 2 0 := ⟨_, rfl, .inl ⟨rfl, rfl⟩⟩
theorem e53 : Inc l5 3 2 3 := ⟨_, rfl, .inl ⟨rfl, rfl⟩⟩
theorem e54 : Inc l5 4 3 4 := ⟨_, rfl, .inl ⟨rfl, rfl⟩⟩
theorem bridge5 (k : Nat) : Bridge l5 k ↔ k = 3 ∨ k = 4 := by
 constructor
 ·rintro ⟨a, b, hi, hn⟩
  have := inc5 hi
  by_cases h3 : k = 3
  ·exact .inl h3
  by_cases h4 : k = 4
  ·exact .inr h4
  refine absurd ?_ hn
  have h0 : k = 0 ∨ k = 1 ∨ k = 2 := by omega
  have a0 : k ≠ 0 → Con (Av l5 k) 0 1 := fun h => .one ⟨0, Ne.symm h, e50⟩
  have a1 : k ≠ 1 → Con (Av l5 k) 1 2 := fun h => .one ⟨1, Ne.symm h, e51⟩
  have a2 : k ≠ 2 → Con (Av l5 k) 2 0 := fun h => .one ⟨2, Ne.symm h, e52⟩
  rcases h0 with rfl | rfl | rfl
  ·have c := ((a1 (by decide)).trans (a2 (by decide))).symm
   rcases (show (a = 0 ∧ b = 1) ∨ (a = 1 ∧ b = 0) by omega) with ⟨rfl, rfl⟩ | ⟨rfl, rfl⟩
   ·exact c
   ·exact c.symm
  ·have c := ((a2 (by decide)).trans (a0 (by decide))).symm
   rcases (show (a = 1 ∧ b = 2) ∨ (a = 2 ∧ b = 1) by omega) with ⟨rfl, rfl⟩ | ⟨rfl, rfl⟩
   ·exact c
   ·exact c.symm
  ·have c := ((a0 (by decide)).trans (a1 (by decide))).symm
   rcases (show (a = 2 ∧ b = 0) ∨ (a = 0 ∧ b = 2) by omega) with ⟨rfl, rfl⟩ | ⟨rfl, rfl⟩
   ·exact c
   ·exact c.symm
 ·rintro (rfl | rfl)
  ·refine ⟨2, 3, e53, fun c => ?_⟩
   have := Con.closed (P := fun x => x ≤ 2) (fun x y ⟨j, hj, h⟩ => by have := inc5 h; omega) c
   omega
  ·refine ⟨3, 4, e54, fun c => ?_⟩
   have := Con.closed (P := fun x => x ≤ 3) (fun x y ⟨j, hj, h⟩ => by have := inc5 h; omega) c
   omega
theorem ids5 {ids : List Int} (h : IsBr l5 ids) : ids = [4, 5] := by
 refine srt_eq h.srt (by simp) fun i => (h.mem i).trans ?_
 constructor
 ·rintro ⟨k, x, h1, rfl, h2⟩
  rcases (bridge5 k).1 h2 with rfl | rfl
  ·obtain rfl := Option.some.inj h1; simp
  ·obtain rfl := Option.some.inj h1; simp
 ·intro hi
  simp only [List.mem_cons, List.not_mem_nil, or_false] at hi
  rcases hi with rfl | rfl
  ·exact ⟨3, _, rfl, rfl, (bridge5 3).2 (.inl rfl)⟩
  ·exact ⟨4, _, rfl, rfl, (bridge5 4).2 (.inr rfl)⟩
theorem p5 {p : Nat → Nat} (h : Least (Firm l5) 6 p) : ∀ v, v < 6 → p v = if v < 3 then 0 else v := by
 have f : ∀ {j a b}, ¬ (j = 3 ∨ j = 4) → Inc l5 j a b → Con (Firm l5) a b := fun hj hi => .one ⟨_, fun hb => hj ((bridge5 _).1 hb), hi⟩
 intro v hv
 have hc := h.con v hv
 by_cases h3 : v < 3
 ·rw [if_pos h3]
  have : Con (Firm l5) v 0 := by
   rcases (show v = 0 ∨ v = 1 ∨ v = 2 by omega) with rfl | rfl | rfl
   ·exact .refl _
   ·exact (f (by decide) e50).symm
   ·exact f (by decide) e52
  have := h.le v 0 hv (by omega) this
  omega
 ·rw [if_neg h3]
  have := Con.closed (P := fun x => x = v) (fun x y ⟨j, hj, hi⟩ => by
   rw [bridge5] at hj
   have := inc5 hi
   omega) hc
  exact this.1 rfl
theorem cnt5 {p : Nat → Nat} (h : Least (Firm l5) 6 p) : cnt 6 p = 4 := by
 rw [cnt_congr (p5 h)]
 decide
theorem may5 : May 6 l5 := by decide
end Go.Br
namespace Go.Proofs.Ytpeaogldojepnaa
open Go Go.Hp Go.Li Go.Br
set_option linter.all false
set_option maxRecDepth 100000
set_option maxHeartbeats 3200000
section
variable {H H' : Heap} {L : Value → Heap → Prop}
theorem pick_nat {c : Int} {n : Nat} (h : -9223372036854775808 ≤ c ∧ c ≤ 9223372036854775807) (hn : 0 < n) (fin : ∀ k : Nat, k < n → L (.int .i64 (k : Nat)) H) : CallsH Try.prog 9 #[.int .i64 c, .int .i64 (n : Nat)] H L := by
 refine Pkisthmuslaw08.pick_ok h.1 h.2 (by omega) ?_
 obtain ⟨u0, u1⟩ := pickN_range c (n := (n : Int)) (by omega)
 obtain ⟨u, eu⟩ := Int.eq_ofNat_of_zero_le u0
 rw [eu] at u1 ⊢
 exact fin u (Int.ofNat_lt.1 u1)
theorem graph_ok {a : Option Addr} {len c n most : Nat} {zs : Nat → Int × Int} (hin : InPairs H a len zs) (hlen : len ≤ 9223372036854775807) (hn : 0 < n) (hm : most ≤ 1000)
  (fin : ∀ H' B v l, SR Ed.cells 4 H' B v l → (∀ b, B = some b → H.size ≤ b) → Gr n l → l.length ≤ most → Fr (fun _ => False) H H' → L v H') :
  CallsH Try.prog 10 #[.int .i64 (n : Nat), .slice a len c, .int .i64 (most : Nat)] H L := by
 refine call10 (by simp) ?_
 simp only [Try.f10, Option.getD_some]
 repeat' (first|(with_reducible first|refine jA ?_|(refine hK _ _ ?_;clear hK K)|refine jJ fun K hK=>?_|refine jK ?_|refine jL ?_|refine jM ?_|refine jN ?_|refine jO ?_|refine jP ?_|refine jQ ?_|(refine jB ?_;clear hK K)|(refine jC ?_;clear hK K)|refine jD ?_|refine jE ?_|refine jG ?_|refine jH ?_|refine jI ?_)|((with_reducible refine jR ?hq ?_);case hq=>rfl)|((first|(with_reducible first|refine jS fun K hK=>?_|refine jT ?_|refine jU ?_)|((with_reducible refine jV ?hy fun K hK=>?_);case hy=>rfl));simp only [go_sem, Nat.reduceEqDiff, Nat.reduceAdd, Nat.reduceMul, Nat.reduceLeDiff, Nat.reduceLT, Int.reduceLT, Int.reduceLE, Int.reduceEq, Int.reduceNeg, Int.reduceToNat, Nat.reducePow, reduceIte, reduceCtorEq])|((with_reducible first|refine jW ?hy ?_|refine jY ?hy ?_);case hy=>rfl)|((with_reducible first|refine jX ?hy ?_|refine jZ ?hy ?_);case hy=>rfl)|((with_reducible refine jF ?hy ?_);case hy=>decide))
 refine x_loop (fun m e' H' => ∃ (i : Nat) (B : Option Nat) (v : Value) (l : List Ed), e' 8 = .int .i64 (i : Nat) ∧ e' 7 = v ∧ i ≤ len ∧ SR Ed.cells 4 H' B v l ∧ (∀ b, B = some b → H.size ≤ b) ∧ Gr n l ∧ l.length ≤ most ∧ Fr (fun _ => False) H H' ∧ m = len - i) len
  ⟨0, none, _, [], rfl, rfl, Nat.zero_le _, SR.nil _ _ _, nofun, fun j x h => by simp at h, Nat.zero_le _, Fr.refl _ _, rfl⟩ ?_
 rintro m e1 H1 ⟨i, B, v, l, i8, i7, hi, hl, hB, hg, hll, f1, hm1⟩ hoff
 have i0 : e1 0 = .int .i64 (n : Nat) := (hoff 0 rfl).trans rfl
 have i1 : e1 1 = .slice a len c := (hoff 1 rfl).trans rfl
 have i2 : e1 2 = .int .i64 (most : Nat) := (hoff 2 rfl).trans rfl
 clear hoff
 obtain ⟨sv, cv, rfl⟩ := hl.slice
 by_cases hlt : i < len
 ·have t1 : ((i : Int) < (len : Int)) = True := eq_true (by omega)
  have t1' : (i < len) = True := eq_true hlt
  have ew : IntKind.i64.wrap ((i : Int) + 1) = ((i + 1 : Nat) : Int) := by rw [wrap_i64] <;> omega
  by_cases hml : l.length < most
  ·have t2 : ((l.length : Int) < (most : Int)) = True := eq_true (by omega)
   have t2' : (l.length < most) = True := eq_true hml
   obtain ⟨q, rfl, ⟨q0, q1⟩, hf1, hf2⟩ := (hin.frame f1) i hlt
   repeat' (first|(with_reducible first|refine jA ?_|(refine hK _ _ ?_;clear hK K)|refine jJ fun K hK=>?_|refine jK ?_|refine jL ?_|refine jM ?_|refine jN ?_|refine jO ?_|refine jP ?_|refine jQ ?_|(refine jB ?_;clear hK K)|(refine jC ?_;clear hK K)|refine jD ?_|refine jE ?_|refine jG ?_|refine jH ?_|refine jI ?_)|((with_reducible refine jR ?hq ?_);case hq=>rfl)|((first|(with_reducible first|refine jS fun K hK=>?_|refine jT ?_|refine jU ?_)|((with_reducible refine jV ?hy fun K hK=>?_);case hy=>rfl));simp only [go_sem, Nat.reduceEqDiff, Nat.reduceAdd, Nat.reduceMul, Nat.reduceLeDiff, Nat.reduceLT, Int.reduceLT, Int.reduceLE, Int.reduceEq, Int.reduceNeg, Int.reduceToNat, Nat.reducePow, reduceIte, reduceCtorEq, i0, i1, i2, i7, i8, t1, t1', t2, t2', q0])|((with_reducible first|refine jW ?hy ?_|refine jY ?hy ?_);case hy=>rfl)|((with_reducible first|refine jX ?hy ?_|refine jZ ?hy ?_);case hy=>rfl)|((with_reducible refine jF ?hy ?_);case hy=>decide))
   refine pick_nat hf1 hn fun u hu => ?_
   repeat' (first|(with_reducible first|refine jA ?_|(refine hK _ _ ?_;clear hK K)|refine jJ fun K hK=>?_|refine jK ?_|refine jL ?_|refine jM ?_|refine jN ?_|refine jO ?_|refine jP ?_|refine jQ ?_|(refine jB ?_;clear hK K)|(refine jC ?_;clear hK K)|refine jD ?_|refine jE ?_|refine jG ?_|refine jH ?_|refine jI ?_)|((with_reducible refine jR ?hq ?_);case hq=>rfl)|((first|(with_reducible first|refine jS fun K hK=>?_|refine jT ?_|refine jU ?_)|((with_reducible refine jV ?hy fun K hK=>?_);case hy=>rfl));simp only [go_sem, Nat.reduceEqDiff, Nat.reduceAdd, Nat.reduceMul, Nat.reduceLeDiff, Nat.reduceLT, Int.reduceLT, Int.reduceLE, Int.reduceEq, Int.reduceNeg, Int.reduceToNat, Nat.reducePow, reduceIte, reduceCtorEq, i0, i1, i8, t1, t1', q1])|((with_reducible first|refine jW ?hy ?_|refine jY ?hy ?_);case hy=>rfl)|((with_reducible first|refine jX ?hy ?_|refine jZ ?hy ?_);case hy=>rfl)|((with_reducible refine jF ?hy ?_);case hy=>decide))
   refine pick_nat hf2 hn fun v hv => ?_
   by_cases huv : u = v
   ·have t3 : ((u : Int) != (v : Int)) = false := by simp [huv]
    repeat' (first|(with_reducible first|refine jA ?_|(refine hK _ _ ?_;clear hK K)|refine jJ fun K hK=>?_|refine jK ?_|refine jL ?_|refine jM ?_|refine jN ?_|refine jO ?_|refine jP ?_|refine jQ ?_|(refine jB ?_;clear hK K)|(refine jC ?_;clear hK K)|refine jD ?_|refine jE ?_|refine jG ?_|refine jH ?_|refine jI ?_)|((with_reducible refine jR ?hq ?_);case hq=>rfl)|((first|(with_reducible first|refine jS fun K hK=>?_|refine jT ?_|refine jU ?_)|((with_reducible refine jV ?hy fun K hK=>?_);case hy=>rfl));simp only [go_sem, Nat.reduceEqDiff, Nat.reduceAdd, Nat.reduceMul, Nat.reduceLeDiff, Nat.reduceLT, Int.reduceLT, Int.reduceLE, Int.reduceEq, Int.reduceNeg, Int.reduceToNat, Nat.reducePow, reduceIte, reduceCtorEq, t3, i8, ew])|((with_reducible first|refine jW ?hy ?_|refine jY ?hy ?_);case hy=>rfl)|((with_reducible first|refine jX ?hy ?_|refine jZ ?hy ?_);case hy=>rfl)|((with_reducible refine jF ?hy ?_);case hy=>decide))
    exact loop_normal (m' := len - (i + 1)) (by omega) ⟨i + 1, B, _, l, rfl, i7, hlt, hl, hB, hg, hll, f1, rfl⟩
   ·have t3 : ((u : Int) != (v : Int)) = true := by simp; omega
    have ewl : IntKind.i64.wrap (10 + (l.length : Int)) = ((10 + l.length : Nat) : Int) := by rw [wrap_i64] <;> omega
    repeat' (first|(with_reducible first|refine jA ?_|(refine hK _ _ ?_;clear hK K)|refine jJ fun K hK=>?_|refine jK ?_|refine jL ?_|refine jM ?_|refine jN ?_|refine jO ?_|refine jP ?_|refine jQ ?_|(refine jB ?_;clear hK K)|(refine jC ?_;clear hK K)|refine jD ?_|refine jE ?_|refine jG ?_|refine jH ?_|refine jI ?_)|((with_reducible refine jR ?hq ?_);case hq=>rfl)|((first|(with_reducible first|refine jS fun K hK=>?_|refine jT ?_|refine jU ?_)|((with_reducible refine jV ?hy fun K hK=>?_);case hy=>rfl));simp only [go_sem, Nat.reduceEqDiff, Nat.reduceAdd, Nat.reduceMul, Nat.reduceLeDiff, Nat.reduceLT, Int.reduceLT, Int.reduceLE, Int.reduceEq, Int.reduceNeg, Int.reduceToNat, Nat.reducePow, reduceIte, reduceCtorEq, t3, i7, ewl])|((with_reducible first|refine jW ?hy ?_|refine jY ?hy ?_);case hy=>rfl)|((with_reducible first|refine jX ?hy ?_|refine jZ ?hy ?_);case hy=>rfl)|((with_reducible refine jF ?hy ?_);case hy=>decide))
    refine append_sr edC_len edC_plain (x := ⟨((10 + l.length : Nat) : Int), u, v, 0⟩) elems25 tl35 hl rfl (by decide) (by simp; omega) rfl fun v2 H2 B2 hl2 f2 hB2 => ?_
    repeat' (first|(with_reducible first|refine jA ?_|(refine hK _ _ ?_;clear hK K)|refine jJ fun K hK=>?_|refine jK ?_|refine jL ?_|refine jM ?_|refine jN ?_|refine jO ?_|refine jP ?_|refine jQ ?_|(refine jB ?_;clear hK K)|(refine jC ?_;clear hK K)|refine jD ?_|refine jE ?_|refine jG ?_|refine jH ?_|refine jI ?_)|((with_reducible refine jR ?hq ?_);case hq=>rfl)|((first|(with_reducible first|refine jS fun K hK=>?_|refine jT ?_|refine jU ?_)|((with_reducible refine jV ?hy fun K hK=>?_);case hy=>rfl));simp only [go_sem, Nat.reduceEqDiff, Nat.reduceAdd, Nat.reduceMul, Nat.reduceLeDiff, Nat.reduceLT, Int.reduceLT, Int.reduceLE, Int.reduceEq, Int.reduceNeg, Int.reduceToNat, Nat.reducePow, reduceIte, reduceCtorEq, i8, ew])|((with_reducible first|refine jW ?hy ?_|refine jY ?hy ?_);case hy=>rfl)|((with_reducible first|refine jX ?hy ?_|refine jZ ?hy ?_);case hy=>rfl)|((with_reducible refine jF ?hy ?_);case hy=>decide))
    refine loop_normal (m' := len - (i + 1)) (by omega) ⟨i + 1, B2, v2, _, rfl, rfl, hlt, hl2, fun b hb => ?_, hg.more hu hv huv, by simp; omega, f1.trans' f2 fun b hb e => by have := hB b e; omega, rfl⟩
    rcases hB2 with e | ⟨g', e1, e2⟩
    ·exact hB b (by rw [← e]; exact hb)
    ·rw [e1] at hb
     have := Option.some.inj hb
     have := f1.size
     omega
  ·have t2 : ((l.length : Int) < (most : Int)) = False := eq_false (by omega)
   have t2' : (l.length < most) = False := eq_false hml
   repeat' (first|(with_reducible first|refine jA ?_|(refine hK _ _ ?_;clear hK K)|refine jJ fun K hK=>?_|refine jK ?_|refine jL ?_|refine jM ?_|refine jN ?_|refine jO ?_|refine jP ?_|refine jQ ?_|(refine jB ?_;clear hK K)|(refine jC ?_;clear hK K)|refine jD ?_|refine jE ?_|refine jG ?_|refine jH ?_|refine jI ?_)|((with_reducible refine jR ?hq ?_);case hq=>rfl)|((first|(with_reducible first|refine jS fun K hK=>?_|refine jT ?_|refine jU ?_)|((with_reducible refine jV ?hy fun K hK=>?_);case hy=>rfl));simp only [go_sem, Nat.reduceEqDiff, Nat.reduceAdd, Nat.reduceMul, Nat.reduceLeDiff, Nat.reduceLT, Int.reduceLT, Int.reduceLE, Int.reduceEq, Int.reduceNeg, Int.reduceToNat, Nat.reducePow, reduceIte, reduceCtorEq, i1, i2, i7, i8, t1, t1', t2, t2'])|((with_reducible first|refine jW ?hy ?_|refine jY ?hy ?_);case hy=>rfl)|((with_reducible first|refine jX ?hy ?_|refine jZ ?hy ?_);case hy=>rfl)|((with_reducible refine jF ?hy ?_);case hy=>decide))
   exact fin H1 B _ l hl hB hg hll f1
 ·have t1 : ((i : Int) < (len : Int)) = False := eq_false (by omega)
  have t1' : (i < len) = False := eq_false hlt
  repeat' (first|(with_reducible first|refine jA ?_|(refine hK _ _ ?_;clear hK K)|refine jJ fun K hK=>?_|refine jK ?_|refine jL ?_|refine jM ?_|refine jN ?_|refine jO ?_|refine jP ?_|refine jQ ?_|(refine jB ?_;clear hK K)|(refine jC ?_;clear hK K)|refine jD ?_|refine jE ?_|refine jG ?_|refine jH ?_|refine jI ?_)|((with_reducible refine jR ?hq ?_);case hq=>rfl)|((first|(with_reducible first|refine jS fun K hK=>?_|refine jT ?_|refine jU ?_)|((with_reducible refine jV ?hy fun K hK=>?_);case hy=>rfl));simp only [go_sem, Nat.reduceEqDiff, Nat.reduceAdd, Nat.reduceMul, Nat.reduceLeDiff, Nat.reduceLT, Int.reduceLT, Int.reduceLE, Int.reduceEq, Int.reduceNeg, Int.reduceToNat, Nat.reducePow, reduceIte, reduceCtorEq, i1, i7, i8, t1, t1'])|((with_reducible first|refine jW ?hy ?_|refine jY ?hy ?_);case hy=>rfl)|((with_reducible first|refine jX ?hy ?_|refine jZ ?hy ?_);case hy=>rfl)|((with_reducible refine jF ?hy ?_);case hy=>decide))
  exact fin H1 B _ l hl hB hg hll f1
theorem awake_ok (fin : ∀ H', Fr (fun _ => False) H H' → L (.bool true) H') : CallsH Try.prog 8 #[] H L := by
 have hl := sr_lit edC_len H l5 35
 have f0 : Fr (fun _ => False) H (H.push (.cells (l5.flatMap Ed.cells).toArray 35)) := (Fr.refl _ _).push _
 refine call8 (by simp) ?_
 simp only [Try.f8, Option.getD_some]
 repeat' (first|(with_reducible first|refine jA ?_|(refine hK _ _ ?_;clear hK K)|refine jJ fun K hK=>?_|refine jK ?_|refine jL ?_|refine jM ?_|refine jN ?_|refine jO ?_|refine jP ?_|refine jQ ?_|(refine jB ?_;clear hK K)|(refine jC ?_;clear hK K)|refine jD ?_|refine jE ?_|refine jG ?_|refine jH ?_|refine jI ?_)|((with_reducible refine jR ?hq ?_);case hq=>rfl)|((first|(with_reducible first|refine jS fun K hK=>?_|refine jT ?_|refine jU ?_)|((with_reducible refine jV ?hy fun K hK=>?_);case hy=>rfl));simp only [go_sem, Nat.reduceEqDiff, Nat.reduceAdd, Nat.reduceMul, Nat.reduceLeDiff, Nat.reduceLT, Int.reduceLT, Int.reduceLE, Int.reduceEq, Int.reduceNeg, Int.reduceToNat, Nat.reducePow, reduceIte, reduceCtorEq])|((with_reducible first|refine jW ?hy ?_|refine jY ?hy ?_);case hy=>rfl)|((with_reducible first|refine jX ?hy ?_|refine jZ ?hy ?_);case hy=>rfl)|((with_reducible refine jF ?hy ?_);case hy=>decide))
 refine Of_ok (n := 6) hl (by omega) (by omega) (by decide) may5 fun H1 o T ids p hO hT hbr hP hpn f1 => ?_
 have eids := ids5 hbr
 subst eids
 have e1 := p5 hP 1 (by omega)
 have z0 : ((0 : Int) != 0) = false := rfl
 repeat' (first|(with_reducible first|refine jA ?_|(refine hK _ _ ?_;clear hK K)|refine jJ fun K hK=>?_|refine jK ?_|refine jL ?_|refine jM ?_|refine jN ?_|refine jO ?_|refine jP ?_|refine jQ ?_|(refine jB ?_;clear hK K)|(refine jC ?_;clear hK K)|refine jD ?_|refine jE ?_|refine jG ?_|refine jH ?_|refine jI ?_)|((with_reducible refine jR ?hq ?_);case hq=>rfl)|((first|(with_reducible first|refine jS fun K hK=>?_|refine jT ?_|refine jU ?_)|((with_reducible refine jV ?hy fun K hK=>?_);case hy=>rfl));simp only [go_sem, Nat.reduceEqDiff, Nat.reduceAdd, Nat.reduceMul, Nat.reduceLeDiff, Nat.reduceLT, Int.reduceLT, Int.reduceLE, Int.reduceEq, Int.reduceNeg, Int.reduceToNat, Nat.reducePow, reduceIte, reduceCtorEq, z0])|((with_reducible first|refine jW ?hy ?_|refine jY ?hy ?_);case hy=>rfl)|((with_reducible first|refine jX ?hy ?_|refine jZ ?hy ?_);case hy=>rfl)|((with_reducible refine jF ?hy ?_);case hy=>decide))
 refine Bridges_ok hO (by decide) fun H2 B v hv hB f2 => ?_
 repeat' (first|(with_reducible first|refine jA ?_|(refine hK _ _ ?_;clear hK K)|refine jJ fun K hK=>?_|refine jK ?_|refine jL ?_|refine jM ?_|refine jN ?_|refine jO ?_|refine jP ?_|refine jQ ?_|(refine jB ?_;clear hK K)|(refine jC ?_;clear hK K)|refine jD ?_|refine jE ?_|refine jG ?_|refine jH ?_|refine jI ?_)|((with_reducible refine jR ?hq ?_);case hq=>rfl)|((first|(with_reducible first|refine jS fun K hK=>?_|refine jT ?_|refine jU ?_)|((with_reducible refine jV ?hy fun K hK=>?_);case hy=>rfl));simp only [go_sem, Nat.reduceEqDiff, Nat.reduceAdd, Nat.reduceMul, Nat.reduceLeDiff, Nat.reduceLT, Int.reduceLT, Int.reduceLE, Int.reduceEq, Int.reduceNeg, Int.reduceToNat, Nat.reducePow, reduceIte, reduceCtorEq])|((with_reducible first|refine jW ?hy ?_|refine jY ?hy ?_);case hy=>rfl)|((with_reducible first|refine jX ?hy ?_|refine jZ ?hy ?_);case hy=>rfl)|((with_reducible refine jF ?hy ?_);case hy=>decide))
 have hk := irlit H2 [4, 5] 3
 have f3 : Fr (fun _ => False) H2 (H2.push (.cells (([4, 5] : List Int).map (Value.int .i64)).toArray 3)) := (Fr.refl _ _).push _
 refine Pkisthmuslaw08.same_ok (hv.rds.frame f3 fun _ _ h => h) hk.rds (by decide) ?_
 have hO3 := hO.frame (f2.trans f3) fun _ _ h => h
 repeat' (first|(with_reducible first|refine jA ?_|(refine hK _ _ ?_;clear hK K)|refine jJ fun K hK=>?_|refine jK ?_|refine jL ?_|refine jM ?_|refine jN ?_|refine jO ?_|refine jP ?_|refine jQ ?_|(refine jB ?_;clear hK K)|(refine jC ?_;clear hK K)|refine jD ?_|refine jE ?_|refine jG ?_|refine jH ?_|refine jI ?_)|((with_reducible refine jR ?hq ?_);case hq=>rfl)|((first|(with_reducible first|refine jS fun K hK=>?_|refine jT ?_|refine jU ?_)|((with_reducible refine jV ?hy fun K hK=>?_);case hy=>rfl));simp only [go_sem, Nat.reduceEqDiff, Nat.reduceAdd, Nat.reduceMul, Nat.reduceLeDiff, Nat.reduceLT, Int.reduceLT, Int.reduceLE, Int.reduceEq, Int.reduceNeg, Int.reduceToNat, Nat.reducePow, reduceIte, reduceCtorEq])|((with_reducible first|refine jW ?hy ?_|refine jY ?hy ?_);case hy=>rfl)|((with_reducible first|refine jX ?hy ?_|refine jZ ?hy ?_);case hy=>rfl)|((with_reducible refine jF ?hy ?_);case hy=>decide))
 refine Block_ok hO3 (by omega) (k := 1) (by omega) ?_
 rw [e1]
 repeat' (first|(with_reducible first|refine jA ?_|(refine hK _ _ ?_;clear hK K)|refine jJ fun K hK=>?_|refine jK ?_|refine jL ?_|refine jM ?_|refine jN ?_|refine jO ?_|refine jP ?_|refine jQ ?_|(refine jB ?_;clear hK K)|(refine jC ?_;clear hK K)|refine jD ?_|refine jE ?_|refine jG ?_|refine jH ?_|refine jI ?_)|((with_reducible refine jR ?hq ?_);case hq=>rfl)|((first|(with_reducible first|refine jS fun K hK=>?_|refine jT ?_|refine jU ?_)|((with_reducible refine jV ?hy fun K hK=>?_);case hy=>rfl));simp only [go_sem, Nat.reduceEqDiff, Nat.reduceAdd, Nat.reduceMul, Nat.reduceLeDiff, Nat.reduceLT, Int.reduceLT, Int.reduceLE, Int.reduceEq, Int.reduceNeg, Int.reduceToNat, Nat.reducePow, reduceIte, reduceCtorEq])|((with_reducible first|refine jW ?hy ?_|refine jY ?hy ?_);case hy=>rfl)|((with_reducible first|refine jX ?hy ?_|refine jZ ?hy ?_);case hy=>rfl)|((with_reducible refine jF ?hy ?_);case hy=>decide))
 refine Blocks_ok hO3 (by omega) ?_
 rw [cnt5 hP]
 repeat' (first|(with_reducible first|refine jA ?_|(refine hK _ _ ?_;clear hK K)|refine jJ fun K hK=>?_|refine jK ?_|refine jL ?_|refine jM ?_|refine jN ?_|refine jO ?_|refine jP ?_|refine jQ ?_|(refine jB ?_;clear hK K)|(refine jC ?_;clear hK K)|refine jD ?_|refine jE ?_|refine jG ?_|refine jH ?_|refine jI ?_)|((with_reducible refine jR ?hq ?_);case hq=>rfl)|((first|(with_reducible first|refine jS fun K hK=>?_|refine jT ?_|refine jU ?_)|((with_reducible refine jV ?hy fun K hK=>?_);case hy=>rfl));simp only [go_sem, Nat.reduceEqDiff, Nat.reduceAdd, Nat.reduceMul, Nat.reduceLeDiff, Nat.reduceLT, Int.reduceLT, Int.reduceLE, Int.reduceEq, Int.reduceNeg, Int.reduceToNat, Nat.reducePow, reduceIte, reduceCtorEq])|((with_reducible first|refine jW ?hy ?_|refine jY ?hy ?_);case hy=>rfl)|((with_reducible first|refine jX ?hy ?_|refine jZ ?hy ?_);case hy=>rfl)|((with_reducible refine jF ?hy ?_);case hy=>decide))
 exact fin _ (((f0.trans f1).trans f2).trans f3)
end
end Go.Proofs.Ytpeaogldojepnaa
namespace Go.Br
open Go Go.Hp Go.Li
set_option linter.unusedVariables false
def wo (l : List Ed) (k : Nat) : List Ed := l.take k ++ l.drop (k + 1)
def En (e : Ed) (a b : Nat) : Prop := (e.u = (a : Int) ∧ e.v = (b : Int)) ∨ (e.u = (b : Int) ∧ e.v = (a : Int))
theorem al_mem {l : List Ed} {a b : Nat} : Al l a b ↔ ∃ e ∈ l, En e a b := by
 constructor
 ·rintro ⟨j, e, h1, h2⟩; exact ⟨e, List.mem_of_getElem? h1, h2⟩
 ·rintro ⟨e, h1, h2⟩
  obtain ⟨j, hj⟩ := List.mem_iff_getElem?.1 h1
  exact ⟨j, e, hj, h2⟩
theorem mem_wo {l : List Ed} {k : Nat} {e : Ed} : e ∈ wo l k ↔ ∃ j, j ≠ k ∧ l[j]? = some e := by
 unfold wo
 rw [List.mem_append]
 constructor
 ·rintro (h | h)
  ·obtain ⟨j, hj⟩ := List.mem_iff_getElem?.1 h
   have hlt := (List.getElem?_eq_some_iff.1 hj).1
   rw [List.length_take] at hlt
   rw [List.getElem?_take_of_lt (by omega)] at hj
   exact ⟨j, by omega, hj⟩
  ·obtain ⟨j, hj⟩ := List.mem_iff_getElem?.1 h
   rw [List.getElem?_drop] at hj
   exact ⟨k + 1 + j, by omega, hj⟩
 ·rintro ⟨j, hj, h⟩
  rcases Nat.lt_or_gt_of_ne hj with hlt | hgt
  ·left
   rw [List.mem_iff_getElem?]
   exact ⟨j, by rw [List.getElem?_take_of_lt hlt]; exact h⟩
  ·right
   rw [List.mem_iff_getElem?]
   exact ⟨j - (k + 1), by rw [List.getElem?_drop, show k + 1 + (j - (k + 1)) = j by omega]; exact h⟩
theorem al_wo {l : List Ed} {k : Nat} {a b : Nat} : Al (wo l k) a b ↔ Av l k a b := by
 rw [al_mem]
 constructor
 ·rintro ⟨e, h1, h2⟩
  obtain ⟨j, hj, he⟩ := mem_wo.1 h1
  exact ⟨j, hj, e, he, h2⟩
 ·rintro ⟨j, hj, e, he, h2⟩
  exact ⟨e, mem_wo.2 ⟨j, hj, he⟩, h2⟩
theorem con_wo {l : List Ed} {k : Nat} {a b : Nat} : Con (Al (wo l k)) a b ↔ Con (Av l k) a b := ⟨Con.mono fun _ _ => al_wo.1, Con.mono fun _ _ => al_wo.2⟩
theorem least_wo {l : List Ed} {n k : Nat} {p : Nat → Nat} : Least (Al (wo l k)) n p ↔ Least (Av l k) n p := ⟨fun h => h.congr fun _ _ _ _ => con_wo, fun h => h.congr fun _ _ _ _ => con_wo.symm⟩
theorem wo_mem {l : List Ed} {k : Nat} {e : Ed} (h : e ∈ wo l k) : e ∈ l := by
 obtain ⟨j, _, he⟩ := mem_wo.1 h
 exact List.mem_of_getElem? he
theorem wo_len {l : List Ed} {k : Nat} : (wo l k).length ≤ l.length := by
 unfold wo; simp; omega
theorem gr_ends {n : Nat} {l : List Ed} (h : Gr n l) : Ends l n := by
 refine ⟨fun k x y ⟨e, he, hi⟩ => ?_⟩
 obtain ⟨_, _, u, v, h3, h4, h5, h6, h7⟩ := h k e he
 omega
open Classical in
noncomputable def bsOf (l : List Ed) (k : Nat) : List Nat := (List.range k).filter fun j => decide (Bridge l j)
theorem bridge_lt {l : List Ed} {k : Nat} (h : Bridge l k) : k < l.length := by
 obtain ⟨a, b, hi, _⟩ := h
 exact hi.lt
theorem bsOf_nodup (l : List Ed) (k : Nat) : (bsOf l k).Nodup := List.Pairwise.filter _ List.nodup_range
open Classical in
theorem bsOf_mem {l : List Ed} {k : Nat} : k ∈ bsOf l l.length ↔ Bridge l k := by
 unfold bsOf
 rw [List.mem_filter, List.mem_range, decide_eq_true_iff]
 exact ⟨fun h => h.2, fun h => ⟨bridge_lt h, h⟩⟩
theorem bsOf_succ (l : List Ed) (k : Nat) : (Bridge l k → bsOf l (k + 1) = bsOf l k ++ [k]) ∧ (¬ Bridge l k → bsOf l (k + 1) = bsOf l k) := by
 unfold bsOf
 rw [List.range_succ, List.filter_append]
 constructor
 ·intro h; simp [h]
 ·intro h; simp [h]
theorem bsOf_pre (l : List Ed) {k : Nat} : ∀ m, k ≤ m → ∃ r, bsOf l m = bsOf l k ++ r ∧ ∀ x ∈ r, k ≤ x
 | m, h => by
  induction m with
  | zero =>
   obtain rfl : k = 0 := by omega
   exact ⟨[], by simp, by simp⟩
  | succ m ih =>
   by_cases e : k = m + 1
   ·subst e; exact ⟨[], by simp, by simp⟩
   obtain ⟨r, h1, h2⟩ := ih (by omega)
   by_cases hb : Bridge l m
   ·refine ⟨r ++ [m], by rw [(bsOf_succ l m).1 hb, h1, List.append_assoc], fun x hx => ?_⟩
    rcases List.mem_append.1 hx with hx | hx
    ·exact h2 x hx
    ·rw [List.mem_singleton.1 hx]; omega
   ·exact ⟨r, by rw [(bsOf_succ l m).2 hb, h1], h2⟩
theorem ids_gr {n : Nat} {l : List Ed} {ids : List Int} (hg : Gr n l) (h : IsBr l ids) : ids = (bsOf l l.length).map fun k => ((10 + k : Nat) : Int) := by
 refine srt_eq h.srt ?_ fun i => (h.mem i).trans ?_
 ·rw [List.pairwise_map]
  have : (bsOf l l.length).Pairwise (· < ·) := List.Pairwise.filter _ List.pairwise_lt_range
  exact this.imp fun h => by omega
 ·rw [List.mem_map]
  constructor
  ·rintro ⟨k, x, h1, rfl, h2⟩
   exact ⟨k, bsOf_mem.2 h2, (hg k x h1).1.symm⟩
  ·rintro ⟨k, h1, rfl⟩
   have hb := bsOf_mem.1 h1
   obtain ⟨x, hx⟩ : ∃ x, l[k]? = some x := ⟨_, List.getElem?_eq_getElem (bridge_lt hb)⟩
   exact ⟨k, x, hx, (hg k x hx).1, hb⟩
theorem ids_at {l : List Ed} {k : Nat} (hk : k < l.length) : (Bridge l k → ((bsOf l l.length).map fun k => ((10 + k : Nat) : Int))[(bsOf l k).length]? = some ((10 + k : Nat) : Int)) ∧
  (¬ Bridge l k → ∀ x, ((bsOf l l.length).map fun k => ((10 + k : Nat) : Int))[(bsOf l k).length]? = some x → x ≠ ((10 + k : Nat) : Int)) := by
 constructor
 ·intro hb
  obtain ⟨r, h1, _⟩ := bsOf_pre l (k := k + 1) l.length hk
  rw [h1, (bsOf_succ l k).1 hb]
  simp
 ·intro hb x hx e
  obtain ⟨r, h1, h2⟩ := bsOf_pre l (k := k) l.length (by omega)
  rw [List.getElem?_map] at hx
  obtain ⟨y, hy, rfl⟩ := Option.map_eq_some_iff.1 hx
  have : y = k := by omega
  subst this
  exact hb (bsOf_mem.1 (List.mem_of_getElem? hy))
theorem firm_gr {l : List Ed} {u v : Nat} : Con (Firm l) u v ↔ Con (Al l) u v ∧ ∀ k, k < l.length → Con (Av l k) u v := firm_iff (bsOf_nodup l l.length) fun k => bsOf_mem
theorem cnt_gr {n : Nat} {l : List Ed} {p q : Nat → Nat} (hg : Gr n l) (hp : Least (Al l) n p) (hq : Least (Firm l) n q) : cnt n q = cnt n p + (bsOf l l.length).length := cnt_firm (gr_ends hg) (bsOf_nodup l l.length) (fun k => bsOf_mem) hp hq
end Go.Br
namespace Go.Proofs.Ytpeaogldojepnaa
open Go Go.Hp Go.Li Go.Br
set_option linter.all false
set_option maxRecDepth 100000
set_option maxHeartbeats 3200000
section
variable {H : Heap} {L : Value → Heap → Prop}
theorem bridgeCounts {c : Int} {a : Option Addr} {len ca : Nat} {zs : Nat → Int × Int} (c0 : -9223372036854775808 ≤ c) (c1 : c ≤ 9223372036854775807) (hin : InPairs H a len zs) (hlen : len ≤ 9223372036854775807)
  (fin : ∀ H', Fr (fun _ => False) H H' → L (.bool true) H') :
  CallsH Try.prog 3 #[.int .i64 c, .slice a len ca] H L := by
 refine call3 (by simp) ?_
 simp only [Try.f3, Option.getD_some]
 repeat' (first|(with_reducible first|refine jA ?_|(refine hK _ _ ?_;clear hK K)|refine jJ fun K hK=>?_|refine jK ?_|refine jL ?_|refine jM ?_|refine jN ?_|refine jO ?_|refine jP ?_|refine jQ ?_|(refine jB ?_;clear hK K)|(refine jC ?_;clear hK K)|refine jD ?_|refine jE ?_|refine jG ?_|refine jH ?_|refine jI ?_)|((with_reducible refine jR ?hq ?_);case hq=>rfl)|((first|(with_reducible first|refine jS fun K hK=>?_|refine jT ?_|refine jU ?_)|((with_reducible refine jV ?hy fun K hK=>?_);case hy=>rfl));simp only [go_sem, Nat.reduceEqDiff, Nat.reduceAdd, Nat.reduceMul, Nat.reduceLeDiff, Nat.reduceLT, Int.reduceLT, Int.reduceLE, Int.reduceEq, Int.reduceNeg, Int.reduceToNat, Nat.reducePow, reduceIte, reduceCtorEq])|((with_reducible first|refine jW ?hy ?_|refine jY ?hy ?_);case hy=>rfl)|((with_reducible first|refine jX ?hy ?_|refine jZ ?hy ?_);case hy=>rfl)|((with_reducible refine jF ?hy ?_);case hy=>decide))
 refine awake_ok fun H1 f1 => ?_
 repeat' (first|(with_reducible first|refine jA ?_|(refine hK _ _ ?_;clear hK K)|refine jJ fun K hK=>?_|refine jK ?_|refine jL ?_|refine jM ?_|refine jN ?_|refine jO ?_|refine jP ?_|refine jQ ?_|(refine jB ?_;clear hK K)|(refine jC ?_;clear hK K)|refine jD ?_|refine jE ?_|refine jG ?_|refine jH ?_|refine jI ?_)|((with_reducible refine jR ?hq ?_);case hq=>rfl)|((first|(with_reducible first|refine jS fun K hK=>?_|refine jT ?_|refine jU ?_)|((with_reducible refine jV ?hy fun K hK=>?_);case hy=>rfl));simp only [go_sem, Nat.reduceEqDiff, Nat.reduceAdd, Nat.reduceMul, Nat.reduceLeDiff, Nat.reduceLT, Int.reduceLT, Int.reduceLE, Int.reduceEq, Int.reduceNeg, Int.reduceToNat, Nat.reducePow, reduceIte, reduceCtorEq])|((with_reducible first|refine jW ?hy ?_|refine jY ?hy ?_);case hy=>rfl)|((with_reducible first|refine jX ?hy ?_|refine jZ ?hy ?_);case hy=>rfl)|((with_reducible refine jF ?hy ?_);case hy=>decide))
 refine pick_nat (n := 64) ⟨c0, c1⟩ (by omega) fun k hk => ?_
 obtain ⟨n, hn⟩ : ∃ n, n = 1 + k := ⟨_, rfl⟩
 have ewk : IntKind.i64.wrap (1 + (k : Int)) = (n : Int) := by rw [wrap_i64] <;> omega
 repeat' (first|(with_reducible first|refine jA ?_|(refine hK _ _ ?_;clear hK K)|refine jJ fun K hK=>?_|refine jK ?_|refine jL ?_|refine jM ?_|refine jN ?_|refine jO ?_|refine jP ?_|refine jQ ?_|(refine jB ?_;clear hK K)|(refine jC ?_;clear hK K)|refine jD ?_|refine jE ?_|refine jG ?_|refine jH ?_|refine jI ?_)|((with_reducible refine jR ?hq ?_);case hq=>rfl)|((first|(with_reducible first|refine jS fun K hK=>?_|refine jT ?_|refine jU ?_)|((with_reducible refine jV ?hy fun K hK=>?_);case hy=>rfl));simp only [go_sem, Nat.reduceEqDiff, Nat.reduceAdd, Nat.reduceMul, Nat.reduceLeDiff, Nat.reduceLT, Int.reduceLT, Int.reduceLE, Int.reduceEq, Int.reduceNeg, Int.reduceToNat, Nat.reducePow, reduceIte, reduceCtorEq, ewk])|((with_reducible first|refine jW ?hy ?_|refine jY ?hy ?_);case hy=>rfl)|((with_reducible first|refine jX ?hy ?_|refine jZ ?hy ?_);case hy=>rfl)|((with_reducible refine jF ?hy ?_);case hy=>decide))
 have hn1 : 1 ≤ n := by omega
 have hn64 : n ≤ 64 := by omega
 clear hn hk ewk
 refine graph_ok (most := 100) (hin.frame f1) hlen (by omega) (by omega) fun H2 B vl l hl hB hg hll f2 => ?_
 obtain ⟨sl, cl, rfl⟩ := id hl.slice
 repeat' (first|(with_reducible first|refine jA ?_|(refine hK _ _ ?_;clear hK K)|refine jJ fun K hK=>?_|refine jK ?_|refine jL ?_|refine jM ?_|refine jN ?_|refine jO ?_|refine jP ?_|refine jQ ?_|(refine jB ?_;clear hK K)|(refine jC ?_;clear hK K)|refine jD ?_|refine jE ?_|refine jG ?_|refine jH ?_|refine jI ?_)|((with_reducible refine jR ?hq ?_);case hq=>rfl)|((first|(with_reducible first|refine jS fun K hK=>?_|refine jT ?_|refine jU ?_)|((with_reducible refine jV ?hy fun K hK=>?_);case hy=>rfl));simp only [go_sem, Nat.reduceEqDiff, Nat.reduceAdd, Nat.reduceMul, Nat.reduceLeDiff, Nat.reduceLT, Int.reduceLT, Int.reduceLE, Int.reduceEq, Int.reduceNeg, Int.reduceToNat, Nat.reducePow, reduceIte, reduceCtorEq])|((with_reducible first|refine jW ?hy ?_|refine jY ?hy ?_);case hy=>rfl)|((with_reducible first|refine jX ?hy ?_|refine jZ ?hy ?_);case hy=>rfl)|((with_reducible refine jF ?hy ?_);case hy=>decide))
 refine Of_ok hl hn1 hn64 (by omega) (hg.may (by omega)) fun H3 o T ids p hO hT hbr hP hpn f3 => ?_
 have z0 : ((0 : Int) != 0) = false := rfl
 have hl3 := hl.frame f3 fun _ _ h => h
 repeat' (first|(with_reducible first|refine jA ?_|(refine hK _ _ ?_;clear hK K)|refine jJ fun K hK=>?_|refine jK ?_|refine jL ?_|refine jM ?_|refine jN ?_|refine jO ?_|refine jP ?_|refine jQ ?_|(refine jB ?_;clear hK K)|(refine jC ?_;clear hK K)|refine jD ?_|refine jE ?_|refine jG ?_|refine jH ?_|refine jI ?_)|((with_reducible refine jR ?hq ?_);case hq=>rfl)|((first|(with_reducible first|refine jS fun K hK=>?_|refine jT ?_|refine jU ?_)|((with_reducible refine jV ?hy fun K hK=>?_);case hy=>rfl));simp only [go_sem, Nat.reduceEqDiff, Nat.reduceAdd, Nat.reduceMul, Nat.reduceLeDiff, Nat.reduceLT, Int.reduceLT, Int.reduceLE, Int.reduceEq, Int.reduceNeg, Int.reduceToNat, Nat.reducePow, reduceIte, reduceCtorEq, z0, Bool.not_true])|((with_reducible first|refine jW ?hy ?_|refine jY ?hy ?_);case hy=>rfl)|((with_reducible first|refine jX ?hy ?_|refine jZ ?hy ?_);case hy=>rfl)|((with_reducible refine jF ?hy ?_);case hy=>decide))
 refine parts_ok (sr_rde hl3) (fun b hb => hl3.lt hb) hn64 (by omega) hg.ends fun H4 p0 hP0 f4 => ?_
 have hids := ids_gr hg hbr
 have hidl : ids.length = (bsOf l l.length).length := by rw [hids, List.length_map]
 have hble : ∀ k, (bsOf l k).length ≤ k := fun k => by
  unfold bsOf
  exact Nat.le_trans (List.length_filter_le ..) (by simp)
 have hl4 := hl3.frame f4 fun _ _ h => h
 have hO4 := hO.frame f4 fun _ _ h => h
 have hb100 := hble l.length
 repeat' (first|(with_reducible first|refine jA ?_|(refine hK _ _ ?_;clear hK K)|refine jJ fun K hK=>?_|refine jK ?_|refine jL ?_|refine jM ?_|refine jN ?_|refine jO ?_|refine jP ?_|refine jQ ?_|(refine jB ?_;clear hK K)|(refine jC ?_;clear hK K)|refine jD ?_|refine jE ?_|refine jG ?_|refine jH ?_|refine jI ?_)|((with_reducible refine jR ?hq ?_);case hq=>rfl)|((first|(with_reducible first|refine jS fun K hK=>?_|refine jT ?_|refine jU ?_)|((with_reducible refine jV ?hy fun K hK=>?_);case hy=>rfl));simp only [go_sem, Nat.reduceEqDiff, Nat.reduceAdd, Nat.reduceMul, Nat.reduceLeDiff, Nat.reduceLT, Int.reduceLT, Int.reduceLE, Int.reduceEq, Int.reduceNeg, Int.reduceToNat, Nat.reducePow, reduceIte, reduceCtorEq])|((with_reducible first|refine jW ?hy ?_|refine jY ?hy ?_);case hy=>rfl)|((with_reducible first|refine jX ?hy ?_|refine jZ ?hy ?_);case hy=>rfl)|((with_reducible refine jF ?hy ?_);case hy=>decide))
 refine Bridges_ok hO4 (by omega) fun H5 Bv v hv hBv f5 => ?_
 obtain ⟨av, cv, rfl, _⟩ := id hv.rds
 have hl5 := hl4.frame f5 fun _ _ h => h
 have hO5 := hO4.frame f5 fun _ _ h => h
 repeat' (first|(with_reducible first|refine jA ?_|(refine hK _ _ ?_;clear hK K)|refine jJ fun K hK=>?_|refine jK ?_|refine jL ?_|refine jM ?_|refine jN ?_|refine jO ?_|refine jP ?_|refine jQ ?_|(refine jB ?_;clear hK K)|(refine jC ?_;clear hK K)|refine jD ?_|refine jE ?_|refine jG ?_|refine jH ?_|refine jI ?_)|((with_reducible refine jR ?hq ?_);case hq=>rfl)|((first|(with_reducible first|refine jS fun K hK=>?_|refine jT ?_|refine jU ?_)|((with_reducible refine jV ?hy fun K hK=>?_);case hy=>rfl));simp only [go_sem, Nat.reduceEqDiff, Nat.reduceAdd, Nat.reduceMul, Nat.reduceLeDiff, Nat.reduceLT, Int.reduceLT, Int.reduceLE, Int.reduceEq, Int.reduceNeg, Int.reduceToNat, Nat.reducePow, reduceIte, reduceCtorEq])|((with_reducible first|refine jW ?hy ?_|refine jY ?hy ?_);case hy=>rfl)|((with_reducible first|refine jX ?hy ?_|refine jZ ?hy ?_);case hy=>rfl)|((with_reducible refine jF ?hy ?_);case hy=>decide))
 refine x_loop (fun m e' H' => ∃ (i : Nat), e' 12 = .int .i64 (i : Nat) ∧ e' 11 = .int .i64 ((bsOf l i).length : Nat) ∧ i ≤ l.length ∧ Fr (fun _ => False) H5 H' ∧ m = l.length - i) l.length
  ⟨0, rfl, rfl, Nat.zero_le _, Fr.refl _ _, rfl⟩ ?_
 rintro m e1 H6 ⟨i, i12, i11, hi, f6, hm⟩ hoff
 have i0 : e1 0 = .int .i64 (n : Nat) := (hoff 0 rfl).trans rfl
 have i6 : e1 6 = .slice sl l.length cl := (hoff 6 rfl).trans rfl
 have i7 : e1 7 = .pointer (some ⟨o, 0, none⟩) := (hoff 7 rfl).trans rfl
 have i9 : e1 9 = .int .i64 (cnt n p0 : Nat) := (hoff 9 rfl).trans rfl
 have i10 : e1 10 = .slice av ids.length cv := (hoff 10 rfl).trans rfl
 clear hoff
 have hl6 := hl5.frame f6 fun _ _ h => h
 have hO6 := hO5.frame f6 fun _ _ h => h
 have hv6 := hv.frame f6 fun _ _ h => h
 by_cases hlt : i < l.length
 ·have t1 : ((i : Int) < (l.length : Int)) = True := eq_true (by omega)
  have t1' : (i < l.length) = True := eq_true hlt
  have ew : IntKind.i64.wrap ((i : Int) + 1) = ((i + 1 : Nat) : Int) := by rw [wrap_i64] <;> omega
  obtain ⟨gl, c', hBl, hvv, hcc⟩ := hl6.open (by intro e; rw [e] at hlt; cases hlt)
  simp only [Value.slice.injEq] at hvv
  obtain ⟨rfl, _, rfl⟩ := hvv
  subst hBl
  have t2 : (i ≤ cl) = True := eq_true (by omega)
  have rl1 := hl6.readL edC_len (o := 0) (m := i) (by omega)
  rw [Nat.zero_mul, List.drop_zero] at rl1
  repeat' (first|(with_reducible first|refine jA ?_|(refine hK _ _ ?_;clear hK K)|refine jJ fun K hK=>?_|refine jK ?_|refine jL ?_|refine jM ?_|refine jN ?_|refine jO ?_|refine jP ?_|refine jQ ?_|(refine jB ?_;clear hK K)|(refine jC ?_;clear hK K)|refine jD ?_|refine jE ?_|refine jG ?_|refine jH ?_|refine jI ?_)|((with_reducible refine jR ?hq ?_);case hq=>rfl)|((first|(with_reducible first|refine jS fun K hK=>?_|refine jT ?_|refine jU ?_)|((with_reducible refine jV ?hy fun K hK=>?_);case hy=>rfl));simp only [go_sem, Nat.reduceEqDiff, Nat.reduceAdd, Nat.reduceMul, Nat.reduceLeDiff, Nat.reduceLT, Int.reduceLT, Int.reduceLE, Int.reduceEq, Int.reduceNeg, Int.reduceToNat, Nat.reducePow, reduceIte, reduceCtorEq, i0, i6, i12, t1, t1', t2, ite_self, Nat.sub_zero])|((with_reducible first|refine jW ?hy ?_|refine jY ?hy ?_);case hy=>rfl)|((with_reducible first|refine jX ?hy ?_|refine jZ ?hy ?_);case hy=>rfl)|((with_reducible refine jF ?hy ?_);case hy=>decide))
  refine append_srs edC_len edC_plain elems25 tl35 (SR.nil Ed.cells 4 H6) (ys := l.take i) rl1 (by simp; omega) (by decide) (by simp; omega) rfl fun w1 H8 B1 h1 hf1 hB1 => ?_
  have f8 : Fr (fun _ => False) H6 H8 := hf1.mono fun b _ h => by cases h
  have hl8 := hl6.frame f8 fun _ _ h => h
  have hB1' : ∀ b, B1 = some b → H6.size ≤ b := fun b hb => by
   rcases hB1 with e | ⟨g', hg, hge⟩
   ·rw [e] at hb; cases hb
   ·rw [hg] at hb
    obtain rfl := Option.some.inj hb
    exact hge
  have t3 : (i + 1 ≤ l.length) = True := eq_true hlt
  have t4 : (l.length ≤ cl) = True := eq_true hcc
  obtain ⟨av, cv, rfl⟩ := h1.slice
  have rest : ∀ (K : Value → Heap → Prop), (∀ w2 H9 B2, SR Ed.cells 4 H9 B2 w2 (wo l i) → Fr (fun _ => False) H6 H9 → K w2 H9) → ∀ (st : Option Addr) (d : Nat), (st = (if cl = i + 1 then some ⟨gl, 0, none⟩ else some ⟨gl, (i + 1) * 4, none⟩)) → appendX Try.prog 25 (.slice av ([] ++ l.take i).length cv) (.slice st (l.length - (i + 1)) d) H8 K := by
   intro K hK st d hst
   have ending : ∀ (w2 : Value) (H9 : Heap) (B2 : Option Nat), SR Ed.cells 4 H9 B2 w2 ([] ++ l.take i ++ l.drop (i + 1)) → Fr (fun b => B1 = some b) H8 H9 → (B2 = B1 ∨ ∃ g, B2 = some g ∧ H8.size ≤ g) → K w2 H9 := fun w2 H9 B2 h2 hf2 hB2 =>
    hK w2 H9 B2 (by simpa [wo] using h2) (f8.trans' hf2 fun b hb e => by have := hB1' b e; omega)
   by_cases hcap : cl = i + 1
   ·rw [if_pos hcap] at hst
    subst hst
    have hm0 : l.length - (i + 1) = 0 := by omega
    exact append_srs (o := 0) edC_len edC_plain elems25 tl35 h1 (ys := l.drop (i + 1)) (by rw [hm0, List.drop_of_length_le (by omega), Nat.zero_mul]; rfl) (by simp) (by decide) (by simp; omega) rfl ending
   ·rw [if_neg hcap] at hst
    subst hst
    have rl2 := hl8.readL edC_len (o := i + 1) (m := l.length - (i + 1)) (by omega)
    rw [List.take_of_length_le (by simp)] at rl2
    exact append_srs edC_len edC_plain elems25 tl35 h1 (ys := l.drop (i + 1)) rl2 (by simp) (by decide) (by simp; omega) rfl ending
  repeat' (first|(with_reducible first|refine jA ?_|(refine hK _ _ ?_;clear hK K)|refine jJ fun K hK=>?_|refine jK ?_|refine jL ?_|refine jM ?_|refine jN ?_|refine jO ?_|refine jP ?_|refine jQ ?_|(refine jB ?_;clear hK K)|(refine jC ?_;clear hK K)|refine jD ?_|refine jE ?_|refine jG ?_|refine jH ?_|refine jI ?_)|((with_reducible refine jR ?hq ?_);case hq=>rfl)|((first|(with_reducible first|refine jS fun K hK=>?_|refine jT ?_|refine jU ?_)|((with_reducible refine jV ?hy fun K hK=>?_);case hy=>rfl));simp only [go_sem, Nat.reduceEqDiff, Nat.reduceAdd, Nat.reduceMul, Nat.reduceLeDiff, Nat.reduceLT, Int.reduceLT, Int.reduceLE, Int.reduceEq, Int.reduceNeg, Int.reduceToNat, Nat.reducePow, reduceIte, reduceCtorEq, i0, i6, i12, ew, t3, t4])|((with_reducible first|refine jW ?hy ?_|refine jY ?hy ?_);case hy=>rfl)|((with_reducible first|refine jX ?hy ?_|refine jZ ?hy ?_);case hy=>rfl)|((with_reducible refine jF ?hy ?_);case hy=>decide))
  refine rest _ (fun w2 H9 B2 h9 f9 => ?_) _ _ (by first | rfl | (split <;> simp_all) | simp)
  clear rest
  obtain ⟨aw, cw, rfl⟩ := id h9.slice
  repeat' (first|(with_reducible first|refine jA ?_|(refine hK _ _ ?_;clear hK K)|refine jJ fun K hK=>?_|refine jK ?_|refine jL ?_|refine jM ?_|refine jN ?_|refine jO ?_|refine jP ?_|refine jQ ?_|(refine jB ?_;clear hK K)|(refine jC ?_;clear hK K)|refine jD ?_|refine jE ?_|refine jG ?_|refine jH ?_|refine jI ?_)|((with_reducible refine jR ?hq ?_);case hq=>rfl)|((first|(with_reducible first|refine jS fun K hK=>?_|refine jT ?_|refine jU ?_)|((with_reducible refine jV ?hy fun K hK=>?_);case hy=>rfl));simp only [go_sem, Nat.reduceEqDiff, Nat.reduceAdd, Nat.reduceMul, Nat.reduceLeDiff, Nat.reduceLT, Int.reduceLT, Int.reduceLE, Int.reduceEq, Int.reduceNeg, Int.reduceToNat, Nat.reducePow, reduceIte, reduceCtorEq, i0])|((with_reducible first|refine jW ?hy ?_|refine jY ?hy ?_);case hy=>rfl)|((with_reducible first|refine jX ?hy ?_|refine jZ ?hy ?_);case hy=>rfl)|((with_reducible refine jF ?hy ?_);case hy=>decide))
  refine parts_ok (sr_rde h9) (fun b hb => h9.lt hb) hn64 (by have := wo_len (l := l) (k := i); omega) (fun z hz => hg.ends z (wo_mem hz)) fun H10 p8 hP8 f10 => ?_
  have hP8 := least_wo.1 hP8
  have fall : Fr (fun _ => False) H6 H10 := f9.trans f10
  have hv10 := hv6.frame fall fun _ _ h => h
  have hl10 := hl6.frame fall fun _ _ h => h
  obtain ⟨x, hx⟩ : ∃ x, l[i]? = some x := ⟨_, List.getElem?_eq_getElem hlt⟩
  obtain ⟨g1, g2, u, v, hu, hv', hun, hvn, huv⟩ := hg i x hx
  have hinc : Inc l i u v := ⟨x, hx, .inl ⟨hu, hv'⟩⟩
  have hca := cnt_av (gr_ends hg) hlt hinc hP0 hP8
  obtain ⟨_, _, _, hvl, _, hcell⟩ := hl10.at edC_len hx
  simp only [Value.slice.injEq, Option.some.injEq, Addr.mk.injEq] at hvl
  obtain ⟨⟨rfl, _⟩, _, rfl⟩ := hvl
  have q0 := hcell 0 _ rfl
  rw [Nat.add_zero, g1] at q0
  have hat := ids_at (l := l) hlt
  rw [← hids] at hat
  have hale := hble i
  have ewa : IntKind.i64.wrap (((bsOf l i).length : Int) + 1) = (((bsOf l i).length + 1 : Nat) : Int) := by rw [wrap_i64] <;> omega
  have cl1 := cnt_le n p0
  have cl2 := cnt_le n p8
  have z1 : ((1 : Int) != 0) = true := rfl
  have z2 : ((1 : Int) != 1) = false := rfl
  have z3 : ((1 : Int) == 1) = true := rfl
  have z4 : ((0 : Int) == 1) = false := rfl
  have zt : (true != true) = false := rfl
  have zf : (false != false) = false := rfl
  by_cases hbi : Bridge l i
  ·have ewd : IntKind.i64.wrap ((cnt n p8 : Int) - (cnt n p0 : Int)) = 1 := by have := hca.1 hbi; rw [wrap_i64] <;> omega
   have hgi := hat.1 hbi
   have hs1 : (bsOf l (i + 1)).length = (bsOf l i).length + 1 := by rw [(bsOf_succ l i).1 hbi]; simp
   have hatl := (List.getElem?_eq_some_iff.1 hgi).1
   obtain ⟨_, _, hr, hrd⟩ := hv10.rds
   simp only [Value.slice.injEq] at hr
   obtain ⟨rfl, _, rfl⟩ := hr
   obtain ⟨b, oo, _, rfl, cc⟩ := hrd _ _ hgi
   have y1 : (((bsOf l i).length : Int) < (ids.length : Int)) = True := eq_true (by omega)
   have y1' : ((bsOf l i).length < ids.length) = True := eq_true hatl
   have y2 : ((((10 + i : Nat) : Int)) == (((10 + i : Nat) : Int))) = true := by simp
   repeat' (first|(with_reducible first|refine jA ?_|(refine hK _ _ ?_;clear hK K)|refine jJ fun K hK=>?_|refine jK ?_|refine jL ?_|refine jM ?_|refine jN ?_|refine jO ?_|refine jP ?_|refine jQ ?_|(refine jB ?_;clear hK K)|(refine jC ?_;clear hK K)|refine jD ?_|refine jE ?_|refine jG ?_|refine jH ?_|refine jI ?_)|((with_reducible refine jR ?hq ?_);case hq=>rfl)|((first|(with_reducible first|refine jS fun K hK=>?_|refine jT ?_|refine jU ?_)|((with_reducible refine jV ?hy fun K hK=>?_);case hy=>rfl));simp only [go_sem, Nat.reduceEqDiff, Nat.reduceAdd, Nat.reduceMul, Nat.reduceLeDiff, Nat.reduceLT, Int.reduceLT, Int.reduceLE, Int.reduceEq, Int.reduceNeg, Int.reduceToNat, Nat.reducePow, reduceIte, reduceCtorEq, i6, i9, i10, i11, i12, ewd, t1, t1', y1, y1', cc, q0, y2, z1, z2, z3, zt, ewa, ew])|((with_reducible first|refine jW ?hy ?_|refine jY ?hy ?_);case hy=>rfl)|((with_reducible first|refine jX ?hy ?_|refine jZ ?hy ?_);case hy=>rfl)|((with_reducible refine jF ?hy ?_);case hy=>decide))
   exact loop_normal (m' := l.length - (i + 1)) (by omega) ⟨i + 1, rfl, by rw [hs1]; rfl, hlt, f6.trans fall, rfl⟩
  ·have ewd : IntKind.i64.wrap ((cnt n p8 : Int) - (cnt n p0 : Int)) = 0 := by have := hca.2 hbi; rw [wrap_i64] <;> omega
   by_cases hatl : (bsOf l i).length < ids.length
   ·obtain ⟨y, hy⟩ : ∃ y, ids[(bsOf l i).length]? = some y := ⟨_, List.getElem?_eq_getElem hatl⟩
    have hne := hat.2 hbi y hy
    obtain ⟨_, _, hr, hrd⟩ := hv10.rds
    simp only [Value.slice.injEq] at hr
    obtain ⟨rfl, _, rfl⟩ := hr
    obtain ⟨b, oo, _, rfl, cc⟩ := hrd _ _ hy
    have y1 : (((bsOf l i).length : Int) < (ids.length : Int)) = True := eq_true (by omega)
    have y1' : ((bsOf l i).length < ids.length) = True := eq_true hatl
    have y2 : (y == (((10 + i : Nat) : Int))) = false := beq_false_of_ne hne
    repeat' (first|(with_reducible first|refine jA ?_|(refine hK _ _ ?_;clear hK K)|refine jJ fun K hK=>?_|refine jK ?_|refine jL ?_|refine jM ?_|refine jN ?_|refine jO ?_|refine jP ?_|refine jQ ?_|(refine jB ?_;clear hK K)|(refine jC ?_;clear hK K)|refine jD ?_|refine jE ?_|refine jG ?_|refine jH ?_|refine jI ?_)|((with_reducible refine jR ?hq ?_);case hq=>rfl)|((first|(with_reducible first|refine jS fun K hK=>?_|refine jT ?_|refine jU ?_)|((with_reducible refine jV ?hy fun K hK=>?_);case hy=>rfl));simp only [go_sem, Nat.reduceEqDiff, Nat.reduceAdd, Nat.reduceMul, Nat.reduceLeDiff, Nat.reduceLT, Int.reduceLT, Int.reduceLE, Int.reduceEq, Int.reduceNeg, Int.reduceToNat, Nat.reducePow, reduceIte, reduceCtorEq, i6, i9, i10, i11, i12, ewd, t1, t1', y1, y1', cc, q0, y2, z0, z4, zf, ew])|((with_reducible first|refine jW ?hy ?_|refine jY ?hy ?_);case hy=>rfl)|((with_reducible first|refine jX ?hy ?_|refine jZ ?hy ?_);case hy=>rfl)|((with_reducible refine jF ?hy ?_);case hy=>decide))
    exact loop_normal (m' := l.length - (i + 1)) (by omega) ⟨i + 1, rfl, by rw [(bsOf_succ l i).2 hbi]; exact i11, hlt, f6.trans fall, rfl⟩
   ·have y1 : (((bsOf l i).length : Int) < (ids.length : Int)) = False := eq_false (by omega)
    have y1' : ((bsOf l i).length < ids.length) = False := eq_false hatl
    repeat' (first|(with_reducible first|refine jA ?_|(refine hK _ _ ?_;clear hK K)|refine jJ fun K hK=>?_|refine jK ?_|refine jL ?_|refine jM ?_|refine jN ?_|refine jO ?_|refine jP ?_|refine jQ ?_|(refine jB ?_;clear hK K)|(refine jC ?_;clear hK K)|refine jD ?_|refine jE ?_|refine jG ?_|refine jH ?_|refine jI ?_)|((with_reducible refine jR ?hq ?_);case hq=>rfl)|((first|(with_reducible first|refine jS fun K hK=>?_|refine jT ?_|refine jU ?_)|((with_reducible refine jV ?hy fun K hK=>?_);case hy=>rfl));simp only [go_sem, Nat.reduceEqDiff, Nat.reduceAdd, Nat.reduceMul, Nat.reduceLeDiff, Nat.reduceLT, Int.reduceLT, Int.reduceLE, Int.reduceEq, Int.reduceNeg, Int.reduceToNat, Nat.reducePow, reduceIte, reduceCtorEq, i6, i9, i10, i11, i12, ewd, t1, t1', y1, y1', q0, z0, z4, zf, ew])|((with_reducible first|refine jW ?hy ?_|refine jY ?hy ?_);case hy=>rfl)|((with_reducible first|refine jX ?hy ?_|refine jZ ?hy ?_);case hy=>rfl)|((with_reducible refine jF ?hy ?_);case hy=>decide))
    exact loop_normal (m' := l.length - (i + 1)) (by omega) ⟨i + 1, rfl, by rw [(bsOf_succ l i).2 hbi]; exact i11, hlt, f6.trans fall, rfl⟩
 ·have t1 : ((i : Int) < (l.length : Int)) = False := eq_false (by omega)
  have t1' : (i < l.length) = False := eq_false hlt
  obtain rfl : i = l.length := by omega
  have y1 : (((bsOf l l.length).length : Int) == (ids.length : Int)) = true := by rw [hidl]; simp
  have cl1 := cnt_le n p0
  have ewp : IntKind.i64.wrap ((cnt n p0 : Int) + (ids.length : Int)) = ((cnt n p0 + ids.length : Nat) : Int) := by rw [wrap_i64] <;> omega
  have y2 : (((cnt n p : Nat) : Int) == ((cnt n p0 + ids.length : Nat) : Int)) = true := by rw [cnt_gr hg hP0 hP, hidl]; simp
  have fin2 := fin H6 (((((f1.trans f2).trans f3).trans f4).trans f5).trans f6)
  repeat' (first|(with_reducible first|refine jA ?_|(refine hK _ _ ?_;clear hK K)|refine jJ fun K hK=>?_|refine jK ?_|refine jL ?_|refine jM ?_|refine jN ?_|refine jO ?_|refine jP ?_|refine jQ ?_|(refine jB ?_;clear hK K)|(refine jC ?_;clear hK K)|refine jD ?_|refine jE ?_|refine jG ?_|refine jH ?_|refine jI ?_)|((with_reducible refine jR ?hq ?_);case hq=>rfl)|((first|(with_reducible first|refine jS fun K hK=>?_|refine jT ?_|refine jU ?_)|((with_reducible refine jV ?hy fun K hK=>?_);case hy=>rfl));simp only [go_sem, Nat.reduceEqDiff, Nat.reduceAdd, Nat.reduceMul, Nat.reduceLeDiff, Nat.reduceLT, Int.reduceLT, Int.reduceLE, Int.reduceEq, Int.reduceNeg, Int.reduceToNat, Nat.reducePow, reduceIte, reduceCtorEq, i6, i7, i9, i10, i11, i12, t1, t1', y1])|((with_reducible first|refine jW ?hy ?_|refine jY ?hy ?_);case hy=>rfl)|((with_reducible first|refine jX ?hy ?_|refine jZ ?hy ?_);case hy=>rfl)|((with_reducible refine jF ?hy ?_);case hy=>decide))
  refine Blocks_ok hO6 hn64 ?_
  repeat' (first|(with_reducible first|refine jA ?_|(refine hK _ _ ?_;clear hK K)|refine jJ fun K hK=>?_|refine jK ?_|refine jL ?_|refine jM ?_|refine jN ?_|refine jO ?_|refine jP ?_|refine jQ ?_|(refine jB ?_;clear hK K)|(refine jC ?_;clear hK K)|refine jD ?_|refine jE ?_|refine jG ?_|refine jH ?_|refine jI ?_)|((with_reducible refine jR ?hq ?_);case hq=>rfl)|((first|(with_reducible first|refine jS fun K hK=>?_|refine jT ?_|refine jU ?_)|((with_reducible refine jV ?hy fun K hK=>?_);case hy=>rfl));simp only [go_sem, Nat.reduceEqDiff, Nat.reduceAdd, Nat.reduceMul, Nat.reduceLeDiff, Nat.reduceLT, Int.reduceLT, Int.reduceLE, Int.reduceEq, Int.reduceNeg, Int.reduceToNat, Nat.reducePow, reduceIte, reduceCtorEq, i9, i10, ewp, y2])|((with_reducible first|refine jW ?hy ?_|refine jY ?hy ?_);case hy=>rfl)|((with_reducible first|refine jX ?hy ?_|refine jZ ?hy ?_);case hy=>rfl)|((with_reducible refine jF ?hy ?_);case hy=>decide))
  exact fin2
end
end Go.Proofs.Ytpeaogldojepnaa
namespace Go.Hp
open Go Go.ChangeShapes Go.WideShapes Go.RowKit
set_option linter.unusedVariables false
section
variable {E : Type} {enc : TypeId × Value → E} {P : Program} {w : World} {base : Nat} {spare : Nat → Bool} {held : Bool}
theorem cells_in {t e : TypeId} {a : Option Addr} {len cap : Nat} {d : DataW E} {p : List MemPlace} (ht : P.underlying t = some (.slice e)) (h : DataW.Trod enc P w base spare held t (.slice a len cap) d p) :
  len ≤ 9223372036854775807 ∧ ∀ i, i < len → ∃ (q : Addr) (cs : List Value) (m : Nat) (y : DataW E × List MemPlace), a = some q ∧ w.cells? base (q.add (i * P.cellsOf e)) (P.cellsOf e) = some cs ∧ DataW.trod enc P w base spare held m e cs = some y := by
 obtain ⟨fuel, hf⟩ := h
 rcases DataW.trod_slice ht hf with ⟨h0, _⟩ | ⟨a', len', cap', elems, rest, n, _, h0, _, hb, hl, hm, hlen, hel, hsp, hns⟩
 ·simp [Value.cells] at h0
  obtain ⟨rfl, rfl, rfl⟩ := h0
  exact ⟨by omega, fun i hi => absurd hi (by omega)⟩
 ·simp [Value.cells] at h0
  obtain ⟨rfl, rfl, rfl⟩ := h0
  refine ⟨by unfold maxLen at hm; omega, fun i hi => ?_⟩
  have h1 := hel i hi
  rw [List.getElem?_eq_getElem (by omega)] at h1
  obtain ⟨cs, hcs, hy⟩ := Option.bind_eq_some_iff.1 h1
  exact ⟨a', cs, n, _, rfl, hcs, hy⟩
theorem fit_of_wf {n : Int} (h : (Lit.int .i64 n).wf = true) : -9223372036854775808 ≤ n ∧ n ≤ 9223372036854775807 := by
 have hb := bounds_i64 h
 omega
theorem ints_in {t e : TypeId} {a : Option Addr} {len cap : Nat} {d : DataW E} {p : List MemPlace} (ht : P.underlying t = some (.slice e)) (he : P.underlying e = some (.int .i64)) (hc : P.cellsOf e = 1) (h : DataW.Trod enc P w base spare held t (.slice a len cap) d p) :
  len ≤ 9223372036854775807 ∧ ∃ zs, InInts w.heap a len zs := by
 obtain ⟨hl, hi⟩ := cells_in ht h
 refine ⟨hl, ?_⟩
 have each : ∀ i, i < len → ∃ (q : Addr) (n : Int), a = some q ∧ w.cell? (q.add i) = some (.int .i64 n) ∧ (Lit.int .i64 n).wf = true := fun i hlt => by
  obtain ⟨q, cs, m, y, h1, h2, h3⟩ := hi i hlt
  obtain ⟨n, rfl, _, hw⟩ := DataW.trod_int he h3
  rw [hc, Nat.mul_one] at h2
  obtain ⟨_, _, h4⟩ := World.cells?_some h2
  refine ⟨q, n, h1, ?_, hw⟩
  have := h4 0 (by omega)
  simpa [Addr.add] using this
 refine ⟨fun i => if h : i < len then (each i h).choose_spec.choose else 0, fun i hlt => ?_⟩
 have e := (each i hlt).choose_spec.choose_spec
 refine ⟨_, e.1, ?_, ?_⟩
 ·simp only [hlt, dif_pos]
  exact e.2.1
 ·simp only [hlt, dif_pos]
  exact fit_of_wf e.2.2
theorem field_in {e : TypeId} {fs : Array Field} {q : Addr} {n : Nat} {cs : List Value} {m : Nat} {y : DataW E × List MemPlace} (he : P.underlying e = some (.struct fs)) (h2 : w.cells? base q n = some cs) (h3 : DataW.trod enc P w base spare held m e cs = some y)
  (i : Nat) {f : Field} (hf : fs[i]? = some f) (hc : P.cellsOf f.type = 1) (ho : f.offset < n) :
  ∃ (v : Value) (z : DataW E × List MemPlace) (m' : Nat), w.cell? (q.add f.offset) = some v ∧ DataW.trod enc P w base spare held m' f.type [v] = some z := by
 obtain ⟨xs, n', _, _, hlen, hxl, hfs⟩ := DataW.trod_struct he h3
 obtain ⟨_, hcl, hcell⟩ := World.cells?_some h2
 have h4 := hfs i f hf
 have hlt : i < fs.size := (Array.getElem?_eq_some_iff.1 hf).1
 rw [hc, List.getElem?_eq_getElem (by omega)] at h4
 have hd : (cs.drop f.offset).take 1 = [cs[f.offset]'(by omega)] := by
  rw [List.drop_eq_getElem_cons (by omega)]; rfl
 rw [hd] at h4
 refine ⟨_, _, n', ?_, h4⟩
 rw [hcell f.offset ho, List.getElem?_eq_getElem (by omega)]
end
theorem add_zero_addr (q : Addr) : q.add 0 = q := rfl
theorem add_succ_addr (q : Addr) (n : Nat) : q.add (n + 1) = ⟨q.block, q.off + (n + 1), none⟩ := by
 unfold Addr.add; rw [if_neg (by omega)]
end Go.Hp
namespace Go.Proofs.Ytpeaogldojepnaa
open Go Go.Hp Go.Br Go.ChangeShapes Go.WideShapes Go.RowKit
set_option linter.unusedVariables false
section
variable {E : Type} {enc : TypeId × Value → E} {P : Program} {w : World} {base : Nat} {spare : Nat → Bool} {held : Bool}
theorem part_in {e : TypeId} {fs : Array Field} {cs : List Value} {m : Nat} {y : DataW E × List MemPlace} (he : P.underlying e = some (.struct fs)) (h3 : DataW.trod enc P w base spare held m e cs = some y) (i : Nat) {f : Field} (hf : fs[i]? = some f) :
  ∃ (z : DataW E × List MemPlace) (m' : Nat), DataW.trod enc P w base spare held m' f.type ((cs.drop f.offset).take (P.cellsOf f.type)) = some z := by
 obtain ⟨xs, n', _, _, hlen, hxl, hfs⟩ := DataW.trod_struct he h3
 have hlt : i < fs.size := (Array.getElem?_eq_some_iff.1 hf).1
 exact ⟨_, n', (hfs i f hf).trans (List.getElem?_eq_getElem (by omega))⟩
theorem one_at {cs : List Value} {o : Nat} {v : Value} (h : (cs.drop o).take 1 = [v]) : cs[o]? = some v := by
 have := congrArg (fun l => l[0]?) h
 simp only [List.getElem?_cons_zero] at this
 rw [List.getElem?_take_of_lt (by omega), List.getElem?_drop] at this
 exact this
theorem pairs_in {t : TypeId} {a : Option Addr} {len cap : Nat} {d : DataW E} {p : List MemPlace} (ht : Try.prog.underlying t = some (.slice 54)) (h : DataW.Trod enc Try.prog w base spare held t (.slice a len cap) d p) :
  len ≤ 9223372036854775807 ∧ ∃ zs, InPairs w.heap a len zs := by
 obtain ⟨hl, hi⟩ := cells_in ht h
 have hc : Try.prog.cellsOf 54 = 2 := by kernel_rfl
 have c1 : Try.prog.cellsOf 3 = 1 := by kernel_rfl
 rw [hc] at hi
 have each : ∀ i, i < len → ∃ (q : Addr) (o : Int × Int), a = some q ∧ (hcell w.heap (q.add (i * 2)) = some (.int .i64 o.1) ∧ hcell w.heap ⟨(q.add (i * 2)).block, (q.add (i * 2)).off + 1, none⟩ = some (.int .i64 o.2)) ∧ (-9223372036854775808 ≤ o.1 ∧ o.1 ≤ 9223372036854775807) ∧ -9223372036854775808 ≤ o.2 ∧ o.2 ≤ 9223372036854775807 := fun i hlt => by
  obtain ⟨q, cs, m, y, h1, h2, h3⟩ := hi i hlt
  obtain ⟨_, hcl, hcell'⟩ := World.cells?_some h2
  obtain ⟨z0, m0, t0⟩ := part_in Try.underlying54 h3 0 rfl
  obtain ⟨z1, m1, t1⟩ := part_in Try.underlying54 h3 1 rfl
  obtain ⟨k0, e0, _, w0⟩ := DataW.trod_int Try.underlying3 t0
  obtain ⟨k1, e1, _, w1⟩ := DataW.trod_int Try.underlying3 t1
  have e0 : (cs.drop 0).take (Try.prog.cellsOf 3) = [.int .i64 k0] := e0
  have e1 : (cs.drop 1).take (Try.prog.cellsOf 3) = [.int .i64 k1] := e1
  rw [c1] at e0 e1
  have r0 := one_at e0
  have r1 := one_at e1
  have g : ∀ j v, j < 2 → cs[j]? = some v → hcell w.heap (if j = 0 then q.add (i * 2) else ⟨(q.add (i * 2)).block, (q.add (i * 2)).off + j, none⟩) = some v := fun j v hj hv => by
   have := hcell' j hj
   rw [hv] at this
   cases j with
   | zero => exact this
   | succ j =>
    rw [if_neg (by omega)]
    rw [add_succ_addr] at this
    exact this
  exact ⟨q, (k0, k1), h1, ⟨g 0 _ (by omega) r0, g 1 _ (by omega) r1⟩, fit_of_wf w0, fit_of_wf w1⟩
 refine ⟨hl, fun i => if h : i < len then (each i h).choose_spec.choose else (0, 0), fun i hlt => ?_⟩
 have e := (each i hlt).choose_spec.choose_spec
 simp only [hlt, dif_pos]
 exact ⟨_, e.1, e.2.1, e.2.2⟩
end
end Go.Proofs.Ytpeaogldojepnaa
