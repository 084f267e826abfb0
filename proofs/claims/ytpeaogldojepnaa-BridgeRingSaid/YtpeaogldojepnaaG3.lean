/-
  The laws' helpers: pick, graph, awake. Graphs whose edges stand otherwise.
  Plain: lists without one edge; which edges are bridges, as a list.
  Plain: bridges by the edges' names alone; the same edges in another order, their ends changed.
  BridgeRing.
  What a law's walk is told of slices that came in.
  What a law's walk is told of slices of pairs that came in.
-/
import Derived.Test.YtpeaogldojepnaaG2
import Derived.Test.YtpeaogldojepnaaHpN
import Derived.WalkKit
import Derived.ProofKit
import Derived.OpenShut
import Derived.ShutString
import Derived.ChangeOld
import Derived.Below
import Derived.Deep.Fields
namespace Go.Br
open Go Go.Hp Go.Li
set_option linter.unusedVariables false
theorem srt_eq : ∀ {xs ys : List Int}, xs.Pairwise (· < ·) → ys.Pairwise (· < ·) → (∀ i, i ∈ xs ↔ i ∈ ys) → xs = ys
 | [], [], _, _, _ => rfl
 | [], y :: ys, _, _, h => by have := (h y).2 (.head _); cases this
 | x :: xs, [], _, _, h => by have := (h x).1 (.head _); cases this
 | x :: xs, y :: ys, hx, hy, h => by
  rw [List.pairwise_cons] at hx hy
  have e : x = y := by
   rcases List.mem_cons.1 ((h x).1 (.head _)) with e | e1
   ·exact e
   rcases List.mem_cons.1 ((h y).2 (.head _)) with e | e2
   ·exact e.symm
   have := hx.1 y e2
   have := hy.1 x e1
   omega
  subst e
  rw [srt_eq hx.2 hy.2 fun i => ⟨fun hi => ?_, fun hi => ?_⟩]
  ·rcases List.mem_cons.1 ((h i).1 (.tail _ hi)) with e | e
   ·have := hx.1 i hi; omega
   ·exact e
  ·rcases List.mem_cons.1 ((h i).2 (.tail _ hi)) with e | e
   ·have := hy.1 i hi; omega
   ·exact e
def Gr (n : Nat) (l : List Ed) : Prop := ∀ j x, l[j]? = some x → x.id = ((10 + j : Nat) : Int) ∧ x.w = 0 ∧ ∃ u v : Nat, x.u = (u : Int) ∧ x.v = (v : Int) ∧ u < n ∧ v < n ∧ u ≠ v
theorem Gr.nodup {n : Nat} {l : List Ed} (h : Gr n l) : (l.map (·.id)).Nodup := by
 rw [List.nodup_iff_pairwise_ne, List.pairwise_iff_getElem]
 intro i j hi hj hij
 rw [List.length_map] at hi hj
 rw [List.getElem_map, List.getElem_map, (h i _ (List.getElem?_eq_getElem hi)).1, (h j _ (List.getElem?_eq_getElem hj)).1]
 omega
theorem Gr.may {n : Nat} {l : List Ed} (h : Gr n l) (hl : l.length ≤ 1000) : May n l := by
 refine ⟨fun x hx => ?_, h.nodup⟩
 obtain ⟨j, hj, e⟩ := List.mem_iff_getElem.1 hx
 obtain ⟨h1, h2, u, v, h3, h4, h5, h6, h7⟩ := h j x (by rw [List.getElem?_eq_getElem hj, e])
 unfold okEd
 rw [decide_eq_true_iff]
 omega
theorem Gr.ends {n : Nat} {l : List Ed} (h : Gr n l) : ∀ x ∈ l, ∃ u v : Nat, x.u = u ∧ x.v = v ∧ u < n ∧ v < n := fun x hx => by
 obtain ⟨j, hj, e⟩ := List.mem_iff_getElem.1 hx
 obtain ⟨h1, h2, u, v, h3, h4, h5, h6, h7⟩ := h j x (by rw [List.getElem?_eq_getElem hj, e])
 exact ⟨u, v, h3, h4, h5, h6⟩
theorem Gr.more {n : Nat} {l : List Ed} {u v : Nat} (h : Gr n l) (hu : u < n) (hv : v < n) (huv : u ≠ v) : Gr n (l ++ [⟨((10 + l.length : Nat) : Int), u, v, 0⟩]) := by
 intro j x hx
 by_cases hj : j < l.length
 ·rw [List.getElem?_append_left hj] at hx
  exact h j x hx
 ·rw [List.getElem?_append_right (by omega)] at hx
  have hj' : j - l.length = 0 := by
   have := (List.getElem?_eq_some_iff.1 hx).1
   simp at this; omega
  rw [hj'] at hx
  obtain rfl := Option.some.inj hx
  exact ⟨by show ((10 + l.length : Nat) : Int) = _; omega, rfl, u, v, rfl, rfl, hu, hv, huv⟩
def InPairs (H : Heap) (a : Option Addr) (len : Nat) (zs : Nat → Int × Int) : Prop :=
 ∀ i, i < len → ∃ p : Addr, a = some p ∧ (hcell H (p.add (i * 2)) = some (.int .i64 (zs i).1) ∧ hcell H ⟨(p.add (i * 2)).block, (p.add (i * 2)).off + 1, none⟩ = some (.int .i64 (zs i).2)) ∧ (-9223372036854775808 ≤ (zs i).1 ∧ (zs i).1 ≤ 9223372036854775807) ∧ -9223372036854775808 ≤ (zs i).2 ∧ (zs i).2 ≤ 9223372036854775807
theorem InPairs.frame {H H' : Heap} {a : Option Addr} {len : Nat} {zs : Nat → Int × Int} (h : InPairs H a len zs) (hf : Fr (fun _ => False) H H') : InPairs H' a len zs := fun i hi => by
 obtain ⟨p, h1, ⟨c0, c1⟩, h5⟩ := h i hi
 have mv : ∀ {a : Addr} {v : Value}, hcell H a = some v → hcell H' a = some v := fun h => by rw [hf.cell (hcell_lt h) (fun h => h)]; exact h
 exact ⟨p, h1, ⟨mv c0, mv c1⟩, h5⟩
theorem sr_lit {α : Type} {C : α → List Value} {k : Nat} (hC : ∀ x, (C x).length = k) (H : Heap) (xs : List α) (T : TypeId) : SR C k (H.push (.cells (xs.flatMap C).toArray T)) (some H.size) (.slice (some ⟨H.size, 0, none⟩) xs.length xs.length) xs :=
 ⟨srf_len hC xs, .inr ⟨H.size, xs.length, [], rfl, rfl, by rw [List.append_nil]; exact Blk.new H _ T, by rw [List.append_nil, srf_len hC], Nat.le_refl _⟩⟩
theorem irlit (H : Heap) (xs : List Int) (T : TypeId) : IR (H.push (.cells (xs.map (Value.int .i64)).toArray T)) (some H.size) (.slice (some ⟨H.size, 0, none⟩) xs.length xs.length) xs :=
 ⟨by simp, .inr ⟨H.size, xs.length, [], rfl, rfl, by rw [List.append_nil]; exact Blk.new H _ T, by simp, Nat.le_refl _⟩⟩
def l5 : List Ed := [⟨1, 0, 1, 0⟩, ⟨2, 1, 2, 0⟩, ⟨3, 2, 0, 0⟩, ⟨4, 2, 3, 0⟩, ⟨5, 3, 4, 0⟩]
theorem inc5 {k x y : Nat} (h : Inc l5 k x y) : (k = 0 ∧ (x = 0 ∧ y = 1 ∨ x = 1 ∧ y = 0)) ∨ (k = 1 ∧ (x = 1 ∧ y = 2 ∨ x = 2 ∧ y = 1)) ∨ (k = 2 ∧ (x = 2 ∧ y = 0 ∨ x = 0 ∧ y = 2)) ∨ (k = 3 ∧ (x = 2 ∧ y = 3 ∨ x = 3 ∧ y = 2)) ∨ (k = 4 ∧ (x = 3 ∧ y = 4 ∨ x = 4 ∧ y = 3)) := by
 obtain ⟨e, he, h⟩ := h
 rcases k with _ | _ | _ | _ | _ | k
 ·have he' : some (⟨1, 0, 1, 0⟩ : Ed) = some e := he
  rw [← Option.some.inj he'] at h
  simp only at h
  refine .inl ⟨rfl, ?_⟩
  omega
 ·have he' : some (⟨2, 1, 2, 0⟩ : Ed) = some e := he
  rw [← Option.some.inj he'] at h
  simp only at h
  refine .inr (.inl ⟨rfl, ?_⟩)
  omega
 ·have he' : some (⟨3, 2, 0, 0⟩ : Ed) = some e := he
  rw [← Option.some.inj he'] at h
  simp only at h
  refine .inr (.inr (.inl ⟨rfl, ?_⟩))
  omega
 ·have he' : some (⟨4, 2, 3, 0⟩ : Ed) = some e := he
  rw [← Option.some.inj he'] at h
  simp only at h
  refine .inr (.inr (.inr (.inl ⟨rfl, ?_⟩)))
  omega
 ·have he' : some (⟨5, 3, 4, 0⟩ : Ed) = some e := he
  rw [← Option.some.inj he'] at h
  simp only at h
  refine .inr (.inr (.inr (.inr ⟨rfl, ?_⟩)))
  omega
 ·have he' : (none : Option Ed) = some e := he
  cases he'
theorem e50 : Inc l5 0 0 1 := ⟨_, rfl, .inl ⟨rfl, rfl⟩⟩
theorem e51 : Inc l5 1 1 2 := ⟨_, rfl, .inl ⟨rfl, rfl⟩⟩
theorem e52 : Inc l5 2 2 0 := ⟨_, rfl, .inl ⟨rfl, rfl⟩⟩
theorem e53 : Inc l5 3 2 3 := ⟨_, rfl, .inl ⟨rfl, rfl⟩⟩
theorem e54 : Inc l5 4 3 4 := ⟨_, rfl, .inl ⟨rfl, rfl⟩⟩
theorem bridge5 (k : Nat) : Bridge l5 k ↔ k = 3 ∨ k = 4 := by
 constructor
 ·rintro ⟨a, b, hi, hn⟩
  have := inc5 hi
  by_cases h3 : k = 3
  ·exact .inl h3
  by_cases h4 : k = 4
  ·exact .inr h4
  refine absurd ?_ hn
  have h0 : k = 0 ∨ k = 1 ∨ k = 2 := by omega
  have a0 : k ≠ 0 → Con (Av l5 k) 0 1 := fun h => .one ⟨0, Ne.symm h, e50⟩
  have a1 : k ≠ 1 → Con (Av l5 k) 1 2 := fun h => .one ⟨1, Ne.symm h, e51⟩
  have a2 : k ≠ 2 → Con (Av l5 k) 2 0 := fun h => .one ⟨2, Ne.symm h, e52⟩
  rcases h0 with rfl | rfl | rfl
  ·have c := ((a1 (by decide)).trans (a2 (by decide))).symm
   rcases (show (a = 0 ∧ b = 1) ∨ (a = 1 ∧ b = 0) by omega) with ⟨rfl, rfl⟩ | ⟨rfl, rfl⟩
   ·exact c
   ·exact c.symm
  ·have c := ((a2 (by decide)).trans (a0 (by decide))).symm
   rcases (show (a = 1 ∧ b = 2) ∨ (a = 2 ∧ b = 1) by omega) with ⟨rfl, rfl⟩ | ⟨rfl, rfl⟩
   ·exact c
   ·exact c.symm
  ·have c := ((a0 (by decide)).trans (a1 (by decide))).symm
   rcases (show (a = 2 ∧ b = 0) ∨ (a = 0 ∧ b = 2) by omega) with ⟨rfl, rfl⟩ | ⟨rfl, rfl⟩
   ·exact c
   ·exact c.symm
 ·rintro (rfl | rfl)
  ·refine ⟨2, 3, e53, fun c => ?_⟩
   have := Con.closed (P := fun x => x ≤ 2) (fun x y ⟨j, hj, h⟩ => by have := inc5 h; omega) c
   omega
  ·refine ⟨3, 4, e54, fun c => ?_⟩
   have := Con.closed (P := fun x => x ≤ 3) (fun x y ⟨j, hj, h⟩ => by have := inc5 h; omega) c
   omega
theorem ids5 {ids : List Int} (h : IsBr l5 ids) : ids = [4, 5] := by
 refine srt_eq h.srt (by simp) fun i => (h.mem i).trans ?_
 constructor
 ·rintro ⟨k, x, h1, rfl, h2⟩
  rcases (bridge5 k).1 h2 with rfl | rfl
  ·obtain rfl := Option.some.inj h1; simp
  ·obtain rfl := Option.some.inj h1; simp
 ·intro hi
  simp only [List.mem_cons, List.not_mem_nil, or_false] at hi
  rcases hi with rfl | rfl
  ·exact ⟨3, _, rfl, rfl, (bridge5 3).2 (.inl rfl)⟩
  ·exact ⟨4, _, rfl, rfl, (bridge5 4).2 (.inr rfl)⟩
theorem p5 {p : Nat → Nat} (h : Least (Firm l5) 6 p) : ∀ v, v < 6 → p v = if v < 3 then 0 else v := by
 have f : ∀ {j a b}, ¬ (j = 3 ∨ j = 4) → Inc l5 j a b → Con (Firm l5) a b := fun hj hi => .one ⟨_, fun hb => hj ((bridge5 _).1 hb), hi⟩
 intro v hv
 have hc := h.con v hv
 by_cases h3 : v < 3
 ·rw [if_pos h3]
  have : Con (Firm l5) v 0 := by
   rcases (show v = 0 ∨ v = 1 ∨ v = 2 by omega) with rfl | rfl | rfl
   ·exact .refl _
   ·exact (f (by decide) e50).symm
   ·exact f (by decide) e52
  have := h.le v 0 hv (by omega) this
  omega
 ·rw [if_neg h3]
  have := Con.closed (P := fun x => x = v) (fun x y ⟨j, hj, hi⟩ => by
   rw [bridge5] at hj
   have := inc5 hi
   omega) hc
  exact this.1 rfl
theorem cnt5 {p : Nat → Nat} (h : Least (Firm l5) 6 p) : cnt 6 p = 4 := by
 rw [cnt_congr (p5 h)]
 decide
theorem may5 : May 6 l5 := by decide
end Go.Br
namespace Go.Proofs.Ytpeaogldojepnaa
open Go Go.Hp Go.Li Go.Br
set_option linter.all false
set_option maxRecDepth 100000
set_option maxHeartbeats 3200000
section
variable {H H' : Heap} {L : Value → Heap → Prop}
theorem pick_nat {c : Int} {n : Nat} (h : -9223372036854775808 ≤ c ∧ c ≤ 9223372036854775807) (hn : 0 < n) (fin : ∀ k : Nat, k < n → L (.int .i64 (k : Nat)) H) : CallsH Try.prog 9 #[.int .i64 c, .int .i64 (n : Nat)] H L := by
 refine Pkisthmuslaw08.pick_ok h.1 h.2 (by omega) ?_
 obtain ⟨u0, u1⟩ := pickN_range c (n := (n : Int)) (by omega)
 obtain ⟨u, eu⟩ := Int.eq_ofNat_of_zero_le u0
 rw [eu] at u1 ⊢
 exact fin u (Int.ofNat_lt.1 u1)
theorem graph_ok {a : Option Addr} {len c n most : Nat} {zs : Nat → Int × Int} (hin : InPairs H a len zs) (hlen : len ≤ 9223372036854775807) (hn : 0 < n) (hm : most ≤ 1000)
  (fin : ∀ H' B v l, SR Ed.cells 4 H' B v l → (∀ b, B = some b → H.size ≤ b) → Gr n l → l.length ≤ most → Fr (fun _ => False) H H' → L v H') :
  CallsH Try.prog 10 #[.int .i64 (n : Nat), .slice a len c, .int .i64 (most : Nat)] H L := by
 refine call10 (by simp) ?_
 simp only [Try.f10, Option.getD_some]
 repeat' (first|(with_reducible first|refine jA ?_|(refine hK _ _ ?_;clear hK K)|refine jJ fun K hK=>?_|refine jK ?_|refine jL ?_|refine jM ?_|refine jN ?_|refine jO ?_|refine jP ?_|refine jQ ?_|(refine jB ?_;clear hK K)|(refine jC ?_;clear hK K)|refine jD ?_|refine jE ?_|refine jG ?_|refine jH ?_|refine jI ?_)|((with_reducible refine jR ?hq ?_);case hq=>rfl)|((first|(with_reducible first|refine jS fun K hK=>?_|refine jT ?_|refine jU ?_)|((with_reducible refine jV ?hy fun K hK=>?_);case hy=>rfl));simp only [go_sem, Nat.reduceEqDiff, Nat.reduceAdd, Nat.reduceMul, Nat.reduceLeDiff, Nat.reduceLT, Int.reduceLT, Int.reduceLE, Int.reduceEq, Int.reduceNeg, Int.reduceToNat, Nat.reducePow, reduceIte, reduceCtorEq])|((with_reducible first|refine jW ?hy ?_|refine jY ?hy ?_);case hy=>rfl)|((with_reducible first|refine jX ?hy ?_|refine jZ ?hy ?_);case hy=>rfl)|((with_reducible refine jF ?hy ?_);case hy=>decide))
 refine x_loop (fun m e' H' => ∃ (i : Nat) (B : Option Nat) (v : Value) (l : List Ed), e' 8 = .int .i64 (i : Nat) ∧ e' 7 = v ∧ i ≤ len ∧ SR Ed.cells 4 H' B v l ∧ (∀ b, B = some b → H.size ≤ b) ∧ Gr n l ∧ l.length ≤ most ∧ Fr (fun _ => False) H H' ∧ m = len - i) len
  ⟨0, none, _, [], rfl, rfl, Nat.zero_le _, SR.nil _ _ _, nofun, fun j x h => by simp at h, Nat.zero_le _, Fr.refl _ _, rfl⟩ ?_
 rintro m e1 H1 ⟨i, B, v, l, i8, i7, hi, hl, hB, hg, hll, f1, hm1⟩ hoff
 have i0 : e1 0 = .int .i64 (n : Nat) := (hoff 0 rfl).trans rfl
 have i1 : e1 1 = .slice a len c := (hoff 1 rfl).trans rfl
 have i2 : e1 2 = .int .i64 (most : Nat) := (hoff 2 rfl).trans rfl
 clear hoff
 obtain ⟨sv, cv, rfl⟩ := hl.slice
 by_cases hlt : i < len
 ·have t1 : ((i : Int) < (len : Int)) = True := eq_true (by omega)
  have t1' : (i < len) = True := eq_true hlt
  have ew : IntKind.i64.wrap ((i : Int) + 1) = ((i + 1 : Nat) : Int) := by rw [wrap_i64] <;> omega
  by_cases hml : l.length < most
  ·have t2 : ((l.length : Int) < (most : Int)) = True := eq_true (by omega)
   have t2' : (l.length < most) = True := eq_true hml
   obtain ⟨q, rfl, ⟨q0, q1⟩, hf1, hf2⟩ := (hin.frame f1) i hlt
   repeat' (first|(with_reducible first|refine jA ?_|(refine hK _ _ ?_;clear hK K)|refine jJ fun K hK=>?_|refine jK ?_|refine jL ?_|refine jM ?_|refine jN ?_|refine jO ?_|refine jP ?_|refine jQ ?_|(refine jB ?_;clear hK K)|(refine jC ?_;clear hK K)|refine jD ?_|refine jE ?_|refine jG ?_|refine jH ?_|refine jI ?_)|((with_reducible refine jR ?hq ?_);case hq=>rfl)|((first|(with_reducible first|refine jS fun K hK=>?_|refine jT ?_|refine jU ?_)|((with_reducible refine jV ?hy fun K hK=>?_);case hy=>rfl));simp only [go_sem, Nat.reduceEqDiff, Nat.reduceAdd, Nat.reduceMul, Nat.reduceLeDiff, Nat.reduceLT, Int.reduceLT, Int.reduceLE, Int.reduceEq, Int.reduceNeg, Int.reduceToNat, Nat.reducePow, reduceIte, reduceCtorEq, i0, i1, i2, i7, i8, t1, t1', t2, t2', q0])|((with_reducible first|refine jW ?hy ?_|refine jY ?hy ?_);case hy=>rfl)|((with_reducible first|refine jX ?hy ?_|refine jZ ?hy ?_);case hy=>rfl)|((with_reducible refine jF ?hy ?_);case hy=>decide))
   refine pick_nat hf1 hn fun u hu => ?_
   repeat' (first|(with_reducible first|refine jA ?_|(refine hK _ _ ?_;clear hK K)|refine jJ fun K hK=>?_|refine jK ?_|refine jL ?_|refine jM ?_|refine jN ?_|refine jO ?_|refine jP ?_|refine jQ ?_|(refine jB ?_;clear hK K)|(refine jC ?_;clear hK K)|refine jD ?_|refine jE ?_|refine jG ?_|refine jH ?_|refine jI ?_)|((with_reducible refine jR ?hq ?_);case hq=>rfl)|((first|(with_reducible first|refine jS fun K hK=>?_|refine jT ?_|refine jU ?_)|((with_reducible refine jV ?hy fun K hK=>?_);case hy=>rfl));simp only [go_sem, Nat.reduceEqDiff, Nat.reduceAdd, Nat.reduceMul, Nat.reduceLeDiff, Nat.reduceLT, Int.reduceLT, Int.reduceLE, Int.reduceEq, Int.reduceNeg, Int.reduceToNat, Nat.reducePow, reduceIte, reduceCtorEq, i0, i1, i8, t1, t1', q1])|((with_reducible first|refine jW ?hy ?_|refine jY ?hy ?_);case hy=>rfl)|((with_reducible first|refine jX ?hy ?_|refine jZ ?hy ?_);case hy=>rfl)|((with_reducible refine jF ?hy ?_);case hy=>decide))
   refine pick_nat hf2 hn fun v hv => ?_
   by_cases huv : u = v
   ·have t3 : ((u : Int) != (v : Int)) = false := by simp [huv]
    repeat' (first|(with_reducible first|refine jA ?_|(refine hK _ _ ?_;clear hK K)|refine jJ fun K hK=>?_|refine jK ?_|refine jL ?_|refine jM ?_|refine jN ?_|refine jO ?_|refine jP ?_|refine jQ ?_|(refine jB ?_;clear hK K)|(refine jC ?_;clear hK K)|refine jD ?_|refine jE ?_|refine jG ?_|refine jH ?_|refine jI ?_)|((with_reducible refine jR ?hq ?_);case hq=>rfl)|((first|(with_reducible first|refine jS fun K hK=>?_|refine jT ?_|refine jU ?_)|((with_reducible refine jV ?hy fun K hK=>?_);case hy=>rfl));simp only [go_sem, Nat.reduceEqDiff, Nat.reduceAdd, Nat.reduceMul, Nat.reduceLeDiff, Nat.reduceLT, Int.reduceLT, Int.reduceLE, Int.reduceEq, Int.reduceNeg, Int.reduceToNat, Nat.reducePow, reduceIte, reduceCtorEq, t3, i8, ew])|((with_reducible first|refine jW ?hy ?_|refine jY ?hy ?_);case hy=>rfl)|((with_reducible first|refine jX ?hy ?_|refine jZ ?hy ?_);case hy=>rfl)|((with_reducible refine jF ?hy ?_);case hy=>decide))
    exact loop_normal (m' := len - (i + 1)) (by omega) ⟨i + 1, B, _, l, rfl, i7, hlt, hl, hB, hg, hll, f1, rfl⟩
   ·have t3 : ((u : Int) != (v : Int)) = true := by simp; omega
    have ewl : IntKind.i64.wrap (10 + (l.length : Int)) = ((10 + l.length : Nat) : Int) := by rw [wrap_i64] <;> omega
    repeat' (first|(with_reducible first|refine jA ?_|(refine hK _ _ ?_;clear hK K)|refine jJ fun K hK=>?_|refine jK ?_|refine jL ?_|refine jM ?_|refine jN ?_|refine jO ?_|refine jP ?_|refine jQ ?_|(refine jB ?_;clear hK K)|(refine jC ?_;clear hK K)|refine jD ?_|refine jE ?_|refine jG ?_|refine jH ?_|refine jI ?_)|((with_reducible refine jR ?hq ?_);case hq=>rfl)|((first|(with_reducible first|refine jS fun K hK=>?_|refine jT ?_|refine jU ?_)|((with_reducible refine jV ?hy fun K hK=>?_);case hy=>rfl));simp only [go_sem, Nat.reduceEqDiff, Nat.reduceAdd, Nat.reduceMul, Nat.reduceLeDiff, Nat.reduceLT, Int.reduceLT, Int.reduceLE, Int.reduceEq, Int.reduceNeg, Int.reduceToNat, Nat.reducePow, reduceIte, reduceCtorEq, t3, i7, ewl])|((with_reducible first|refine jW ?hy ?_|refine jY ?hy ?_);case hy=>rfl)|((with_reducible first|refine jX ?hy ?_|refine jZ ?hy ?_);case hy=>rfl)|((with_reducible refine jF ?hy ?_);case hy=>decide))
    refine append_sr edC_len edC_plain (x := ⟨((10 + l.length : Nat) : Int), u, v, 0⟩) elems25 tl35 hl rfl (by decide) (by simp; omega) rfl fun v2 H2 B2 hl2 f2 hB2 => ?_
    repeat' (first|(with_reducible first|refine jA ?_|(refine hK _ _ ?_;clear hK K)|refine jJ fun K hK=>?_|refine jK ?_|refine jL ?_|refine jM ?_|refine jN ?_|refine jO ?_|refine jP ?_|refine jQ ?_|(refine jB ?_;clear hK K)|(refine jC ?_;clear hK K)|refine jD ?_|refine jE ?_|refine jG ?_|refine jH ?_|refine jI ?_)|((with_reducible refine jR ?hq ?_);case hq=>rfl)|((first|(with_reducible first|refine jS fun K hK=>?_|refine jT ?_|refine jU ?_)|((with_reducible refine jV ?hy fun K hK=>?_);case hy=>rfl));simp only [go_sem, Nat.reduceEqDiff, Nat.reduceAdd, Nat.reduceMul, Nat.reduceLeDiff, Nat.reduceLT, Int.reduceLT, Int.reduceLE, Int.reduceEq, Int.reduceNeg, Int.reduceToNat, Nat.reducePow, reduceIte, reduceCtorEq, i8, ew])|((with_reducible first|refine jW ?hy ?_|refine jY ?hy ?_);case hy=>rfl)|((with_reducible first|refine jX ?hy ?_|refine jZ ?hy ?_);case hy=>rfl)|((with_reducible refine jF ?hy ?_);case hy=>decide))
    refine loop_normal (m' := len - (i + 1)) (by omega) ⟨i + 1, B2, v2, _, rfl, rfl, hlt, hl2, fun b hb => ?_, hg.more hu hv huv, by simp; omega, f1.trans' f2 fun b hb e => by have := hB b e; omega, rfl⟩
    rcases hB2 with e | ⟨g', e1, e2⟩
    ·exact hB b (by rw [← e]; exact hb)
    ·rw [e1] at hb
     have := Option.some.inj hb
     have := f1.size
     omega
  ·have t2 : ((l.length : Int) < (most : Int)) = False := eq_false (by omega)
   have t2' : (l.length < most) = False := eq_false hml
   repeat' (first|(with_reducible first|refine jA ?_|(refine hK _ _ ?_;clear hK K)|refine jJ fun K hK=>?_|refine jK ?_|refine jL ?_|refine jM ?_|refine jN ?_|refine jO ?_|refine jP ?_|refine jQ ?_|(refine jB ?_;clear hK K)|(refine jC ?_;clear hK K)|refine jD ?_|refine jE ?_|refine jG ?_|refine jH ?_|refine jI ?_)|((with_reducible refine jR ?hq ?_);case hq=>rfl)|((first|(with_reducible first|refine jS fun K hK=>?_|refine jT ?_|refine jU ?_)|((with_reducible refine jV ?hy fun K hK=>?_);case hy=>rfl));simp only [go_sem, Nat.reduceEqDiff, Nat.reduceAdd, Nat.reduceMul, Nat.reduceLeDiff, Nat.reduceLT, Int.reduceLT, Int.reduceLE, Int.reduceEq, Int.reduceNeg, Int.reduceToNat, Nat.reducePow, reduceIte, reduceCtorEq, i1, i2, i7, i8, t1, t1', t2, t2'])|((with_reducible first|refine jW ?hy ?_|refine jY ?hy ?_);case hy=>rfl)|((with_reducible first|refine jX ?hy ?_|refine jZ ?hy ?_);case hy=>rfl)|((with_reducible refine jF ?hy ?_);case hy=>decide))
   exact fin H1 B _ l hl hB hg hll f1
 ·have t1 : ((i : Int) < (len : Int)) = False := eq_false (by omega)
  have t1' : (i < len) = False := eq_false hlt
  repeat' (first|(with_reducible first|refine jA ?_|(refine hK _ _ ?_;clear hK K)|refine jJ fun K hK=>?_|refine jK ?_|refine jL ?_|refine jM ?_|refine jN ?_|refine jO ?_|refine jP ?_|refine jQ ?_|(refine jB ?_;clear hK K)|(refine jC ?_;clear hK K)|refine jD ?_|refine jE ?_|refine jG ?_|refine jH ?_|refine jI ?_)|((with_reducible refine jR ?hq ?_);case hq=>rfl)|((first|(with_reducible first|refine jS fun K hK=>?_|refine jT ?_|refine jU ?_)|((with_reducible refine jV ?hy fun K hK=>?_);case hy=>rfl));simp only [go_sem, Nat.reduceEqDiff, Nat.reduceAdd, Nat.reduceMul, Nat.reduceLeDiff, Nat.reduceLT, Int.reduceLT, Int.reduceLE, Int.reduceEq, Int.reduceNeg, Int.reduceToNat, Nat.reducePow, reduceIte, reduceCtorEq, i1, i7, i8, t1, t1'])|((with_reducible first|refine jW ?hy ?_|refine jY ?hy ?_);case hy=>rfl)|((with_reducible first|refine jX ?hy ?_|refine jZ ?hy ?_);case hy=>rfl)|((with_reducible refine jF ?hy ?_);case hy=>decide))
  exact fin H1 B _ l hl hB hg hll f1
theorem awake_ok (fin : ∀ H', Fr (fun _ => False) H H' → L (.bool true) H') : CallsH Try.prog 8 #[] H L := by
 have hl := sr_lit edC_len H l5 35
 have f0 : Fr (fun _ => False) H (H.push (.cells (l5.flatMap Ed.cells).toArray 35)) := (Fr.refl _ _).push _
 refine call8 (by simp) ?_
 simp only [Try.f8, Option.getD_some]
 repeat' (first|(with_reducible first|refine jA ?_|(refine hK _ _ ?_;clear hK K)|refine jJ fun K hK=>?_|refine jK ?_|refine jL ?_|refine jM ?_|refine jN ?_|refine jO ?_|refine jP ?_|refine jQ ?_|(refine jB ?_;clear hK K)|(refine jC ?_;clear hK K)|refine jD ?_|refine jE ?_|refine jG ?_|refine jH ?_|refine jI ?_)|((with_reducible refine jR ?hq ?_);case hq=>rfl)|((first|(with_reducible first|refine jS fun K hK=>?_|refine jT ?_|refine jU ?_)|((with_reducible refine jV ?hy fun K hK=>?_);case hy=>rfl));simp only [go_sem, Nat.reduceEqDiff, Nat.reduceAdd, Nat.reduceMul, Nat.reduceLeDiff, Nat.reduceLT, Int.reduceLT, Int.reduceLE, Int.reduceEq, Int.reduceNeg, Int.reduceToNat, Nat.reducePow, reduceIte, reduceCtorEq])|((with_reducible first|refine jW ?hy ?_|refine jY ?hy ?_);case hy=>rfl)|((with_reducible first|refine jX ?hy ?_|refine jZ ?hy ?_);case hy=>rfl)|((with_reducible refine jF ?hy ?_);case hy=>decide))
 refine Of_ok (n := 6) hl (by omega) (by omega) (by decide) may5 fun H1 o T ids p hO hT hbr hP hpn f1 => ?_
 have eids := ids5 hbr
 subst eids
 have e1 := p5 hP 1 (by omega)
 have z0 : ((0 : Int) != 0) = false := rfl
 repeat' (first|(with_reducible first|refine jA ?_|(refine hK _ _ ?_;clear hK K)|refine jJ fun K hK=>?_|refine jK ?_|refine jL ?_|refine jM ?_|refine jN ?_|refine jO ?_|refine jP ?_|refine jQ ?_|(refine jB ?_;clear hK K)|(refine jC ?_;clear hK K)|refine jD ?_|refine jE ?_|refine jG ?_|refine jH ?_|refine jI ?_)|((with_reducible refine jR ?hq ?_);case hq=>rfl)|((first|(with_reducible first|refine jS fun K hK=>?_|refine jT ?_|refine jU ?_)|((with_reducible refine jV ?hy fun K hK=>?_);case hy=>rfl));simp only [go_sem, Nat.reduceEqDiff, Nat.reduceAdd, Nat.reduceMul, Nat.reduceLeDiff, Nat.reduceLT, Int.reduceLT, Int.reduceLE, Int.reduceEq, Int.reduceNeg, Int.reduceToNat, Nat.reducePow, reduceIte, reduceCtorEq, z0])|((with_reducible first|refine jW ?hy ?_|refine jY ?hy ?_);case hy=>rfl)|((with_reducible first|refine jX ?hy ?_|refine jZ ?hy ?_);case hy=>rfl)|((with_reducible refine jF ?hy ?_);case hy=>decide))
 refine Bridges_ok hO (by decide) fun H2 B v hv hB f2 => ?_
 repeat' (first|(with_reducible first|refine jA ?_|(refine hK _ _ ?_;clear hK K)|refine jJ fun K hK=>?_|refine jK ?_|refine jL ?_|refine jM ?_|refine jN ?_|refine jO ?_|refine jP ?_|refine jQ ?_|(refine jB ?_;clear hK K)|(refine jC ?_;clear hK K)|refine jD ?_|refine jE ?_|refine jG ?_|refine jH ?_|refine jI ?_)|((with_reducible refine jR ?hq ?_);case hq=>rfl)|((first|(with_reducible first|refine jS fun K hK=>?_|refine jT ?_|refine jU ?_)|((with_reducible refine jV ?hy fun K hK=>?_);case hy=>rfl));simp only [go_sem, Nat.reduceEqDiff, Nat.reduceAdd, Nat.reduceMul, Nat.reduceLeDiff, Nat.reduceLT, Int.reduceLT, Int.reduceLE, Int.reduceEq, Int.reduceNeg, Int.reduceToNat, Nat.reducePow, reduceIte, reduceCtorEq])|((with_reducible first|refine jW ?hy ?_|refine jY ?hy ?_);case hy=>rfl)|((with_reducible first|refine jX ?hy ?_|refine jZ ?hy ?_);case hy=>rfl)|((with_reducible refine jF ?hy ?_);case hy=>decide))
 have hk := irlit H2 [4, 5] 3
 have f3 : Fr (fun _ => False) H2 (H2.push (.cells (([4, 5] : List Int).map (Value.int .i64)).toArray 3)) := (Fr.refl _ _).push _
 refine Pkisthmuslaw08.same_ok (hv.rds.frame f3 fun _ _ h => h) hk.rds (by decide) ?_
 have hO3 := hO.frame (f2.trans f3) fun _ _ h => h
 repeat' (first|(with_reducible first|refine jA ?_|(refine hK _ _ ?_;clear hK K)|refine jJ fun K hK=>?_|refine jK ?_|refine jL ?_|refine jM ?_|refine jN ?_|refine jO ?_|refine jP ?_|refine jQ ?_|(refine jB ?_;clear hK K)|(refine jC ?_;clear hK K)|refine jD ?_|refine jE ?_|refine jG ?_|refine jH ?_|refine jI ?_)|((with_reducible refine jR ?hq ?_);case hq=>rfl)|((first|(with_reducible first|refine jS fun K hK=>?_|refine jT ?_|refine jU ?_)|((with_reducible refine jV ?hy fun K hK=>?_);case hy=>rfl));simp only [go_sem, Nat.reduceEqDiff, Nat.reduceAdd, Nat.reduceMul, Nat.reduceLeDiff, Nat.reduceLT, Int.reduceLT, Int.reduceLE, Int.reduceEq, Int.reduceNeg, Int.reduceToNat, Nat.reducePow, reduceIte, reduceCtorEq])|((with_reducible first|refine jW ?hy ?_|refine jY ?hy ?_);case hy=>rfl)|((with_reducible first|refine jX ?hy ?_|refine jZ ?hy ?_);case hy=>rfl)|((with_reducible refine jF ?hy ?_);case hy=>decide))
 refine Block_ok hO3 (by omega) (k := 1) (by omega) ?_
 rw [e1]
 repeat' (first|(with_reducible first|refine jA ?_|(refine hK _ _ ?_;clear hK K)|refine jJ fun K hK=>?_|refine jK ?_|refine jL ?_|refine jM ?_|refine jN ?_|refine jO ?_|refine jP ?_|refine jQ ?_|(refine jB ?_;clear hK K)|(refine jC ?_;clear hK K)|refine jD ?_|refine jE ?_|refine jG ?_|refine jH ?_|refine jI ?_)|((with_reducible refine jR ?hq ?_);case hq=>rfl)|((first|(with_reducible first|refine jS fun K hK=>?_|refine jT ?_|refine jU ?_)|((with_reducible refine jV ?hy fun K hK=>?_);case hy=>rfl));simp only [go_sem, Nat.reduceEqDiff, Nat.reduceAdd, Nat.reduceMul, Nat.reduceLeDiff, Nat.reduceLT, Int.reduceLT, Int.reduceLE, Int.reduceEq, Int.reduceNeg, Int.reduceToNat, Nat.reducePow, reduceIte, reduceCtorEq])|((with_reducible first|refine jW ?hy ?_|refine jY ?hy ?_);case hy=>rfl)|((with_reducible first|refine jX ?hy ?_|refine jZ ?hy ?_);case hy=>rfl)|((with_reducible refine jF ?hy ?_);case hy=>decide))
 refine Blocks_ok hO3 (by omega) ?_
 rw [cnt5 hP]
 repeat' (first|(with_reducible first|refine jA ?_|(refine hK _ _ ?_;clear hK K)|refine jJ fun K hK=>?_|refine jK ?_|refine jL ?_|refine jM ?_|refine jN ?_|refine jO ?_|refine jP ?_|refine jQ ?_|(refine jB ?_;clear hK K)|(refine jC ?_;clear hK K)|refine jD ?_|refine jE ?_|refine jG ?_|refine jH ?_|refine jI ?_)|((with_reducible refine jR ?hq ?_);case hq=>rfl)|((first|(with_reducible first|refine jS fun K hK=>?_|refine jT ?_|refine jU ?_)|((with_reducible refine jV ?hy fun K hK=>?_);case hy=>rfl));simp only [go_sem, Nat.reduceEqDiff, Nat.reduceAdd, Nat.reduceMul, Nat.reduceLeDiff, Nat.reduceLT, Int.reduceLT, Int.reduceLE, Int.reduceEq, Int.reduceNeg, Int.reduceToNat, Nat.reducePow, reduceIte, reduceCtorEq])|((with_reducible first|refine jW ?hy ?_|refine jY ?hy ?_);case hy=>rfl)|((with_reducible first|refine jX ?hy ?_|refine jZ ?hy ?_);case hy=>rfl)|((with_reducible refine jF ?hy ?_);case hy=>decide))
 exact fin _ (((f0.trans f1).trans f2).trans f3)
end
end Go.Proofs.Ytpeaogldojepnaa
namespace Go.Br
open Go Go.Hp Go.Li
set_option linter.unusedVariables false
def wo (l : List Ed) (k : Nat) : List Ed := l.take k ++ l.drop (k + 1)
def En (e : Ed) (a b : Nat) : Prop := (e.u = (a : Int) ∧ e.v = (b : Int)) ∨ (e.u = (b : Int) ∧ e.v = (a : Int))
theorem al_mem {l : List Ed} {a b : Nat} : Al l a b ↔ ∃ e ∈ l, En e a b := by
 constructor
 ·rintro ⟨j, e, h1, h2⟩; exact ⟨e, List.mem_of_getElem? h1, h2⟩
 ·rintro ⟨e, h1, h2⟩
  obtain ⟨j, hj⟩ := List.mem_iff_getElem?.1 h1
  exact ⟨j, e, hj, h2⟩
theorem mem_wo {l : List Ed} {k : Nat} {e : Ed} : e ∈ wo l k ↔ ∃ j, j ≠ k ∧ l[j]? = some e := by
 unfold wo
 rw [List.mem_append]
 constructor
 ·rintro (h | h)
  ·obtain ⟨j, hj⟩ := List.mem_iff_getElem?.1 h
   have hlt := (List.getElem?_eq_some_iff.1 hj).1
   rw [List.length_take] at hlt
   rw [List.getElem?_take_of_lt (by omega)] at hj
   exact ⟨j, by omega, hj⟩
  ·obtain ⟨j, hj⟩ := List.mem_iff_getElem?.1 h
   rw [List.getElem?_drop] at hj
   exact ⟨k + 1 + j, by omega, hj⟩
 ·rintro ⟨j, hj, h⟩
  rcases Nat.lt_or_gt_of_ne hj with hlt | hgt
  ·left
   rw [List.mem_iff_getElem?]
   exact ⟨j, by rw [List.getElem?_take_of_lt hlt]; exact h⟩
  ·right
   rw [List.mem_iff_getElem?]
   exact ⟨j - (k + 1), by rw [List.getElem?_drop, show k + 1 + (j - (k + 1)) = j by omega]; exact h⟩
theorem al_wo {l : List Ed} {k : Nat} {a b : Nat} : Al (wo l k) a b ↔ Av l k a b := by
 rw [al_mem]
 constructor
 ·rintro ⟨e, h1, h2⟩
  obtain ⟨j, hj, he⟩ := mem_wo.1 h1
  exact ⟨j, hj, e, he, h2⟩
 ·rintro ⟨j, hj, e, he, h2⟩
  exact ⟨e, mem_wo.2 ⟨j, hj, he⟩, h2⟩
theorem con_wo {l : List Ed} {k : Nat} {a b : Nat} : Con (Al (wo l k)) a b ↔ Con (Av l k) a b := ⟨Con.mono fun _ _ => al_wo.1, Con.mono fun _ _ => al_wo.2⟩
theorem least_wo {l : List Ed} {n k : Nat} {p : Nat → Nat} : Least (Al (wo l k)) n p ↔ Least (Av l k) n p := ⟨fun h => h.congr fun _ _ _ _ => con_wo, fun h => h.congr fun _ _ _ _ => con_wo.symm⟩
theorem wo_mem {l : List Ed} {k : Nat} {e : Ed} (h : e ∈ wo l k) : e ∈ l := by
 obtain ⟨j, _, he⟩ := mem_wo.1 h
 exact List.mem_of_getElem? he
theorem wo_len {l : List Ed} {k : Nat} : (wo l k).length ≤ l.length := by
 unfold wo; simp; omega
theorem gr_ends {n : Nat} {l : List Ed} (h : Gr n l) : Ends l n := by
 refine ⟨fun k x y ⟨e, he, hi⟩ => ?_⟩
 obtain ⟨_, _, u, v, h3, h4, h5, h6, h7⟩ := h k e he
 omega
open Classical in
noncomputable def bsOf (l : List Ed) (k : Nat) : List Nat := (List.range k).filter fun j => decide (Bridge l j)
theorem bridge_lt {l : List Ed} {k : Nat} (h : Bridge l k) : k < l.length := by
 obtain ⟨a, b, hi, _⟩ := h
 exact hi.lt
theorem bsOf_nodup (l : List Ed) (k : Nat) : (bsOf l k).Nodup := List.Pairwise.filter _ List.nodup_range
open Classical in
theorem bsOf_mem {l : List Ed} {k : Nat} : k ∈ bsOf l l.length ↔ Bridge l k := by
 unfold bsOf
 rw [List.mem_filter, List.mem_range, decide_eq_true_iff]
 exact ⟨fun h => h.2, fun h => ⟨bridge_lt h, h⟩⟩
theorem bsOf_succ (l : List Ed) (k : Nat) : (Bridge l k → bsOf l (k + 1) = bsOf l k ++ [k]) ∧ (¬ Bridge l k → bsOf l (k + 1) = bsOf l k) := by
 unfold bsOf
 rw [List.range_succ, List.filter_append]
 constructor
 ·intro h; simp [h]
 ·intro h; simp [h]
theorem bsOf_pre (l : List Ed) {k : Nat} : ∀ m, k ≤ m → ∃ r, bsOf l m = bsOf l k ++ r ∧ ∀ x ∈ r, k ≤ x
 | m, h => by
  induction m with
  | zero =>
   obtain rfl : k = 0 := by omega
   exact ⟨[], by simp, by simp⟩
  | succ m ih =>
   by_cases e : k = m + 1
   ·subst e; exact ⟨[], by simp, by simp⟩
   obtain ⟨r, h1, h2⟩ := ih (by omega)
   by_cases hb : Bridge l m
   ·refine ⟨r ++ [m], by rw [(bsOf_succ l m).1 hb, h1, List.append_assoc], fun x hx => ?_⟩
    rcases List.mem_append.1 hx with hx | hx
    ·exact h2 x hx
    ·rw [List.mem_singleton.1 hx]; omega
   ·exact ⟨r, by rw [(bsOf_succ l m).2 hb, h1], h2⟩
theorem ids_gr {n : Nat} {l : List Ed} {ids : List Int} (hg : Gr n l) (h : IsBr l ids) : ids = (bsOf l l.length).map fun k => ((10 + k : Nat) : Int) := by
 refine srt_eq h.srt ?_ fun i => (h.mem i).trans ?_
 ·rw [List.pairwise_map]
  have : (bsOf l l.length).Pairwise (· < ·) := List.Pairwise.filter _ List.pairwise_lt_range
  exact this.imp fun h => by omega
 ·rw [List.mem_map]
  constructor
  ·rintro ⟨k, x, h1, rfl, h2⟩
   exact ⟨k, bsOf_mem.2 h2, (hg k x h1).1.symm⟩
  ·rintro ⟨k, h1, rfl⟩
   have hb := bsOf_mem.1 h1
   obtain ⟨x, hx⟩ : ∃ x, l[k]? = some x := ⟨_, List.getElem?_eq_getElem (bridge_lt hb)⟩
   exact ⟨k, x, hx, (hg k x hx).1, hb⟩
theorem ids_at {l : List Ed} {k : Nat} (hk : k < l.length) : (Bridge l k → ((bsOf l l.length).map fun k => ((10 + k : Nat) : Int))[(bsOf l k).length]? = some ((10 + k : Nat) : Int)) ∧
  (¬ Bridge l k → ∀ x, ((bsOf l l.length).map fun k => ((10 + k : Nat) : Int))[(bsOf l k).length]? = some x → x ≠ ((10 + k : Nat) : Int)) := by
 constructor
 ·intro hb
  obtain ⟨r, h1, _⟩ := bsOf_pre l (k := k + 1) l.length hk
  rw [h1, (bsOf_succ l k).1 hb]
  simp
 ·intro hb x hx e
  obtain ⟨r, h1, h2⟩ := bsOf_pre l (k := k) l.length (by omega)
  rw [List.getElem?_map] at hx
  obtain ⟨y, hy, rfl⟩ := Option.map_eq_some_iff.1 hx
  have : y = k := by omega
  subst this
  exact hb (bsOf_mem.1 (List.mem_of_getElem? hy))
theorem firm_gr {l : List Ed} {u v : Nat} : Con (Firm l) u v ↔ Con (Al l) u v ∧ ∀ k, k < l.length → Con (Av l k) u v := firm_iff (bsOf_nodup l l.length) fun k => bsOf_mem
theorem cnt_gr {n : Nat} {l : List Ed} {p q : Nat → Nat} (hg : Gr n l) (hp : Least (Al l) n p) (hq : Least (Firm l) n q) : cnt n q = cnt n p + (bsOf l l.length).length := cnt_firm (gr_ends hg) (bsOf_nodup l l.length) (fun k => bsOf_mem) hp hq
end Go.Br
namespace Go.Br
open Go Go.Hp Go.Li
set_option linter.unusedVariables false
def AvI (l : List Ed) (i : Int) (a b : Nat) : Prop := ∃ e ∈ l, e.id ≠ i ∧ En e a b
def BrI (l : List Ed) (i : Int) : Prop := ∃ x ∈ l, x.id = i ∧ ∃ a b, En x a b ∧ ¬ Con (AvI l i) a b
def FiI (l : List Ed) (a b : Nat) : Prop := ∃ e ∈ l, ¬ BrI l e.id ∧ En e a b
theorem same_at {l : List Ed} (hn : (l.map (·.id)).Nodup) {j k : Nat} {e x : Ed} (he : l[j]? = some e) (hx : l[k]? = some x) (h : e.id = x.id) : j = k := by
 refine (List.getElem?_inj (l := l.map (·.id)) (by rw [List.length_map]; exact (List.getElem?_eq_some_iff.1 he).1) hn).1 ?_
 rw [List.getElem?_map, List.getElem?_map, he, hx]
 simp [h]
theorem avI {l : List Ed} (hn : (l.map (·.id)).Nodup) {k : Nat} {x : Ed} (hx : l[k]? = some x) {a b : Nat} : AvI l x.id a b ↔ Av l k a b := by
 constructor
 ·rintro ⟨e, h1, h2, h3⟩
  obtain ⟨j, hj⟩ := List.mem_iff_getElem?.1 h1
  refine ⟨j, fun ej => ?_, e, hj, h3⟩
  subst ej
  rw [hx] at hj
  exact h2 (by rw [Option.some.inj hj])
 ·rintro ⟨j, hj, e, he, h3⟩
  exact ⟨e, List.mem_of_getElem? he, fun h => hj (same_at hn he hx h), h3⟩
theorem con_avI {l : List Ed} (hn : (l.map (·.id)).Nodup) {k : Nat} {x : Ed} (hx : l[k]? = some x) {a b : Nat} : Con (AvI l x.id) a b ↔ Con (Av l k) a b := ⟨Con.mono fun _ _ => (avI hn hx).1, Con.mono fun _ _ => (avI hn hx).2⟩
theorem brI {l : List Ed} (hn : (l.map (·.id)).Nodup) {k : Nat} {x : Ed} (hx : l[k]? = some x) : Bridge l k ↔ BrI l x.id := by
 constructor
 ·rintro ⟨a, b, ⟨e, he, hen⟩, hno⟩
  rw [hx] at he
  obtain rfl := Option.some.inj he
  exact ⟨x, List.mem_of_getElem? hx, rfl, a, b, hen, fun c => hno ((con_avI hn hx).1 c)⟩
 ·rintro ⟨y, hy, hid, a, b, hen, hno⟩
  obtain ⟨j, hj⟩ := List.mem_iff_getElem?.1 hy
  have := same_at hn hj hx hid
  subst this
  rw [hx] at hj
  obtain rfl := Option.some.inj hj
  exact ⟨a, b, ⟨x, hx, hen⟩, fun c => hno ((con_avI hn hx).2 c)⟩
theorem isBr_id {l : List Ed} (hn : (l.map (·.id)).Nodup) {ids : List Int} (h : IsBr l ids) (i : Int) : i ∈ ids ↔ BrI l i := by
 rw [h.mem]
 constructor
 ·rintro ⟨k, x, h1, rfl, h2⟩; exact (brI hn h1).1 h2
 ·intro hb
  obtain ⟨x, hx, hid, _⟩ := id hb
  obtain ⟨k, hk⟩ := List.mem_iff_getElem?.1 hx
  exact ⟨k, x, hk, hid, (brI hn hk).2 (hid ▸ hb)⟩
theorem firm_id {l : List Ed} (hn : (l.map (·.id)).Nodup) {a b : Nat} : Firm l a b ↔ FiI l a b := by
 constructor
 ·rintro ⟨j, hj, e, he, hen⟩
  exact ⟨e, List.mem_of_getElem? he, fun h => hj ((brI hn he).2 h), hen⟩
 ·rintro ⟨e, he, hno, hen⟩
  obtain ⟨j, hj⟩ := List.mem_iff_getElem?.1 he
  exact ⟨j, fun h => hno ((brI hn hj).1 h), e, hj, hen⟩
def Sw (e f : Ed) : Prop := f.id = e.id ∧ f.u = e.v ∧ f.v = e.u
structure Mir (l m : List Ed) : Prop where
 to : ∀ e ∈ l, ∃ f ∈ m, Sw e f
 fro : ∀ f ∈ m, ∃ e ∈ l, Sw e f
theorem Sw.en {e f : Ed} (h : Sw e f) {a b : Nat} : En e a b ↔ En f a b := by
 obtain ⟨_, h2, h3⟩ := h
 unfold En
 rw [h2, h3]
 constructor
 ·rintro (⟨h, k⟩ | ⟨h, k⟩)
  ·exact .inr ⟨k, h⟩
  ·exact .inl ⟨k, h⟩
 ·rintro (⟨h, k⟩ | ⟨h, k⟩)
  ·exact .inr ⟨k, h⟩
  ·exact .inl ⟨k, h⟩
section
variable {l m : List Ed} {n : Nat}
theorem Mir.av (h : Mir l m) {i : Int} {a b : Nat} : AvI l i a b ↔ AvI m i a b := by
 constructor
 ·rintro ⟨e, h1, h2, h3⟩
  obtain ⟨f, hf, hs⟩ := h.to e h1
  exact ⟨f, hf, by rw [hs.1]; exact h2, hs.en.1 h3⟩
 ·rintro ⟨f, h1, h2, h3⟩
  obtain ⟨e, he, hs⟩ := h.fro f h1
  exact ⟨e, he, by rw [← hs.1]; exact h2, hs.en.2 h3⟩
theorem Mir.con (h : Mir l m) {i : Int} {a b : Nat} : Con (AvI l i) a b ↔ Con (AvI m i) a b := ⟨Con.mono fun _ _ => h.av.1, Con.mono fun _ _ => h.av.2⟩
theorem Mir.br (h : Mir l m) {i : Int} : BrI l i ↔ BrI m i := by
 constructor
 ·rintro ⟨x, h1, h2, a, b, h3, h4⟩
  obtain ⟨f, hf, hs⟩ := h.to x h1
  exact ⟨f, hf, hs.1.trans h2, a, b, hs.en.1 h3, fun c => h4 (h.con.2 c)⟩
 ·rintro ⟨f, h1, h2, a, b, h3, h4⟩
  obtain ⟨x, hx, hs⟩ := h.fro f h1
  exact ⟨x, hx, hs.1.symm.trans h2, a, b, hs.en.2 h3, fun c => h4 (h.con.1 c)⟩
theorem Mir.firm (h : Mir l m) {a b : Nat} : FiI l a b ↔ FiI m a b := by
 constructor
 ·rintro ⟨e, h1, h2, h3⟩
  obtain ⟨f, hf, hs⟩ := h.to e h1
  exact ⟨f, hf, by rw [hs.1, ← h.br]; exact h2, hs.en.1 h3⟩
 ·rintro ⟨f, h1, h2, h3⟩
  obtain ⟨e, he, hs⟩ := h.fro f h1
  exact ⟨e, he, by rw [← hs.1, h.br]; exact h2, hs.en.2 h3⟩
theorem Mir.ids (h : Mir l m) (hl : (l.map (·.id)).Nodup) (hm : (m.map (·.id)).Nodup) {xs ys : List Int} (hx : IsBr l xs) (hy : IsBr m ys) : xs = ys :=
 srt_eq hx.srt hy.srt fun i => (isBr_id hl hx i).trans (h.br.trans (isBr_id hm hy i).symm)
theorem Mir.least (h : Mir l m) (hl : (l.map (·.id)).Nodup) (hm : (m.map (·.id)).Nodup) {p q : Nat → Nat} (hp : Least (Firm l) n p) (hq : Least (Firm m) n q) : ∀ v, v < n → p v = q v := fun v hv =>
 hp.uniq (hq.congr fun a b _ _ => ⟨Con.mono fun _ _ k => (firm_id hl).2 (h.firm.2 ((firm_id hm).1 k)), Con.mono fun _ _ k => (firm_id hm).2 (h.firm.1 ((firm_id hl).1 k))⟩) hv
end
structure Oth (l : List Ed) (i : Nat) (m : List Ed) : Prop where
 perm : (m.map (·.id)).Perm ((l.take i).map (·.id))
 mir : Mir (l.take i) m
 wt : ∀ f ∈ m, 0 ≤ f.w ∧ f.w ≤ 1000
theorem Oth.init (l : List Ed) : Oth l 0 [] := ⟨by simp, ⟨fun e h => by simp at h, nofun⟩, nofun⟩
theorem Oth.len {l m : List Ed} {i : Nat} (h : Oth l i m) (hi : i ≤ l.length) : m.length = i := by
 have := h.perm.length_eq
 rw [List.length_map, List.length_map, List.length_take] at this
 omega
theorem Oth.step {l m : List Ed} {i k : Nat} {x : Ed} (h : Oth l i m) (hx : l[i]? = some x) (hi : i ≤ 1000) : Oth l (i + 1) (m.take k ++ [⟨x.id, x.v, x.u, i⟩] ++ m.drop k) := by
 have tk : l.take (i + 1) = l.take i ++ [x] := by rw [List.take_add_one, hx]; rfl
 have hm : ∀ f, f ∈ m.take k ++ [(⟨x.id, x.v, x.u, i⟩ : Ed)] ++ m.drop k ↔ f = ⟨x.id, x.v, x.u, i⟩ ∨ f ∈ m := fun f => by
  have e : m = m.take k ++ m.drop k := (List.take_append_drop k m).symm
  constructor
  ·intro hf
   simp only [List.mem_append, List.mem_singleton] at hf
   rcases hf with (hf | hf) | hf
   ·exact .inr (List.mem_of_mem_take hf)
   ·exact .inl hf
   ·exact .inr (List.mem_of_mem_drop hf)
  ·intro hf
   simp only [List.mem_append, List.mem_singleton]
   rcases hf with hf | hf
   ·exact .inl (.inr hf)
   ·rw [e] at hf
    rcases List.mem_append.1 hf with hf | hf
    ·exact .inl (.inl hf)
    ·exact .inr hf
 refine ⟨?_, ⟨fun e he => ?_, fun f hf => ?_⟩, fun f hf => ?_⟩
 ·rw [tk, List.append_assoc]
  have h1 : (m.take k ++ ([(⟨x.id, x.v, x.u, i⟩ : Ed)] ++ m.drop k)).Perm (⟨x.id, x.v, x.u, i⟩ :: m) := by
   refine List.perm_middle.trans ?_
   show (_ :: (m.take k ++ m.drop k)).Perm _
   rw [List.take_append_drop]
  refine (h1.map (·.id)).trans ?_
  rw [List.map_append, List.map_cons]
  refine (List.Perm.cons _ h.perm).trans ?_
  exact (List.perm_append_singleton _ _).symm
 ·rw [tk] at he
  rcases List.mem_append.1 he with he | he
  ·obtain ⟨f, hf, hs⟩ := h.mir.to e he
   exact ⟨f, (hm f).2 (.inr hf), hs⟩
  ·obtain rfl := List.mem_singleton.1 he
   exact ⟨_, (hm _).2 (.inl rfl), rfl, rfl, rfl⟩
 ·rw [tk]
  rcases (hm f).1 hf with rfl | hf
  ·exact ⟨x, by simp, rfl, rfl, rfl⟩
  ·obtain ⟨e, he, hs⟩ := h.mir.fro f hf
   exact ⟨e, List.mem_append_left _ he, hs⟩
 ·rcases (hm f).1 hf with rfl | hf
  ·exact ⟨by simp, by show (i : Int) ≤ 1000; omega⟩
  ·exact h.wt f hf
theorem Oth.may {l m : List Ed} {n : Nat} (h : Oth l l.length m) (hg : Gr n l) (hl : l.length ≤ 1000) : May n m := by
 have hm := hg.may hl
 refine ⟨fun f hf => ?_, ?_⟩
 ·obtain ⟨e, he, h1, h2, h3⟩ := h.mir.fro f hf
  have := hm.1 e (List.mem_of_mem_take he)
  have := h.wt f hf
  unfold okEd at *
  rw [decide_eq_true_iff] at *
  omega
 ·refine h.perm.nodup_iff.2 ?_
  rw [List.take_length]
  exact hg.nodup
end Go.Br
namespace Go.Br
open Go Go.Hp Go.Li
theorem al_filter {l : List Ed} {i : Int} {a b : Nat} : Al (l.filter fun x => decide (x.id ≠ i)) a b ↔ AvI l i a b := by
 rw [al_mem]
 constructor
 ·rintro ⟨e, h1, h2⟩
  obtain ⟨h3, h4⟩ := List.mem_filter.1 h1
  exact ⟨e, h3, of_decide_eq_true h4, h2⟩
 ·rintro ⟨e, h1, h2, h3⟩
  exact ⟨e, List.mem_filter.2 ⟨h1, decide_eq_true h2⟩, h3⟩
theorem con_filter {l : List Ed} {i : Int} {a b : Nat} : Con (Al (l.filter fun x => decide (x.id ≠ i))) a b ↔ Con (AvI l i) a b := ⟨Con.mono fun _ _ => al_filter.1, Con.mono fun _ _ => al_filter.2⟩
section
variable {l : List Ed} {n u v : Nat}
theorem more_may (hg : Gr n l) (hl : l.length ≤ 1000) (hu : u < n) (hv : v < n) (huv : u ≠ v) : May n (l ++ [⟨5, (u : Nat), (v : Nat), 0⟩]) := by
 have hm := hg.may hl
 refine ⟨fun x hx => ?_, ?_⟩
 ·rcases List.mem_append.1 hx with hx | hx
  ·exact hm.1 x hx
  ·obtain rfl := List.mem_singleton.1 hx
   unfold okEd
   rw [decide_eq_true_iff]
   refine ⟨?_, ?_, ?_, ?_, ?_, ?_, ?_, ?_, ?_⟩ <;> simp only <;> omega
 ·rw [List.map_append, List.nodup_append]
  refine ⟨hm.2, by simp, fun a ha b hb e => ?_⟩
  obtain ⟨x, hx, rfl⟩ := List.mem_map.1 ha
  obtain ⟨j, hj⟩ := List.mem_iff_getElem?.1 hx
  have := (hg j x hj).1
  simp only [List.map_cons, List.map_nil, List.mem_singleton] at hb
  omega
theorem more_ends (hg : Gr n l) (hu : u < n) (hv : v < n) (huv : u ≠ v) : Ends (l ++ [⟨5, (u : Nat), (v : Nat), 0⟩]) n := by
 refine ⟨fun k x y hi => ?_⟩
 rcases (inc_more rfl rfl).1 hi with h | ⟨_, h⟩
 ·exact (gr_ends hg).ends k x y h
 ·omega
theorem more_ids (hg : Gr n l) (hc : Con (Al l) u v) {ids ids2 : List Int} (h : IsBr l ids) (h2 : IsBr (l ++ [⟨5, (u : Nat), (v : Nat), 0⟩]) ids2) {f : Int → Bool} (hf : ∀ i ∈ ids, (f i = true ↔ Con (AvI l i) u v)) : ids2 = ids.filter f := by
 refine srt_eq h2.srt (List.Pairwise.filter _ h.srt) fun i => ?_
 rw [h2.mem, List.mem_filter]
 constructor
 ·rintro ⟨k, x, h1, rfl, hb⟩
  obtain ⟨hb1, hb2⟩ := (bridge_more rfl rfl hc).1 hb
  have hlt := bridge_lt hb1
  rw [List.getElem?_append_left hlt] at h1
  have hm : x.id ∈ ids := (h.mem _).2 ⟨k, x, h1, rfl, hb1⟩
  exact ⟨hm, (hf _ hm).2 ((con_avI hg.nodup h1).2 hb2)⟩
 ·rintro ⟨hm, hfi⟩
  obtain ⟨k, x, h1, rfl, hb⟩ := (h.mem i).1 hm
  have hlt := bridge_lt hb
  exact ⟨k, x, by rw [List.getElem?_append_left hlt]; exact h1, rfl, (bridge_more rfl rfl hc).2 ⟨hb, (con_avI hg.nodup h1).1 ((hf _ hm).1 hfi)⟩⟩
theorem ids_cnt {l : List Ed} {n : Nat} {ids : List Int} (he : Ends l n) (hn : (l.map (·.id)).Nodup) (h : IsBr l ids) {p q : Nat → Nat} (hp : Least (Al l) n p) (hq : Least (Firm l) n q) : cnt n q = cnt n p + ids.length := by
 rw [cnt_firm he (bsOf_nodup l l.length) (fun k => bsOf_mem) hp hq]
 congr 1
 have h1 : ids.Perm ((bsOf l l.length).filterMap fun k => (l[k]?).map (·.id)) := by
  refine (List.perm_ext_iff_of_nodup (h.srt.imp fun h => by omega) ?_).2 fun i => ?_
  ·refine List.Pairwise.filterMap (R := (· ≠ ·)) _ ?_ (bsOf_nodup l l.length)
   intro a b hab c hc d hd e
   obtain ⟨x, hx, rfl⟩ := Option.map_eq_some_iff.1 hc
   obtain ⟨y, hy, rfl⟩ := Option.map_eq_some_iff.1 hd
   exact hab (same_at hn hx hy e)
  ·rw [h.mem, List.mem_filterMap]
   constructor
   ·rintro ⟨k, x, hx, rfl, hb⟩; exact ⟨k, bsOf_mem.2 hb, by rw [hx]; rfl⟩
   ·rintro ⟨k, hb, hk⟩
    obtain ⟨x, hx, rfl⟩ := Option.map_eq_some_iff.1 hk
    exact ⟨k, x, hx, rfl, bsOf_mem.1 hb⟩
 rw [h1.length_eq]
 have : ∀ ks : List Nat, (∀ k ∈ ks, k < l.length) → (ks.filterMap fun k => (l[k]?).map (·.id)).length = ks.length := fun ks => by
  induction ks with
  | nil => intro _; rfl
  | cons k ks ih =>
   intro hk
   have hk0 := hk k (.head _)
   rw [List.filterMap_cons, List.getElem?_eq_getElem hk0]
   simp only [Option.map_some, List.length_cons]
   rw [ih fun j hj => hk j (.tail _ hj)]
 exact (this _ fun k hk => bridge_lt (bsOf_mem.1 hk)).symm
end
end Go.Br
namespace Go.Proofs.Ytpeaogldojepnaa
open Go Go.Hp Go.Li Go.Br
set_option linter.all false
set_option maxRecDepth 100000
set_option maxHeartbeats 3200000
section
variable {H : Heap} {L : Value → Heap → Prop}
theorem bridgeRing {c u v : Int} {a : Option Addr} {len ca : Nat} {zs : Nat → Int × Int} (c0 : -9223372036854775808 ≤ c) (c1 : c ≤ 9223372036854775807) (hin : InPairs H a len zs) (hlen : len ≤ 9223372036854775807) (u0 : -9223372036854775808 ≤ u) (u1 : u ≤ 9223372036854775807) (v0 : -9223372036854775808 ≤ v) (v1 : v ≤ 9223372036854775807)
  (fin : ∀ H', Fr (fun _ => False) H H' → L (.bool true) H') :
  CallsH Try.prog 7 #[.int .i64 c, .slice a len ca, .int .i64 u, .int .i64 v] H L := by
 refine call7 (by simp) ?_
 simp only [Try.f7, Option.getD_some]
 repeat' (first|(with_reducible first|refine jA ?_|(refine hK _ _ ?_;clear hK K)|refine jJ fun K hK=>?_|refine jK ?_|refine jL ?_|refine jM ?_|refine jN ?_|refine jO ?_|refine jP ?_|refine jQ ?_|(refine jB ?_;clear hK K)|(refine jC ?_;clear hK K)|refine jD ?_|refine jE ?_|refine jG ?_|refine jH ?_|refine jI ?_)|((with_reducible refine jR ?hq ?_);case hq=>rfl)|((first|(with_reducible first|refine jS fun K hK=>?_|refine jT ?_|refine jU ?_)|((with_reducible refine jV ?hy fun K hK=>?_);case hy=>rfl));simp only [go_sem, Nat.reduceEqDiff, Nat.reduceAdd, Nat.reduceMul, Nat.reduceLeDiff, Nat.reduceLT, Int.reduceLT, Int.reduceLE, Int.reduceEq, Int.reduceNeg, Int.reduceToNat, Nat.reducePow, reduceIte, reduceCtorEq])|((with_reducible first|refine jW ?hy ?_|refine jY ?hy ?_);case hy=>rfl)|((with_reducible first|refine jX ?hy ?_|refine jZ ?hy ?_);case hy=>rfl)|((with_reducible refine jF ?hy ?_);case hy=>decide))
 refine awake_ok fun H1 f1 => ?_
 repeat' (first|(with_reducible first|refine jA ?_|(refine hK _ _ ?_;clear hK K)|refine jJ fun K hK=>?_|refine jK ?_|refine jL ?_|refine jM ?_|refine jN ?_|refine jO ?_|refine jP ?_|refine jQ ?_|(refine jB ?_;clear hK K)|(refine jC ?_;clear hK K)|refine jD ?_|refine jE ?_|refine jG ?_|refine jH ?_|refine jI ?_)|((with_reducible refine jR ?hq ?_);case hq=>rfl)|((first|(with_reducible first|refine jS fun K hK=>?_|refine jT ?_|refine jU ?_)|((with_reducible refine jV ?hy fun K hK=>?_);case hy=>rfl));simp only [go_sem, Nat.reduceEqDiff, Nat.reduceAdd, Nat.reduceMul, Nat.reduceLeDiff, Nat.reduceLT, Int.reduceLT, Int.reduceLE, Int.reduceEq, Int.reduceNeg, Int.reduceToNat, Nat.reducePow, reduceIte, reduceCtorEq])|((with_reducible first|refine jW ?hy ?_|refine jY ?hy ?_);case hy=>rfl)|((with_reducible first|refine jX ?hy ?_|refine jZ ?hy ?_);case hy=>rfl)|((with_reducible refine jF ?hy ?_);case hy=>decide))
 refine pick_nat (n := 63) ⟨c0, c1⟩ (by omega) fun k hk => ?_
 obtain ⟨n, hn⟩ : ∃ n, n = 2 + k := ⟨_, rfl⟩
 have ewk : IntKind.i64.wrap (2 + (k : Int)) = (n : Int) := by rw [wrap_i64] <;> omega
 repeat' (first|(with_reducible first|refine jA ?_|(refine hK _ _ ?_;clear hK K)|refine jJ fun K hK=>?_|refine jK ?_|refine jL ?_|refine jM ?_|refine jN ?_|refine jO ?_|refine jP ?_|refine jQ ?_|(refine jB ?_;clear hK K)|(refine jC ?_;clear hK K)|refine jD ?_|refine jE ?_|refine jG ?_|refine jH ?_|refine jI ?_)|((with_reducible refine jR ?hq ?_);case hq=>rfl)|((first|(with_reducible first|refine jS fun K hK=>?_|refine jT ?_|refine jU ?_)|((with_reducible refine jV ?hy fun K hK=>?_);case hy=>rfl));simp only [go_sem, Nat.reduceEqDiff, Nat.reduceAdd, Nat.reduceMul, Nat.reduceLeDiff, Nat.reduceLT, Int.reduceLT, Int.reduceLE, Int.reduceEq, Int.reduceNeg, Int.reduceToNat, Nat.reducePow, reduceIte, reduceCtorEq, ewk])|((with_reducible first|refine jW ?hy ?_|refine jY ?hy ?_);case hy=>rfl)|((with_reducible first|refine jX ?hy ?_|refine jZ ?hy ?_);case hy=>rfl)|((with_reducible refine jF ?hy ?_);case hy=>decide))
 have hn1 : 1 ≤ n := by omega
 have hn64 : n ≤ 64 := by omega
 clear hn hk ewk
 refine graph_ok (most := 100) (hin.frame f1) hlen (by omega) (by omega) fun H2 B vl l hl hB hg hll f2 => ?_
 obtain ⟨sl, cl, rfl⟩ := id hl.slice
 repeat' (first|(with_reducible first|refine jA ?_|(refine hK _ _ ?_;clear hK K)|refine jJ fun K hK=>?_|refine jK ?_|refine jL ?_|refine jM ?_|refine jN ?_|refine jO ?_|refine jP ?_|refine jQ ?_|(refine jB ?_;clear hK K)|(refine jC ?_;clear hK K)|refine jD ?_|refine jE ?_|refine jG ?_|refine jH ?_|refine jI ?_)|((with_reducible refine jR ?hq ?_);case hq=>rfl)|((first|(with_reducible first|refine jS fun K hK=>?_|refine jT ?_|refine jU ?_)|((with_reducible refine jV ?hy fun K hK=>?_);case hy=>rfl));simp only [go_sem, Nat.reduceEqDiff, Nat.reduceAdd, Nat.reduceMul, Nat.reduceLeDiff, Nat.reduceLT, Int.reduceLT, Int.reduceLE, Int.reduceEq, Int.reduceNeg, Int.reduceToNat, Nat.reducePow, reduceIte, reduceCtorEq])|((with_reducible first|refine jW ?hy ?_|refine jY ?hy ?_);case hy=>rfl)|((with_reducible first|refine jX ?hy ?_|refine jZ ?hy ?_);case hy=>rfl)|((with_reducible refine jF ?hy ?_);case hy=>decide))
 refine pick_nat ⟨u0, u1⟩ (by omega) fun x hx => ?_
 repeat' (first|(with_reducible first|refine jA ?_|(refine hK _ _ ?_;clear hK K)|refine jJ fun K hK=>?_|refine jK ?_|refine jL ?_|refine jM ?_|refine jN ?_|refine jO ?_|refine jP ?_|refine jQ ?_|(refine jB ?_;clear hK K)|(refine jC ?_;clear hK K)|refine jD ?_|refine jE ?_|refine jG ?_|refine jH ?_|refine jI ?_)|((with_reducible refine jR ?hq ?_);case hq=>rfl)|((first|(with_reducible first|refine jS fun K hK=>?_|refine jT ?_|refine jU ?_)|((with_reducible refine jV ?hy fun K hK=>?_);case hy=>rfl));simp only [go_sem, Nat.reduceEqDiff, Nat.reduceAdd, Nat.reduceMul, Nat.reduceLeDiff, Nat.reduceLT, Int.reduceLT, Int.reduceLE, Int.reduceEq, Int.reduceNeg, Int.reduceToNat, Nat.reducePow, reduceIte, reduceCtorEq])|((with_reducible first|refine jW ?hy ?_|refine jY ?hy ?_);case hy=>rfl)|((with_reducible first|refine jX ?hy ?_|refine jZ ?hy ?_);case hy=>rfl)|((with_reducible refine jF ?hy ?_);case hy=>decide))
 refine pick_nat ⟨v0, v1⟩ (by omega) fun y hy => ?_
 repeat' (first|(with_reducible first|refine jA ?_|(refine hK _ _ ?_;clear hK K)|refine jJ fun K hK=>?_|refine jK ?_|refine jL ?_|refine jM ?_|refine jN ?_|refine jO ?_|refine jP ?_|refine jQ ?_|(refine jB ?_;clear hK K)|(refine jC ?_;clear hK K)|refine jD ?_|refine jE ?_|refine jG ?_|refine jH ?_|refine jI ?_)|((with_reducible refine jR ?hq ?_);case hq=>rfl)|((first|(with_reducible first|refine jS fun K hK=>?_|refine jT ?_|refine jU ?_)|((with_reducible refine jV ?hy fun K hK=>?_);case hy=>rfl));simp only [go_sem, Nat.reduceEqDiff, Nat.reduceAdd, Nat.reduceMul, Nat.reduceLeDiff, Nat.reduceLT, Int.reduceLT, Int.reduceLE, Int.reduceEq, Int.reduceNeg, Int.reduceToNat, Nat.reducePow, reduceIte, reduceCtorEq])|((with_reducible first|refine jW ?hy ?_|refine jY ?hy ?_);case hy=>rfl)|((with_reducible first|refine jX ?hy ?_|refine jZ ?hy ?_);case hy=>rfl)|((with_reducible refine jF ?hy ?_);case hy=>decide))
 refine Parts_ok (sr_rde hl) (fun b hb => hl.lt hb) hn64 (by omega) hg.ends fun H3 q p0 hP0 hq hqs f3 => ?_
 have cx := hq.cell (vr_get (f := nI p0) hx)
 have cy := hq.cell (vr_get (f := nI p0) hy)
 have tx : (x < n) = True := eq_true hx
 have ty : (y < n) = True := eq_true hy
 have eqn : ∀ (r : Nat → Nat), ((nI r x) == (nI r y)) = decide (r x = r y) := fun r => by
  unfold nI
  by_cases e : r x = r y
  ·simp [e]
  ·rw [decide_eq_false e]; exact beq_false_of_ne (by omega)
 have hl3 := hl.frame f3 fun _ _ h => h
 have fin3 := fun H' f => fin H' (((f1.trans f2).trans f3).trans f)
 clear fin
 by_cases hxy : x = y
 ·have t1 : ((x : Int) == (y : Int)) = true := by simp [hxy]
  repeat' (first|(with_reducible first|refine jA ?_|(refine hK _ _ ?_;clear hK K)|refine jJ fun K hK=>?_|refine jK ?_|refine jL ?_|refine jM ?_|refine jN ?_|refine jO ?_|refine jP ?_|refine jQ ?_|(refine jB ?_;clear hK K)|(refine jC ?_;clear hK K)|refine jD ?_|refine jE ?_|refine jG ?_|refine jH ?_|refine jI ?_)|((with_reducible refine jR ?hq ?_);case hq=>rfl)|((first|(with_reducible first|refine jS fun K hK=>?_|refine jT ?_|refine jU ?_)|((with_reducible refine jV ?hy fun K hK=>?_);case hy=>rfl));simp only [go_sem, Nat.reduceEqDiff, Nat.reduceAdd, Nat.reduceMul, Nat.reduceLeDiff, Nat.reduceLT, Int.reduceLT, Int.reduceLE, Int.reduceEq, Int.reduceNeg, Int.reduceToNat, Nat.reducePow, reduceIte, reduceCtorEq, t1])|((with_reducible first|refine jW ?hy ?_|refine jY ?hy ?_);case hy=>rfl)|((with_reducible first|refine jX ?hy ?_|refine jZ ?hy ?_);case hy=>rfl)|((with_reducible refine jF ?hy ?_);case hy=>decide))
  exact fin3 H3 (Fr.refl _ _)
 have t1 : ((x : Int) == (y : Int)) = false := beq_false_of_ne (by omega)
 by_cases hp : p0 x = p0 y
 ·have t2 : ((nI p0 x) != (nI p0 y)) = false := by unfold nI; simp [hp]
  have hc : Con (Al l) x y := (hP0.eq hx hy).1 hp
  repeat' (first|(with_reducible first|refine jA ?_|(refine hK _ _ ?_;clear hK K)|refine jJ fun K hK=>?_|refine jK ?_|refine jL ?_|refine jM ?_|refine jN ?_|refine jO ?_|refine jP ?_|refine jQ ?_|(refine jB ?_;clear hK K)|(refine jC ?_;clear hK K)|refine jD ?_|refine jE ?_|refine jG ?_|refine jH ?_|refine jI ?_)|((with_reducible refine jR ?hq ?_);case hq=>rfl)|((first|(with_reducible first|refine jS fun K hK=>?_|refine jT ?_|refine jU ?_)|((with_reducible refine jV ?hy fun K hK=>?_);case hy=>rfl));simp only [go_sem, Nat.reduceEqDiff, Nat.reduceAdd, Nat.reduceMul, Nat.reduceLeDiff, Nat.reduceLT, Int.reduceLT, Int.reduceLE, Int.reduceEq, Int.reduceNeg, Int.reduceToNat, Nat.reducePow, reduceIte, reduceCtorEq, t1, t2, cx, cy, tx, ty])|((with_reducible first|refine jW ?hy ?_|refine jY ?hy ?_);case hy=>rfl)|((with_reducible first|refine jX ?hy ?_|refine jZ ?hy ?_);case hy=>rfl)|((with_reducible refine jF ?hy ?_);case hy=>decide))
  refine Of_ok hl3 hn1 hn64 (by omega) (hg.may (by omega)) fun H4 o T ids p hA hT hbr hP hpn f4 => ?_
  have hl4 := hl3.frame f4 fun _ _ h => h
  have hne : l ≠ [] := fun e => hxy (by
   subst e
   exact (hc.closed (P := fun z => x = z) (fun a b ⟨j, h⟩ => absurd h.lt (Nat.not_lt_zero _))).1 rfl)
  obtain ⟨gl, c', hBl, hvv, hcc⟩ := hl4.open hne
  simp only [Value.slice.injEq] at hvv
  obtain ⟨rfl, _, rfl⟩ := hvv
  subst hBl
  have rl := hl4.readL edC_len (o := 0) (m := l.length) (by omega)
  rw [Nat.zero_mul, List.drop_zero, List.take_length] at rl
  repeat' (first|(with_reducible first|refine jA ?_|(refine hK _ _ ?_;clear hK K)|refine jJ fun K hK=>?_|refine jK ?_|refine jL ?_|refine jM ?_|refine jN ?_|refine jO ?_|refine jP ?_|refine jQ ?_|(refine jB ?_;clear hK K)|(refine jC ?_;clear hK K)|refine jD ?_|refine jE ?_|refine jG ?_|refine jH ?_|refine jI ?_)|((with_reducible refine jR ?hq ?_);case hq=>rfl)|((first|(with_reducible first|refine jS fun K hK=>?_|refine jT ?_|refine jU ?_)|((with_reducible refine jV ?hy fun K hK=>?_);case hy=>rfl));simp only [go_sem, Nat.reduceEqDiff, Nat.reduceAdd, Nat.reduceMul, Nat.reduceLeDiff, Nat.reduceLT, Int.reduceLT, Int.reduceLE, Int.reduceEq, Int.reduceNeg, Int.reduceToNat, Nat.reducePow, reduceIte, reduceCtorEq])|((with_reducible first|refine jW ?hy ?_|refine jY ?hy ?_);case hy=>rfl)|((with_reducible first|refine jX ?hy ?_|refine jZ ?hy ?_);case hy=>rfl)|((with_reducible refine jF ?hy ?_);case hy=>decide))
  refine append_srs edC_len edC_plain elems25 tl35 (SR.nil Ed.cells 4 H4) (ys := l) rl rfl (by decide) (by simp; omega) rfl fun w1 H5 B1 h1 hf1 hB1 => ?_
  rw [List.nil_append] at h1
  have f5 : Fr (fun _ => False) H4 H5 := hf1.mono fun b _ h => by cases h
  have hB1' : ∀ b, B1 = some b → H4.size ≤ b := fun b hb => by
   rcases hB1 with e | ⟨g', hg, hge⟩
   ·rw [e] at hb; cases hb
   ·rw [hg] at hb
    obtain rfl := Option.some.inj hb
    exact hge
  obtain ⟨a1, c1, rfl⟩ := id h1.slice
  repeat' (first|(with_reducible first|refine jA ?_|(refine hK _ _ ?_;clear hK K)|refine jJ fun K hK=>?_|refine jK ?_|refine jL ?_|refine jM ?_|refine jN ?_|refine jO ?_|refine jP ?_|refine jQ ?_|(refine jB ?_;clear hK K)|(refine jC ?_;clear hK K)|refine jD ?_|refine jE ?_|refine jG ?_|refine jH ?_|refine jI ?_)|((with_reducible refine jR ?hq ?_);case hq=>rfl)|((first|(with_reducible first|refine jS fun K hK=>?_|refine jT ?_|refine jU ?_)|((with_reducible refine jV ?hy fun K hK=>?_);case hy=>rfl));simp only [go_sem, Nat.reduceEqDiff, Nat.reduceAdd, Nat.reduceMul, Nat.reduceLeDiff, Nat.reduceLT, Int.reduceLT, Int.reduceLE, Int.reduceEq, Int.reduceNeg, Int.reduceToNat, Nat.reducePow, reduceIte, reduceCtorEq])|((with_reducible first|refine jW ?hy ?_|refine jY ?hy ?_);case hy=>rfl)|((with_reducible first|refine jX ?hy ?_|refine jZ ?hy ?_);case hy=>rfl)|((with_reducible refine jF ?hy ?_);case hy=>decide))
  refine append_sr edC_len edC_plain (x := ⟨5, (x : Nat), (y : Nat), 0⟩) elems25 tl35 h1 rfl (by decide) (by simp; omega) rfl fun w2 H6 B2 h2 hf2 hB2 => ?_
  have f6 : Fr (fun _ => False) H4 H6 := f5.trans' hf2 fun b hb e => by have := hB1' b e; omega
  obtain ⟨a2, c2, rfl⟩ := id h2.slice
  repeat' (first|(with_reducible first|refine jA ?_|(refine hK _ _ ?_;clear hK K)|refine jJ fun K hK=>?_|refine jK ?_|refine jL ?_|refine jM ?_|refine jN ?_|refine jO ?_|refine jP ?_|refine jQ ?_|(refine jB ?_;clear hK K)|(refine jC ?_;clear hK K)|refine jD ?_|refine jE ?_|refine jG ?_|refine jH ?_|refine jI ?_)|((with_reducible refine jR ?hq ?_);case hq=>rfl)|((first|(with_reducible first|refine jS fun K hK=>?_|refine jT ?_|refine jU ?_)|((with_reducible refine jV ?hy fun K hK=>?_);case hy=>rfl));simp only [go_sem, Nat.reduceEqDiff, Nat.reduceAdd, Nat.reduceMul, Nat.reduceLeDiff, Nat.reduceLT, Int.reduceLT, Int.reduceLE, Int.reduceEq, Int.reduceNeg, Int.reduceToNat, Nat.reducePow, reduceIte, reduceCtorEq])|((with_reducible first|refine jW ?hy ?_|refine jY ?hy ?_);case hy=>rfl)|((with_reducible first|refine jX ?hy ?_|refine jZ ?hy ?_);case hy=>rfl)|((with_reducible refine jF ?hy ?_);case hy=>decide))
  refine Of_ok h2 hn1 hn64 (by simp; omega) (more_may hg (by omega) hx hy hxy) fun H7 o2 T2 ids2 p2 hA2 hT2 hbr2 hP2 hpn2 f7 => ?_
  have f47 := f6.trans f7
  have hl7 := hl4.frame f47 fun _ _ h => h
  have hA7 := hA.frame f47 fun _ _ h => h
  have z0 : ((0 : Int) != 0) = false := rfl
  have hidl : ids.length ≤ 100 := by rw [ids_gr hg hbr, List.length_map]; unfold bsOf; exact Nat.le_trans (List.length_filter_le ..) (by simp; omega)
  obtain ⟨f, hf⟩ : ∃ f : Int → Bool, ∀ i, f i = true ↔ Con (AvI l i) x y := by
   classical exact ⟨fun i => decide (Con (AvI l i) x y), fun i => decide_eq_true_iff⟩
  have e2 := more_ids hg hc hbr hbr2 fun i _ => hf i
  have hP0' : Least (Al (l ++ [⟨5, (x : Nat), (y : Nat), 0⟩])) n p0 := (hP0.plus_same hc).congr fun a b _ _ => (all_more rfl rfl).symm
  have c1 := ids_cnt (gr_ends hg) hg.nodup hbr hP0 hP
  have c2 := ids_cnt (more_ends hg hx hy hxy) (more_may hg (by omega) hx hy hxy).2 hbr2 hP0' hP2
  have hsame : p2 x = p2 y := (hP2.eq hx hy).2 (.one ⟨l.length, fun h => absurd (bridge_lt ((bridge_more rfl rfl hc).1 h).1) (Nat.lt_irrefl _), (inc_more rfl rfl).2 (.inr ⟨rfl, .inl ⟨rfl, rfl⟩⟩)⟩)
  subst e2
  have hfl : (ids.filter f).length ≤ ids.length := List.length_filter_le ..
  clear hbr2 hP2 hP0' hpn2 hpn hT hT2 h2 hB2 hf2 h1 hB1 hf1 hB1' cx cy
  repeat' (first|(with_reducible first|refine jA ?_|(refine hK _ _ ?_;clear hK K)|refine jJ fun K hK=>?_|refine jK ?_|refine jL ?_|refine jM ?_|refine jN ?_|refine jO ?_|refine jP ?_|refine jQ ?_|(refine jB ?_;clear hK K)|(refine jC ?_;clear hK K)|refine jD ?_|refine jE ?_|refine jG ?_|refine jH ?_|refine jI ?_)|((with_reducible refine jR ?hq ?_);case hq=>rfl)|((first|(with_reducible first|refine jS fun K hK=>?_|refine jT ?_|refine jU ?_)|((with_reducible refine jV ?hy fun K hK=>?_);case hy=>rfl));simp only [go_sem, Nat.reduceEqDiff, Nat.reduceAdd, Nat.reduceMul, Nat.reduceLeDiff, Nat.reduceLT, Int.reduceLT, Int.reduceLE, Int.reduceEq, Int.reduceNeg, Int.reduceToNat, Nat.reducePow, reduceIte, reduceCtorEq, z0, Bool.not_true])|((with_reducible first|refine jW ?hy ?_|refine jY ?hy ?_);case hy=>rfl)|((with_reducible first|refine jX ?hy ?_|refine jZ ?hy ?_);case hy=>rfl)|((with_reducible refine jF ?hy ?_);case hy=>decide))
  refine Bridges_ok hA7 (by omega) fun H8 Bb vb hvb hBb f8 => ?_
  obtain ⟨ab, cb, rfl, _⟩ := id hvb.rds
  have hl8 := hl7.frame f8 fun _ _ h => h
  have hA8 := hA7.frame f8 fun _ _ h => h
  have hA28 := hA2.frame f8 fun _ _ h => h
  repeat' (first|(with_reducible first|refine jA ?_|(refine hK _ _ ?_;clear hK K)|refine jJ fun K hK=>?_|refine jK ?_|refine jL ?_|refine jM ?_|refine jN ?_|refine jO ?_|refine jP ?_|refine jQ ?_|(refine jB ?_;clear hK K)|(refine jC ?_;clear hK K)|refine jD ?_|refine jE ?_|refine jG ?_|refine jH ?_|refine jI ?_)|((with_reducible refine jR ?hq ?_);case hq=>rfl)|((first|(with_reducible first|refine jS fun K hK=>?_|refine jT ?_|refine jU ?_)|((with_reducible refine jV ?hy fun K hK=>?_);case hy=>rfl));simp only [go_sem, Nat.reduceEqDiff, Nat.reduceAdd, Nat.reduceMul, Nat.reduceLeDiff, Nat.reduceLT, Int.reduceLT, Int.reduceLE, Int.reduceEq, Int.reduceNeg, Int.reduceToNat, Nat.reducePow, reduceIte, reduceCtorEq])|((with_reducible first|refine jW ?hy ?_|refine jY ?hy ?_);case hy=>rfl)|((with_reducible first|refine jX ?hy ?_|refine jZ ?hy ?_);case hy=>rfl)|((with_reducible refine jF ?hy ?_);case hy=>decide))
  refine x_loop (fun m e' H' => ∃ (i : Nat) (Bw : Option Nat) (w : Value), e' 18 = .int .i64 (i : Nat) ∧ e' 16 = w ∧ i ≤ ids.length ∧ IR H' Bw w ((ids.take i).filter f) ∧ (∀ b, Bw = some b → H8.size ≤ b) ∧ Fr (fun _ => False) H8 H' ∧ m = ids.length - i) ids.length
   ⟨0, none, _, rfl, rfl, Nat.zero_le _, by rw [List.take_zero]; exact IR.nil _, nofun, Fr.refl _ _, rfl⟩ ?_
  rintro m e1 H9 ⟨i, Bw, w, i18, i16, hi, hw, hBw, f9, hm⟩ hoff
  have i0 : e1 0 = .int .i64 (n : Nat) := (hoff 0 rfl).trans rfl
  have i2 : e1 2 = .int .i64 (x : Nat) := (hoff 2 rfl).trans rfl
  have i3 : e1 3 = .int .i64 (y : Nat) := (hoff 3 rfl).trans rfl
  have i10 : e1 10 = .slice (some ⟨gl, 0, none⟩) l.length cl := (hoff 10 rfl).trans rfl
  have i12 : e1 12 = .pointer (some ⟨o, 0, none⟩) := (hoff 12 rfl).trans rfl
  have i14 : e1 14 = .pointer (some ⟨o2, 0, none⟩) := (hoff 14 rfl).trans rfl
  have i17 : e1 17 = .slice ab ids.length cb := (hoff 17 rfl).trans rfl
  clear hoff
  have hl9 := hl8.frame f9 fun _ _ h => h
  have hA9 := hA8.frame f9 fun _ _ h => h
  have hA29 := hA28.frame f9 fun _ _ h => h
  have hvb9 := hvb.frame f9 fun _ _ h => h
  obtain ⟨aw, cw, rfl⟩ := id hw.slice
  have s9 := f9.size
  by_cases hlt : i < ids.length
  ·have t1 : ((i : Int) < (ids.length : Int)) = True := eq_true (by omega)
   have t1' : (i < ids.length) = True := eq_true hlt
   have ew : IntKind.i64.wrap ((i : Int) + 1) = ((i + 1 : Nat) : Int) := by rw [wrap_i64] <;> omega
   obtain ⟨z, hz⟩ : ∃ z, ids[i]? = some z := ⟨_, List.getElem?_eq_getElem hlt⟩
   repeat' (first|(with_reducible first|refine jA ?_|(refine hK _ _ ?_;clear hK K)|refine jJ fun K hK=>?_|refine jK ?_|refine jL ?_|refine jM ?_|refine jN ?_|refine jO ?_|refine jP ?_|refine jQ ?_|(refine jB ?_;clear hK K)|(refine jC ?_;clear hK K)|refine jD ?_|refine jE ?_|refine jG ?_|refine jH ?_|refine jI ?_)|((with_reducible refine jR ?hq ?_);case hq=>rfl)|((first|(with_reducible first|refine jS fun K hK=>?_|refine jT ?_|refine jU ?_)|((with_reducible refine jV ?hy fun K hK=>?_);case hy=>rfl));simp only [go_sem, Nat.reduceEqDiff, Nat.reduceAdd, Nat.reduceMul, Nat.reduceLeDiff, Nat.reduceLT, Int.reduceLT, Int.reduceLE, Int.reduceEq, Int.reduceNeg, Int.reduceToNat, Nat.reducePow, reduceIte, reduceCtorEq, i17, i18, t1, t1'])|((with_reducible first|refine jW ?hy ?_|refine jY ?hy ?_);case hy=>rfl)|((with_reducible first|refine jX ?hy ?_|refine jZ ?hy ?_);case hy=>rfl)|((with_reducible refine jF ?hy ?_);case hy=>decide))
   refine x_loop (fun m e' H' => ∃ (j : Nat) (Bk : Option Nat) (w : Value), e' 20 = .int .i64 (j : Nat) ∧ e' 19 = w ∧ j ≤ l.length ∧ SR Ed.cells 4 H' Bk w ((l.take j).filter fun x => decide (x.id ≠ z)) ∧ (∀ b, Bk = some b → H9.size ≤ b) ∧ Fr (fun _ => False) H9 H' ∧ m = l.length - j) l.length
    ⟨0, none, _, rfl, rfl, Nat.zero_le _, by rw [List.take_zero]; exact SR.nil Ed.cells 4 H9, nofun, Fr.refl _ _, rfl⟩ ?_
   rintro m2 e2 H10 ⟨j, Bk, w, j20, j19, hj, hk2, hBk, f10, hm2⟩ hoff
   have j0 := (hoff 0 rfl).trans i0
   have j2 := (hoff 2 rfl).trans i2
   have j3 := (hoff 3 rfl).trans i3
   have j10 := (hoff 10 rfl).trans i10
   have j16 := (hoff 16 rfl).trans i16
   have j17 := (hoff 17 rfl).trans i17
   have j18 := (hoff 18 rfl).trans i18
   clear hoff
   have hl10 := hl9.frame f10 fun _ _ h => h
   have hvb10 := hvb9.frame f10 fun _ _ h => h
   have s10 := f10.size
   obtain ⟨ak, ck, rfl⟩ := id hk2.slice
   have hkl : ((l.take j).filter fun x => decide (x.id ≠ z)).length ≤ j := Nat.le_trans (List.length_filter_le ..) (by rw [List.length_take]; omega)
   obtain ⟨_, _, hr, hrd⟩ := hvb10.rds
   simp only [Value.slice.injEq] at hr
   obtain ⟨rfl, _, rfl⟩ := hr
   obtain ⟨bz, oz, _, rfl, cz⟩ := hrd _ _ hz
   by_cases hjl : j < l.length
   ·obtain ⟨ed, hed⟩ : ∃ ed, l[j]? = some ed := ⟨_, List.getElem?_eq_getElem hjl⟩
    have y1 : ((j : Int) < (l.length : Int)) = True := eq_true (by omega)
    have y1' : (j < l.length) = True := eq_true hjl
    have ewj : IntKind.i64.wrap ((j : Int) + 1) = ((j + 1 : Nat) : Int) := by rw [wrap_i64] <;> omega
    obtain ⟨_, _, _, hvl, _, hcell⟩ := hl10.at edC_len hed
    simp only [Value.slice.injEq, Option.some.injEq, Addr.mk.injEq] at hvl
    obtain ⟨⟨rfl, _⟩, _, rfl⟩ := hvl
    have q0 := hcell 0 _ rfl
    have q1 := hcell 1 _ rfl
    have q2 := hcell 2 _ rfl
    have q3 := hcell 3 _ rfl
    rw [Nat.add_zero] at q0
    have tk : l.take (j + 1) = l.take j ++ [ed] := by rw [List.take_add_one, hed]; rfl
    by_cases hid : ed.id = z
    ·have y2 : (ed.id != z) = false := by simp [hid]
     have ek : (l.take (j + 1)).filter (fun x => decide (x.id ≠ z)) = (l.take j).filter fun x => decide (x.id ≠ z) := by rw [tk, List.filter_append]; simp [hid]
     repeat' (first|(with_reducible first|refine jA ?_|(refine hK _ _ ?_;clear hK K)|refine jJ fun K hK=>?_|refine jK ?_|refine jL ?_|refine jM ?_|refine jN ?_|refine jO ?_|refine jP ?_|refine jQ ?_|(refine jB ?_;clear hK K)|(refine jC ?_;clear hK K)|refine jD ?_|refine jE ?_|refine jG ?_|refine jH ?_|refine jI ?_)|((with_reducible refine jR ?hq ?_);case hq=>rfl)|((first|(with_reducible first|refine jS fun K hK=>?_|refine jT ?_|refine jU ?_)|((with_reducible refine jV ?hy fun K hK=>?_);case hy=>rfl));simp only [go_sem, Nat.reduceEqDiff, Nat.reduceAdd, Nat.reduceMul, Nat.reduceLeDiff, Nat.reduceLT, Int.reduceLT, Int.reduceLE, Int.reduceEq, Int.reduceNeg, Int.reduceToNat, Nat.reducePow, reduceIte, reduceCtorEq, j10, j17, j18, j20, y1, y1', t1', q0, cz, y2, ewj])|((with_reducible first|refine jW ?hy ?_|refine jY ?hy ?_);case hy=>rfl)|((with_reducible first|refine jX ?hy ?_|refine jZ ?hy ?_);case hy=>rfl)|((with_reducible refine jF ?hy ?_);case hy=>decide))
     exact loop_normal (m' := l.length - (j + 1)) (by omega) ⟨j + 1, Bk, _, rfl, j19, hjl, by rw [ek]; exact hk2, hBk, f10, rfl⟩
    ·have y2 : (ed.id != z) = true := by simp [hid]
     have ek : (l.take (j + 1)).filter (fun x => decide (x.id ≠ z)) = (l.take j).filter (fun x => decide (x.id ≠ z)) ++ [ed] := by rw [tk, List.filter_append]; simp [hid]
     repeat' (first|(with_reducible first|refine jA ?_|(refine hK _ _ ?_;clear hK K)|refine jJ fun K hK=>?_|refine jK ?_|refine jL ?_|refine jM ?_|refine jN ?_|refine jO ?_|refine jP ?_|refine jQ ?_|(refine jB ?_;clear hK K)|(refine jC ?_;clear hK K)|refine jD ?_|refine jE ?_|refine jG ?_|refine jH ?_|refine jI ?_)|((with_reducible refine jR ?hq ?_);case hq=>rfl)|((first|(with_reducible first|refine jS fun K hK=>?_|refine jT ?_|refine jU ?_)|((with_reducible refine jV ?hy fun K hK=>?_);case hy=>rfl));simp only [go_sem, Nat.reduceEqDiff, Nat.reduceAdd, Nat.reduceMul, Nat.reduceLeDiff, Nat.reduceLT, Int.reduceLT, Int.reduceLE, Int.reduceEq, Int.reduceNeg, Int.reduceToNat, Nat.reducePow, reduceIte, reduceCtorEq, j10, j17, j18, j19, j20, y1, y1', t1', q0, q1, q2, q3, cz, y2])|((with_reducible first|refine jW ?hy ?_|refine jY ?hy ?_);case hy=>rfl)|((with_reducible first|refine jX ?hy ?_|refine jZ ?hy ?_);case hy=>rfl)|((with_reducible refine jF ?hy ?_);case hy=>decide))
     refine append_sr edC_len edC_plain (x := ed) elems25 tl35 hk2 rfl (by decide) (by simp only [List.length_take] at *; omega) rfl fun w5 H11 B5 h5 hf5 hB5 => ?_
     rw [← ek] at h5
     repeat' (first|(with_reducible first|refine jA ?_|(refine hK _ _ ?_;clear hK K)|refine jJ fun K hK=>?_|refine jK ?_|refine jL ?_|refine jM ?_|refine jN ?_|refine jO ?_|refine jP ?_|refine jQ ?_|(refine jB ?_;clear hK K)|(refine jC ?_;clear hK K)|refine jD ?_|refine jE ?_|refine jG ?_|refine jH ?_|refine jI ?_)|((with_reducible refine jR ?hq ?_);case hq=>rfl)|((first|(with_reducible first|refine jS fun K hK=>?_|refine jT ?_|refine jU ?_)|((with_reducible refine jV ?hy fun K hK=>?_);case hy=>rfl));simp only [go_sem, Nat.reduceEqDiff, Nat.reduceAdd, Nat.reduceMul, Nat.reduceLeDiff, Nat.reduceLT, Int.reduceLT, Int.reduceLE, Int.reduceEq, Int.reduceNeg, Int.reduceToNat, Nat.reducePow, reduceIte, reduceCtorEq, j20, ewj])|((with_reducible first|refine jW ?hy ?_|refine jY ?hy ?_);case hy=>rfl)|((with_reducible first|refine jX ?hy ?_|refine jZ ?hy ?_);case hy=>rfl)|((with_reducible refine jF ?hy ?_);case hy=>decide))
     refine loop_normal (m' := l.length - (j + 1)) (by omega) ⟨j + 1, B5, _, rfl, rfl, hjl, h5, fun b hb => ?_, f10.trans' hf5 fun b hb e => by have := hBk b e; omega, rfl⟩
     rcases hB5 with e | ⟨g', hg', hge⟩
     ·exact hBk b (by rw [← e]; exact hb)
     ·rw [hg'] at hb
      obtain rfl := Option.some.inj hb
      omega
   ·have y1 : ((j : Int) < (l.length : Int)) = False := eq_false (by omega)
    have y1' : (j < l.length) = False := eq_false hjl
    obtain rfl : j = l.length := by omega
    repeat' (first|(with_reducible first|refine jA ?_|(refine hK _ _ ?_;clear hK K)|refine jJ fun K hK=>?_|refine jK ?_|refine jL ?_|refine jM ?_|refine jN ?_|refine jO ?_|refine jP ?_|refine jQ ?_|(refine jB ?_;clear hK K)|(refine jC ?_;clear hK K)|refine jD ?_|refine jE ?_|refine jG ?_|refine jH ?_|refine jI ?_)|((with_reducible refine jR ?hq ?_);case hq=>rfl)|((first|(with_reducible first|refine jS fun K hK=>?_|refine jT ?_|refine jU ?_)|((with_reducible refine jV ?hy fun K hK=>?_);case hy=>rfl));simp only [go_sem, Nat.reduceEqDiff, Nat.reduceAdd, Nat.reduceMul, Nat.reduceLeDiff, Nat.reduceLT, Int.reduceLT, Int.reduceLE, Int.reduceEq, Int.reduceNeg, Int.reduceToNat, Nat.reducePow, reduceIte, reduceCtorEq, j0, j10, j20, j19, y1, y1'])|((with_reducible first|refine jW ?hy ?_|refine jY ?hy ?_);case hy=>rfl)|((with_reducible first|refine jX ?hy ?_|refine jZ ?hy ?_);case hy=>rfl)|((with_reducible refine jF ?hy ?_);case hy=>decide))
    refine Parts_ok (sr_rde hk2) (fun b hb => hk2.lt hb) hn64 (Nat.le_trans hkl (by omega)) (fun e he => hg.ends e (List.mem_of_mem_take (List.mem_filter.1 he).1)) fun H11 q8 p8 hP8 hq8 hqs8 f11 => ?_
    rw [List.take_length] at hP8
    have hf8 : p8 x = p8 y ↔ f z = true := by rw [hP8.eq hx hy, con_filter, hf]
    have cx := hq8.cell (vr_get (f := nI p8) hx)
    have cy := hq8.cell (vr_get (f := nI p8) hy)
    have e8 := eqn p8
    have f911 := f10.trans f11
    have hw11 := hw.frame f911 fun _ _ h => h
    obtain ⟨_, _, hr11, hrd11⟩ := (hvb10.frame f11 fun _ _ h => h).rds
    simp only [Value.slice.injEq, Option.some.injEq] at hr11
    obtain ⟨rfl, _, rfl⟩ := hr11
    obtain ⟨_, _, _, e11, cz11⟩ := hrd11 _ _ hz
    simp only [Option.some.injEq, Addr.mk.injEq] at e11
    obtain ⟨rfl, rfl, _⟩ := e11
    have tk : ids.take (i + 1) = ids.take i ++ [z] := by rw [List.take_add_one, hz]; rfl
    by_cases hfz : f z = true
    ·have ek : (ids.take (i + 1)).filter f = (ids.take i).filter f ++ [z] := by rw [tk, List.filter_append]; simp [hfz]
     have hwl : ((ids.take i).filter f).length ≤ i := Nat.le_trans (List.length_filter_le ..) (by rw [List.length_take]; omega)
     rw [decide_eq_true (hf8.2 hfz)] at e8
     repeat' (first|(with_reducible first|refine jA ?_|(refine hK _ _ ?_;clear hK K)|refine jJ fun K hK=>?_|refine jK ?_|refine jL ?_|refine jM ?_|refine jN ?_|refine jO ?_|refine jP ?_|refine jQ ?_|(refine jB ?_;clear hK K)|(refine jC ?_;clear hK K)|refine jD ?_|refine jE ?_|refine jG ?_|refine jH ?_|refine jI ?_)|((with_reducible refine jR ?hq ?_);case hq=>rfl)|((first|(with_reducible first|refine jS fun K hK=>?_|refine jT ?_|refine jU ?_)|((with_reducible refine jV ?hy fun K hK=>?_);case hy=>rfl));simp only [go_sem, Nat.reduceEqDiff, Nat.reduceAdd, Nat.reduceMul, Nat.reduceLeDiff, Nat.reduceLT, Int.reduceLT, Int.reduceLE, Int.reduceEq, Int.reduceNeg, Int.reduceToNat, Nat.reducePow, reduceIte, reduceCtorEq, j2, j3, j16, j17, j18, cx, cy, tx, ty, e8, cz11, t1'])|((with_reducible first|refine jW ?hy ?_|refine jY ?hy ?_);case hy=>rfl)|((with_reducible first|refine jX ?hy ?_|refine jZ ?hy ?_);case hy=>rfl)|((with_reducible refine jF ?hy ?_);case hy=>decide))
     refine append_ir elems32 tl3 hw11 rfl (by decide) (by simp only [List.length_take] at *; omega) rfl fun w6 H12 B6 h6 hf6 hB6 => ?_
     rw [← ek] at h6
     have s11 := f911.size
     repeat' (first|(with_reducible first|refine jA ?_|(refine hK _ _ ?_;clear hK K)|refine jJ fun K hK=>?_|refine jK ?_|refine jL ?_|refine jM ?_|refine jN ?_|refine jO ?_|refine jP ?_|refine jQ ?_|(refine jB ?_;clear hK K)|(refine jC ?_;clear hK K)|refine jD ?_|refine jE ?_|refine jG ?_|refine jH ?_|refine jI ?_)|((with_reducible refine jR ?hq ?_);case hq=>rfl)|((first|(with_reducible first|refine jS fun K hK=>?_|refine jT ?_|refine jU ?_)|((with_reducible refine jV ?hy fun K hK=>?_);case hy=>rfl));simp only [go_sem, Nat.reduceEqDiff, Nat.reduceAdd, Nat.reduceMul, Nat.reduceLeDiff, Nat.reduceLT, Int.reduceLT, Int.reduceLE, Int.reduceEq, Int.reduceNeg, Int.reduceToNat, Nat.reducePow, reduceIte, reduceCtorEq, j18, ew])|((with_reducible first|refine jW ?hy ?_|refine jY ?hy ?_);case hy=>rfl)|((with_reducible first|refine jX ?hy ?_|refine jZ ?hy ?_);case hy=>rfl)|((with_reducible refine jF ?hy ?_);case hy=>decide))
     refine loop_normal (m' := ids.length - (i + 1)) (by omega) ⟨i + 1, B6, _, rfl, rfl, hlt, h6, fun b hb => ?_, (f9.trans f911).trans' hf6 fun b hb e => by have := hBw b e; omega, rfl⟩
     rcases hB6 with e | ⟨g', hg', hge⟩
     ·exact hBw b (by rw [← e]; exact hb)
     ·rw [hg'] at hb
      obtain rfl := Option.some.inj hb
      omega
    ·have ek : (ids.take (i + 1)).filter f = (ids.take i).filter f := by rw [tk, List.filter_append]; simp [hfz]
     rw [decide_eq_false fun h => hfz (hf8.1 h)] at e8
     repeat' (first|(with_reducible first|refine jA ?_|(refine hK _ _ ?_;clear hK K)|refine jJ fun K hK=>?_|refine jK ?_|refine jL ?_|refine jM ?_|refine jN ?_|refine jO ?_|refine jP ?_|refine jQ ?_|(refine jB ?_;clear hK K)|(refine jC ?_;clear hK K)|refine jD ?_|refine jE ?_|refine jG ?_|refine jH ?_|refine jI ?_)|((with_reducible refine jR ?hq ?_);case hq=>rfl)|((first|(with_reducible first|refine jS fun K hK=>?_|refine jT ?_|refine jU ?_)|((with_reducible refine jV ?hy fun K hK=>?_);case hy=>rfl));simp only [go_sem, Nat.reduceEqDiff, Nat.reduceAdd, Nat.reduceMul, Nat.reduceLeDiff, Nat.reduceLT, Int.reduceLT, Int.reduceLE, Int.reduceEq, Int.reduceNeg, Int.reduceToNat, Nat.reducePow, reduceIte, reduceCtorEq, j2, j3, j18, cx, cy, tx, ty, e8, ew])|((with_reducible first|refine jW ?hy ?_|refine jY ?hy ?_);case hy=>rfl)|((with_reducible first|refine jX ?hy ?_|refine jZ ?hy ?_);case hy=>rfl)|((with_reducible refine jF ?hy ?_);case hy=>decide))
     exact loop_normal (m' := ids.length - (i + 1)) (by omega) ⟨i + 1, Bw, _, rfl, j16, hlt, by rw [ek]; exact hw11, hBw, f9.trans f911, rfl⟩
  ·have t1 : ((i : Int) < (ids.length : Int)) = False := eq_false (by omega)
   have t1' : (i < ids.length) = False := eq_false hlt
   obtain rfl : i = ids.length := by omega
   rw [List.take_length] at hw i16
   repeat' (first|(with_reducible first|refine jA ?_|(refine hK _ _ ?_;clear hK K)|refine jJ fun K hK=>?_|refine jK ?_|refine jL ?_|refine jM ?_|refine jN ?_|refine jO ?_|refine jP ?_|refine jQ ?_|(refine jB ?_;clear hK K)|(refine jC ?_;clear hK K)|refine jD ?_|refine jE ?_|refine jG ?_|refine jH ?_|refine jI ?_)|((with_reducible refine jR ?hq ?_);case hq=>rfl)|((first|(with_reducible first|refine jS fun K hK=>?_|refine jT ?_|refine jU ?_)|((with_reducible refine jV ?hy fun K hK=>?_);case hy=>rfl));simp only [go_sem, Nat.reduceEqDiff, Nat.reduceAdd, Nat.reduceMul, Nat.reduceLeDiff, Nat.reduceLT, Int.reduceLT, Int.reduceLE, Int.reduceEq, Int.reduceNeg, Int.reduceToNat, Nat.reducePow, reduceIte, reduceCtorEq, i14, i17, i18, t1, t1'])|((with_reducible first|refine jW ?hy ?_|refine jY ?hy ?_);case hy=>rfl)|((with_reducible first|refine jX ?hy ?_|refine jZ ?hy ?_);case hy=>rfl)|((with_reducible refine jF ?hy ?_);case hy=>decide))
   refine Bridges_ok hA29 (by omega) fun H10 Bq vq hvq hBq f10 => ?_
   repeat' (first|(with_reducible first|refine jA ?_|(refine hK _ _ ?_;clear hK K)|refine jJ fun K hK=>?_|refine jK ?_|refine jL ?_|refine jM ?_|refine jN ?_|refine jO ?_|refine jP ?_|refine jQ ?_|(refine jB ?_;clear hK K)|(refine jC ?_;clear hK K)|refine jD ?_|refine jE ?_|refine jG ?_|refine jH ?_|refine jI ?_)|((with_reducible refine jR ?hq ?_);case hq=>rfl)|((first|(with_reducible first|refine jS fun K hK=>?_|refine jT ?_|refine jU ?_)|((with_reducible refine jV ?hy fun K hK=>?_);case hy=>rfl));simp only [go_sem, Nat.reduceEqDiff, Nat.reduceAdd, Nat.reduceMul, Nat.reduceLeDiff, Nat.reduceLT, Int.reduceLT, Int.reduceLE, Int.reduceEq, Int.reduceNeg, Int.reduceToNat, Nat.reducePow, reduceIte, reduceCtorEq, i16])|((with_reducible first|refine jW ?hy ?_|refine jY ?hy ?_);case hy=>rfl)|((with_reducible first|refine jX ?hy ?_|refine jZ ?hy ?_);case hy=>rfl)|((with_reducible refine jF ?hy ?_);case hy=>decide))
   refine Pkisthmuslaw08.same_ok hvq.rds (hw.frame f10 fun _ _ h => h).rds (by omega) ?_
   rw [decide_eq_true rfl]
   have hA210 := hA29.frame f10 fun _ _ h => h
   have z0' : ((0 : Int) == 0) = true := rfl
   have b1 := cnt_le n p
   have b2 := cnt_le n p2
   have ew1 : IntKind.i64.wrap ((ids.length : Int) - ((ids.filter f).length : Int)) = (ids.length : Int) - ((ids.filter f).length : Int) := by rw [wrap_i64] <;> omega
   have ew2 : IntKind.i64.wrap ((cnt n p : Int) - ((ids.length : Int) - ((ids.filter f).length : Int))) = ((cnt n p2 : Nat) : Int) := by rw [wrap_i64] <;> omega
   have y2 : (((cnt n p2 : Nat) : Int) == ((cnt n p2 : Nat) : Int)) = true := by simp
   have fin4 := fin3 H10 ((((f4.trans f47).trans f8).trans f9).trans f10)
   repeat' (first|(with_reducible first|refine jA ?_|(refine hK _ _ ?_;clear hK K)|refine jJ fun K hK=>?_|refine jK ?_|refine jL ?_|refine jM ?_|refine jN ?_|refine jO ?_|refine jP ?_|refine jQ ?_|(refine jB ?_;clear hK K)|(refine jC ?_;clear hK K)|refine jD ?_|refine jE ?_|refine jG ?_|refine jH ?_|refine jI ?_)|((with_reducible refine jR ?hq ?_);case hq=>rfl)|((first|(with_reducible first|refine jS fun K hK=>?_|refine jT ?_|refine jU ?_)|((with_reducible refine jV ?hy fun K hK=>?_);case hy=>rfl));simp only [go_sem, Nat.reduceEqDiff, Nat.reduceAdd, Nat.reduceMul, Nat.reduceLeDiff, Nat.reduceLT, Int.reduceLT, Int.reduceLE, Int.reduceEq, Int.reduceNeg, Int.reduceToNat, Nat.reducePow, reduceIte, reduceCtorEq, i2, i3, i14])|((with_reducible first|refine jW ?hy ?_|refine jY ?hy ?_);case hy=>rfl)|((with_reducible first|refine jX ?hy ?_|refine jZ ?hy ?_);case hy=>rfl)|((with_reducible refine jF ?hy ?_);case hy=>decide))
   refine Same_ok hA210 hn64 hx hy ?_
   rw [decide_eq_true hsame]
   repeat' (first|(with_reducible first|refine jA ?_|(refine hK _ _ ?_;clear hK K)|refine jJ fun K hK=>?_|refine jK ?_|refine jL ?_|refine jM ?_|refine jN ?_|refine jO ?_|refine jP ?_|refine jQ ?_|(refine jB ?_;clear hK K)|(refine jC ?_;clear hK K)|refine jD ?_|refine jE ?_|refine jG ?_|refine jH ?_|refine jI ?_)|((with_reducible refine jR ?hq ?_);case hq=>rfl)|((first|(with_reducible first|refine jS fun K hK=>?_|refine jT ?_|refine jU ?_)|((with_reducible refine jV ?hy fun K hK=>?_);case hy=>rfl));simp only [go_sem, Nat.reduceEqDiff, Nat.reduceAdd, Nat.reduceMul, Nat.reduceLeDiff, Nat.reduceLT, Int.reduceLT, Int.reduceLE, Int.reduceEq, Int.reduceNeg, Int.reduceToNat, Nat.reducePow, reduceIte, reduceCtorEq, i14, z0'])|((with_reducible first|refine jW ?hy ?_|refine jY ?hy ?_);case hy=>rfl)|((with_reducible first|refine jX ?hy ?_|refine jZ ?hy ?_);case hy=>rfl)|((with_reducible refine jF ?hy ?_);case hy=>decide))
   refine Blocks_ok hA210 hn64 ?_
   repeat' (first|(with_reducible first|refine jA ?_|(refine hK _ _ ?_;clear hK K)|refine jJ fun K hK=>?_|refine jK ?_|refine jL ?_|refine jM ?_|refine jN ?_|refine jO ?_|refine jP ?_|refine jQ ?_|(refine jB ?_;clear hK K)|(refine jC ?_;clear hK K)|refine jD ?_|refine jE ?_|refine jG ?_|refine jH ?_|refine jI ?_)|((with_reducible refine jR ?hq ?_);case hq=>rfl)|((first|(with_reducible first|refine jS fun K hK=>?_|refine jT ?_|refine jU ?_)|((with_reducible refine jV ?hy fun K hK=>?_);case hy=>rfl));simp only [go_sem, Nat.reduceEqDiff, Nat.reduceAdd, Nat.reduceMul, Nat.reduceLeDiff, Nat.reduceLT, Int.reduceLT, Int.reduceLE, Int.reduceEq, Int.reduceNeg, Int.reduceToNat, Nat.reducePow, reduceIte, reduceCtorEq, i12])|((with_reducible first|refine jW ?hy ?_|refine jY ?hy ?_);case hy=>rfl)|((with_reducible first|refine jX ?hy ?_|refine jZ ?hy ?_);case hy=>rfl)|((with_reducible refine jF ?hy ?_);case hy=>decide))
   refine Blocks_ok (hA9.frame f10 fun _ _ h => h) hn64 ?_
   repeat' (first|(with_reducible first|refine jA ?_|(refine hK _ _ ?_;clear hK K)|refine jJ fun K hK=>?_|refine jK ?_|refine jL ?_|refine jM ?_|refine jN ?_|refine jO ?_|refine jP ?_|refine jQ ?_|(refine jB ?_;clear hK K)|(refine jC ?_;clear hK K)|refine jD ?_|refine jE ?_|refine jG ?_|refine jH ?_|refine jI ?_)|((with_reducible refine jR ?hq ?_);case hq=>rfl)|((first|(with_reducible first|refine jS fun K hK=>?_|refine jT ?_|refine jU ?_)|((with_reducible refine jV ?hy fun K hK=>?_);case hy=>rfl));simp only [go_sem, Nat.reduceEqDiff, Nat.reduceAdd, Nat.reduceMul, Nat.reduceLeDiff, Nat.reduceLT, Int.reduceLT, Int.reduceLE, Int.reduceEq, Int.reduceNeg, Int.reduceToNat, Nat.reducePow, reduceIte, reduceCtorEq, i16, i17, ew1, ew2, y2])|((with_reducible first|refine jW ?hy ?_|refine jY ?hy ?_);case hy=>rfl)|((with_reducible first|refine jX ?hy ?_|refine jZ ?hy ?_);case hy=>rfl)|((with_reducible refine jF ?hy ?_);case hy=>decide))
   exact fin4
 ·have t2 : ((nI p0 x) != (nI p0 y)) = true := by unfold nI; simp; omega
  repeat' (first|(with_reducible first|refine jA ?_|(refine hK _ _ ?_;clear hK K)|refine jJ fun K hK=>?_|refine jK ?_|refine jL ?_|refine jM ?_|refine jN ?_|refine jO ?_|refine jP ?_|refine jQ ?_|(refine jB ?_;clear hK K)|(refine jC ?_;clear hK K)|refine jD ?_|refine jE ?_|refine jG ?_|refine jH ?_|refine jI ?_)|((with_reducible refine jR ?hq ?_);case hq=>rfl)|((first|(with_reducible first|refine jS fun K hK=>?_|refine jT ?_|refine jU ?_)|((with_reducible refine jV ?hy fun K hK=>?_);case hy=>rfl));simp only [go_sem, Nat.reduceEqDiff, Nat.reduceAdd, Nat.reduceMul, Nat.reduceLeDiff, Nat.reduceLT, Int.reduceLT, Int.reduceLE, Int.reduceEq, Int.reduceNeg, Int.reduceToNat, Nat.reducePow, reduceIte, reduceCtorEq, t1, t2, cx, cy, tx, ty])|((with_reducible first|refine jW ?hy ?_|refine jY ?hy ?_);case hy=>rfl)|((with_reducible first|refine jX ?hy ?_|refine jZ ?hy ?_);case hy=>rfl)|((with_reducible refine jF ?hy ?_);case hy=>decide))
  exact fin3 H3 (Fr.refl _ _)
end
end Go.Proofs.Ytpeaogldojepnaa
namespace Go.Hp
open Go Go.ChangeShapes Go.WideShapes Go.RowKit
set_option linter.unusedVariables false
section
variable {E : Type} {enc : TypeId × Value → E} {P : Program} {w : World} {base : Nat} {spare : Nat → Bool} {held : Bool}
theorem cells_in {t e : TypeId} {a : Option Addr} {len cap : Nat} {d : DataW E} {p : List MemPlace} (ht : P.underlying t = some (.slice e)) (h : DataW.Trod enc P w base spare held t (.slice a len cap) d p) :
  len ≤ 9223372036854775807 ∧ ∀ i, i < len → ∃ (q : Addr) (cs : List Value) (m : Nat) (y : DataW E × List MemPlace), a = some q ∧ w.cells? base (q.add (i * P.cellsOf e)) (P.cellsOf e) = some cs ∧ DataW.trod enc P w base spare held m e cs = some y := by
 obtain ⟨fuel, hf⟩ := h
 rcases DataW.trod_slice ht hf with ⟨h0, _⟩ | ⟨a', len', cap', elems, rest, n, _, h0, _, hb, hl, hm, hlen, hel, hsp, hns⟩
 ·simp [Value.cells] at h0
  obtain ⟨rfl, rfl, rfl⟩ := h0
  exact ⟨by omega, fun i hi => absurd hi (by omega)⟩
 ·simp [Value.cells] at h0
  obtain ⟨rfl, rfl, rfl⟩ := h0
  refine ⟨by unfold maxLen at hm; omega, fun i hi => ?_⟩
  have h1 := hel i hi
  rw [List.getElem?_eq_getElem (by omega)] at h1
  obtain ⟨cs, hcs, hy⟩ := Option.bind_eq_some_iff.1 h1
  exact ⟨a', cs, n, _, rfl, hcs, hy⟩
theorem fit_of_wf {n : Int} (h : (Lit.int .i64 n).wf = true) : -9223372036854775808 ≤ n ∧ n ≤ 9223372036854775807 := by
 have hb := bounds_i64 h
 omega
theorem ints_in {t e : TypeId} {a : Option Addr} {len cap : Nat} {d : DataW E} {p : List MemPlace} (ht : P.underlying t = some (.slice e)) (he : P.underlying e = some (.int .i64)) (hc : P.cellsOf e = 1) (h : DataW.Trod enc P w base spare held t (.slice a len cap) d p) :
  len ≤ 9223372036854775807 ∧ ∃ zs, InInts w.heap a len zs := by
 obtain ⟨hl, hi⟩ := cells_in ht h
 refine ⟨hl, ?_⟩
 have each : ∀ i, i < len → ∃ (q : Addr) (n : Int), a = some q ∧ w.cell? (q.add i) = some (.int .i64 n) ∧ (Lit.int .i64 n).wf = true := fun i hlt => by
  obtain ⟨q, cs, m, y, h1, h2, h3⟩ := hi i hlt
  obtain ⟨n, rfl, _, hw⟩ := DataW.trod_int he h3
  rw [hc, Nat.mul_one] at h2
  obtain ⟨_, _, h4⟩ := World.cells?_some h2
  refine ⟨q, n, h1, ?_, hw⟩
  have := h4 0 (by omega)
  simpa [Addr.add] using this
 refine ⟨fun i => if h : i < len then (each i h).choose_spec.choose else 0, fun i hlt => ?_⟩
 have e := (each i hlt).choose_spec.choose_spec
 refine ⟨_, e.1, ?_, ?_⟩
 ·simp only [hlt, dif_pos]
  exact e.2.1
 ·simp only [hlt, dif_pos]
  exact fit_of_wf e.2.2
theorem field_in {e : TypeId} {fs : Array Field} {q : Addr} {n : Nat} {cs : List Value} {m : Nat} {y : DataW E × List MemPlace} (he : P.underlying e = some (.struct fs)) (h2 : w.cells? base q n = some cs) (h3 : DataW.trod enc P w base spare held m e cs = some y)
  (i : Nat) {f : Field} (hf : fs[i]? = some f) (hc : P.cellsOf f.type = 1) (ho : f.offset < n) :
  ∃ (v : Value) (z : DataW E × List MemPlace) (m' : Nat), w.cell? (q.add f.offset) = some v ∧ DataW.trod enc P w base spare held m' f.type [v] = some z := by
 obtain ⟨xs, n', _, _, hlen, hxl, hfs⟩ := DataW.trod_struct he h3
 obtain ⟨_, hcl, hcell⟩ := World.cells?_some h2
 have h4 := hfs i f hf
 have hlt : i < fs.size := (Array.getElem?_eq_some_iff.1 hf).1
 rw [hc, List.getElem?_eq_getElem (by omega)] at h4
 have hd : (cs.drop f.offset).take 1 = [cs[f.offset]'(by omega)] := by
  rw [List.drop_eq_getElem_cons (by omega)]; rfl
 rw [hd] at h4
 refine ⟨_, _, n', ?_, h4⟩
 rw [hcell f.offset ho, List.getElem?_eq_getElem (by omega)]
end
theorem add_zero_addr (q : Addr) : q.add 0 = q := rfl
theorem add_succ_addr (q : Addr) (n : Nat) : q.add (n + 1) = ⟨q.block, q.off + (n + 1), none⟩ := by
 unfold Addr.add; rw [if_neg (by omega)]
end Go.Hp
namespace Go.Proofs.Ytpeaogldojepnaa
open Go Go.Hp Go.Br Go.ChangeShapes Go.WideShapes Go.RowKit
set_option linter.unusedVariables false
section
variable {E : Type} {enc : TypeId × Value → E} {P : Program} {w : World} {base : Nat} {spare : Nat → Bool} {held : Bool}
theorem part_in {e : TypeId} {fs : Array Field} {cs : List Value} {m : Nat} {y : DataW E × List MemPlace} (he : P.underlying e = some (.struct fs)) (h3 : DataW.trod enc P w base spare held m e cs = some y) (i : Nat) {f : Field} (hf : fs[i]? = some f) :
  ∃ (z : DataW E × List MemPlace) (m' : Nat), DataW.trod enc P w base spare held m' f.type ((cs.drop f.offset).take (P.cellsOf f.type)) = some z := by
 obtain ⟨xs, n', _, _, hlen, hxl, hfs⟩ := DataW.trod_struct he h3
 have hlt : i < fs.size := (Array.getElem?_eq_some_iff.1 hf).1
 exact ⟨_, n', (hfs i f hf).trans (List.getElem?_eq_getElem (by omega))⟩
theorem one_at {cs : List Value} {o : Nat} {v : Value} (h : (cs.drop o).take 1 = [v]) : cs[o]? = some v := by
 have := congrArg (fun l => l[0]?) h
 simp only [List.getElem?_cons_zero] at this
 rw [List.getElem?_take_of_lt (by omega), List.getElem?_drop] at this
 exact this
theorem pairs_in {t : TypeId} {a : Option Addr} {len cap : Nat} {d : DataW E} {p : List MemPlace} (ht : Try.prog.underlying t = some (.slice 54)) (h : DataW.Trod enc Try.prog w base spare held t (.slice a len cap) d p) :
  len ≤ 9223372036854775807 ∧ ∃ zs, InPairs w.heap a len zs := by
 obtain ⟨hl, hi⟩ := cells_in ht h
 have hc : Try.prog.cellsOf 54 = 2 := by kernel_rfl
 have c1 : Try.prog.cellsOf 3 = 1 := by kernel_rfl
 rw [hc] at hi
 have each : ∀ i, i < len → ∃ (q : Addr) (o : Int × Int), a = some q ∧ (hcell w.heap (q.add (i * 2)) = some (.int .i64 o.1) ∧ hcell w.heap ⟨(q.add (i * 2)).block, (q.add (i * 2)).off + 1, none⟩ = some (.int .i64 o.2)) ∧ (-9223372036854775808 ≤ o.1 ∧ o.1 ≤ 9223372036854775807) ∧ -9223372036854775808 ≤ o.2 ∧ o.2 ≤ 9223372036854775807 := fun i hlt => by
  obtain ⟨q, cs, m, y, h1, h2, h3⟩ := hi i hlt
  obtain ⟨_, hcl, hcell'⟩ := World.cells?_some h2
  obtain ⟨z0, m0, t0⟩ := part_in Try.underlying54 h3 0 rfl
  obtain ⟨z1, m1, t1⟩ := part_in Try.underlying54 h3 1 rfl
  obtain ⟨k0, e0, _, w0⟩ := DataW.trod_int Try.underlying3 t0
  obtain ⟨k1, e1, _, w1⟩ := DataW.trod_int Try.underlying3 t1
  have e0 : (cs.drop 0).take (Try.prog.cellsOf 3) = [.int .i64 k0] := e0
  have e1 : (cs.drop 1).take (Try.prog.cellsOf 3) = [.int .i64 k1] := e1
  rw [c1] at e0 e1
  have r0 := one_at e0
  have r1 := one_at e1
  have g : ∀ j v, j < 2 → cs[j]? = some v → hcell w.heap (if j = 0 then q.add (i * 2) else ⟨(q.add (i * 2)).block, (q.add (i * 2)).off + j, none⟩) = some v := fun j v hj hv => by
   have := hcell' j hj
   rw [hv] at this
   cases j with
   | zero => exact this
   | succ j =>
    rw [if_neg (by omega)]
    rw [add_succ_addr] at this
    exact this
  exact ⟨q, (k0, k1), h1, ⟨g 0 _ (by omega) r0, g 1 _ (by omega) r1⟩, fit_of_wf w0, fit_of_wf w1⟩
 refine ⟨hl, fun i => if h : i < len then (each i h).choose_spec.choose else (0, 0), fun i hlt => ?_⟩
 have e := (each i hlt).choose_spec.choose_spec
 simp only [hlt, dif_pos]
 exact ⟨_, e.1, e.2.1, e.2.2⟩
end
end Go.Proofs.Ytpeaogldojepnaa
