/-
  The laws' helpers: pick, graph, awake. Graphs whose edges stand otherwise.
  What a law's walk is told of slices of pairs that came in.
  Plain: lists without one edge; which edges are bridges, as a list.
  Plain: bridges by the edges' names alone; the same edges in another order, their ends changed.
  BridgeOrder.
  Lists of edges that came in; the document's oracle in memory; its lists, plain.
  The document's oracle's calls.
-/
import Derived.Test.YtpeaogldojepnaaG2
import Derived.Test.YtpeaogldojepnaaG0
namespace Go.Br
open Go Go.Hp Go.Li
set_option linter.unusedVariables false
theorem srt_eq : ∀ {xs ys : List Int}, xs.Pairwise (· < ·) → ys.Pairwise (· < ·) → (∀ i, i ∈ xs ↔ i ∈ ys) → xs = ys
 | [], [], _, _, _ => rfl
 | [], y :: ys, _, _, h => by have := (h y).2 (.head _); cases this
 | x :: xs, [], _, _, h => by have := (h x).1 (.head _); cases this
 | x :: xs, y :: ys, hx, hy, h => by
  rw [List.pairwise_cons] at hx hy
  have e : x = y := by
   rcases List.mem_cons.1 ((h x).1 (.head _)) with e | e1
   ·exact e
   rcases List.mem_cons.1 ((h y).2 (.head _)) with e | e2
   ·exact e.symm
   have := hx.1 y e2
   have := hy.1 x e1
   omega
  subst e
  rw [srt_eq hx.2 hy.2 fun i => ⟨fun hi => ?_, fun hi => ?_⟩]
  ·rcases List.mem_cons.1 ((h i).1 (.tail _ hi)) with e | e
   ·have := hx.1 i hi; omega
   ·exact e
  ·rcases List.mem_cons.1 ((h i).2 (.tail _ hi)) with e | e
   ·have := hy.1 i hi; omega
   ·exact e
def Gr (n : Nat) (l : List Ed) : Prop := ∀ j x, l[j]? = some x → x.id = ((10 + j : Nat) : Int) ∧ x.w = 0 ∧ ∃ u v : Nat, x.u = (u : Int) ∧ x.v = (v : Int) ∧ u < n ∧ v < n ∧ u ≠ v
theorem Gr.nodup {n : Nat} {l : List Ed} (h : Gr n l) : (l.map (·.id)).Nodup := by
 rw [List.nodup_iff_pairwise_ne, List.pairwise_iff_getElem]
 intro i j hi hj hij
 rw [List.length_map] at hi hj
 rw [List.getElem_map, List.getElem_map, (h i _ (List.getElem?_eq_getElem hi)).1, (h j _ (List.getElem?_eq_getElem hj)).1]
 omega
theorem Gr.may {n : Nat} {l : List Ed} (h : Gr n l) (hl : l.length ≤ 1000) : May n l := by
 refine ⟨fun x hx => ?_, h.nodup⟩
 obtain ⟨j, hj, e⟩ := List.mem_iff_getElem.1 hx
 obtain ⟨h1, h2, u, v, h3, h4, h5, h6, h7⟩ := h j x (by rw [List.getElem?_eq_getElem hj, e])
 unfold okEd
 rw [decide_eq_true_iff]
 omega
theorem Gr.ends {n : Nat} {l : List Ed} (h : Gr n l) : ∀ x ∈ l, ∃ u v : Nat, x.u = u ∧ x.v = v ∧ u < n ∧ v < n := fun x hx => by
 obtain ⟨j, hj, e⟩ := List.mem_iff_getElem.1 hx
 obtain ⟨h1, h2, u, v, h3, h4, h5, h6, h7⟩ := h j x (by rw [List.getElem?_eq_getElem hj, e])
 exact ⟨u, v, h3, h4, h5, h6⟩
theorem Gr.more {n : Nat} {l : List Ed} {u v : Nat} (h : Gr n l) (hu : u < n) (hv : v < n) (huv : u ≠ v) : Gr n (l ++ [⟨((10 + l.length : Nat) : Int), u, v, 0⟩]) := by
 intro j x hx
 by_cases hj : j < l.length
 ·rw [List.getElem?_append_left hj] at hx
  exact h j x hx
 ·rw [List.getElem?_append_right (by omega)] at hx
  have hj' : j - l.length = 0 := by
   have := (List.getElem?_eq_some_iff.1 hx).1
   simp at this; omega
  rw [hj'] at hx
  obtain rfl := Option.some.inj hx
  exact ⟨by show ((10 + l.length : Nat) : Int) = _; omega, rfl, u, v, rfl, rfl, hu, hv, huv⟩
def InPairs (H : Heap) (a : Option Addr) (len : Nat) (zs : Nat → Int × Int) : Prop :=
 ∀ i, i < len → ∃ p : Addr, a = some p ∧ (hcell H (p.add (i * 2)) = some (.int .i64 (zs i).1) ∧ hcell H ⟨(p.add (i * 2)).block, (p.add (i * 2)).off + 1, none⟩ = some (.int .i64 (zs i).2)) ∧ (-9223372036854775808 ≤ (zs i).1 ∧ (zs i).1 ≤ 9223372036854775807) ∧ -9223372036854775808 ≤ (zs i).2 ∧ (zs i).2 ≤ 9223372036854775807
theorem InPairs.frame {H H' : Heap} {a : Option Addr} {len : Nat} {zs : Nat → Int × Int} (h : InPairs H a len zs) (hf : Fr (fun _ => False) H H') : InPairs H' a len zs := fun i hi => by
 obtain ⟨p, h1, ⟨c0, c1⟩, h5⟩ := h i hi
 have mv : ∀ {a : Addr} {v : Value}, hcell H a = some v → hcell H' a = some v := fun h => by rw [hf.cell (hcell_lt h) (fun h => h)]; exact h
 exact ⟨p, h1, ⟨mv c0, mv c1⟩, h5⟩
theorem sr_lit {α : Type} {C : α → List Value} {k : Nat} (hC : ∀ x, (C x).length = k) (H : Heap) (xs : List α) (T : TypeId) : SR C k (H.push (.cells (xs.flatMap C).toArray T)) (some H.size) (.slice (some ⟨H.size, 0, none⟩) xs.length xs.length) xs :=
 ⟨srf_len hC xs, .inr ⟨H.size, xs.length, [], rfl, rfl, by rw [List.append_nil]; exact Blk.new H _ T, by rw [List.append_nil, srf_len hC], Nat.le_refl _⟩⟩
theorem irlit (H : Heap) (xs : List Int) (T : TypeId) : IR (H.push (.cells (xs.map (Value.int .i64)).toArray T)) (some H.size) (.slice (some ⟨H.size, 0, none⟩) xs.length xs.length) xs :=
 ⟨by simp, .inr ⟨H.size, xs.length, [], rfl, rfl, by rw [List.append_nil]; exact Blk.new H _ T, by simp, Nat.le_refl _⟩⟩
def l5 : List Ed := [⟨1, 0, 1, 0⟩, ⟨2, 1, 2, 0⟩, ⟨3, 2, 0, 0⟩, ⟨4, 2, 3, 0⟩, ⟨5, 3, 4, 0⟩]
theorem inc5 {k x y : Nat} (h : Inc l5 k x y) : (k = 0 ∧ (x = 0 ∧ y = 1 ∨ x = 1 ∧ y = 0)) ∨ (k = 1 ∧ (x = 1 ∧ y = 2 ∨ x = 2 ∧ y = 1)) ∨ (k = 2 ∧ (x = 2 ∧ y = 0 ∨ x = 0 ∧ y = 2)) ∨ (k = 3 ∧ (x = 2 ∧ y = 3 ∨ x = 3 ∧ y = 2)) ∨ (k = 4 ∧ (x = 3 ∧ y = 4 ∨ x = 4 ∧ y = 3)) := by
 obtain ⟨e, he, h⟩ := h
 rcases k with _ | _ | _ | _ | _ | k
 ·have he' : some (⟨1, 0, 1, 0⟩ : Ed) = some e := he
  rw [← Option.some.inj he'] at h
  simp only at h
  refine .inl ⟨rfl, ?_⟩
  omega
 ·have he' : some (⟨2, 1, 2, 0⟩ : Ed) = some e := he
  rw [← Option.some.inj he'] at h
  simp only at h
  refine .inr (.inl ⟨rfl, ?_⟩)
  omega
 ·have he' : some (⟨3, 2, 0, 0⟩ : Ed) = some e := he
  rw [← Option.some.inj he'] at h
  simp only at h
  refine .inr (.inr (.inl ⟨rfl, ?_⟩))
  omega
 ·have he' : some (⟨4, 2, 3, 0⟩ : Ed) = some e := he
  rw [← Option.some.inj he'] at h
  simp only at h
  refine .inr (.inr (.inr (.inl ⟨rfl, ?_⟩)))
  omega
 ·have he' : some (⟨5, 3, 4, 0⟩ : Ed) = some e := he
  rw [← Option.some.inj he'] at h
  simp only at h
  refine .inr (.inr (.inr (.inr ⟨rfl, ?_⟩)))
  omega
 ·have he' : (none : Option Ed) = some e := he
  cases he'
theorem e50 : Inc l5 0 0 1 := ⟨_, rfl, .inl ⟨rfl, rfl⟩⟩
theorem e51 : Inc l5 1 1 2 := ⟨_, rfl, .inl ⟨rfl, rfl⟩⟩
theorem e52 : Inc l5 2 2 0 := ⟨_, rfl, .inl ⟨rfl, rfl⟩⟩
theorem e53 : Inc l5 3 2 3 := ⟨_, rfl, .inl ⟨rfl, rfl⟩⟩
theorem e54 : Inc l5 4 3 4 := ⟨_, rfl, .inl ⟨rfl, rfl⟩⟩
theorem bridge5 (k : Nat) : Bridge l5 k ↔ k = 3 ∨ k = 4 := by
 constructor
 ·rintro ⟨a, b, hi, hn⟩
  have := inc5 hi
  by_cases h3 : k = 3
  ·exact .inl h3
  by_cases h4 : k = 4
  ·exact .inr h4
  refine absurd ?_ hn
  have h0 : k = 0 ∨ k = 1 ∨ k = 2 := by omega
  have a0 : k ≠ 0 → Con (Av l5 k) 0 1 := fun h => .one ⟨0, Ne.symm h, e50⟩
  have a1 : k ≠ 1 → Con (Av l5 k) 1 2 := fun h => .one ⟨1, Ne.symm h, e51⟩
  have a2 : k ≠ 2 → Con (Av l5 k) 2 0 := fun h => .one ⟨2, Ne.symm h, e52⟩
  rcases h0 with rfl | rfl | rfl
  ·have c := ((a1 (by decide)).trans (a2 (by decide))).symm
   rcases (show (a = 0 ∧ b = 1) ∨ (a = 1 ∧ b = 0) by omega) with ⟨rfl, rfl⟩ | ⟨rfl, rfl⟩
   ·exact c
   ·exact c.symm
  ·have c := ((a2 (by decide)).trans (a0 (by decide))).symm
   rcases (show (a = 1 ∧ b = 2) ∨ (a = 2 ∧ b = 1) by omega) with ⟨rfl, rfl⟩ | ⟨rfl, rfl⟩
   ·exact c
   ·exact c.symm
  ·have c := ((a0 (by decide)).trans (a1 (by decide))).symm
   rcases (show (a = 2 ∧ b = 0) ∨ (a = 0 ∧ b = 2) by omega) with ⟨rfl, rfl⟩ | ⟨rfl, rfl⟩
   ·exact c
   ·exact c.symm
 ·rintro (rfl | rfl)
  ·refine ⟨2, 3, e53, fun c => ?_⟩
   have := Con.closed (P := fun x => x ≤ 2) (fun x y ⟨j, hj, h⟩ => by have := inc5 h; omega) c
   omega
  ·refine ⟨3, 4, e54, fun c => ?_⟩
   have := Con.closed (P := fun x => x ≤ 3) (fun x y ⟨j, hj, h⟩ => by have := inc5 h; omega) c
   omega
theorem ids5 {ids : List Int} (h : IsBr l5 ids) : ids = [4, 5] := by
 refine srt_eq h.srt (by simp) fun i => (h.mem i).trans ?_
 constructor
 ·rintro ⟨k, x, h1, rfl, h2⟩
  rcases (bridge5 k).1 h2 with rfl | rfl
  ·obtain rfl := Option.some.inj h1; simp
  ·obtain rfl := Option.some.inj h1; simp
 ·intro hi
  simp only [List.mem_cons, List.not_mem_nil, or_false] at hi
  rcases hi with rfl | rfl
  ·exact ⟨3, _, rfl, rfl, (bridge5 3).2 (.inl rfl)⟩
  ·exact ⟨4, _, rfl, rfl, (bridge5 4).2 (.inr rfl)⟩
theorem p5 {p : Nat → Nat} (h : Least (Firm l5) 6 p) : ∀ v, v < 6 → p v = if v < 3 then 0 else v := by
 have f : ∀ {j a b}, ¬ (j = 3 ∨ j = 4) → Inc l5 j a b → Con (Firm l5) a b := fun hj hi => .one ⟨_, fun hb => hj ((bridge5 _).1 hb), hi⟩
 intro v hv
 have hc := h.con v hv
 by_cases h3 : v < 3
 ·rw [if_pos h3]
  have : Con (Firm l5) v 0 := by
   rcases (show v = 0 ∨ v = 1 ∨ v = 2 by omega) with rfl | rfl | rfl
   ·exact .refl _
   ·exact (f (by decide) e50).symm
   ·exact f (by decide) e52
  have := h.le v 0 hv (by omega) this
  omega
 ·rw [if_neg h3]
  have := Con.closed (P := fun x => x = v) (fun x y ⟨j, hj, hi⟩ => by
   rw [bridge5] at hj
   have := inc5 hi
   omega) hc
  exact this.1 rfl
theorem cnt5 {p : Nat → Nat} (h : Least (Firm l5) 6 p) : cnt 6 p = 4 := by
 rw [cnt_congr (p5 h)]
 decide
theorem may5 : May 6 l5 := by decide
end Go.Br
namespace Go.Proofs.Ytpeaogldojepnaa
open Go Go.Hp Go.Li Go.Br
set_option linter.all false
set_option maxRecDepth 100000
set_option maxHeartbeats 3200000
section
variable {H H' : Heap} {L : Value → Heap → Prop}
theorem pick_nat {c : Int} {n : Nat} (h : -9223372036854775808 ≤ c ∧ c ≤ 9223372036854775807) (hn : 0 < n) (fin : ∀ k : Nat, k < n → L (.int .i64 (k : Nat)) H) : CallsH Try.prog 9 #[.int .i64 c, .int .i64 (n : Nat)] H L := by
 refine Pkisthmuslaw08.pick_ok h.1 h.2 (by omega) ?_
 obtain ⟨u0, u1⟩ := pickN_range c (n := (n : Int)) (by omega)
 obtain ⟨u, eu⟩ := Int.eq_ofNat_of_zero_le u0
 rw [eu] at u1 ⊢
 exact fin u (Int.ofNat_lt.1 u1)
theorem graph_ok {a : Option Addr} {len c n most : Nat} {zs : Nat → Int × Int} (hin : InPairs H a len zs) (hlen : len ≤ 9223372036854775807) (hn : 0 < n) (hm : most ≤ 1000)
  (fin : ∀ H' B v l, SR Ed.cells 4 H' B v l → (∀ b, B = some b → H.size ≤ b) → Gr n l → l.length ≤ most → Fr (fun _ => False) H H' → L v H') :
  CallsH Try.prog 10 #[.int .i64 (n : Nat), .slice a len c, .int .i64 (most : Nat)] H L := by
 refine call10 (by simp) ?_
 simp only [Try.f10, Option.getD_some]
 repeat' (first|(with_reducible first|refine jA ?_|(refine hK _ _ ?_;clear hK K)|refine jJ fun K hK=>?_|refine jK ?_|refine jL ?_|refine jM ?_|refine jN ?_|refine jO ?_|refine jP ?_|refine jQ ?_|(refine jB ?_;clear hK K)|(refine jC ?_;clear hK K)|refine jD ?_|refine jE ?_|refine jG ?_|refine jH ?_|refine jI ?_)|((with_reducible refine jR ?hq ?_);case hq=>rfl)|((first|(with_reducible first|refine jS fun K hK=>?_|refine jT ?_|refine jU ?_)|((with_reducible refine jV ?hy fun K hK=>?_);case hy=>rfl));simp only [go_sem, Nat.reduceEqDiff, Nat.reduceAdd, Nat.reduceMul, Nat.reduceLeDiff, Nat.reduceLT, Int.reduceLT, Int.reduceLE, Int.reduceEq, Int.reduceNeg, Int.reduceToNat, Nat.reducePow, reduceIte, reduceCtorEq])|((with_reducible first|refine jW ?hy ?_|refine jY ?hy ?_);case hy=>rfl)|((with_reducible first|refine jX ?hy ?_|refine jZ ?hy ?_);case hy=>rfl)|((with_reducible refine jF ?hy ?_);case hy=>decide))
 refine x_loop (fun m e' H' => ∃ (i : Nat) (B : Option Nat) (v : Value) (l : List Ed), e' 8 = .int .i64 (i : Nat) ∧ e' 7 = v ∧ i ≤ len ∧ SR Ed.cells 4 H' B v l ∧ (∀ b, B = some b → H.size ≤ b) ∧ Gr n l ∧ l.length ≤ most ∧ Fr (fun _ => False) H H' ∧ m = len - i) len
  ⟨0, none, _, [], rfl, rfl, Nat.zero_le _, SR.nil _ _ _, nofun, fun j x h => by simp at h, Nat.zero_le _, Fr.refl _ _, rfl⟩ ?_
 rintro m e1 H1 ⟨i, B, v, l, i8, i7, hi, hl, hB, hg, hll, f1, hm1⟩ hoff
 have i0 : e1 0 = .int .i64 (n : Nat) := (hoff 0 rfl).trans rfl
 have i1 : e1 1 = .slice a len c := (hoff 1 rfl).trans rfl
 have i2 : e1 2 = .int .i64 (most : Nat) := (hoff 2 rfl).trans rfl
 clear hoff
 obtain ⟨sv, cv, rfl⟩ := hl.slice
 by_cases hlt : i < len
 ·have t1 : ((i : Int) < (len : Int)) = True := eq_true (by omega)
  have t1' : (i < len) = True := eq_true hlt
  have ew : IntKind.i64.wrap ((i : Int) + 1) = ((i + 1 : Nat) : Int) := by rw [wrap_i64] <;> omega
  by_cases hml : l.length < most
  ·have t2 : ((l.length : Int) < (most : Int)) = True := eq_true (by omega)
   have t2' : (l.length < most) = True := eq_true hml
   obtain ⟨q, rfl, ⟨q0, q1⟩, hf1, hf2⟩ := (hin.frame f1) i hlt
   repeat' (first|(with_reducible first|refine jA ?_|(refine hK _ _ ?_;clear hK K)|refine jJ fun K hK=>?_|refine jK ?_|refine jL ?_|refine jM ?_|refine jN ?_|refine jO ?_|refine jP ?_|refine jQ ?_|(refine jB ?_;clear hK K)|(refine jC ?_;clear hK K)|refine jD ?_|refine jE ?_|refine jG ?_|refine jH ?_|refine jI ?_)|((with_reducible refine jR ?hq ?_);case hq=>rfl)|((first|(with_reducible first|refine jS fun K hK=>?_|refine jT ?_|refine jU ?_)|((with_reducible refine jV ?hy fun K hK=>?_);case hy=>rfl));simp only [go_sem, Nat.reduceEqDiff, Nat.reduceAdd, Nat.reduceMul, Nat.reduceLeDiff, Nat.reduceLT, Int.reduceLT, Int.reduceLE, Int.reduceEq, Int.reduceNeg, Int.reduceToNat, Nat.reducePow, reduceIte, reduceCtorEq, i0, i1, i2, i7, i8, t1, t1', t2, t2', q0])|((with_reducible first|refine jW ?hy ?_|refine jY ?hy ?_);case hy=>rfl)|((with_reducible first|refine jX ?hy ?_|refine jZ ?hy ?_);case hy=>rfl)|((with_reducible refine jF ?hy ?_);case hy=>decide))
   refine pick_nat hf1 hn fun u hu => ?_
   repeat' (first|(with_reducible first|refine jA ?_|(refine hK _ _ ?_;clear hK K)|refine jJ fun K hK=>?_|refine jK ?_|refine jL ?_|refine jM ?_|refine jN ?_|refine jO ?_|refine jP ?_|refine jQ ?_|(refine jB ?_;clear hK K)|(refine jC ?_;clear hK K)|refine jD ?_|refine jE ?_|refine jG ?_|refine jH ?_|refine jI ?_)|((with_reducible refine jR ?hq ?_);case hq=>rfl)|((first|(with_reducible first|refine jS fun K hK=>?_|refine jT ?_|refine jU ?_)|((with_reducible refine jV ?hy fun K hK=>?_);case hy=>rfl));simp only [go_sem, Nat.reduceEqDiff, Nat.reduceAdd, Nat.reduceMul, Nat.reduceLeDiff, Nat.reduceLT, Int.reduceLT, Int.reduceLE, Int.reduceEq, Int.reduceNeg, Int.reduceToNat, Nat.reducePow, reduceIte, reduceCtorEq, i0, i1, i8, t1, t1', q1])|((with_reducible first|refine jW ?hy ?_|refine jY ?hy ?_);case hy=>rfl)|((with_reducible first|refine jX ?hy ?_|refine jZ ?hy ?_);case hy=>rfl)|((with_reducible refine jF ?hy ?_);case hy=>decide))
   refine pick_nat hf2 hn fun v hv => ?_
   by_cases huv : u = v
   ·have t3 : ((u : Int) != (v : Int)) = false := by simp [huv]
    repeat' (first|(with_reducible first|refine jA ?_|(refine hK _ _ ?_;clear hK K)|refine jJ fun K hK=>?_|refine jK ?_|refine jL ?_|refine jM ?_|refine jN ?_|refine jO ?_|refine jP ?_|refine jQ ?_|(refine jB ?_;clear hK K)|(refine jC ?_;clear hK K)|refine jD ?_|refine jE ?_|refine jG ?_|refine jH ?_|refine jI ?_)|((with_reducible refine jR ?hq ?_);case hq=>rfl)|((first|(with_reducible first|refine jS fun K hK=>?_|refine jT ?_|refine jU ?_)|((with_reducible refine jV ?hy fun K hK=>?_);case hy=>rfl));simp only [go_sem, Nat.reduceEqDiff, Nat.reduceAdd, Nat.reduceMul, Nat.reduceLeDiff, Nat.reduceLT, Int.reduceLT, Int.reduceLE, Int.reduceEq, Int.reduceNeg, Int.reduceToNat, Nat.reducePow, reduceIte, reduceCtorEq, t3, i8, ew])|((with_reducible first|refine jW ?hy ?_|refine jY ?hy ?_);case hy=>rfl)|((with_reducible first|refine jX ?hy ?_|refine jZ ?hy ?_);case hy=>rfl)|((with_reducible refine jF ?hy ?_);case hy=>decide))
    exact loop_normal (m' := len - (i + 1)) (by omega) ⟨i + 1, B, _, l, rfl, i7, hlt, hl, hB, hg, hll, f1, rfl⟩
   ·have t3 : ((u : Int) != (v : Int)) = true := by simp; omega
    have ewl : IntKind.i64.wrap (10 + (l.length : Int)) = ((10 + l.length : Nat) : Int) := by rw [wrap_i64] <;> omega
    repeat' (first|(with_reducible first|refine jA ?_|(refine hK _ _ ?_;clear hK K)|refine jJ fun K hK=>?_|refine jK ?_|refine jL ?_|refine jM ?_|refine jN ?_|refine jO ?_|refine jP ?_|refine jQ ?_|(refine jB ?_;clear hK K)|(refine jC ?_;clear hK K)|refine jD ?_|refine jE ?_|refine jG ?_|refine jH ?_|refine jI ?_)|((with_reducible refine jR ?hq ?_);case hq=>rfl)|((first|(with_reducible first|refine jS fun K hK=>?_|refine jT ?_|refine jU ?_)|((with_reducible refine jV ?hy fun K hK=>?_);case hy=>rfl));simp only [go_sem, Nat.reduceEqDiff, Nat.reduceAdd, Nat.reduceMul, Nat.reduceLeDiff, Nat.reduceLT, Int.reduceLT, Int.reduceLE, Int.reduceEq, Int.reduceNeg, Int.reduceToNat, Nat.reducePow, reduceIte, reduceCtorEq, t3, i7, ewl])|((with_reducible first|refine jW ?hy ?_|refine jY ?hy ?_);case hy=>rfl)|((with_reducible first|refine jX ?hy ?_|refine jZ ?hy ?_);case hy=>rfl)|((with_reducible refine jF ?hy ?_);case hy=>decide))
    refine append_sr edC_len edC_plain (x := ⟨((10 + l.length : Nat) : Int), u, v, 0⟩) elems25 tl35 hl rfl (by decide) (by simp; omega) rfl fun v2 H2 B2 hl2 f2 hB2 => ?_
    repeat' (first|(with_reducible first|refine jA ?_|(refine hK _ _ ?_;clear hK K)|refine jJ fun K hK=>?_|refine jK ?_|refine jL ?_|refine jM ?_|refine jN ?_|refine jO ?_|refine jP ?_|refine jQ ?_|(refine jB ?_;clear hK K)|(refine jC ?_;clear hK K)|refine jD ?_|refine jE ?_|refine jG ?_|refine jH ?_|refine jI ?_)|((with_reducible refine jR ?hq ?_);case hq=>rfl)|((first|(with_reducible first|refine jS fun K hK=>?_|refine jT ?_|refine jU ?_)|((with_reducible refine jV ?hy fun K hK=>?_);case hy=>rfl));simp only [go_sem, Nat.reduceEqDiff, Nat.reduceAdd, Nat.reduceMul, Nat.reduceLeDiff, Nat.reduceLT, Int.reduceLT, Int.reduceLE, Int.reduceEq, Int.reduceNeg, Int.reduceToNat, Nat.reducePow, reduceIte, reduceCtorEq, i8, ew])|((with_reducible first|refine jW ?hy ?_|refine jY ?hy ?_);case hy=>rfl)|((with_reducible first|refine jX ?hy ?_|refine jZ ?hy ?_);case hy=>rfl)|((with_reducible refine jF ?hy ?_);case hy=>decide))
    refine loop_normal (m' := len - (i + 1)) (by omega) ⟨i + 1, B2, v2, _, rfl, rfl, hlt, hl2, fun b hb => ?_, hg.more hu hv huv, by simp; omega, f1.trans' f2 fun b hb e => by have := hB b e; omega, rfl⟩
    rcases hB2 with e | ⟨g', e1, e2⟩
    ·exact hB b (by rw [← e]; exact hb)
    ·rw [e1] at hb
     have := Option.some.inj hb
     have := f1.size
     omega
  ·have t2 : ((l.length : Int) < (most : Int)) = False := eq_false (by omega)
   have t2' : (l.length < most) = False := eq_false hml
   repeat' (first|(with_reducible first|refine jA ?_|(refine hK _ _ ?_;clear hK K)|refine jJ fun K hK=>?_|refine jK ?_|refine jL ?_|refine jM ?_|refine jN ?_|refine jO ?_|refine jP ?_|refine jQ ?_|(refine jB ?_;clear hK K)|(refine jC ?_;clear hK K)|refine jD ?_|refine jE ?_|refine jG ?_|refine jH ?_|refine jI ?_)|((with_reducible refine jR ?hq ?_);case hq=>rfl)|((first|(with_reducible first|refine jS fun K hK=>?_|refine jT ?_|refine jU ?_)|((with_reducible refine jV ?hy fun K hK=>?_);case hy=>rfl));simp only [go_sem, Nat.reduceEqDiff, Nat.reduceAdd, Nat.reduceMul, Nat.reduceLeDiff, Nat.reduceLT, Int.reduceLT, Int.reduceLE, Int.reduceEq, Int.reduceNeg, Int.reduceToNat, Nat.reducePow, reduceIte, reduceCtorEq, i1, i2, i7, i8, t1, t1', t2, t2'])|((with_reducible first|refine jW ?hy ?_|refine jY ?hy ?_);case hy=>rfl)|((with_reducible first|refine jX ?hy ?_|refine jZ ?hy ?_);case hy=>rfl)|((with_reducible refine jF ?hy ?_);case hy=>decide))
   exact fin H1 B _ l hl hB hg hll f1
 ·have t1 : ((i : Int) < (len : Int)) = False := eq_false (by omega)
  have t1' : (i < len) = False := eq_false hlt
  repeat' (first|(with_reducible first|refine jA ?_|(refine hK _ _ ?_;clear hK K)|refine jJ fun K hK=>?_|refine jK ?_|refine jL ?_|refine jM ?_|refine jN ?_|refine jO ?_|refine jP ?_|refine jQ ?_|(refine jB ?_;clear hK K)|(refine jC ?_;clear hK K)|refine jD ?_|refine jE ?_|refine jG ?_|refine jH ?_|refine jI ?_)|((with_reducible refine jR ?hq ?_);case hq=>rfl)|((first|(with_reducible first|refine jS fun K hK=>?_|refine jT ?_|refine jU ?_)|((with_reducible refine jV ?hy fun K hK=>?_);case hy=>rfl));simp only [go_sem, Nat.reduceEqDiff, Nat.reduceAdd, Nat.reduceMul, Nat.reduceLeDiff, Nat.reduceLT, Int.reduceLT, Int.reduceLE, Int.reduceEq, Int.reduceNeg, Int.reduceToNat, Nat.reducePow, reduceIte, reduceCtorEq, i1, i7, i8, t1, t1'])|((with_reducible first|refine jW ?hy ?_|refine jY ?hy ?_);case hy=>rfl)|((with_reducible first|refine jX ?hy ?_|refine jZ ?hy ?_);case hy=>rfl)|((with_reducible refine jF ?hy ?_);case hy=>decide))
  exact fin H1 B _ l hl hB hg hll f1
theorem awake_ok (fin : ∀ H', Fr (fun _ => False) H H' → L (.bool true) H') : CallsH Try.prog 8 #[] H L := by
 have hl := sr_lit edC_len H l5 35
 have f0 : Fr (fun _ => False) H (H.push (.cells (l5.flatMap Ed.cells).toArray 35)) := (Fr.refl _ _).push _
 refine call8 (by simp) ?_
 simp only [Try.f8, Option.getD_some]
 repeat' (first|(with_reducible first|refine jA ?_|(refine hK _ _ ?_;clear hK K)|refine jJ fun K hK=>?_|refine jK ?_|refine jL ?_|refine jM ?_|refine jN ?_|refine jO ?_|refine jP ?_|refine jQ ?_|(refine jB ?_;clear hK K)|(refine jC ?_;clear hK K)|refine jD ?_|refine jE ?_|refine jG ?_|refine jH ?_|refine jI ?_)|((with_reducible refine jR ?hq ?_);case hq=>rfl)|((first|(with_reducible first|refine jS fun K hK=>?_|refine jT ?_|refine jU ?_)|((with_reducible refine jV ?hy fun K hK=>?_);case hy=>rfl));simp only [go_sem, Nat.reduceEqDiff, Nat.reduceAdd, Nat.reduceMul, Nat.reduceLeDiff, Nat.reduceLT, Int.reduceLT, Int.reduceLE, Int.reduceEq, Int.reduceNeg, Int.reduceToNat, Nat.reducePow, reduceIte, reduceCtorEq])|((with_reducible first|refine jW ?hy ?_|refine jY ?hy ?_);case hy=>rfl)|((with_reducible first|refine jX ?hy ?_|refine jZ ?hy ?_);case hy=>rfl)|((with_reducible refine jF ?hy ?_);case hy=>decide))
 refine Of_ok (n := 6) hl (by omega) (by omega) (by decide) may5 fun H1 o T ids p hO hT hbr hP hpn f1 => ?_
 have eids := ids5 hbr
 subst eids
 have e1 := p5 hP 1 (by omega)
 have z0 : ((0 : Int) != 0) = false := rfl
 repeat' (first|(with_reducible first|refine jA ?_|(refine hK _ _ ?_;clear hK K)|refine jJ fun K hK=>?_|refine jK ?_|refine jL ?_|refine jM ?_|refine jN ?_|refine jO ?_|refine jP ?_|refine jQ ?_|(refine jB ?_;clear hK K)|(refine jC ?_;clear hK K)|refine jD ?_|refine jE ?_|refine jG ?_|refine jH ?_|refine jI ?_)|((with_reducible refine jR ?hq ?_);case hq=>rfl)|((first|(with_reducible first|refine jS fun K hK=>?_|refine jT ?_|refine jU ?_)|((with_reducible refine jV ?hy fun K hK=>?_);case hy=>rfl));simp only [go_sem, Nat.reduceEqDiff, Nat.reduceAdd, Nat.reduceMul, Nat.reduceLeDiff, Nat.reduceLT, Int.reduceLT, Int.reduceLE, Int.reduceEq, Int.reduceNeg, Int.reduceToNat, Nat.reducePow, reduceIte, reduceCtorEq, z0])|((with_reducible first|refine jW ?hy ?_|refine jY ?hy ?_);case hy=>rfl)|((with_reducible first|refine jX ?hy ?_|refine jZ ?hy ?_);case hy=>rfl)|((with_reducible refine jF ?hy ?_);case hy=>decide))
 refine Bridges_ok hO (by decide) fun H2 B v hv hB f2 => ?_
 repeat' (first|(with_reducible first|refine jA ?_|(refine hK _ _ ?_;clear hK K)|refine jJ fun K hK=>?_|refine jK ?_|refine jL ?_|refine jM ?_|refine jN ?_|refine jO ?_|refine jP ?_|refine jQ ?_|(refine jB ?_;clear hK K)|(refine jC ?_;clear hK K)|refine jD ?_|refine jE ?_|refine jG ?_|refine jH ?_|refine jI ?_)|((with_reducible refine jR ?hq ?_);case hq=>rfl)|((first|(with_reducible first|refine jS fun K hK=>?_|refine jT ?_|refine jU ?_)|((with_reducible refine jV ?hy fun K hK=>?_);case hy=>rfl));simp only [go_sem, Nat.reduceEqDiff, Nat.reduceAdd, Nat.reduceMul, Nat.reduceLeDiff, Nat.reduceLT, Int.reduceLT, Int.reduceLE, Int.reduceEq, Int.reduceNeg, Int.reduceToNat, Nat.reducePow, reduceIte, reduceCtorEq])|((with_reducible first|refine jW ?hy ?_|refine jY ?hy ?_);case hy=>rfl)|((with_reducible first|refine jX ?hy ?_|refine jZ ?hy ?_);case hy=>rfl)|((with_reducible refine jF ?hy ?_);case hy=>decide))
 have hk := irlit H2 [4, 5] 3
 have f3 : Fr (fun _ => False) H2 (H2.push (.cells (([4, 5] : List Int).map (Value.int .i64)).toArray 3)) := (Fr.refl _ _).push _
 refine Pkisthmuslaw08.same_ok (hv.rds.frame f3 fun _ _ h => h) hk.rds (by decide) ?_
 have hO3 := hO.frame (f2.trans f3) fun _ _ h => h
 repeat' (first|(with_reducible first|refine jA ?_|(refine hK _ _ ?_;clear hK K)|refine jJ fun K hK=>?_|refine jK ?_|refine jL ?_|refine jM ?_|refine jN ?_|refine jO ?_|refine jP ?_|refine jQ ?_|(refine jB ?_;clear hK K)|(refine jC ?_;clear hK K)|refine jD ?_|refine jE ?_|refine jG ?_|refine jH ?_|refine jI ?_)|((with_reducible refine jR ?hq ?_);case hq=>rfl)|((first|(with_reducible first|refine jS fun K hK=>?_|refine jT ?_|refine jU ?_)|((with_reducible refine jV ?hy fun K hK=>?_);case hy=>rfl));simp only [go_sem, Nat.reduceEqDiff, Nat.reduceAdd, Nat.reduceMul, Nat.reduceLeDiff, Nat.reduceLT, Int.reduceLT, Int.reduceLE, Int.reduceEq, Int.reduceNeg, Int.reduceToNat, Nat.reducePow, reduceIte, reduceCtorEq])|((with_reducible first|refine jW ?hy ?_|refine jY ?hy ?_);case hy=>rfl)|((with_reducible first|refine jX ?hy ?_|refine jZ ?hy ?_);case hy=>rfl)|((with_reducible refine jF ?hy ?_);case hy=>decide))
 refine Block_ok hO3 (by omega) (k := 1) (by omega) ?_
 rw [e1]
 repeat' (first|(with_reducible first|refine jA ?_|(refine hK _ _ ?_;clear hK K)|refine jJ fun K hK=>?_|refine jK ?_|refine jL ?_|refine jM ?_|refine jN ?_|refine jO ?_|refine jP ?_|refine jQ ?_|(refine jB ?_;clear hK K)|(refine jC ?_;clear hK K)|refine jD ?_|refine jE ?_|refine jG ?_|refine jH ?_|refine jI ?_)|((with_reducible refine jR ?hq ?_);case hq=>rfl)|((first|(with_reducible first|refine jS fun K hK=>?_|refine jT ?_|refine jU ?_)|((with_reducible refine jV ?hy fun K hK=>?_);case hy=>rfl));simp only [go_sem, Nat.reduceEqDiff, Nat.reduceAdd, Nat.reduceMul, Nat.reduceLeDiff, Nat.reduceLT, Int.reduceLT, Int.reduceLE, Int.reduceEq, Int.reduceNeg, Int.reduceToNat, Nat.reducePow, reduceIte, reduceCtorEq])|((with_reducible first|refine jW ?hy ?_|refine jY ?hy ?_);case hy=>rfl)|((with_reducible first|refine jX ?hy ?_|refine jZ ?hy ?_);case hy=>rfl)|((with_reducible refine jF ?hy ?_);case hy=>decide))
 refine Blocks_ok hO3 (by omega) ?_
 rw [cnt5 hP]
 repeat' (first|(with_reducible first|refine jA ?_|(refine hK _ _ ?_;clear hK K)|refine jJ fun K hK=>?_|refine jK ?_|refine jL ?_|refine jM ?_|refine jN ?_|refine jO ?_|refine jP ?_|refine jQ ?_|(refine jB ?_;clear hK K)|(refine jC ?_;clear hK K)|refine jD ?_|refine jE ?_|refine jG ?_|refine jH ?_|refine jI ?_)|((with_reducible refine jR ?hq ?_);case hq=>rfl)|((first|(with_reducible first|refine jS fun K hK=>?_|refine jT ?_|refine jU ?_)|((with_reducible refine jV ?hy fun K hK=>?_);case hy=>rfl));simp only [go_sem, Nat.reduceEqDiff, Nat.reduceAdd, Nat.reduceMul, Nat.reduceLeDiff, Nat.reduceLT, Int.reduceLT, Int.reduceLE, Int.reduceEq, Int.reduceNeg, Int.reduceToNat, Nat.reducePow, reduceIte, reduceCtorEq])|((with_reducible first|refine jW ?hy ?_|refine jY ?hy ?_);case hy=>rfl)|((with_reducible first|refine jX ?hy ?_|refine jZ ?hy ?_);case hy=>rfl)|((with_reducible refine jF ?hy ?_);case hy=>decide))
 exact fin _ (((f0.trans f1).trans f2).trans f3)
end
end Go.Proofs.Ytpeaogldojepnaa
namespace Go.Proofs.Ytpeaogldojepnaa
open Go Go.Hp Go.Br Go.ChangeShapes Go.WideShapes Go.RowKit
set_option linter.unusedVariables false
section
variable {E : Type} {enc : TypeId × Value → E} {P : Program} {w : World} {base : Nat} {spare : Nat → Bool} {held : Bool}
theorem part_in {e : TypeId} {fs : Array Field} {cs : List Value} {m : Nat} {y : DataW E × List MemPlace} (he : P.underlying e = some (.struct fs)) (h3 : DataW.trod enc P w base spare held m e cs = some y) (i : Nat) {f : Field} (hf : fs[i]? = some f) :
  ∃ (z : DataW E × List MemPlace) (m' : Nat), DataW.trod enc P w base spare held m' f.type ((cs.drop f.offset).take (P.cellsOf f.type)) = some z := by
 obtain ⟨xs, n', _, _, hlen, hxl, hfs⟩ := DataW.trod_struct he h3
 have hlt : i < fs.size := (Array.getElem?_eq_some_iff.1 hf).1
 exact ⟨_, n', (hfs i f hf).trans (List.getElem?_eq_getElem (by omega))⟩
theorem one_at {cs : List Value} {o : Nat} {v : Value} (h : (cs.drop o).take 1 = [v]) : cs[o]? = some v := by
 have := congrArg (fun l => l[0]?) h
 simp only [List.getElem?_cons_zero] at this
 rw [List.getElem?_take_of_lt (by omega), List.getElem?_drop] at this
 exact this
theorem pairs_in {t : TypeId} {a : Option Addr} {len cap : Nat} {d : DataW E} {p : List MemPlace} (ht : Try.prog.underlying t = some (.slice 54)) (h : DataW.Trod enc Try.prog w base spare held t (.slice a len cap) d p) :
  len ≤ 9223372036854775807 ∧ ∃ zs, InPairs w.heap a len zs := by
 obtain ⟨hl, hi⟩ := cells_in ht h
 have hc : Try.prog.cellsOf 54 = 2 := by kernel_rfl
 have c1 : Try.prog.cellsOf 3 = 1 := by kernel_rfl
 rw [hc] at hi
 have each : ∀ i, i < len → ∃ (q : Addr) (o : Int × Int), a = some q ∧ (hcell w.heap (q.add (i * 2)) = some (.int .i64 o.1) ∧ hcell w.heap ⟨(q.add (i * 2)).block, (q.add (i * 2)).off + 1, none⟩ = some (.int .i64 o.2)) ∧ (-9223372036854775808 ≤ o.1 ∧ o.1 ≤ 9223372036854775807) ∧ -9223372036854775808 ≤ o.2 ∧ o.2 ≤ 9223372036854775807 := fun i hlt => by
  obtain ⟨q, cs, m, y, h1, h2, h3⟩ := hi i hlt
  obtain ⟨_, hcl, hcell'⟩ := World.cells?_some h2
  obtain ⟨z0, m0, t0⟩ := part_in Try.underlying54 h3 0 rfl
  obtain ⟨z1, m1, t1⟩ := part_in Try.underlying54 h3 1 rfl
  obtain ⟨k0, e0, _, w0⟩ := DataW.trod_int Try.underlying3 t0
  obtain ⟨k1, e1, _, w1⟩ := DataW.trod_int Try.underlying3 t1
  have e0 : (cs.drop 0).take (Try.prog.cellsOf 3) = [.int .i64 k0] := e0
  have e1 : (cs.drop 1).take (Try.prog.cellsOf 3) = [.int .i64 k1] := e1
  rw [c1] at e0 e1
  have r0 := one_at e0
  have r1 := one_at e1
  have g : ∀ j v, j < 2 → cs[j]? = some v → hcell w.heap (if j = 0 then q.add (i * 2) else ⟨(q.add (i * 2)).block, (q.add (i * 2)).off + j, none⟩) = some v := fun j v hj hv => by
   have := hcell' j hj
   rw [hv] at this
   cases j with
   | zero => exact this
   | succ j =>
    rw [if_neg (by omega)]
    rw [add_succ_addr] at this
    exact this
  exact ⟨q, (k0, k1), h1, ⟨g 0 _ (by omega) r0, g 1 _ (by omega) r1⟩, fit_of_wf w0, fit_of_wf w1⟩
 refine ⟨hl, fun i => if h : i < len then (each i h).choose_spec.choose else (0, 0), fun i hlt => ?_⟩
 have e := (each i hlt).choose_spec.choose_spec
 simp only [hlt, dif_pos]
 exact ⟨_, e.1, e.2.1, e.2.2⟩
end
end Go.Proofs.Ytpeaogldojepnaa
namespace Go.Br
open Go Go.Hp Go.Li
set_option linter.unusedVariables false
def wo (l : List Ed) (k : Nat) : List Ed := l.take k ++ l.drop (k + 1)
def En (e : Ed) (a b : Nat) : Prop := (e.u = (a : Int) ∧ e.v = (b : Int)) ∨ (e.u = (b : Int) ∧ e.v = (a : Int))
theorem al_mem {l : List Ed} {a b : Nat} : Al l a b ↔ ∃ e ∈ l, En e a b := by
 constructor
 ·rintro ⟨j, e, h1, h2⟩; exact ⟨e, List.mem_of_getElem? h1, h2⟩
 ·rintro ⟨e, h1, h2⟩
  obtain ⟨j, hj⟩ := List.mem_iff_getElem?.1 h1
  exact ⟨j, e, hj, h2⟩
theorem mem_wo {l : List Ed} {k : Nat} {e : Ed} : e ∈ wo l k ↔ ∃ j, j ≠ k ∧ l[j]? = some e := by
 unfold wo
 rw [List.mem_append]
 constructor
 ·rintro (h | h)
  ·obtain ⟨j, hj⟩ := List.mem_iff_getElem?.1 h
   have hlt := (List.getElem?_eq_some_iff.1 hj).1
   rw [List.length_take] at hlt
   rw [List.getElem?_take_of_lt (by omega)] at hj
   exact ⟨j, by omega, hj⟩
  ·obtain ⟨j, hj⟩ := List.mem_iff_getElem?.1 h
   rw [List.getElem?_drop] at hj
   exact ⟨k + 1 + j, by omega, hj⟩
 ·rintro ⟨j, hj, h⟩
  rcases Nat.lt_or_gt_of_ne hj with hlt | hgt
  ·left
   rw [List.mem_iff_getElem?]
   exact ⟨j, by rw [List.getElem?_take_of_lt hlt]; exact h⟩
  ·right
   rw [List.mem_iff_getElem?]
   exact ⟨j - (k + 1), by rw [List.getElem?_drop, show k + 1 + (j - (k + 1)) = j by omega]; exact h⟩
theorem al_wo {l : List Ed} {k : Nat} {a b : Nat} : Al (wo l k) a b ↔ Av l k a b := by
 rw [al_mem]
 constructor
 ·rintro ⟨e, h1, h2⟩
  obtain ⟨j, hj, he⟩ := mem_wo.1 h1
  exact ⟨j, hj, e, he, h2⟩
 ·rintro ⟨j, hj, e, he, h2⟩
  exact ⟨e, mem_wo.2 ⟨j, hj, he⟩, h2⟩
theorem con_wo {l : List Ed} {k : Nat} {a b : Nat} : Con (Al (wo l k)) a b ↔ Con (Av l k) a b := ⟨Con.mono fun _ _ => al_wo.1, Con.mono fun _ _ => al_wo.2⟩
theorem least_wo {l : List Ed} {n k : Nat} {p : Nat → Nat} : Least (Al (wo l k)) n p ↔ Least (Av l k) n p := ⟨fun h => h.congr fun _ _ _ _ => con_wo, fun h => h.congr fun _ _ _ _ => con_wo.symm⟩
theorem wo_mem {l : List Ed} {k : Nat} {e : Ed} (h : e ∈ wo l k) : e ∈ l := by
 obtain ⟨j, _, he⟩ := mem_wo.1 h
 exact List.mem_of_getElem? he
theorem wo_len {l : List Ed} {k : Nat} : (wo l k).length ≤ l.length := by
 unfold wo; simp; omega
theorem gr_ends {n : Nat} {l : List Ed} (h : Gr n l) : Ends l n := by
 refine ⟨fun k x y ⟨e, he, hi⟩ => ?_⟩
 obtain ⟨_, _, u, v, h3, h4, h5, h6, h7⟩ := h k e he
 omega
open Classical in
noncomputable def bsOf (l : List Ed) (k : Nat) : List Nat := (List.range k).filter fun j => decide (Bridge l j)
theorem bridge_lt {l : List Ed} {k : Nat} (h : Bridge l k) : k < l.length := by
 obtain ⟨a, b, hi, _⟩ := h
 exact hi.lt
theorem bsOf_nodup (l : List Ed) (k : Nat) : (bsOf l k).Nodup := List.Pairwise.filter _ List.nodup_range
open Classical in
theorem bsOf_mem {l : List Ed} {k : Nat} : k ∈ bsOf l l.length ↔ Bridge l k := by
 unfold bsOf
 rw [List.mem_filter, List.mem_range, decide_eq_true_iff]
 exact ⟨fun h => h.2, fun h => ⟨bridge_lt h, h⟩⟩
theorem bsOf_succ (l : List Ed) (k : Nat) : (Bridge l k → bsOf l (k + 1) = bsOf l k ++ [k]) ∧ (¬ Bridge l k → bsOf l (k + 1) = bsOf l k) := by
 unfold bsOf
 rw [List.range_succ, List.filter_append]
 constructor
 ·intro h; simp [h]
 ·intro h; simp [h]
theorem bsOf_pre (l : List Ed) {k : Nat} : ∀ m, k ≤ m → ∃ r, bsOf l m = bsOf l k ++ r ∧ ∀ x ∈ r, k ≤ x
 | m, h => by
  induction m with
  | zero =>
   obtain rfl : k = 0 := by omega
   exact ⟨[], by simp, by simp⟩
  | succ m ih =>
   by_cases e : k = m + 1
   ·subst e; exact ⟨[], by simp, by simp⟩
   obtain ⟨r, h1, h2⟩ := ih (by omega)
   by_cases hb : Bridge l m
   ·refine ⟨r ++ [m], by rw [(bsOf_succ l m).1 hb, h1, List.append_assoc], fun x hx => ?_⟩
    rcases List.mem_append.1 hx with hx | hx
    ·exact h2 x hx
    ·rw [List.mem_singleton.1 hx]; omega
   ·exact ⟨r, by rw [(bsOf_succ l m).2 hb, h1], h2⟩
theorem ids_gr {n : Nat} {l : List Ed} {ids : List Int} (hg : Gr n l) (h : IsBr l ids) : ids = (bsOf l l.length).map fun k => ((10 + k : Nat) : Int) := by
 refine srt_eq h.srt ?_ fun i => (h.mem i).trans ?_
 ·rw [List.pairwise_map]
  have : (bsOf l l.length).Pairwise (· < ·) := List.Pairwise.filter _ List.pairwise_lt_range
  exact this.imp fun h => by omega
 ·rw [List.mem_map]
  constructor
  ·rintro ⟨k, x, h1, rfl, h2⟩
   exact ⟨k, bsOf_mem.2 h2, (hg k x h1).1.symm⟩
  ·rintro ⟨k, h1, rfl⟩
   have hb := bsOf_mem.1 h1
   obtain ⟨x, hx⟩ : ∃ x, l[k]? = some x := ⟨_, List.getElem?_eq_getElem (bridge_lt hb)⟩
   exact ⟨k, x, hx, (hg k x hx).1, hb⟩
theorem ids_at {l : List Ed} {k : Nat} (hk : k < l.length) : (Bridge l k → ((bsOf l l.length).map fun k => ((10 + k : Nat) : Int))[(bsOf l k).length]? = some ((10 + k : Nat) : Int)) ∧
  (¬ Bridge l k → ∀ x, ((bsOf l l.length).map fun k => ((10 + k : Nat) : Int))[(bsOf l k).length]? = some x → x ≠ ((10 + k : Nat) : Int)) := by
 constructor
 ·intro hb
  obtain ⟨r, h1, _⟩ := bsOf_pre l (k := k + 1) l.length hk
  rw [h1, (bsOf_succ l k).1 hb]
  simp
 ·intro hb x hx e
  obtain ⟨r, h1, h2⟩ := bsOf_pre l (k := k) l.length (by omega)
  rw [List.getElem?_map] at hx
  obtain ⟨y, hy, rfl⟩ := Option.map_eq_some_iff.1 hx
  have : y = k := by omega
  subst this
  exact hb (bsOf_mem.1 (List.mem_of_getElem? hy))
theorem firm_gr {l : List Ed} {u v : Nat} : Con (Firm l) u v ↔ Con (Al l) u v ∧ ∀ k, k < l.length → Con (Av l k) u v := firm_iff (bsOf_nodup l l.length) fun k => bsOf_mem
theorem cnt_gr {n : Nat} {l : List Ed} {p q : Nat → Nat} (hg : Gr n l) (hp : Least (Al l) n p) (hq : Least (Firm l) n q) : cnt n q = cnt n p + (bsOf l l.length).length := cnt_firm (gr_ends hg) (bsOf_nodup l l.length) (fun k => bsOf_mem) hp hq
end Go.Br
namespace Go.Br
open Go Go.Hp Go.Li
set_option linter.unusedVariables false
def AvI (l : List Ed) (i : Int) (a b : Nat) : Prop := ∃ e ∈ l, e.id ≠ i ∧ En e a b
def BrI (l : List Ed) (i : Int) : Prop := ∃ x ∈ l, x.id = i ∧ ∃ a b, En x a b ∧ ¬ Con (AvI l i) a b
def FiI (l : List Ed) (a b : Nat) : Prop := ∃ e ∈ l, ¬ BrI l e.id ∧ En e a b
theorem same_at {l : List Ed} (hn : (l.map (·.id)).Nodup) {j k : Nat} {e x : Ed} (he : l[j]? = some e) (hx : l[k]? = some x) (h : e.id = x.id) : j = k := by
 refine (List.getElem?_inj (l := l.map (·.id)) (by rw [List.length_map]; exact (List.getElem?_eq_some_iff.1 he).1) hn).1 ?_
 rw [List.getElem?_map, List.getElem?_map, he, hx]
 simp [h]
theorem avI {l : List Ed} (hn : (l.map (·.id)).Nodup) {k : Nat} {x : Ed} (hx : l[k]? = some x) {a b : Nat} : AvI l x.id a b ↔ Av l k a b := by
 constructor
 ·rintro ⟨e, h1, h2, h3⟩
  obtain ⟨j, hj⟩ := List.mem_iff_getElem?.1 h1
  refine ⟨j, fun ej => ?_, e, hj, h3⟩
  subst ej
  rw [hx] at hj
  exact h2 (by rw [Option.some.inj hj])
 ·rintro ⟨j, hj, e, he, h3⟩
  exact ⟨e, List.mem_of_getElem? he, fun h => hj (same_at hn he hx h), h3⟩
theorem con_avI {l : List Ed} (hn : (l.map (·.id)).Nodup) {k : Nat} {x : Ed} (hx : l[k]? = some x) {a b : Nat} : Con (AvI l x.id) a b ↔ Con (Av l k) a b := ⟨Con.mono fun _ _ => (avI hn hx).1, Con.mono fun _ _ => (avI hn hx).2⟩
theorem brI {l : List Ed} (hn : (l.map (·.id)).Nodup) {k : Nat} {x : Ed} (hx : l[k]? = some x) : Bridge l k ↔ BrI l x.id := by
 constructor
 ·rintro ⟨a, b, ⟨e, he, hen⟩, hno⟩
  rw [hx] at he
  obtain rfl := Option.some.inj he
  exact ⟨x, List.mem_of_getElem? hx, rfl, a, b, hen, fun c => hno ((con_avI hn hx).1 c)⟩
 ·rintro ⟨y, hy, hid, a, b, hen, hno⟩
  obtain ⟨j, hj⟩ := List.mem_iff_getElem?.1 hy
  have := same_at hn hj hx hid
  subst this
  rw [hx] at hj
  obtain rfl := Option.some.inj hj
  exact ⟨a, b, ⟨x, hx, hen⟩, fun c => hno ((con_avI hn hx).2 c)⟩
theorem isBr_id {l : List Ed} (hn : (l.map (·.id)).Nodup) {ids : List Int} (h : IsBr l ids) (i : Int) : i ∈ ids ↔ BrI l i := by
 rw [h.mem]
 constructor
 ·rintro ⟨k, x, h1, rfl, h2⟩; exact (brI hn h1).1 h2
 ·intro hb
  obtain ⟨x, hx, hid, _⟩ := id hb
  obtain ⟨k, hk⟩ := List.mem_iff_getElem?.1 hx
  exact ⟨k, x, hk, hid, (brI hn hk).2 (hid ▸ hb)⟩
theorem firm_id {l : List Ed} (hn : (l.map (·.id)).Nodup) {a b : Nat} : Firm l a b ↔ FiI l a b := by
 constructor
 ·rintro ⟨j, hj, e, he, hen⟩
  exact ⟨e, List.mem_of_getElem? he, fun h => hj ((brI hn he).2 h), hen⟩
 ·rintro ⟨e, he, hno, hen⟩
  obtain ⟨j, hj⟩ := List.mem_iff_getElem?.1 he
  exact ⟨j, fun h => hno ((brI hn hj).1 h), e, hj, hen⟩
def Sw (e f : Ed) : Prop := f.id = e.id ∧ f.u = e.v ∧ f.v = e.u
structure Mir (l m : List Ed) : Prop where
 to : ∀ e ∈ l, ∃ f ∈ m, Sw e f
 fro : ∀ f ∈ m, ∃ e ∈ l, Sw e f
theorem Sw.en {e f : Ed} (h : Sw e f) {a b : Nat} : En e a b ↔ En f a b := by
 obtain ⟨_, h2, h3⟩ := h
 unfold En
 rw [h2, h3]
 constructor
 ·rintro (⟨h, k⟩ | ⟨h, k⟩)
  ·exact .inr ⟨k, h⟩
  ·exact .inl ⟨k, h⟩
 ·rintro (⟨h, k⟩ | ⟨h, k⟩)
  ·exact .inr ⟨k, h⟩
  ·exact .inl ⟨k, h⟩
section
variable {l m : List Ed} {n : Nat}
theorem Mir.av (h : Mir l m) {i : Int} {a b : Nat} : AvI l i a b ↔ AvI m i a b := by
 constructor
 ·rintro ⟨e, h1, h2, h3⟩
  obtain ⟨f, hf, hs⟩ := h.to e h1
  exact ⟨f, hf, by rw [hs.1]; exact h2, hs.en.1 h3⟩
 ·rintro ⟨f, h1, h2, h3⟩
  obtain ⟨e, he, hs⟩ := h.fro f h1
  exact ⟨e, he, by rw [← hs.1]; exact h2, hs.en.2 h3⟩
theorem Mir.con (h : Mir l m) {i : Int} {a b : Nat} : Con (AvI l i) a b ↔ Con (AvI m i) a b := ⟨Con.mono fun _ _ => h.av.1, Con.mono fun _ _ => h.av.2⟩
theorem Mir.br (h : Mir l m) {i : Int} : BrI l i ↔ BrI m i := by
 constructor
 ·rintro ⟨x, h1, h2, a, b, h3, h4⟩
  obtain ⟨f, hf, hs⟩ := h.to x h1
  exact ⟨f, hf, hs.1.trans h2, a, b, hs.en.1 h3, fun c => h4 (h.con.2 c)⟩
 ·rintro ⟨f, h1, h2, a, b, h3, h4⟩
  obtain ⟨x, hx, hs⟩ := h.fro f h1
  exact ⟨x, hx, hs.1.symm.trans h2, a, b, hs.en.2 h3, fun c => h4 (h.con.1 c)⟩
theorem Mir.firm (h : Mir l m) {a b : Nat} : FiI l a b ↔ FiI m a b := by
 constructor
 ·rintro ⟨e, h1, h2, h3⟩
  obtain ⟨f, hf, hs⟩ := h.to e h1
  exact ⟨f, hf, by rw [hs.1, ← h.br]; exact h2, hs.en.1 h3⟩
 ·rintro ⟨f, h1, h2, h3⟩
  obtain ⟨e, he, hs⟩ := h.fro f h1
  exact ⟨e, he, by rw [← hs.1, h.br]; exact h2, hs.en.2 h3⟩
theorem Mir.ids (h : Mir l m) (hl : (l.map (·.id)).Nodup) (hm : (m.map (·.id)).Nodup) {xs ys : List Int} (hx : IsBr l xs) (hy : IsBr m ys) : xs = ys :=
 srt_eq hx.srt hy.srt fun i => (isBr_id hl hx i).trans (h.br.trans (isBr_id hm hy i).symm)
theorem Mir.least (h : Mir l m) (hl : (l.map (·.id)).Nodup) (hm : (m.map (·.id)).Nodup) {p q : Nat → Nat} (hp : Least (Firm l) n p) (hq : Least (Firm m) n q) : ∀ v, v < n → p v = q v := fun v hv =>
 hp.uniq (hq.congr fun a b _ _ => ⟨Con.mono fun _ _ k => (firm_id hl).2 (h.firm.2 ((firm_id hm).1 k)), Con.mono fun _ _ k => (firm_id hm).2 (h.firm.1 ((firm_id hl).1 k))⟩) hv
end
structure Oth (l : List Ed) (i : Nat) (m : List Ed) : Prop where
 perm : (m.map (·.id)).Perm ((l.take i).map (·.id))
 mir : Mir (l.take i) m
 wt : ∀ f ∈ m, 0 ≤ f.w ∧ f.w ≤ 1000
theorem Oth.init (l : List Ed) : Oth l 0 [] := ⟨by simp, ⟨fun e h => by simp at h, nofun⟩, nofun⟩
theorem Oth.len {l m : List Ed} {i : Nat} (h : Oth l i m) (hi : i ≤ l.length) : m.length = i := by
 have := h.perm.length_eq
 rw [List.length_map, List.length_map, List.length_take] at this
 omega
theorem Oth.step {l m : List Ed} {i k : Nat} {x : Ed} (h : Oth l i m) (hx : l[i]? = some x) (hi : i ≤ 1000) : Oth l (i + 1) (m.take k ++ [⟨x.id, x.v, x.u, i⟩] ++ m.drop k) := by
 have tk : l.take (i + 1) = l.take i ++ [x] := by rw [List.take_add_one, hx]; rfl
 have hm : ∀ f, f ∈ m.take k ++ [(⟨x.id, x.v, x.u, i⟩ : Ed)] ++ m.drop k ↔ f = ⟨x.id, x.v, x.u, i⟩ ∨ f ∈ m := fun f => by
  have e : m = m.take k ++ m.drop k := (List.take_append_drop k m).symm
  constructor
  ·intro hf
   simp only [List.mem_append, List.mem_singleton] at hf
   rcases hf with (hf | hf) | hf
   ·exact .inr (List.mem_of_mem_take hf)
   ·exact .inl hf
   ·exact .inr (List.mem_of_mem_drop hf)
  ·intro hf
   simp only [List.mem_append, List.mem_singleton]
   rcases hf with hf | hf
   ·exact .inl (.inr hf)
   ·rw [e] at hf
    rcases List.mem_append.1 hf with hf | hf
    ·exact .inl (.inl hf)
    ·exact .inr hf
 refine ⟨?_, ⟨fun e he => ?_, fun f hf => ?_⟩, fun f hf => ?_⟩
 ·rw [tk, List.append_assoc]
  have h1 : (m.take k ++ ([(⟨x.id, x.v, x.u, i⟩ : Ed)] ++ m.drop k)).Perm (⟨x.id, x.v, x.u, i⟩ :: m) := by
   refine List.perm_middle.trans ?_
   show (_ :: (m.take k ++ m.drop k)).Perm _
   rw [List.take_append_drop]
  refine (h1.map (·.id)).trans ?_
  rw [List.map_append, List.map_cons]
  refine (List.Perm.cons _ h.perm).trans ?_
  exact (List.perm_append_singleton _ _).symm
 ·rw [tk] at he
  rcases List.mem_append.1 he with he | he
  ·obtain ⟨f, hf, hs⟩ := h.mir.to e he
   exact ⟨f, (hm f).2 (.inr hf), hs⟩
  ·obtain rfl := List.mem_singleton.1 he
   exact ⟨_, (hm _).2 (.inl rfl), rfl, rfl, rfl⟩
 ·rw [tk]
  rcases (hm f).1 hf with rfl | hf
  ·exact ⟨x, by simp, rfl, rfl, rfl⟩
  ·obtain ⟨e, he, hs⟩ := h.mir.fro f hf
   exact ⟨e, List.mem_append_left _ he, hs⟩
 ·rcases (hm f).1 hf with rfl | hf
  ·exact ⟨by simp, by show (i : Int) ≤ 1000; omega⟩
  ·exact h.wt f hf
theorem Oth.may {l m : List Ed} {n : Nat} (h : Oth l l.length m) (hg : Gr n l) (hl : l.length ≤ 1000) : May n m := by
 have hm := hg.may hl
 refine ⟨fun f hf => ?_, ?_⟩
 ·obtain ⟨e, he, h1, h2, h3⟩ := h.mir.fro f hf
  have := hm.1 e (List.mem_of_mem_take he)
  have := h.wt f hf
  unfold okEd at *
  rw [decide_eq_true_iff] at *
  omega
 ·refine h.perm.nodup_iff.2 ?_
  rw [List.take_length]
  exact hg.nodup
end Go.Br
namespace Go.Hp
open Go
section
variable {α : Type} {C : α → List Value} {k : Nat} {H : Heap} {B By : Option Nat} {s : Value} {xs ys : List α}
theorem SR.cap {a : Option Addr} {n c : Nat} (h : SR C k H B (.slice a n c) xs) : n ≤ c ∧ n = xs.length := by
 obtain ⟨_, ⟨_, h, hz⟩ | ⟨g, c', rest, _, h, _, _, hc⟩⟩ := h
 ·simp only [Value.slice.injEq] at h
  obtain ⟨_, rfl, rfl⟩ := h
  exact ⟨Nat.le_refl _, hz.symm⟩
 ·simp only [Value.slice.injEq] at h
  obtain ⟨_, rfl, rfl⟩ := h
  exact ⟨hc, rfl⟩
theorem append_part {P : Program} {t e : TypeId} {te : TL} {lo hi d c : Nat} {st a : Option Addr} {K : Value → Heap → Prop} (hC : ∀ x, (C x).length = k) (hp : ∀ x, ∀ u ∈ C x, plainVal u = true)
  (he : elems P t = some (none, e, k)) (ht : tl P e = some te) (hs : SR C k H B s xs) (hy : SR C k H By (.slice a ys.length c) ys) (h1 : lo ≤ hi) (h2 : hi ≤ ys.length) (hst : st = if c = lo then a else a.map (·.add (lo * k))) (hd : d = c - lo)
  (hb0 : 0 < te.bytes) (hb : 2 * (xs.length + (hi - lo)) * te.bytes ≤ 2 ^ 48) (hz : te.zero.cells.size = k)
  (hk : ∀ v' H' B', SR C k H' B' v' (xs ++ (ys.drop lo).take (hi - lo)) → Fr (fun b => B = some b) H H' → (B' = B ∨ ∃ g, B' = some g ∧ H.size ≤ g) → K v' H') : appendX P t s (.slice st (hi - lo) d) H K := by
 have hls : (hi - lo) = ((ys.drop lo).take (hi - lo)).length := by rw [List.length_take, List.length_drop]; omega
 obtain ⟨_, ⟨_, h, hz0⟩ | ⟨g, c', rest, hBy, h, hblk, hlen, hc⟩⟩ := id hy
 ·simp only [Value.slice.injEq] at h
  obtain ⟨rfl, h3, rfl⟩ := h
  have e1 : lo = 0 := by omega
  have e2 : hi = 0 := by omega
  subst e1 e2
  have e3 : st = none := by rw [hst]; simp
  subst e3 hd
  rw [Nat.sub_zero] at hk hb ⊢
  rw [List.take_zero, List.append_nil] at hk
  exact append_own he ht hs (m := 0) (new := []) (.inr ⟨rfl, rfl, rfl⟩) (fun _ h => by cases h) hb0 hb (by simp) hz fun v' H' B' ho hf hB => hk v' H' B' (by unfold SR; simpa using ho) hf hB
 ·simp only [Value.slice.injEq] at h
  obtain ⟨rfl, _, rfl⟩ := h
  by_cases hm : hi - lo = 0
  ·rw [hm] at hk hb ⊢
   rw [List.take_zero, List.append_nil] at hk
   obtain ⟨z, e3⟩ : ∃ z, st = some z := by
    rw [hst]
    split
    ·exact ⟨_, rfl⟩
    ·exact ⟨_, rfl⟩
   subst e3
   exact append_own he ht hs (m := 0) (new := []) (.inl ⟨_, _, rfl, by rw [Nat.zero_mul]; rfl⟩) (fun _ h => by cases h) hb0 hb (by simp) hz fun v' H' B' ho hf hB => hk v' H' B' (by unfold SR; simpa using ho) hf hB
  ·rw [if_neg (by omega)] at hst
   subst hst
   obtain ⟨g', c'', rfl, hv, hc⟩ := hy.open (by intro e; rw [e] at h2; simp at h2; omega)
   simp only [Value.slice.injEq, Option.some.injEq, Addr.mk.injEq] at hv
   obtain ⟨⟨rfl, _⟩, _, rfl⟩ := hv
   have rl := hy.readL hC (o := lo) (m := hi - lo) (by omega)
   rw [Option.map_some, add_mk, Nat.zero_add]
   exact append_srs hC hp he ht hs (ys := (ys.drop lo).take (hi - lo)) rl hls.symm hb0 hb hz hk
end
end Go.Hp
namespace Go.Proofs.Ytpeaogldojepnaa
open Go Go.Hp Go.Li Go.Br
set_option linter.all false
set_option maxRecDepth 100000
set_option maxHeartbeats 3200000
section
variable {H : Heap} {L : Value → Heap → Prop}
theorem bridgeOrder {c : Int} {a : Option Addr} {len ca : Nat} {zs : Nat → Int × Int} {a2 : Option Addr} {len2 ca2 : Nat} {zs2 : Nat → Int} (c0 : -9223372036854775808 ≤ c) (c1 : c ≤ 9223372036854775807) (hin : InPairs H a len zs) (hlen : len ≤ 9223372036854775807) (hin2 : InInts H a2 len2 zs2) (hlen2 : len2 ≤ 9223372036854775807)
  (fin : ∀ H', Fr (fun _ => False) H H' → L (.bool true) H') :
  CallsH Try.prog 4 #[.int .i64 c, .slice a len ca, .slice a2 len2 ca2] H L := by
 refine call4 (by simp) ?_
 simp only [Try.f4, Option.getD_some]
 repeat' (first|(with_reducible first|refine jA ?_|(refine hK _ _ ?_;clear hK K)|refine jJ fun K hK=>?_|refine jK ?_|refine jL ?_|refine jM ?_|refine jN ?_|refine jO ?_|refine jP ?_|refine jQ ?_|(refine jB ?_;clear hK K)|(refine jC ?_;clear hK K)|refine jD ?_|refine jE ?_|refine jG ?_|refine jH ?_|refine jI ?_)|((with_reducible refine jR ?hq ?_);case hq=>rfl)|((first|(with_reducible first|refine jS fun K hK=>?_|refine jT ?_|refine jU ?_)|((with_reducible refine jV ?hy fun K hK=>?_);case hy=>rfl));simp only [go_sem, Nat.reduceEqDiff, Nat.reduceAdd, Nat.reduceMul, Nat.reduceLeDiff, Nat.reduceLT, Int.reduceLT, Int.reduceLE, Int.reduceEq, Int.reduceNeg, Int.reduceToNat, Nat.reducePow, reduceIte, reduceCtorEq])|((with_reducible first|refine jW ?hy ?_|refine jY ?hy ?_);case hy=>rfl)|((with_reducible first|refine jX ?hy ?_|refine jZ ?hy ?_);case hy=>rfl)|((with_reducible refine jF ?hy ?_);case hy=>decide))
 refine awake_ok fun H1 f1 => ?_
 repeat' (first|(with_reducible first|refine jA ?_|(refine hK _ _ ?_;clear hK K)|refine jJ fun K hK=>?_|refine jK ?_|refine jL ?_|refine jM ?_|refine jN ?_|refine jO ?_|refine jP ?_|refine jQ ?_|(refine jB ?_;clear hK K)|(refine jC ?_;clear hK K)|refine jD ?_|refine jE ?_|refine jG ?_|refine jH ?_|refine jI ?_)|((with_reducible refine jR ?hq ?_);case hq=>rfl)|((first|(with_reducible first|refine jS fun K hK=>?_|refine jT ?_|refine jU ?_)|((with_reducible refine jV ?hy fun K hK=>?_);case hy=>rfl));simp only [go_sem, Nat.reduceEqDiff, Nat.reduceAdd, Nat.reduceMul, Nat.reduceLeDiff, Nat.reduceLT, Int.reduceLT, Int.reduceLE, Int.reduceEq, Int.reduceNeg, Int.reduceToNat, Nat.reducePow, reduceIte, reduceCtorEq])|((with_reducible first|refine jW ?hy ?_|refine jY ?hy ?_);case hy=>rfl)|((with_reducible first|refine jX ?hy ?_|refine jZ ?hy ?_);case hy=>rfl)|((with_reducible refine jF ?hy ?_);case hy=>decide))
 refine pick_nat (n := 64) ⟨c0, c1⟩ (by omega) fun k hk => ?_
 obtain ⟨n, hn⟩ : ∃ n, n = 1 + k := ⟨_, rfl⟩
 have ewk : IntKind.i64.wrap (1 + (k : Int)) = (n : Int) := by rw [wrap_i64] <;> omega
 repeat' (first|(with_reducible first|refine jA ?_|(refine hK _ _ ?_;clear hK K)|refine jJ fun K hK=>?_|refine jK ?_|refine jL ?_|refine jM ?_|refine jN ?_|refine jO ?_|refine jP ?_|refine jQ ?_|(refine jB ?_;clear hK K)|(refine jC ?_;clear hK K)|refine jD ?_|refine jE ?_|refine jG ?_|refine jH ?_|refine jI ?_)|((with_reducible refine jR ?hq ?_);case hq=>rfl)|((first|(with_reducible first|refine jS fun K hK=>?_|refine jT ?_|refine jU ?_)|((with_reducible refine jV ?hy fun K hK=>?_);case hy=>rfl));simp only [go_sem, Nat.reduceEqDiff, Nat.reduceAdd, Nat.reduceMul, Nat.reduceLeDiff, Nat.reduceLT, Int.reduceLT, Int.reduceLE, Int.reduceEq, Int.reduceNeg, Int.reduceToNat, Nat.reducePow, reduceIte, reduceCtorEq, ewk])|((with_reducible first|refine jW ?hy ?_|refine jY ?hy ?_);case hy=>rfl)|((with_reducible first|refine jX ?hy ?_|refine jZ ?hy ?_);case hy=>rfl)|((with_reducible refine jF ?hy ?_);case hy=>decide))
 have hn1 : 1 ≤ n := by omega
 have hn64 : n ≤ 64 := by omega
 clear hn hk ewk
 refine graph_ok (most := 150) (hin.frame f1) hlen (by omega) (by omega) fun H2 B vl l hl hB hg hll f2 => ?_
 obtain ⟨sl, cl, rfl⟩ := id hl.slice
 have hin3 := hin2.frame (f1.trans f2)
 have hlB : ∀ b, B = some b → b < H2.size := fun b hb => hl.lt hb
 repeat' (first|(with_reducible first|refine jA ?_|(refine hK _ _ ?_;clear hK K)|refine jJ fun K hK=>?_|refine jK ?_|refine jL ?_|refine jM ?_|refine jN ?_|refine jO ?_|refine jP ?_|refine jQ ?_|(refine jB ?_;clear hK K)|(refine jC ?_;clear hK K)|refine jD ?_|refine jE ?_|refine jG ?_|refine jH ?_|refine jI ?_)|((with_reducible refine jR ?hq ?_);case hq=>rfl)|((first|(with_reducible first|refine jS fun K hK=>?_|refine jT ?_|refine jU ?_)|((with_reducible refine jV ?hy fun K hK=>?_);case hy=>rfl));simp only [go_sem, Nat.reduceEqDiff, Nat.reduceAdd, Nat.reduceMul, Nat.reduceLeDiff, Nat.reduceLT, Int.reduceLT, Int.reduceLE, Int.reduceEq, Int.reduceNeg, Int.reduceToNat, Nat.reducePow, reduceIte, reduceCtorEq])|((with_reducible first|refine jW ?hy ?_|refine jY ?hy ?_);case hy=>rfl)|((with_reducible first|refine jX ?hy ?_|refine jZ ?hy ?_);case hy=>rfl)|((with_reducible refine jF ?hy ?_);case hy=>decide))
 refine x_loop (fun m e' H' => ∃ (i : Nat) (B2 : Option Nat) (v : Value) (ms : List Ed), e' 10 = .int .i64 (i : Nat) ∧ e' 9 = v ∧ i ≤ l.length ∧ SR Ed.cells 4 H' B2 v ms ∧ (∀ b, B2 = some b → H2.size ≤ b) ∧ Oth l i ms ∧ Fr (fun _ => False) H2 H' ∧ m = l.length - i) l.length
  ⟨0, none, _, [], rfl, rfl, Nat.zero_le _, SR.nil _ _ _, nofun, Oth.init l, Fr.refl _ _, rfl⟩ ?_
 rintro m e1 H3 ⟨i, B2, v, ms, i10, i9, hi, hm2, hB2, hO, f3, hm⟩ hoff
 have i0 : e1 0 = .int .i64 (n : Nat) := (hoff 0 rfl).trans rfl
 have i2 : e1 2 = .slice a2 len2 ca2 := (hoff 2 rfl).trans rfl
 have i7 : e1 7 = .bool true := (hoff 7 rfl).trans rfl
 have i8 : e1 8 = .slice sl l.length cl := (hoff 8 rfl).trans rfl
 clear hoff
 have hl3 := hl.frame f3 fun _ _ h => h
 have hml := hO.len hi
 obtain ⟨sv, cv, rfl⟩ := id hm2.slice
 by_cases hlt : i < l.length
 ·have t1 : ((i : Int) < (l.length : Int)) = True := eq_true (by omega)
  have t1' : (i < l.length) = True := eq_true hlt
  have ew : IntKind.i64.wrap ((i : Int) + 1) = ((i + 1 : Nat) : Int) := by rw [wrap_i64] <;> omega
  have ewm : IntKind.i64.wrap ((ms.length : Int) + 1) = ((i + 1 : Nat) : Int) := by rw [hml]; exact ew
  obtain ⟨x, hx⟩ : ∃ x, l[i]? = some x := ⟨_, List.getElem?_eq_getElem hlt⟩
  repeat' (first|(with_reducible first|refine jA ?_|(refine hK _ _ ?_;clear hK K)|refine jJ fun K hK=>?_|refine jK ?_|refine jL ?_|refine jM ?_|refine jN ?_|refine jO ?_|refine jP ?_|refine jQ ?_|(refine jB ?_;clear hK K)|(refine jC ?_;clear hK K)|refine jD ?_|refine jE ?_|refine jG ?_|refine jH ?_|refine jI ?_)|((with_reducible refine jR ?hq ?_);case hq=>rfl)|((first|(with_reducible first|refine jS fun K hK=>?_|refine jT ?_|refine jU ?_)|((with_reducible refine jV ?hy fun K hK=>?_);case hy=>rfl));simp only [go_sem, Nat.reduceEqDiff, Nat.reduceAdd, Nat.reduceMul, Nat.reduceLeDiff, Nat.reduceLT, Int.reduceLT, Int.reduceLE, Int.reduceEq, Int.reduceNeg, Int.reduceToNat, Nat.reducePow, reduceIte, reduceCtorEq, i8, i9, i10, i2, t1, t1'])|((with_reducible first|refine jW ?hy ?_|refine jY ?hy ?_);case hy=>rfl)|((with_reducible first|refine jX ?hy ?_|refine jZ ?hy ?_);case hy=>rfl)|((with_reducible refine jF ?hy ?_);case hy=>decide))
  have tail : ∀ (e' : Env) (at' : Nat), at' ≤ i → e' 8 = .slice sl l.length cl → e' 9 = .slice sv ms.length cv → e' 10 = .int .i64 (i : Nat) → e' 11 = .int .i64 (at' : Nat) → K e' H3 := by
   intro e' at' hat j8 j9 j10 j11
   refine hK _ _ ?_
   clear hK K
   have hcap := hm2.cap
   have t2 : (at' ≤ cv) = True := eq_true (by omega)
   repeat' (first|(with_reducible first|refine jA ?_|(refine hK _ _ ?_;clear hK K)|refine jJ fun K hK=>?_|refine jK ?_|refine jL ?_|refine jM ?_|refine jN ?_|refine jO ?_|refine jP ?_|refine jQ ?_|(refine jB ?_;clear hK K)|(refine jC ?_;clear hK K)|refine jD ?_|refine jE ?_|refine jG ?_|refine jH ?_|refine jI ?_)|((with_reducible refine jR ?hq ?_);case hq=>rfl)|((first|(with_reducible first|refine jS fun K hK=>?_|refine jT ?_|refine jU ?_)|((with_reducible refine jV ?hy fun K hK=>?_);case hy=>rfl));simp only [go_sem, Nat.reduceEqDiff, Nat.reduceAdd, Nat.reduceMul, Nat.reduceLeDiff, Nat.reduceLT, Int.reduceLT, Int.reduceLE, Int.reduceEq, Int.reduceNeg, Int.reduceToNat, Nat.reducePow, reduceIte, reduceCtorEq, j9, j11, t2])|((with_reducible first|refine jW ?hy ?_|refine jY ?hy ?_);case hy=>rfl)|((with_reducible first|refine jX ?hy ?_|refine jZ ?hy ?_);case hy=>rfl)|((with_reducible refine jF ?hy ?_);case hy=>decide))
   refine append_part (lo := 0) (hi := at') (ys := ms) edC_len edC_plain elems25 tl35 (SR.nil Ed.cells 4 H3) hm2 (Nat.zero_le _) (by omega) (by first | rfl | simp) (by first | rfl | simp) (by decide) (by simp; omega) rfl fun w1 H4 B4 h4 hf4 hB4 => ?_
   rw [List.drop_zero, Nat.sub_zero, List.nil_append] at h4
   have f4 : Fr (fun _ => False) H3 H4 := hf4.mono fun b _ h => by cases h
   have hB4' : ∀ b, B4 = some b → H3.size ≤ b := fun b hb => by
    rcases hB4 with e | ⟨g', hg, hge⟩
    ·rw [e] at hb; cases hb
    ·rw [hg] at hb
     obtain rfl := Option.some.inj hb
     exact hge
   have hl4 := hl3.frame f4 fun _ _ h => h
   have hm4 := hm2.frame f4 fun _ _ h => h
   obtain ⟨a4, c4, rfl⟩ := id h4.slice
   obtain ⟨gl, cl', hBl, hvl, _, hcell⟩ := hl4.at edC_len hx
   simp only [Value.slice.injEq] at hvl
   obtain ⟨rfl, _, rfl⟩ := hvl
   have q0 := hcell 0 _ rfl
   have q1 := hcell 1 _ rfl
   have q2 := hcell 2 _ rfl
   rw [Nat.add_zero] at q0
   have t3 : (i < l.length) = True := eq_true hlt
   repeat' (first|(with_reducible first|refine jA ?_|(refine hK _ _ ?_;clear hK K)|refine jJ fun K hK=>?_|refine jK ?_|refine jL ?_|refine jM ?_|refine jN ?_|refine jO ?_|refine jP ?_|refine jQ ?_|(refine jB ?_;clear hK K)|(refine jC ?_;clear hK K)|refine jD ?_|refine jE ?_|refine jG ?_|refine jH ?_|refine jI ?_)|((with_reducible refine jR ?hq ?_);case hq=>rfl)|((first|(with_reducible first|refine jS fun K hK=>?_|refine jT ?_|refine jU ?_)|((with_reducible refine jV ?hy fun K hK=>?_);case hy=>rfl));simp only [go_sem, Nat.reduceEqDiff, Nat.reduceAdd, Nat.reduceMul, Nat.reduceLeDiff, Nat.reduceLT, Int.reduceLT, Int.reduceLE, Int.reduceEq, Int.reduceNeg, Int.reduceToNat, Nat.reducePow, reduceIte, reduceCtorEq, j8, j10, t3, q0, q1, q2])|((with_reducible first|refine jW ?hy ?_|refine jY ?hy ?_);case hy=>rfl)|((with_reducible first|refine jX ?hy ?_|refine jZ ?hy ?_);case hy=>rfl)|((with_reducible refine jF ?hy ?_);case hy=>decide))
   refine append_sr edC_len edC_plain (x := ⟨x.id, x.v, x.u, (i : Nat)⟩) elems25 tl35 h4 rfl (by decide) (by simp; omega) rfl fun w5 H5 B5 h5 hf5 hB5 => ?_
   have f5 : Fr (fun _ => False) H3 H5 := f4.trans' hf5 fun b hb e => by have := hB4' b e; omega
   have hm5 := hm2.frame f5 fun _ _ h => h
   have s4 := f4.size
   have hB5' : ∀ b, B5 = some b → H3.size ≤ b := fun b hb => by
    rcases hB5 with e | ⟨g', hg, hge⟩
    ·exact hB4' b (by rw [← e]; exact hb)
    ·rw [hg] at hb
     obtain rfl := Option.some.inj hb
     omega
   obtain ⟨a5, c5, rfl⟩ := id h5.slice
   have t4 : (at' ≤ ms.length) = True := eq_true (by omega)
   have t5 : (ms.length ≤ cv) = True := eq_true (by omega)
   repeat' (first|(with_reducible first|refine jA ?_|(refine hK _ _ ?_;clear hK K)|refine jJ fun K hK=>?_|refine jK ?_|refine jL ?_|refine jM ?_|refine jN ?_|refine jO ?_|refine jP ?_|refine jQ ?_|(refine jB ?_;clear hK K)|(refine jC ?_;clear hK K)|refine jD ?_|refine jE ?_|refine jG ?_|refine jH ?_|refine jI ?_)|((with_reducible refine jR ?hq ?_);case hq=>rfl)|((first|(with_reducible first|refine jS fun K hK=>?_|refine jT ?_|refine jU ?_)|((with_reducible refine jV ?hy fun K hK=>?_);case hy=>rfl));simp only [go_sem, Nat.reduceEqDiff, Nat.reduceAdd, Nat.reduceMul, Nat.reduceLeDiff, Nat.reduceLT, Int.reduceLT, Int.reduceLE, Int.reduceEq, Int.reduceNeg, Int.reduceToNat, Nat.reducePow, reduceIte, reduceCtorEq, j9, j11, t4, t5])|((with_reducible first|refine jW ?hy ?_|refine jY ?hy ?_);case hy=>rfl)|((with_reducible first|refine jX ?hy ?_|refine jZ ?hy ?_);case hy=>rfl)|((with_reducible refine jF ?hy ?_);case hy=>decide))
   refine append_part (lo := at') (hi := ms.length) (ys := ms) edC_len edC_plain elems25 tl35 h5 hm5 (by omega) (Nat.le_refl _) (by first | rfl | simp) (by first | rfl | simp) (by decide) (by simp; omega) rfl fun w6 H6 B6 h6 hf6 hB6 => ?_
   have e6 : (ms.drop at').take (ms.length - at') = ms.drop at' := List.take_of_length_le (by rw [List.length_drop]; exact Nat.le_refl _)
   rw [e6] at h6
   have f6 : Fr (fun _ => False) H3 H6 := f5.trans' hf6 fun b hb e => by have := hB5' b e; omega
   have s5 := f5.size
   have s3 := f3.size
   repeat' (first|(with_reducible first|refine jA ?_|(refine hK _ _ ?_;clear hK K)|refine jJ fun K hK=>?_|refine jK ?_|refine jL ?_|refine jM ?_|refine jN ?_|refine jO ?_|refine jP ?_|refine jQ ?_|(refine jB ?_;clear hK K)|(refine jC ?_;clear hK K)|refine jD ?_|refine jE ?_|refine jG ?_|refine jH ?_|refine jI ?_)|((with_reducible refine jR ?hq ?_);case hq=>rfl)|((first|(with_reducible first|refine jS fun K hK=>?_|refine jT ?_|refine jU ?_)|((with_reducible refine jV ?hy fun K hK=>?_);case hy=>rfl));simp only [go_sem, Nat.reduceEqDiff, Nat.reduceAdd, Nat.reduceMul, Nat.reduceLeDiff, Nat.reduceLT, Int.reduceLT, Int.reduceLE, Int.reduceEq, Int.reduceNeg, Int.reduceToNat, Nat.reducePow, reduceIte, reduceCtorEq, j10, ew])|((with_reducible first|refine jW ?hy ?_|refine jY ?hy ?_);case hy=>rfl)|((with_reducible first|refine jX ?hy ?_|refine jZ ?hy ?_);case hy=>rfl)|((with_reducible refine jF ?hy ?_);case hy=>decide))
   refine loop_normal (m' := l.length - (i + 1)) (by omega) ⟨i + 1, B6, w6, _, rfl, rfl, hlt, h6, fun b hb => ?_, hO.step (k := at') hx (by omega), f3.trans f6, rfl⟩
   rcases hB6 with e | ⟨g', hg, hge⟩
   ·have := hB5' b (by rw [← e]; exact hb); omega
   ·rw [hg] at hb
    obtain rfl := Option.some.inj hb
    omega
  clear hK
  by_cases h2 : i < len2
  ·have t5 : ((i : Int) < (len2 : Int)) = True := eq_true (by omega)
   have t5' : (i < len2) = True := eq_true h2
   simp only [t5, t5', decide_true]
   obtain ⟨p2, rfl, q2, b0, b1⟩ := (hin3.frame f3) i h2
   repeat' (first|(with_reducible first|refine jA ?_|(refine hK _ _ ?_;clear hK K)|refine jJ fun K hK=>?_|refine jK ?_|refine jL ?_|refine jM ?_|refine jN ?_|refine jO ?_|refine jP ?_|refine jQ ?_|(refine jB ?_;clear hK K)|(refine jC ?_;clear hK K)|refine jD ?_|refine jE ?_|refine jG ?_|refine jH ?_|refine jI ?_)|((with_reducible refine jR ?hq ?_);case hq=>rfl)|((first|(with_reducible first|refine jS fun K hK=>?_|refine jT ?_|refine jU ?_)|((with_reducible refine jV ?hy fun K hK=>?_);case hy=>rfl));simp only [go_sem, Nat.reduceEqDiff, Nat.reduceAdd, Nat.reduceMul, Nat.reduceLeDiff, Nat.reduceLT, Int.reduceLT, Int.reduceLE, Int.reduceEq, Int.reduceNeg, Int.reduceToNat, Nat.reducePow, reduceIte, reduceCtorEq, i2, i9, i10, t5, t5', q2, ewm])|((with_reducible first|refine jW ?hy ?_|refine jY ?hy ?_);case hy=>rfl)|((with_reducible first|refine jX ?hy ?_|refine jZ ?hy ?_);case hy=>rfl)|((with_reducible refine jF ?hy ?_);case hy=>decide))
   refine pick_nat (n := i + 1) ⟨b0, b1⟩ (by omega) fun at' hat => ?_
   repeat' (first|(with_reducible first|refine jA ?_|(refine hK _ _ ?_;clear hK K)|refine jJ fun K hK=>?_|refine jK ?_|refine jL ?_|refine jM ?_|refine jN ?_|refine jO ?_|refine jP ?_|refine jQ ?_|(refine jB ?_;clear hK K)|(refine jC ?_;clear hK K)|refine jD ?_|refine jE ?_|refine jG ?_|refine jH ?_|refine jI ?_)|((with_reducible refine jR ?hq ?_);case hq=>rfl)|((first|(with_reducible first|refine jS fun K hK=>?_|refine jT ?_|refine jU ?_)|((with_reducible refine jV ?hy fun K hK=>?_);case hy=>rfl));simp only [go_sem, Nat.reduceEqDiff, Nat.reduceAdd, Nat.reduceMul, Nat.reduceLeDiff, Nat.reduceLT, Int.reduceLT, Int.reduceLE, Int.reduceEq, Int.reduceNeg, Int.reduceToNat, Nat.reducePow, reduceIte, reduceCtorEq])|((with_reducible first|refine jW ?hy ?_|refine jY ?hy ?_);case hy=>rfl)|((with_reducible first|refine jX ?hy ?_|refine jZ ?hy ?_);case hy=>rfl)|((with_reducible refine jF ?hy ?_);case hy=>decide))
   exact tail _ at' (by omega) i8 i9 i10 rfl
  ·have t5 : ((i : Int) < (len2 : Int)) = False := eq_false (by omega)
   have t5' : (i < len2) = False := eq_false h2
   simp only [t5, t5', decide_false]
   repeat' (first|(with_reducible first|refine jA ?_|(refine hK _ _ ?_;clear hK K)|refine jJ fun K hK=>?_|refine jK ?_|refine jL ?_|refine jM ?_|refine jN ?_|refine jO ?_|refine jP ?_|refine jQ ?_|(refine jB ?_;clear hK K)|(refine jC ?_;clear hK K)|refine jD ?_|refine jE ?_|refine jG ?_|refine jH ?_|refine jI ?_)|((with_reducible refine jR ?hq ?_);case hq=>rfl)|((first|(with_reducible first|refine jS fun K hK=>?_|refine jT ?_|refine jU ?_)|((with_reducible refine jV ?hy fun K hK=>?_);case hy=>rfl));simp only [go_sem, Nat.reduceEqDiff, Nat.reduceAdd, Nat.reduceMul, Nat.reduceLeDiff, Nat.reduceLT, Int.reduceLT, Int.reduceLE, Int.reduceEq, Int.reduceNeg, Int.reduceToNat, Nat.reducePow, reduceIte, reduceCtorEq])|((with_reducible first|refine jW ?hy ?_|refine jY ?hy ?_);case hy=>rfl)|((with_reducible first|refine jX ?hy ?_|refine jZ ?hy ?_);case hy=>rfl)|((with_reducible refine jF ?hy ?_);case hy=>decide))
   exact tail _ ms.length (by omega) i8 i9 i10 rfl
 ·have t1 : ((i : Int) < (l.length : Int)) = False := eq_false (by omega)
  have t1' : (i < l.length) = False := eq_false hlt
  obtain rfl : i = l.length := by omega
  have hmo := hO.may hg (by omega)
  have hmir : Mir l ms := by have := hO.mir; rwa [List.take_length] at this
  repeat' (first|(with_reducible first|refine jA ?_|(refine hK _ _ ?_;clear hK K)|refine jJ fun K hK=>?_|refine jK ?_|refine jL ?_|refine jM ?_|refine jN ?_|refine jO ?_|refine jP ?_|refine jQ ?_|(refine jB ?_;clear hK K)|(refine jC ?_;clear hK K)|refine jD ?_|refine jE ?_|refine jG ?_|refine jH ?_|refine jI ?_)|((with_reducible refine jR ?hq ?_);case hq=>rfl)|((first|(with_reducible first|refine jS fun K hK=>?_|refine jT ?_|refine jU ?_)|((with_reducible refine jV ?hy fun K hK=>?_);case hy=>rfl));simp only [go_sem, Nat.reduceEqDiff, Nat.reduceAdd, Nat.reduceMul, Nat.reduceLeDiff, Nat.reduceLT, Int.reduceLT, Int.reduceLE, Int.reduceEq, Int.reduceNeg, Int.reduceToNat, Nat.reducePow, reduceIte, reduceCtorEq, i0, i8, i9, i10, t1, t1'])|((with_reducible first|refine jW ?hy ?_|refine jY ?hy ?_);case hy=>rfl)|((with_reducible first|refine jX ?hy ?_|refine jZ ?hy ?_);case hy=>rfl)|((with_reducible refine jF ?hy ?_);case hy=>decide))
  refine Of_ok hl3 hn1 hn64 (by omega) (hg.may (by omega)) fun H4 o T ids p hA hT hbr hP hpn f4 => ?_
  repeat' (first|(with_reducible first|refine jA ?_|(refine hK _ _ ?_;clear hK K)|refine jJ fun K hK=>?_|refine jK ?_|refine jL ?_|refine jM ?_|refine jN ?_|refine jO ?_|refine jP ?_|refine jQ ?_|(refine jB ?_;clear hK K)|(refine jC ?_;clear hK K)|refine jD ?_|refine jE ?_|refine jG ?_|refine jH ?_|refine jI ?_)|((with_reducible refine jR ?hq ?_);case hq=>rfl)|((first|(with_reducible first|refine jS fun K hK=>?_|refine jT ?_|refine jU ?_)|((with_reducible refine jV ?hy fun K hK=>?_);case hy=>rfl));simp only [go_sem, Nat.reduceEqDiff, Nat.reduceAdd, Nat.reduceMul, Nat.reduceLeDiff, Nat.reduceLT, Int.reduceLT, Int.reduceLE, Int.reduceEq, Int.reduceNeg, Int.reduceToNat, Nat.reducePow, reduceIte, reduceCtorEq, i0, i9])|((with_reducible first|refine jW ?hy ?_|refine jY ?hy ?_);case hy=>rfl)|((with_reducible first|refine jX ?hy ?_|refine jZ ?hy ?_);case hy=>rfl)|((with_reducible refine jF ?hy ?_);case hy=>decide))
  refine Of_ok (hm2.frame f4 fun _ _ h => h) hn1 hn64 (by omega) hmo fun H5 o2 T2 ids2 p2 hA2 hT2 hbr2 hP2 hpn2 f5 => ?_
  have z0 : ((0 : Int) != 0) = false := rfl
  have hA5 := hA.frame f5 fun _ _ h => h
  have eids := hmir.ids hg.nodup hmo.2 hbr hbr2
  have epp := hmir.least hg.nodup hmo.2 hP hP2
  subst eids
  have hidl : ids.length ≤ 150 := by rw [ids_gr hg hbr, List.length_map]; unfold bsOf; exact Nat.le_trans (List.length_filter_le ..) (by simp; omega)
  repeat' (first|(with_reducible first|refine jA ?_|(refine hK _ _ ?_;clear hK K)|refine jJ fun K hK=>?_|refine jK ?_|refine jL ?_|refine jM ?_|refine jN ?_|refine jO ?_|refine jP ?_|refine jQ ?_|(refine jB ?_;clear hK K)|(refine jC ?_;clear hK K)|refine jD ?_|refine jE ?_|refine jG ?_|refine jH ?_|refine jI ?_)|((with_reducible refine jR ?hq ?_);case hq=>rfl)|((first|(with_reducible first|refine jS fun K hK=>?_|refine jT ?_|refine jU ?_)|((with_reducible refine jV ?hy fun K hK=>?_);case hy=>rfl));simp only [go_sem, Nat.reduceEqDiff, Nat.reduceAdd, Nat.reduceMul, Nat.reduceLeDiff, Nat.reduceLT, Int.reduceLT, Int.reduceLE, Int.reduceEq, Int.reduceNeg, Int.reduceToNat, Nat.reducePow, reduceIte, reduceCtorEq, i7, z0, Bool.not_true])|((with_reducible first|refine jW ?hy ?_|refine jY ?hy ?_);case hy=>rfl)|((with_reducible first|refine jX ?hy ?_|refine jZ ?hy ?_);case hy=>rfl)|((with_reducible refine jF ?hy ?_);case hy=>decide))
  refine x_loop (fun m e' H' => H' = H5 ∧ ∃ j : Nat, e' 17 = .int .i64 (j : Nat) ∧ j ≤ n ∧ m = n - j) n ⟨rfl, 0, rfl, Nat.zero_le _, rfl⟩ ?_
  rintro m7 e7 H7 ⟨rfl, j, j17, hj, hm7⟩ hoff
  have j0 : e7 0 = .int .i64 (n : Nat) := (hoff 0 rfl).trans i0
  have j13 : e7 13 = .pointer (some ⟨o, 0, none⟩) := (hoff 13 rfl).trans rfl
  have j15 : e7 15 = .pointer (some ⟨o2, 0, none⟩) := (hoff 15 rfl).trans rfl
  clear hoff
  by_cases hjn : j < n
  ·have y1 : ((j : Int) < (n : Int)) = True := eq_true (by omega)
   have y1' : (j < n) = True := eq_true hjn
   have ewj : IntKind.i64.wrap ((j : Int) + 1) = ((j + 1 : Nat) : Int) := by rw [wrap_i64] <;> omega
   have y2 : (((p2 j : Nat) : Int) != ((p2 j : Nat) : Int)) = false := by simp
   repeat' (first|(with_reducible first|refine jA ?_|(refine hK _ _ ?_;clear hK K)|refine jJ fun K hK=>?_|refine jK ?_|refine jL ?_|refine jM ?_|refine jN ?_|refine jO ?_|refine jP ?_|refine jQ ?_|(refine jB ?_;clear hK K)|(refine jC ?_;clear hK K)|refine jD ?_|refine jE ?_|refine jG ?_|refine jH ?_|refine jI ?_)|((with_reducible refine jR ?hq ?_);case hq=>rfl)|((first|(with_reducible first|refine jS fun K hK=>?_|refine jT ?_|refine jU ?_)|((with_reducible refine jV ?hy fun K hK=>?_);case hy=>rfl));simp only [go_sem, Nat.reduceEqDiff, Nat.reduceAdd, Nat.reduceMul, Nat.reduceLeDiff, Nat.reduceLT, Int.reduceLT, Int.reduceLE, Int.reduceEq, Int.reduceNeg, Int.reduceToNat, Nat.reducePow, reduceIte, reduceCtorEq, j0, j13, j17, y1, y1'])|((with_reducible first|refine jW ?hy ?_|refine jY ?hy ?_);case hy=>rfl)|((with_reducible first|refine jX ?hy ?_|refine jZ ?hy ?_);case hy=>rfl)|((with_reducible refine jF ?hy ?_);case hy=>decide))
   refine Block_ok hA5 hn64 hjn ?_
   rw [epp j hjn]
   repeat' (first|(with_reducible first|refine jA ?_|(refine hK _ _ ?_;clear hK K)|refine jJ fun K hK=>?_|refine jK ?_|refine jL ?_|refine jM ?_|refine jN ?_|refine jO ?_|refine jP ?_|refine jQ ?_|(refine jB ?_;clear hK K)|(refine jC ?_;clear hK K)|refine jD ?_|refine jE ?_|refine jG ?_|refine jH ?_|refine jI ?_)|((with_reducible refine jR ?hq ?_);case hq=>rfl)|((first|(with_reducible first|refine jS fun K hK=>?_|refine jT ?_|refine jU ?_)|((with_reducible refine jV ?hy fun K hK=>?_);case hy=>rfl));simp only [go_sem, Nat.reduceEqDiff, Nat.reduceAdd, Nat.reduceMul, Nat.reduceLeDiff, Nat.reduceLT, Int.reduceLT, Int.reduceLE, Int.reduceEq, Int.reduceNeg, Int.reduceToNat, Nat.reducePow, reduceIte, reduceCtorEq, j15, j17])|((with_reducible first|refine jW ?hy ?_|refine jY ?hy ?_);case hy=>rfl)|((with_reducible first|refine jX ?hy ?_|refine jZ ?hy ?_);case hy=>rfl)|((with_reducible refine jF ?hy ?_);case hy=>decide))
   refine Block_ok hA2 hn64 hjn ?_
   repeat' (first|(with_reducible first|refine jA ?_|(refine hK _ _ ?_;clear hK K)|refine jJ fun K hK=>?_|refine jK ?_|refine jL ?_|refine jM ?_|refine jN ?_|refine jO ?_|refine jP ?_|refine jQ ?_|(refine jB ?_;clear hK K)|(refine jC ?_;clear hK K)|refine jD ?_|refine jE ?_|refine jG ?_|refine jH ?_|refine jI ?_)|((with_reducible refine jR ?hq ?_);case hq=>rfl)|((first|(with_reducible first|refine jS fun K hK=>?_|refine jT ?_|refine jU ?_)|((with_reducible refine jV ?hy fun K hK=>?_);case hy=>rfl));simp only [go_sem, Nat.reduceEqDiff, Nat.reduceAdd, Nat.reduceMul, Nat.reduceLeDiff, Nat.reduceLT, Int.reduceLT, Int.reduceLE, Int.reduceEq, Int.reduceNeg, Int.reduceToNat, Nat.reducePow, reduceIte, reduceCtorEq, j17, y2, z0, ewj])|((with_reducible first|refine jW ?hy ?_|refine jY ?hy ?_);case hy=>rfl)|((with_reducible first|refine jX ?hy ?_|refine jZ ?hy ?_);case hy=>rfl)|((with_reducible refine jF ?hy ?_);case hy=>decide))
   exact loop_normal (m' := n - (j + 1)) (by omega) ⟨rfl, j + 1, rfl, hjn, rfl⟩
  ·have y1 : ((j : Int) < (n : Int)) = False := eq_false (by omega)
   have y1' : (j < n) = False := eq_false hjn
   repeat' (first|(with_reducible first|refine jA ?_|(refine hK _ _ ?_;clear hK K)|refine jJ fun K hK=>?_|refine jK ?_|refine jL ?_|refine jM ?_|refine jN ?_|refine jO ?_|refine jP ?_|refine jQ ?_|(refine jB ?_;clear hK K)|(refine jC ?_;clear hK K)|refine jD ?_|refine jE ?_|refine jG ?_|refine jH ?_|refine jI ?_)|((with_reducible refine jR ?hq ?_);case hq=>rfl)|((first|(with_reducible first|refine jS fun K hK=>?_|refine jT ?_|refine jU ?_)|((with_reducible refine jV ?hy fun K hK=>?_);case hy=>rfl));simp only [go_sem, Nat.reduceEqDiff, Nat.reduceAdd, Nat.reduceMul, Nat.reduceLeDiff, Nat.reduceLT, Int.reduceLT, Int.reduceLE, Int.reduceEq, Int.reduceNeg, Int.reduceToNat, Nat.reducePow, reduceIte, reduceCtorEq, j0, j13, j17, y1, y1'])|((with_reducible first|refine jW ?hy ?_|refine jY ?hy ?_);case hy=>rfl)|((with_reducible first|refine jX ?hy ?_|refine jZ ?hy ?_);case hy=>rfl)|((with_reducible refine jF ?hy ?_);case hy=>decide))
   refine Bridges_ok hA5 (by omega) fun H8 Ba va hva hBa f8 => ?_
   repeat' (first|(with_reducible first|refine jA ?_|(refine hK _ _ ?_;clear hK K)|refine jJ fun K hK=>?_|refine jK ?_|refine jL ?_|refine jM ?_|refine jN ?_|refine jO ?_|refine jP ?_|refine jQ ?_|(refine jB ?_;clear hK K)|(refine jC ?_;clear hK K)|refine jD ?_|refine jE ?_|refine jG ?_|refine jH ?_|refine jI ?_)|((with_reducible refine jR ?hq ?_);case hq=>rfl)|((first|(with_reducible first|refine jS fun K hK=>?_|refine jT ?_|refine jU ?_)|((with_reducible refine jV ?hy fun K hK=>?_);case hy=>rfl));simp only [go_sem, Nat.reduceEqDiff, Nat.reduceAdd, Nat.reduceMul, Nat.reduceLeDiff, Nat.reduceLT, Int.reduceLT, Int.reduceLE, Int.reduceEq, Int.reduceNeg, Int.reduceToNat, Nat.reducePow, reduceIte, reduceCtorEq, j15])|((with_reducible first|refine jW ?hy ?_|refine jY ?hy ?_);case hy=>rfl)|((with_reducible first|refine jX ?hy ?_|refine jZ ?hy ?_);case hy=>rfl)|((with_reducible refine jF ?hy ?_);case hy=>decide))
   refine Bridges_ok (hA2.frame f8 fun _ _ h => h) (by omega) fun H9 Bb vb hvb hBb f9 => ?_
   repeat' (first|(with_reducible first|refine jA ?_|(refine hK _ _ ?_;clear hK K)|refine jJ fun K hK=>?_|refine jK ?_|refine jL ?_|refine jM ?_|refine jN ?_|refine jO ?_|refine jP ?_|refine jQ ?_|(refine jB ?_;clear hK K)|(refine jC ?_;clear hK K)|refine jD ?_|refine jE ?_|refine jG ?_|refine jH ?_|refine jI ?_)|((with_reducible refine jR ?hq ?_);case hq=>rfl)|((first|(with_reducible first|refine jS fun K hK=>?_|refine jT ?_|refine jU ?_)|((with_reducible refine jV ?hy fun K hK=>?_);case hy=>rfl));simp only [go_sem, Nat.reduceEqDiff, Nat.reduceAdd, Nat.reduceMul, Nat.reduceLeDiff, Nat.reduceLT, Int.reduceLT, Int.reduceLE, Int.reduceEq, Int.reduceNeg, Int.reduceToNat, Nat.reducePow, reduceIte, reduceCtorEq])|((with_reducible first|refine jW ?hy ?_|refine jY ?hy ?_);case hy=>rfl)|((with_reducible first|refine jX ?hy ?_|refine jZ ?hy ?_);case hy=>rfl)|((with_reducible refine jF ?hy ?_);case hy=>decide))
   refine Pkisthmuslaw08.same_ok (hva.rds.frame f9 fun _ _ h => h) hvb.rds (by omega) ?_
   rw [decide_eq_true rfl]
   have f89 := f8.trans f9
   have hcc : cnt n p = cnt n p2 := cnt_congr epp
   have y3 : (((cnt n p2 : Nat) : Int) == ((cnt n p2 : Nat) : Int)) = true := by simp
   have fin2 := fin H9 ((((((f1.trans f2).trans f3).trans f4).trans f5).trans f8).trans f9)
   repeat' (first|(with_reducible first|refine jA ?_|(refine hK _ _ ?_;clear hK K)|refine jJ fun K hK=>?_|refine jK ?_|refine jL ?_|refine jM ?_|refine jN ?_|refine jO ?_|refine jP ?_|refine jQ ?_|(refine jB ?_;clear hK K)|(refine jC ?_;clear hK K)|refine jD ?_|refine jE ?_|refine jG ?_|refine jH ?_|refine jI ?_)|((with_reducible refine jR ?hq ?_);case hq=>rfl)|((first|(with_reducible first|refine jS fun K hK=>?_|refine jT ?_|refine jU ?_)|((with_reducible refine jV ?hy fun K hK=>?_);case hy=>rfl));simp only [go_sem, Nat.reduceEqDiff, Nat.reduceAdd, Nat.reduceMul, Nat.reduceLeDiff, Nat.reduceLT, Int.reduceLT, Int.reduceLE, Int.reduceEq, Int.reduceNeg, Int.reduceToNat, Nat.reducePow, reduceIte, reduceCtorEq, j13])|((with_reducible first|refine jW ?hy ?_|refine jY ?hy ?_);case hy=>rfl)|((with_reducible first|refine jX ?hy ?_|refine jZ ?hy ?_);case hy=>rfl)|((with_reducible refine jF ?hy ?_);case hy=>decide))
   refine Blocks_ok (hA5.frame f89 fun _ _ h => h) hn64 ?_
   rw [hcc]
   repeat' (first|(with_reducible first|refine jA ?_|(refine hK _ _ ?_;clear hK K)|refine jJ fun K hK=>?_|refine jK ?_|refine jL ?_|refine jM ?_|refine jN ?_|refine jO ?_|refine jP ?_|refine jQ ?_|(refine jB ?_;clear hK K)|(refine jC ?_;clear hK K)|refine jD ?_|refine jE ?_|refine jG ?_|refine jH ?_|refine jI ?_)|((with_reducible refine jR ?hq ?_);case hq=>rfl)|((first|(with_reducible first|refine jS fun K hK=>?_|refine jT ?_|refine jU ?_)|((with_reducible refine jV ?hy fun K hK=>?_);case hy=>rfl));simp only [go_sem, Nat.reduceEqDiff, Nat.reduceAdd, Nat.reduceMul, Nat.reduceLeDiff, Nat.reduceLT, Int.reduceLT, Int.reduceLE, Int.reduceEq, Int.reduceNeg, Int.reduceToNat, Nat.reducePow, reduceIte, reduceCtorEq, j15])|((with_reducible first|refine jW ?hy ?_|refine jY ?hy ?_);case hy=>rfl)|((with_reducible first|refine jX ?hy ?_|refine jZ ?hy ?_);case hy=>rfl)|((with_reducible refine jF ?hy ?_);case hy=>decide))
   refine Blocks_ok (hA2.frame f89 fun _ _ h => h) hn64 ?_
   repeat' (first|(with_reducible first|refine jA ?_|(refine hK _ _ ?_;clear hK K)|refine jJ fun K hK=>?_|refine jK ?_|refine jL ?_|refine jM ?_|refine jN ?_|refine jO ?_|refine jP ?_|refine jQ ?_|(refine jB ?_;clear hK K)|(refine jC ?_;clear hK K)|refine jD ?_|refine jE ?_|refine jG ?_|refine jH ?_|refine jI ?_)|((with_reducible refine jR ?hq ?_);case hq=>rfl)|((first|(with_reducible first|refine jS fun K hK=>?_|refine jT ?_|refine jU ?_)|((with_reducible refine jV ?hy fun K hK=>?_);case hy=>rfl));simp only [go_sem, Nat.reduceEqDiff, Nat.reduceAdd, Nat.reduceMul, Nat.reduceLeDiff, Nat.reduceLT, Int.reduceLT, Int.reduceLE, Int.reduceEq, Int.reduceNeg, Int.reduceToNat, Nat.reducePow, reduceIte, reduceCtorEq, y3])|((with_reducible first|refine jW ?hy ?_|refine jY ?hy ?_);case hy=>rfl)|((with_reducible first|refine jX ?hy ?_|refine jZ ?hy ?_);case hy=>rfl)|((with_reducible refine jF ?hy ?_);case hy=>decide))
   exact fin2
end
end Go.Proofs.Ytpeaogldojepnaa
namespace Go.Br
open Go Go.Hp Go.Li
set_option linter.unusedVariables false
theorem add_add (a : Addr) (m n : Nat) : (a.add m).add n = a.add (m + n) := by
 unfold Addr.add
 by_cases h1 : m = 0
 ·subst h1; simp
 ·by_cases h2 : n = 0
  ·subst h2; simp
  ·rw [if_neg h1, if_neg h2, if_neg (by omega)]
   simp only [Addr.mk.injEq, and_true, true_and]
   omega
theorem add_succ' (q : Addr) (n : Nat) : q.add (n + 1) = ⟨q.block, q.off + (n + 1), none⟩ := by
 unfold Addr.add; rw [if_neg (by omega)]
theorem add_block (q : Addr) (n : Nat) : (q.add n).block = q.block := by
 unfold Addr.add; split <;> rfl
theorem readL_eds {H : Heap} {a : Addr} : ∀ (zs : List Ed) (i : Nat), (∀ t x, zs[t]? = some x → ∀ j v, x.cells[j]? = some v → hcell H (a.add (i + t * 4 + j)) = some v) → readL H a i (zs.length * 4) = some (zs.flatMap Ed.cells)
 | [], i, h => by simp [readL]
 | z :: zs, i, h => by
  have ih := readL_eds zs (i + 4) fun t x ht j v hj => by
   have := h (t + 1) x (by simpa using ht) j v hj
   rwa [show i + (t + 1) * 4 + j = i + 4 + t * 4 + j by omega] at this
  have c0 := h 0 z rfl 0 _ rfl
  have c1 := h 0 z rfl 1 _ rfl
  have c2 := h 0 z rfl 2 _ rfl
  have c3 := h 0 z rfl 3 _ rfl
  rw [Nat.zero_mul, Nat.add_zero] at c0 c1 c2 c3
  rw [List.length_cons, Nat.succ_mul]
  show readL H a i (zs.length * 4 + 1 + 1 + 1 + 1) = _
  unfold readL
  rw [c0]
  unfold readL
  rw [c1]
  unfold readL
  rw [show i + 1 + 1 = i + 2 from rfl, c2]
  unfold readL
  rw [show i + 2 + 1 = i + 3 from rfl, c3, show i + 3 + 1 = i + 4 from rfl, ih]
  rfl
structure RawE (H : Heap) (a : Option Addr) (c : Nat) (ys : List Ed) : Prop where
 cap : ys.length ≤ c
 nil : a = none → c = 0
 cells : ∀ i x, ys[i]? = some x → ∃ q, a = some q ∧ ∀ j v, x.cells[j]? = some v → hcell H (q.add (i * 4 + j)) = some v
theorem RawE.frame {H H' : Heap} {a : Option Addr} {c : Nat} {ys : List Ed} (h : RawE H a c ys) (hf : Fr (fun _ => False) H H') : RawE H' a c ys :=
 ⟨h.cap, h.nil, fun i x hx => by
  obtain ⟨q, h1, h2⟩ := h.cells i x hx
  exact ⟨q, h1, fun j v hj => by have := h2 j v hj; rw [hf.cell (hcell_lt this) (fun h => h)]; exact this⟩⟩
theorem RawE.at {H : Heap} {a : Option Addr} {c : Nat} {ys : List Ed} (h : RawE H a c ys) {i : Nat} {x : Ed} (hx : ys[i]? = some x) : ∃ q, a = some q ∧ q.block < H.size ∧ EdAt H (q.add (i * 4)) x := by
 obtain ⟨q, h1, h2⟩ := h.cells i x hx
 have c0 := h2 0 _ rfl
 refine ⟨q, h1, by have := hcell_lt c0; rwa [add_block] at this, c0, ?_, ?_, ?_⟩
 ·have := h2 1 _ rfl; rwa [← add_add, add_succ'] at this
 ·have := h2 2 _ rfl; rwa [← add_add, add_succ'] at this
 ·have := h2 3 _ rfl; rwa [← add_add, add_succ'] at this
theorem append_raw {P : Program} {t e : TypeId} {te : TL} {H : Heap} {B : Option Nat} {s : Value} {xs ys : List Ed} {lo hi d c : Nat} {st a : Option Addr} {K : Value → Heap → Prop}
  (he : elems P t = some (none, e, 4)) (ht : tl P e = some te) (hs : SR Ed.cells 4 H B s xs) (hy : RawE H a c ys) (h1 : lo ≤ hi) (h2 : hi ≤ ys.length) (hst : st = if c = lo then a else a.map (·.add (lo * 4))) (hd : d = c - lo)
  (hb0 : 0 < te.bytes) (hb : 2 * (xs.length + (hi - lo)) * te.bytes ≤ 2 ^ 48) (hz : te.zero.cells.size = 4)
  (hk : ∀ v' H' B', SR Ed.cells 4 H' B' v' (xs ++ (ys.drop lo).take (hi - lo)) → Fr (fun b => B = some b) H H' → (B' = B ∨ ∃ g, B' = some g ∧ H.size ≤ g) → K v' H') : appendX P t s (.slice st (hi - lo) d) H K := by
 have hls : ((ys.drop lo).take (hi - lo)).length = hi - lo := by rw [List.length_take, List.length_drop]; omega
 cases a with
 | none =>
  have hc := hy.nil rfl
  have := hy.cap
  have e1 : lo = 0 := by omega
  have e2 : hi = 0 := by omega
  subst e1 e2
  have e3 : st = none := by rw [hst]; simp
  subst e3 hd hc
  rw [Nat.sub_zero] at hk hb ⊢
  rw [List.take_zero, List.append_nil] at hk
  exact append_own he ht hs (m := 0) (new := []) (.inr ⟨rfl, rfl, rfl⟩) (fun _ h => by cases h) hb0 hb (by simp) hz fun v' H' B' ho hf hB => hk v' H' B' (by unfold SR; simpa using ho) hf hB
 | some q =>
  by_cases hm : hi - lo = 0
  ·rw [hm] at hk hb ⊢
   rw [List.take_zero, List.append_nil] at hk
   obtain ⟨z, e3⟩ : ∃ z, st = some z := by
    rw [hst]
    split
    ·exact ⟨_, rfl⟩
    ·exact ⟨_, rfl⟩
   subst e3
   exact append_own he ht hs (m := 0) (new := []) (.inl ⟨_, _, rfl, by rw [Nat.zero_mul]; rfl⟩) (fun _ h => by cases h) hb0 hb (by simp) hz fun v' H' B' ho hf hB => hk v' H' B' (by unfold SR; simpa using ho) hf hB
  ·have := hy.cap
   rw [if_neg (by omega), Option.map_some] at hst
   subst hst
   have rl := readL_eds (H := H) (a := q.add (lo * 4)) ((ys.drop lo).take (hi - lo)) 0 fun t x hx j v hj => by
    have hlt := (List.getElem?_eq_some_iff.1 hx).1
    rw [hls] at hlt
    rw [List.getElem?_take_of_lt hlt, List.getElem?_drop] at hx
    obtain ⟨q', e, h⟩ := hy.cells _ x hx
    obtain rfl := Option.some.inj e
    have := h j v hj
    rw [add_add, show lo * 4 + (0 + t * 4 + j) = (lo + t) * 4 + j by omega]
    exact this
   rw [hls] at rl
   refine append_own he ht hs (.inl ⟨_, _, rfl, rl⟩) (fun v hv => ?_) hb0 hb (by rw [srf_len (k := 4) (C := Ed.cells) (fun _ => rfl), hls]) hz fun v' H' B' ho hf hB => hk v' H' B' (by unfold SR; rw [List.flatMap_append, List.length_append, hls]; exact ho) hf hB
   obtain ⟨x, _, hx⟩ := List.mem_flatMap.1 hv
   unfold Ed.cells at hx
   simp only [List.mem_cons, List.not_mem_nil, or_false] at hx
   rcases hx with rfl | rfl | rfl | rfl <;> rfl
structure RoM (H : Heap) (o : Nat) (T : Nat → Prop) (ids : List Int) (p : Nat → Nat) (n : Nat) : Prop where
 ex : ∃ vb Bb gb, Blk H o [.int .i64 (n : Nat), vb, .slice (some ⟨gb, 0, none⟩) n n] ∧ IR H Bb vb ids ∧ IR H (some gb) (.slice (some ⟨gb, 0, none⟩) n n) (vr n (nI p)) ∧ T o ∧ T gb ∧ ∀ b, Bb = some b → T b
theorem RoM.frame {H H' : Heap} {o n : Nat} {T T' : Nat → Prop} {ids : List Int} {p : Nat → Nat} (h : RoM H o T ids p n) (hf : Fr T' H H') (hT : ∀ b, T b → ¬ T' b) : RoM H' o T ids p n := by
 obtain ⟨vb, Bb, gb, h1, h2, h3, h4, h5, h6⟩ := h
 exact ⟨vb, Bb, gb, h1.frame hf (hT _ h4), h2.frame hf fun b hb => hT _ (h6 b hb), h3.frame hf fun b hb => hT _ (by rw [← Option.some.inj hb]; exact h5), h4, h5, h6⟩
theorem append_out {P : Program} {t e : TypeId} {te : TL} {s : Value} {H H0 : Heap} {B : Option Nat} {d : Nat} {xs : List Int} {x : Int} {K : Value → Heap → Prop}
  (he : elems P t = some (none, e, 1)) (ht : tl P e = some te) (h : Out H0 B s xs) (hH : H = H0.push (.cells #[.int .i64 x] e)) (hb0 : 0 < te.bytes) (hb : 2 * (xs.length + 1) * te.bytes ≤ 2 ^ 48) (hz : te.zero.cells.size = 1)
  (hk : ∀ v' H' g, IR H' (some g) v' (xs ++ [x]) → Fr (fun _ => False) H0 H' → H0.size ≤ g → K v' H') : appendX P t s (.slice (some ⟨H0.size, 0, none⟩) 1 d) H K := by
 have src := readL_blk (Blk.new H0 [.int .i64 x] e) 1 0 0 (by simp)
 have hfr : Fr (fun _ => False) H0 H := by rw [hH]; exact (Fr.refl _ _).push _
 have hsz : H0.size ≤ H.size := hfr.size
 change readL (H0.push (.cells #[.int .i64 x] e)) _ _ _ = _ at src
 rw [← hH] at src
 clear hH
 unfold appendX
 rcases h.ex with ⟨rfl, rfl, rfl⟩ | ⟨g, rest, rfl, rfl, hblk⟩
 ·rw [he]
  simp only [ht]
  refine ⟨1, _, ⟨rfl, src⟩, ?_⟩
  rw [if_neg (by omega)]
  refine ⟨[], rfl, hb0, by simpa using hb, fun c hc _ => hk _ _ H.size ⟨by simp, .inr ⟨_, c, repL (c - (0 + 1)) te.zero.cells.toList, rfl, rfl, Blk.new _ _ _, ?_, by simpa using hc⟩⟩ (hfr.push _) hsz⟩
  simp [repL_length, hz]
  omega
 ·rw [he]
  simp only [ht]
  refine ⟨1, _, ⟨rfl, src⟩, ?_⟩
  rw [if_neg (by omega)]
  have hb2 := hblk.frame hfr fun h => h
  have hr : readL H ⟨g, 0, none⟩ 0 (xs.length * 1) = some (xs.map (Value.int .i64)) := by
   rw [readL_blk hb2 _ _ _ (by simp)]
   simp
  have hlx : (xs ++ [x]).length = xs.length + 1 := by simp
  refine ⟨_, hr, hb0, hb, fun c hc _ => hk _ _ H.size ⟨by simp, .inr ⟨_, c, repL (c - (xs.length + 1)) te.zero.cells.toList, rfl, by rw [hlx], ?_, ?_, by rw [hlx]; exact hc⟩⟩ (hfr.push _) hsz⟩
  ·have := Blk.new H (xs.map (Value.int .i64) ++ [Value.int .i64 x] ++ repL (c - (xs.length + 1)) te.zero.cells.toList) e
   rw [List.map_append]
   exact this
  ·simp [repL_length, hz]
   omega
theorem Out.write {H : Heap} {g n c : Nat} {xs : List Int} (h : Out H (some g) (.slice (some ⟨g, 0, none⟩) n c) xs) {i : Nat} (hi : i < xs.length) (y : Int) :
  okW H ⟨g, i, none⟩ ∧ Out (hset H ⟨g, i, none⟩ (.int .i64 y)) (some g) (.slice (some ⟨g, 0, none⟩) n c) (xs.set i y) ∧ Fr (· = g) H (hset H ⟨g, i, none⟩ (.int .i64 y)) := by
 obtain ⟨h1, _⟩ | ⟨g', rest, h1, h2, hb⟩ := h.ex
 ·cases h1
 ·obtain rfl := Option.some.inj h1
  refine ⟨hb.okW (by simp; omega), ⟨.inr ⟨g, rest, rfl, by rw [List.length_set]; exact h2, ?_⟩⟩, Fr.set (S := (· = g)) (a := ⟨g, i, none⟩) (Fr.refl _ _) (.inl rfl) _⟩
  have := hb.set_same i (.int .i64 y)
  rw [List.set_append_left _ _ (by simp; omega), ← List.map_set] at this
  exact this
theorem ins_srt {ids : List Int} (hs : ids.Pairwise (· < ·)) {x : Int} {k : Nat} (h1 : ∀ i y, i < k → ids[i]? = some y → y < x) (h2 : ∀ y, ids[k]? = some y → ¬ y < x) (hx : x ∉ ids) : (ids.take k ++ [x] ++ ids.drop k).Pairwise (· < ·) := by
 have lt : ∀ y ∈ ids.take k, y < x := fun y hy => by
  obtain ⟨i, hi⟩ := List.mem_iff_getElem?.1 hy
  have hik := (List.getElem?_eq_some_iff.1 hi).1
  rw [List.length_take] at hik
  rw [List.getElem?_take_of_lt (by omega)] at hi
  exact h1 i y (by omega) hi
 have gt : ∀ y ∈ ids.drop k, x < y := fun y hy => by
  obtain ⟨i, hi⟩ := List.mem_iff_getElem?.1 hy
  rw [List.getElem?_drop] at hi
  have hne : y ≠ x := fun e => hx (e ▸ List.mem_of_getElem? hi)
  have hki : k < ids.length := by have := (List.getElem?_eq_some_iff.1 hi).1; omega
  have h3 := h2 _ (List.getElem?_eq_getElem hki)
  cases i with
  | zero =>
   rw [Nat.add_zero, List.getElem?_eq_getElem hki] at hi
   have := Option.some.inj hi
   omega
  | succ i =>
   rw [List.pairwise_iff_getElem] at hs
   have hl := (List.getElem?_eq_some_iff.1 hi)
   have := hs k (k + (i + 1)) hki hl.1 (by omega)
   rw [hl.2] at this
   omega
 rw [List.pairwise_append, List.pairwise_append]
 refine ⟨⟨hs.sublist (List.take_sublist _ _), List.pairwise_singleton _ _, fun a ha b hb => ?_⟩, hs.sublist (List.drop_sublist _ _), fun a ha b hb => ?_⟩
 ·obtain rfl := List.mem_singleton.1 hb; exact lt a ha
 ·rcases List.mem_append.1 ha with ha | ha
  ·have := lt a ha; have := gt b hb; omega
  ·obtain rfl := List.mem_singleton.1 ha; exact gt b hb
theorem ins_mem {α : Type} {ids : List α} {x i : α} {k : Nat} : i ∈ ids.take k ++ [x] ++ ids.drop k ↔ i = x ∨ i ∈ ids := by
 have e : ids = ids.take k ++ ids.drop k := (List.take_append_drop k ids).symm
 constructor
 ·intro h
  simp only [List.mem_append, List.mem_singleton] at h
  rcases h with (h | h) | h
  ·exact .inr (List.mem_of_mem_take h)
  ·exact .inl h
  ·exact .inr (List.mem_of_mem_drop h)
 ·intro h
  simp only [List.mem_append, List.mem_singleton]
  rcases h with h | h
  ·exact .inl (.inr h)
  ·rw [e] at h
   rcases List.mem_append.1 h with h | h
   ·exact .inl (.inl h)
   ·exact .inr h
structure Dv (l : List Ed) (k : Nat) (ids : List Int) (firm : List Ed) : Prop where
 srt : ids.Pairwise (· < ·)
 mem : ∀ i, i ∈ ids ↔ ∃ j x, j < k ∧ l[j]? = some x ∧ x.id = i ∧ Bridge l j
 len : ids.length ≤ k
 fm : ∀ e, e ∈ firm ↔ ∃ j, j < k ∧ l[j]? = some e ∧ ¬ Bridge l j
 fl : firm.length ≤ k
section
variable {l fi : List Ed} {k : Nat} {ids : List Int} {x : Ed}
theorem Dv.init (l : List Ed) : Dv l 0 [] [] := ⟨.nil, fun i => ⟨nofun, fun ⟨_, _, h, _⟩ => absurd h (Nat.not_lt_zero _)⟩, Nat.le_refl _, fun e => ⟨nofun, fun ⟨_, h, _⟩ => absurd h (Nat.not_lt_zero _)⟩, Nat.le_refl _⟩
theorem Dv.firm (h : Dv l k ids fi) (hx : l[k]? = some x) (hb : ¬ Bridge l k) : Dv l (k + 1) ids (fi ++ [x]) := by
 refine ⟨h.srt, fun i => ?_, Nat.le_succ_of_le h.len, fun e => ?_, by rw [List.length_append]; exact Nat.succ_le_succ h.fl⟩
 ·rw [h.mem]
  constructor
  ·rintro ⟨j, y, h1, h2⟩; exact ⟨j, y, by omega, h2⟩
  ·rintro ⟨j, y, h1, h2, h3, h4⟩
   rcases Nat.lt_succ_iff_lt_or_eq.1 h1 with h1 | rfl
   ·exact ⟨j, y, h1, h2, h3, h4⟩
   ·exact absurd h4 hb
 ·rw [List.mem_append, h.fm, List.mem_singleton]
  constructor
  ·rintro (⟨j, h1, h2⟩ | rfl)
   ·exact ⟨j, by omega, h2⟩
   ·exact ⟨k, by omega, hx, hb⟩
  ·rintro ⟨j, h1, h2, h3⟩
   rcases Nat.lt_succ_iff_lt_or_eq.1 h1 with h1 | rfl
   ·exact .inl ⟨j, h1, h2, h3⟩
   ·rw [hx] at h2; exact .inr (Option.some.inj h2).symm
theorem Dv.bridge (h : Dv l k ids fi) (hn : (l.map (·.id)).Nodup) (hx : l[k]? = some x) (hb : Bridge l k) {at' : Nat} (h1 : ∀ i y, i < at' → ids[i]? = some y → y < x.id) (h2 : ∀ y, ids[at']? = some y → ¬ y < x.id) (hat : at' ≤ ids.length) : Dv l (k + 1) (ids.take at' ++ [x.id] ++ ids.drop at') fi := by
 refine ⟨ins_srt h.srt h1 h2 fun hm => ?_, fun i => ?_, ?_, fun e => ?_, Nat.le_succ_of_le h.fl⟩
 ·obtain ⟨j, y, h3, h4, h5, _⟩ := (h.mem _).1 hm
  have := same_at hn h4 hx h5
  omega
 ·rw [ins_mem, h.mem]
  constructor
  ·rintro (rfl | ⟨j, y, h1, h2⟩)
   ·exact ⟨k, x, by omega, hx, rfl, hb⟩
   ·exact ⟨j, y, by omega, h2⟩
  ·rintro ⟨j, y, h1, h2, h3, h4⟩
   rcases Nat.lt_succ_iff_lt_or_eq.1 h1 with h1 | rfl
   ·exact .inr ⟨j, y, h1, h2, h3, h4⟩
   ·rw [hx] at h2
    obtain rfl := Option.some.inj h2
    exact .inl h3.symm
 ·have := h.len
  rw [List.length_append, List.length_append, List.length_take, List.length_drop, List.length_singleton]
  omega
 ·rw [h.fm]
  constructor
  ·rintro ⟨j, h1, h2⟩; exact ⟨j, by omega, h2⟩
  ·rintro ⟨j, h1, h2, h3⟩
   rcases Nat.lt_succ_iff_lt_or_eq.1 h1 with h1 | rfl
   ·exact ⟨j, h1, h2, h3⟩
   ·exact absurd hb h3
theorem Dv.isBr (h : Dv l l.length ids fi) : IsBr l ids := ⟨h.srt, fun i => (h.mem i).trans ⟨fun ⟨j, x, _, h⟩ => ⟨j, x, h⟩, fun ⟨j, x, h⟩ => ⟨j, x, (List.getElem?_eq_some_iff.1 h.1).1, h⟩⟩⟩
theorem Dv.least (h : Dv l l.length ids fi) {n : Nat} {p : Nat → Nat} (hp : Least (Al fi) n p) : Least (Firm l) n p := by
 have key : ∀ a b, Al fi a b ↔ Firm l a b := fun a b => by
  rw [al_mem]
  constructor
  ·rintro ⟨e, he, hen⟩
   obtain ⟨j, _, h2, h3⟩ := (h.fm e).1 he
   exact ⟨j, h3, e, h2, hen⟩
  ·rintro ⟨j, h3, e, h2, hen⟩
   exact ⟨e, (h.fm e).2 ⟨j, (List.getElem?_eq_some_iff.1 h2).1, h2, h3⟩, hen⟩
 exact hp.congr fun a b _ _ => ⟨Con.mono fun _ _ => (key _ _).1, Con.mono fun _ _ => (key _ _).2⟩
end
theorem may_ends {n : Nat} {l : List Ed} (h : May n l) : ∀ x ∈ l, ∃ u v : Nat, x.u = u ∧ x.v = v ∧ u < n ∧ v < n := fun x hx => by
 have := h.1 x hx
 unfold okEd at this
 rw [decide_eq_true_iff] at this
 obtain ⟨u, hu⟩ := Int.eq_ofNat_of_zero_le this.1
 obtain ⟨v, hv⟩ := Int.eq_ofNat_of_zero_le this.2.2.1
 exact ⟨u, v, hu, hv, by omega, by omega⟩
theorem bridge_iff {l : List Ed} {k u v : Nat} (hi : Inc l k u v) : Bridge l k ↔ ¬ Con (Av l k) u v := by
 constructor
 ·rintro ⟨a, b, ⟨y, hy, h1⟩, hno⟩ hc
  obtain ⟨x, hx, h2⟩ := hi
  rw [hx] at hy
  obtain rfl := Option.some.inj hy
  rcases h1 with ⟨h1, h3⟩ | ⟨h1, h3⟩ <;> rcases h2 with ⟨h4, h5⟩ | ⟨h4, h5⟩
  ·obtain rfl : a = u := by omega
   obtain rfl : b = v := by omega
   exact hno hc
  ·obtain rfl : a = v := by omega
   obtain rfl : b = u := by omega
   exact hno hc.symm
  ·obtain rfl : a = v := by omega
   obtain rfl : b = u := by omega
   exact hno hc.symm
  ·obtain rfl : a = u := by omega
   obtain rfl : b = v := by omega
   exact hno hc
 ·intro h; exact ⟨u, v, hi, h⟩
def MayK (n : Nat) (l : List Ed) (k : Nat) : Prop := ∀ x, l[k]? = some x → okEd n x = true ∧ ∀ i y, i < k → l[i]? = some y → y.id ≠ x.id
theorem may_iff {n : Nat} {l : List Ed} : May n l ↔ ∀ k, k < l.length → MayK n l k := by
 constructor
 ·rintro ⟨h1, h2⟩ k hk x hx
  refine ⟨h1 x (List.mem_of_getElem? hx), fun i y hi hy e => ?_⟩
  have := same_at h2 hy hx e
  omega
 ·intro h
  refine ⟨fun x hx => ?_, ?_⟩
  ·obtain ⟨k, hk⟩ := List.mem_iff_getElem?.1 hx
   exact (h k (List.getElem?_eq_some_iff.1 hk).1 x hk).1
  ·rw [List.nodup_iff_pairwise_ne, List.pairwise_iff_getElem]
   intro i j hi hj hij e
   rw [List.length_map] at hi hj
   rw [List.getElem_map, List.getElem_map] at e
   exact (h j hj _ (List.getElem?_eq_getElem hj)).2 i _ hij (List.getElem?_eq_getElem hi) e
end Go.Br
namespace Go.Hp
open Go
theorem ir_sr {H : Heap} {B : Option Nat} {v : Value} {xs : List Int} : IR H B v xs ↔ SR (fun x => [Value.int .i64 x]) 1 H B v xs := by
 unfold IR SR
 rw [List.map_eq_flatMap]
theorem whole_st (a : Option Addr) (c k : Nat) : a = if c = 0 then a else a.map (·.add (0 * k)) := by
 rw [Nat.zero_mul]
 cases a with
 | none => simp
 | some q => simp [Addr.add]
theorem append_irp {P : Program} {t e : TypeId} {te : TL} {H : Heap} {B By : Option Nat} {s : Value} {xs ys : List Int} {lo hi d c : Nat} {st a : Option Addr} {K : Value → Heap → Prop}
  (he : elems P t = some (none, e, 1)) (ht : tl P e = some te) (hs : IR H B s xs) (hy : IR H By (.slice a ys.length c) ys) (h1 : lo ≤ hi) (h2 : hi ≤ ys.length) (hst : st = if c = lo then a else a.map (·.add (lo * 1))) (hd : d = c - lo)
  (hb0 : 0 < te.bytes) (hb : 2 * (xs.length + (hi - lo)) * te.bytes ≤ 2 ^ 48) (hz : te.zero.cells.size = 1)
  (hk : ∀ v' H' B', IR H' B' v' (xs ++ (ys.drop lo).take (hi - lo)) → Fr (fun b => B = some b) H H' → (B' = B ∨ ∃ g, B' = some g ∧ H.size ≤ g) → K v' H') : appendX P t s (.slice st (hi - lo) d) H K :=
 append_part (C := fun x => [Value.int .i64 x]) (fun _ => rfl) (fun x u hu => by rw [List.mem_singleton.1 hu]; rfl) he ht (ir_sr.1 hs) (ir_sr.1 hy) h1 h2 hst hd hb0 hb hz fun v' H' B' h => hk v' H' B' (ir_sr.2 h)
end Go.Hp
namespace Go.Proofs.Ytpeaogldojepnaa
open Go Go.Hp Go.Li Go.Br
set_option linter.all false
set_option maxRecDepth 100000
set_option maxHeartbeats 1600000
section
variable {H H' : Heap} {o n : Nat} {T : Nat → Prop} {ids : List Int} {p : Nat → Nat} {L : Value → Heap → Prop}
theorem dhas_ok (h : RoM H o T ids p n) {k : Int} (fin : L (.bool (decide (0 ≤ k ∧ k < n))) H) :
  CallsH Try.prog 38 #[.pointer (some ⟨o, 0, none⟩), .int .i64 k] H L := by
 obtain ⟨vb, Bb, gb, h1, h2, h3, _⟩ := h.ex
 have c0 := h1.cellOf (i := 0) rfl
 refine call38 (by simp) ?_
 simp only [Try.f38, Option.getD_some]
 by_cases h0 : 0 ≤ k
 ·have t1 : (0 ≤ k) = True := eq_true h0
  by_cases hk : k < n
  ·have t2 : (k < (n : Int)) = True := eq_true hk
   rw [decide_eq_true ⟨h0, hk⟩] at fin
   repeat' (first|(with_reducible first|refine jA ?_|(refine hK _ _ ?_;clear hK K)|refine jJ fun K hK=>?_|refine jK ?_|refine jL ?_|refine jM ?_|refine jN ?_|refine jO ?_|refine jP ?_|refine jQ ?_|(refine jB ?_;clear hK K)|(refine jC ?_;clear hK K)|refine jD ?_|refine jE ?_|refine jG ?_|refine jH ?_|refine jI ?_)|((with_reducible refine jR ?hq ?_);case hq=>rfl)|((first|(with_reducible first|refine jS fun K hK=>?_|refine jT ?_|refine jU ?_)|((with_reducible refine jV ?hy fun K hK=>?_);case hy=>rfl));simp only [go_sem, Nat.reduceEqDiff, Nat.reduceAdd, Nat.reduceMul, Nat.reduceLeDiff, Nat.reduceLT, Int.reduceLT, Int.reduceLE, Int.reduceEq, Int.reduceNeg, Int.reduceToNat, Nat.reducePow, reduceIte, reduceCtorEq, c0, t1, t2])|((with_reducible first|refine jW ?hy ?_|refine jY ?hy ?_);case hy=>rfl)|((with_reducible first|refine jX ?hy ?_|refine jZ ?hy ?_);case hy=>rfl)|((with_reducible refine jF ?hy ?_);case hy=>decide))
   exact fin
  ·have t2 : (k < (n : Int)) = False := eq_false hk
   rw [decide_eq_false fun e => hk e.2] at fin
   repeat' (first|(with_reducible first|refine jA ?_|(refine hK _ _ ?_;clear hK K)|refine jJ fun K hK=>?_|refine jK ?_|refine jL ?_|refine jM ?_|refine jN ?_|refine jO ?_|refine jP ?_|refine jQ ?_|(refine jB ?_;clear hK K)|(refine jC ?_;clear hK K)|refine jD ?_|refine jE ?_|refine jG ?_|refine jH ?_|refine jI ?_)|((with_reducible refine jR ?hq ?_);case hq=>rfl)|((first|(with_reducible first|refine jS fun K hK=>?_|refine jT ?_|refine jU ?_)|((with_reducible refine jV ?hy fun K hK=>?_);case hy=>rfl));simp only [go_sem, Nat.reduceEqDiff, Nat.reduceAdd, Nat.reduceMul, Nat.reduceLeDiff, Nat.reduceLT, Int.reduceLT, Int.reduceLE, Int.reduceEq, Int.reduceNeg, Int.reduceToNat, Nat.reducePow, reduceIte, reduceCtorEq, c0, t1, t2])|((with_reducible first|refine jW ?hy ?_|refine jY ?hy ?_);case hy=>rfl)|((with_reducible first|refine jX ?hy ?_|refine jZ ?hy ?_);case hy=>rfl)|((with_reducible refine jF ?hy ?_);case hy=>decide))
   exact fin
 ·have t1 : (0 ≤ k) = False := eq_false h0
  rw [decide_eq_false fun e => h0 e.1] at fin
  repeat' (first|(with_reducible first|refine jA ?_|(refine hK _ _ ?_;clear hK K)|refine jJ fun K hK=>?_|refine jK ?_|refine jL ?_|refine jM ?_|refine jN ?_|refine jO ?_|refine jP ?_|refine jQ ?_|(refine jB ?_;clear hK K)|(refine jC ?_;clear hK K)|refine jD ?_|refine jE ?_|refine jG ?_|refine jH ?_|refine jI ?_)|((with_reducible refine jR ?hq ?_);case hq=>rfl)|((first|(with_reducible first|refine jS fun K hK=>?_|refine jT ?_|refine jU ?_)|((with_reducible refine jV ?hy fun K hK=>?_);case hy=>rfl));simp only [go_sem, Nat.reduceEqDiff, Nat.reduceAdd, Nat.reduceMul, Nat.reduceLeDiff, Nat.reduceLT, Int.reduceLT, Int.reduceLE, Int.reduceEq, Int.reduceNeg, Int.reduceToNat, Nat.reducePow, reduceIte, reduceCtorEq, c0, t1])|((with_reducible first|refine jW ?hy ?_|refine jY ?hy ?_);case hy=>rfl)|((with_reducible first|refine jX ?hy ?_|refine jZ ?hy ?_);case hy=>rfl)|((with_reducible refine jF ?hy ?_);case hy=>decide))
  exact fin
theorem dBlock_ok (h : RoM H o T ids p n) {k : Nat} (hk : k < n) (fin : L (.tuple #[.int .i64 (p k : Nat), .int .i64 0]) H) :
  CallsH Try.prog 33 #[.pointer (some ⟨o, 0, none⟩), .int .i64 (k : Nat)] H L := by
 obtain ⟨vb, Bb, gb, h1, h2, h3, _⟩ := id h.ex
 have c1 := h1.cellOf (i := 2) rfl
 have c2 := h3.cell (vr_get (f := nI p) hk)
 have t1 : (k < n) = True := eq_true hk
 refine call33 (by simp) ?_
 simp only [Try.f33, Option.getD_some]
 repeat' (first|(with_reducible first|refine jA ?_|(refine hK _ _ ?_;clear hK K)|refine jJ fun K hK=>?_|refine jK ?_|refine jL ?_|refine jM ?_|refine jN ?_|refine jO ?_|refine jP ?_|refine jQ ?_|(refine jB ?_;clear hK K)|(refine jC ?_;clear hK K)|refine jD ?_|refine jE ?_|refine jG ?_|refine jH ?_|refine jI ?_)|((with_reducible refine jR ?hq ?_);case hq=>rfl)|((first|(with_reducible first|refine jS fun K hK=>?_|refine jT ?_|refine jU ?_)|((with_reducible refine jV ?hy fun K hK=>?_);case hy=>rfl));simp only [go_sem, Nat.reduceEqDiff, Nat.reduceAdd, Nat.reduceMul, Nat.reduceLeDiff, Nat.reduceLT, Int.reduceLT, Int.reduceLE, Int.reduceEq, Int.reduceNeg, Int.reduceToNat, Nat.reducePow, reduceIte, reduceCtorEq])|((with_reducible first|refine jW ?hy ?_|refine jY ?hy ?_);case hy=>rfl)|((with_reducible first|refine jX ?hy ?_|refine jZ ?hy ?_);case hy=>rfl)|((with_reducible refine jF ?hy ?_);case hy=>decide))
 refine dhas_ok h ?_
 rw [decide_eq_true (⟨by omega, by omega⟩ : (0 : Int) ≤ (k : Int) ∧ (k : Int) < n)]
 repeat' (first|(with_reducible first|refine jA ?_|(refine hK _ _ ?_;clear hK K)|refine jJ fun K hK=>?_|refine jK ?_|refine jL ?_|refine jM ?_|refine jN ?_|refine jO ?_|refine jP ?_|refine jQ ?_|(refine jB ?_;clear hK K)|(refine jC ?_;clear hK K)|refine jD ?_|refine jE ?_|refine jG ?_|refine jH ?_|refine jI ?_)|((with_reducible refine jR ?hq ?_);case hq=>rfl)|((first|(with_reducible first|refine jS fun K hK=>?_|refine jT ?_|refine jU ?_)|((with_reducible refine jV ?hy fun K hK=>?_);case hy=>rfl));simp only [go_sem, Nat.reduceEqDiff, Nat.reduceAdd, Nat.reduceMul, Nat.reduceLeDiff, Nat.reduceLT, Int.reduceLT, Int.reduceLE, Int.reduceEq, Int.reduceNeg, Int.reduceToNat, Nat.reducePow, reduceIte, reduceCtorEq, c1, c2, t1, Bool.not_true])|((with_reducible first|refine jW ?hy ?_|refine jY ?hy ?_);case hy=>rfl)|((with_reducible first|refine jX ?hy ?_|refine jZ ?hy ?_);case hy=>rfl)|((with_reducible refine jF ?hy ?_);case hy=>decide))
 exact fin
theorem dBlock_bad (h : RoM H o T ids p n) {k : Int} (hk : ¬ (0 ≤ k ∧ k < n)) (fin : L (.tuple #[.int .i64 0, .int .i64 80]) H) :
  CallsH Try.prog 33 #[.pointer (some ⟨o, 0, none⟩), .int .i64 k] H L := by
 refine call33 (by simp) ?_
 simp only [Try.f33, Option.getD_some]
 repeat' (first|(with_reducible first|refine jA ?_|(refine hK _ _ ?_;clear hK K)|refine jJ fun K hK=>?_|refine jK ?_|refine jL ?_|refine jM ?_|refine jN ?_|refine jO ?_|refine jP ?_|refine jQ ?_|(refine jB ?_;clear hK K)|(refine jC ?_;clear hK K)|refine jD ?_|refine jE ?_|refine jG ?_|refine jH ?_|refine jI ?_)|((with_reducible refine jR ?hq ?_);case hq=>rfl)|((first|(with_reducible first|refine jS fun K hK=>?_|refine jT ?_|refine jU ?_)|((with_reducible refine jV ?hy fun K hK=>?_);case hy=>rfl));simp only [go_sem, Nat.reduceEqDiff, Nat.reduceAdd, Nat.reduceMul, Nat.reduceLeDiff, Nat.reduceLT, Int.reduceLT, Int.reduceLE, Int.reduceEq, Int.reduceNeg, Int.reduceToNat, Nat.reducePow, reduceIte, reduceCtorEq])|((with_reducible first|refine jW ?hy ?_|refine jY ?hy ?_);case hy=>rfl)|((with_reducible first|refine jX ?hy ?_|refine jZ ?hy ?_);case hy=>rfl)|((with_reducible refine jF ?hy ?_);case hy=>decide))
 refine dhas_ok h ?_
 rw [decide_eq_false hk]
 repeat' (first|(with_reducible first|refine jA ?_|(refine hK _ _ ?_;clear hK K)|refine jJ fun K hK=>?_|refine jK ?_|refine jL ?_|refine jM ?_|refine jN ?_|refine jO ?_|refine jP ?_|refine jQ ?_|(refine jB ?_;clear hK K)|(refine jC ?_;clear hK K)|refine jD ?_|refine jE ?_|refine jG ?_|refine jH ?_|refine jI ?_)|((with_reducible refine jR ?hq ?_);case hq=>rfl)|((first|(with_reducible first|refine jS fun K hK=>?_|refine jT ?_|refine jU ?_)|((with_reducible refine jV ?hy fun K hK=>?_);case hy=>rfl));simp only [go_sem, Nat.reduceEqDiff, Nat.reduceAdd, Nat.reduceMul, Nat.reduceLeDiff, Nat.reduceLT, Int.reduceLT, Int.reduceLE, Int.reduceEq, Int.reduceNeg, Int.reduceToNat, Nat.reducePow, reduceIte, reduceCtorEq, Bool.not_false])|((with_reducible first|refine jW ?hy ?_|refine jY ?hy ?_);case hy=>rfl)|((with_reducible first|refine jX ?hy ?_|refine jZ ?hy ?_);case hy=>rfl)|((with_reducible refine jF ?hy ?_);case hy=>decide))
 exact fin
theorem dSame_ok (h : RoM H o T ids p n) {u v : Nat} (hu : u < n) (hv : v < n) (fin : L (.tuple #[.bool (decide (p u = p v)), .int .i64 0]) H) :
  CallsH Try.prog 34 #[.pointer (some ⟨o, 0, none⟩), .int .i64 (u : Nat), .int .i64 (v : Nat)] H L := by
 obtain ⟨vb, Bb, gb, h1, h2, h3, _⟩ := id h.ex
 have c1 := h1.cellOf (i := 2) rfl
 have c2 := h3.cell (vr_get (f := nI p) hu)
 have c3 := h3.cell (vr_get (f := nI p) hv)
 have t1 : (u < n) = True := eq_true hu
 have t2 : (v < n) = True := eq_true hv
 have t3 : ((nI p u) == (nI p v)) = decide (p u = p v) := by
  unfold nI
  by_cases e : p u = p v
  ·simp [e]
  ·rw [decide_eq_false e]; exact beq_false_of_ne (by omega)
 refine call34 (by simp) ?_
 simp only [Try.f34, Option.getD_some]
 repeat' (first|(with_reducible first|refine jA ?_|(refine hK _ _ ?_;clear hK K)|refine jJ fun K hK=>?_|refine jK ?_|refine jL ?_|refine jM ?_|refine jN ?_|refine jO ?_|refine jP ?_|refine jQ ?_|(refine jB ?_;clear hK K)|(refine jC ?_;clear hK K)|refine jD ?_|refine jE ?_|refine jG ?_|refine jH ?_|refine jI ?_)|((with_reducible refine jR ?hq ?_);case hq=>rfl)|((first|(with_reducible first|refine jS fun K hK=>?_|refine jT ?_|refine jU ?_)|((with_reducible refine jV ?hy fun K hK=>?_);case hy=>rfl));simp only [go_sem, Nat.reduceEqDiff, Nat.reduceAdd, Nat.reduceMul, Nat.reduceLeDiff, Nat.reduceLT, Int.reduceLT, Int.reduceLE, Int.reduceEq, Int.reduceNeg, Int.reduceToNat, Nat.reducePow, reduceIte, reduceCtorEq])|((with_reducible first|refine jW ?hy ?_|refine jY ?hy ?_);case hy=>rfl)|((with_reducible first|refine jX ?hy ?_|refine jZ ?hy ?_);case hy=>rfl)|((with_reducible refine jF ?hy ?_);case hy=>decide))
 refine dhas_ok h ?_
 rw [decide_eq_true (⟨by omega, by omega⟩ : (0 : Int) ≤ (u : Int) ∧ (u : Int) < n)]
 repeat' (first|(with_reducible first|refine jA ?_|(refine hK _ _ ?_;clear hK K)|refine jJ fun K hK=>?_|refine jK ?_|refine jL ?_|refine jM ?_|refine jN ?_|refine jO ?_|refine jP ?_|refine jQ ?_|(refine jB ?_;clear hK K)|(refine jC ?_;clear hK K)|refine jD ?_|refine jE ?_|refine jG ?_|refine jH ?_|refine jI ?_)|((with_reducible refine jR ?hq ?_);case hq=>rfl)|((first|(with_reducible first|refine jS fun K hK=>?_|refine jT ?_|refine jU ?_)|((with_reducible refine jV ?hy fun K hK=>?_);case hy=>rfl));simp only [go_sem, Nat.reduceEqDiff, Nat.reduceAdd, Nat.reduceMul, Nat.reduceLeDiff, Nat.reduceLT, Int.reduceLT, Int.reduceLE, Int.reduceEq, Int.reduceNeg, Int.reduceToNat, Nat.reducePow, reduceIte, reduceCtorEq])|((with_reducible first|refine jW ?hy ?_|refine jY ?hy ?_);case hy=>rfl)|((with_reducible first|refine jX ?hy ?_|refine jZ ?hy ?_);case hy=>rfl)|((with_reducible refine jF ?hy ?_);case hy=>decide))
 refine dhas_ok h ?_
 rw [decide_eq_true (⟨by omega, by omega⟩ : (0 : Int) ≤ (v : Int) ∧ (v : Int) < n)]
 repeat' (first|(with_reducible first|refine jA ?_|(refine hK _ _ ?_;clear hK K)|refine jJ fun K hK=>?_|refine jK ?_|refine jL ?_|refine jM ?_|refine jN ?_|refine jO ?_|refine jP ?_|refine jQ ?_|(refine jB ?_;clear hK K)|(refine jC ?_;clear hK K)|refine jD ?_|refine jE ?_|refine jG ?_|refine jH ?_|refine jI ?_)|((with_reducible refine jR ?hq ?_);case hq=>rfl)|((first|(with_reducible first|refine jS fun K hK=>?_|refine jT ?_|refine jU ?_)|((with_reducible refine jV ?hy fun K hK=>?_);case hy=>rfl));simp only [go_sem, Nat.reduceEqDiff, Nat.reduceAdd, Nat.reduceMul, Nat.reduceLeDiff, Nat.reduceLT, Int.reduceLT, Int.reduceLE, Int.reduceEq, Int.reduceNeg, Int.reduceToNat, Nat.reducePow, reduceIte, reduceCtorEq, c1, c2, c3, t1, t2, t3, Bool.not_true])|((with_reducible first|refine jW ?hy ?_|refine jY ?hy ?_);case hy=>rfl)|((with_reducible first|refine jX ?hy ?_|refine jZ ?hy ?_);case hy=>rfl)|((with_reducible refine jF ?hy ?_);case hy=>decide))
 exact fin
theorem dSame_bad (h : RoM H o T ids p n) {u v : Int} (hk : ¬ ((0 ≤ u ∧ u < n) ∧ 0 ≤ v ∧ v < n)) (fin : L (.tuple #[.bool false, .int .i64 80]) H) :
  CallsH Try.prog 34 #[.pointer (some ⟨o, 0, none⟩), .int .i64 u, .int .i64 v] H L := by
 refine call34 (by simp) ?_
 simp only [Try.f34, Option.getD_some]
 by_cases hu : 0 ≤ u ∧ u < n
 ·repeat' (first|(with_reducible first|refine jA ?_|(refine hK _ _ ?_;clear hK K)|refine jJ fun K hK=>?_|refine jK ?_|refine jL ?_|refine jM ?_|refine jN ?_|refine jO ?_|refine jP ?_|refine jQ ?_|(refine jB ?_;clear hK K)|(refine jC ?_;clear hK K)|refine jD ?_|refine jE ?_|refine jG ?_|refine jH ?_|refine jI ?_)|((with_reducible refine jR ?hq ?_);case hq=>rfl)|((first|(with_reducible first|refine jS fun K hK=>?_|refine jT ?_|refine jU ?_)|((with_reducible refine jV ?hy fun K hK=>?_);case hy=>rfl));simp only [go_sem, Nat.reduceEqDiff, Nat.reduceAdd, Nat.reduceMul, Nat.reduceLeDiff, Nat.reduceLT, Int.reduceLT, Int.reduceLE, Int.reduceEq, Int.reduceNeg, Int.reduceToNat, Nat.reducePow, reduceIte, reduceCtorEq])|((with_reducible first|refine jW ?hy ?_|refine jY ?hy ?_);case hy=>rfl)|((with_reducible first|refine jX ?hy ?_|refine jZ ?hy ?_);case hy=>rfl)|((with_reducible refine jF ?hy ?_);case hy=>decide))
  refine dhas_ok h ?_
  rw [decide_eq_true hu]
  repeat' (first|(with_reducible first|refine jA ?_|(refine hK _ _ ?_;clear hK K)|refine jJ fun K hK=>?_|refine jK ?_|refine jL ?_|refine jM ?_|refine jN ?_|refine jO ?_|refine jP ?_|refine jQ ?_|(refine jB ?_;clear hK K)|(refine jC ?_;clear hK K)|refine jD ?_|refine jE ?_|refine jG ?_|refine jH ?_|refine jI ?_)|((with_reducible refine jR ?hq ?_);case hq=>rfl)|((first|(with_reducible first|refine jS fun K hK=>?_|refine jT ?_|refine jU ?_)|((with_reducible refine jV ?hy fun K hK=>?_);case hy=>rfl));simp only [go_sem, Nat.reduceEqDiff, Nat.reduceAdd, Nat.reduceMul, Nat.reduceLeDiff, Nat.reduceLT, Int.reduceLT, Int.reduceLE, Int.reduceEq, Int.reduceNeg, Int.reduceToNat, Nat.reducePow, reduceIte, reduceCtorEq])|((with_reducible first|refine jW ?hy ?_|refine jY ?hy ?_);case hy=>rfl)|((with_reducible first|refine jX ?hy ?_|refine jZ ?hy ?_);case hy=>rfl)|((with_reducible refine jF ?hy ?_);case hy=>decide))
  refine dhas_ok h ?_
  rw [decide_eq_false fun e => hk ⟨hu, e⟩]
  repeat' (first|(with_reducible first|refine jA ?_|(refine hK _ _ ?_;clear hK K)|refine jJ fun K hK=>?_|refine jK ?_|refine jL ?_|refine jM ?_|refine jN ?_|refine jO ?_|refine jP ?_|refine jQ ?_|(refine jB ?_;clear hK K)|(refine jC ?_;clear hK K)|refine jD ?_|refine jE ?_|refine jG ?_|refine jH ?_|refine jI ?_)|((with_reducible refine jR ?hq ?_);case hq=>rfl)|((first|(with_reducible first|refine jS fun K hK=>?_|refine jT ?_|refine jU ?_)|((with_reducible refine jV ?hy fun K hK=>?_);case hy=>rfl));simp only [go_sem, Nat.reduceEqDiff, Nat.reduceAdd, Nat.reduceMul, Nat.reduceLeDiff, Nat.reduceLT, Int.reduceLT, Int.reduceLE, Int.reduceEq, Int.reduceNeg, Int.reduceToNat, Nat.reducePow, reduceIte, reduceCtorEq, Bool.not_true, Bool.not_false])|((with_reducible first|refine jW ?hy ?_|refine jY ?hy ?_);case hy=>rfl)|((with_reducible first|refine jX ?hy ?_|refine jZ ?hy ?_);case hy=>rfl)|((with_reducible refine jF ?hy ?_);case hy=>decide))
  exact fin
 ·repeat' (first|(with_reducible first|refine jA ?_|(refine hK _ _ ?_;clear hK K)|refine jJ fun K hK=>?_|refine jK ?_|refine jL ?_|refine jM ?_|refine jN ?_|refine jO ?_|refine jP ?_|refine jQ ?_|(refine jB ?_;clear hK K)|(refine jC ?_;clear hK K)|refine jD ?_|refine jE ?_|refine jG ?_|refine jH ?_|refine jI ?_)|((with_reducible refine jR ?hq ?_);case hq=>rfl)|((first|(with_reducible first|refine jS fun K hK=>?_|refine jT ?_|refine jU ?_)|((with_reducible refine jV ?hy fun K hK=>?_);case hy=>rfl));simp only [go_sem, Nat.reduceEqDiff, Nat.reduceAdd, Nat.reduceMul, Nat.reduceLeDiff, Nat.reduceLT, Int.reduceLT, Int.reduceLE, Int.reduceEq, Int.reduceNeg, Int.reduceToNat, Nat.reducePow, reduceIte, reduceCtorEq])|((with_reducible first|refine jW ?hy ?_|refine jY ?hy ?_);case hy=>rfl)|((with_reducible first|refine jX ?hy ?_|refine jZ ?hy ?_);case hy=>rfl)|((with_reducible refine jF ?hy ?_);case hy=>decide))
  refine dhas_ok h ?_
  rw [decide_eq_false hu]
  repeat' (first|(with_reducible first|refine jA ?_|(refine hK _ _ ?_;clear hK K)|refine jJ fun K hK=>?_|refine jK ?_|refine jL ?_|refine jM ?_|refine jN ?_|refine jO ?_|refine jP ?_|refine jQ ?_|(refine jB ?_;clear hK K)|(refine jC ?_;clear hK K)|refine jD ?_|refine jE ?_|refine jG ?_|refine jH ?_|refine jI ?_)|((with_reducible refine jR ?hq ?_);case hq=>rfl)|((first|(with_reducible first|refine jS fun K hK=>?_|refine jT ?_|refine jU ?_)|((with_reducible refine jV ?hy fun K hK=>?_);case hy=>rfl));simp only [go_sem, Nat.reduceEqDiff, Nat.reduceAdd, Nat.reduceMul, Nat.reduceLeDiff, Nat.reduceLT, Int.reduceLT, Int.reduceLE, Int.reduceEq, Int.reduceNeg, Int.reduceToNat, Nat.reducePow, reduceIte, reduceCtorEq])|((with_reducible first|refine jW ?hy ?_|refine jY ?hy ?_);case hy=>rfl)|((with_reducible first|refine jX ?hy ?_|refine jZ ?hy ?_);case hy=>rfl)|((with_reducible refine jF ?hy ?_);case hy=>decide))
  refine dhas_ok h ?_
  repeat' (first|(with_reducible first|refine jA ?_|(refine hK _ _ ?_;clear hK K)|refine jJ fun K hK=>?_|refine jK ?_|refine jL ?_|refine jM ?_|refine jN ?_|refine jO ?_|refine jP ?_|refine jQ ?_|(refine jB ?_;clear hK K)|(refine jC ?_;clear hK K)|refine jD ?_|refine jE ?_|refine jG ?_|refine jH ?_|refine jI ?_)|((with_reducible refine jR ?hq ?_);case hq=>rfl)|((first|(with_reducible first|refine jS fun K hK=>?_|refine jT ?_|refine jU ?_)|((with_reducible refine jV ?hy fun K hK=>?_);case hy=>rfl));simp only [go_sem, Nat.reduceEqDiff, Nat.reduceAdd, Nat.reduceMul, Nat.reduceLeDiff, Nat.reduceLT, Int.reduceLT, Int.reduceLE, Int.reduceEq, Int.reduceNeg, Int.reduceToNat, Nat.reducePow, reduceIte, reduceCtorEq, Bool.not_false])|((with_reducible first|refine jW ?hy ?_|refine jY ?hy ?_);case hy=>rfl)|((with_reducible first|refine jX ?hy ?_|refine jZ ?hy ?_);case hy=>rfl)|((with_reducible refine jF ?hy ?_);case hy=>decide))
  exact fin
theorem dBlocks_ok (h : RoM H o T ids p n) (hn : n ≤ 64) (fin : L (.int .i64 (cnt n p : Nat)) H) :
  CallsH Try.prog 32 #[.pointer (some ⟨o, 0, none⟩)] H L := by
 obtain ⟨vb, Bb, gb, h1, h2, hq, _⟩ := id h.ex
 have c0 := h1.cellOf (i := 0) rfl
 have c2 := h1.cellOf (i := 2) rfl
 refine call32 (by simp) ?_
 simp only [Try.f32, Option.getD_some]
 repeat' (first|(with_reducible first|refine jA ?_|(refine hK _ _ ?_;clear hK K)|refine jJ fun K hK=>?_|refine jK ?_|refine jL ?_|refine jM ?_|refine jN ?_|refine jO ?_|refine jP ?_|refine jQ ?_|(refine jB ?_;clear hK K)|(refine jC ?_;clear hK K)|refine jD ?_|refine jE ?_|refine jG ?_|refine jH ?_|refine jI ?_)|((with_reducible refine jR ?hq ?_);case hq=>rfl)|((first|(with_reducible first|refine jS fun K hK=>?_|refine jT ?_|refine jU ?_)|((with_reducible refine jV ?hy fun K hK=>?_);case hy=>rfl));simp only [go_sem, Nat.reduceEqDiff, Nat.reduceAdd, Nat.reduceMul, Nat.reduceLeDiff, Nat.reduceLT, Int.reduceLT, Int.reduceLE, Int.reduceEq, Int.reduceNeg, Int.reduceToNat, Nat.reducePow, reduceIte, reduceCtorEq])|((with_reducible first|refine jW ?hy ?_|refine jY ?hy ?_);case hy=>rfl)|((with_reducible first|refine jX ?hy ?_|refine jZ ?hy ?_);case hy=>rfl)|((with_reducible refine jF ?hy ?_);case hy=>decide))
 refine x_loop (fun m e' H' => H' = H ∧ ∃ i : Nat, e' 4 = .int .i64 (i : Nat) ∧ e' 3 = .int .i64 (cnt i p : Nat) ∧ i ≤ n ∧ m = n - i) n ⟨rfl, 0, rfl, rfl, Nat.zero_le _, rfl⟩ ?_
 rintro m e1 H2 ⟨rfl, i, i4, i3, hi, hm⟩ hoff
 have i0 : e1 0 = .pointer (some ⟨o, 0, none⟩) := (hoff 0 rfl).trans rfl
 clear hoff
 have cw : IntKind.i64.wrap ((cnt i p : Nat) + 1 : Int) = ((cnt i p + 1 : Nat) : Int) := by have := cnt_le i p; rw [wrap_i64] <;> omega
 have ew : IntKind.i64.wrap ((i : Int) + 1) = ((i + 1 : Nat) : Int) := by rw [wrap_i64] <;> omega
 by_cases hlt : i < n
 ·have t1 : ((i : Int) < (n : Int)) = True := eq_true (by omega)
  have t1' : (i < n) = True := eq_true hlt
  have ci := hq.cell (vr_get (f := nI p) hlt)
  by_cases he : p i = i
  ·have t2 : ((nI p i) == (i : Int)) = true := by simp [nI, he]
   repeat' (first|(with_reducible first|refine jA ?_|(refine hK _ _ ?_;clear hK K)|refine jJ fun K hK=>?_|refine jK ?_|refine jL ?_|refine jM ?_|refine jN ?_|refine jO ?_|refine jP ?_|refine jQ ?_|(refine jB ?_;clear hK K)|(refine jC ?_;clear hK K)|refine jD ?_|refine jE ?_|refine jG ?_|refine jH ?_|refine jI ?_)|((with_reducible refine jR ?hq ?_);case hq=>rfl)|((first|(with_reducible first|refine jS fun K hK=>?_|refine jT ?_|refine jU ?_)|((with_reducible refine jV ?hy fun K hK=>?_);case hy=>rfl));simp only [go_sem, Nat.reduceEqDiff, Nat.reduceAdd, Nat.reduceMul, Nat.reduceLeDiff, Nat.reduceLT, Int.reduceLT, Int.reduceLE, Int.reduceEq, Int.reduceNeg, Int.reduceToNat, Nat.reducePow, reduceIte, reduceCtorEq, i0, i4, i3, c0, c2, t1, t1', ci, t2, cw, ew])|((with_reducible first|refine jW ?hy ?_|refine jY ?hy ?_);case hy=>rfl)|((with_reducible first|refine jX ?hy ?_|refine jZ ?hy ?_);case hy=>rfl)|((with_reducible refine jF ?hy ?_);case hy=>decide))
   exact loop_normal (m' := n - (i + 1)) (by omega) ⟨rfl, i + 1, rfl, by rw [cnt_succ, if_pos he]; rfl, hlt, rfl⟩
  ·have t2 : ((nI p i) == (i : Int)) = false := beq_false_of_ne (by unfold nI; omega)
   repeat' (first|(with_reducible first|refine jA ?_|(refine hK _ _ ?_;clear hK K)|refine jJ fun K hK=>?_|refine jK ?_|refine jL ?_|refine jM ?_|refine jN ?_|refine jO ?_|refine jP ?_|refine jQ ?_|(refine jB ?_;clear hK K)|(refine jC ?_;clear hK K)|refine jD ?_|refine jE ?_|refine jG ?_|refine jH ?_|refine jI ?_)|((with_reducible refine jR ?hq ?_);case hq=>rfl)|((first|(with_reducible first|refine jS fun K hK=>?_|refine jT ?_|refine jU ?_)|((with_reducible refine jV ?hy fun K hK=>?_);case hy=>rfl));simp only [go_sem, Nat.reduceEqDiff, Nat.reduceAdd, Nat.reduceMul, Nat.reduceLeDiff, Nat.reduceLT, Int.reduceLT, Int.reduceLE, Int.reduceEq, Int.reduceNeg, Int.reduceToNat, Nat.reducePow, reduceIte, reduceCtorEq, i0, i4, c0, c2, t1, t1', ci, t2, ew])|((with_reducible first|refine jW ?hy ?_|refine jY ?hy ?_);case hy=>rfl)|((with_reducible first|refine jX ?hy ?_|refine jZ ?hy ?_);case hy=>rfl)|((with_reducible refine jF ?hy ?_);case hy=>decide))
   exact loop_normal (m' := n - (i + 1)) (by omega) ⟨rfl, i + 1, rfl, by rw [cnt_succ, if_neg he]; exact i3, hlt, rfl⟩
 ·have t1 : ((i : Int) < (n : Int)) = False := eq_false (by omega)
  have t1' : (i < n) = False := eq_false hlt
  obtain rfl : i = n := by omega
  repeat' (first|(with_reducible first|refine jA ?_|(refine hK _ _ ?_;clear hK K)|refine jJ fun K hK=>?_|refine jK ?_|refine jL ?_|refine jM ?_|refine jN ?_|refine jO ?_|refine jP ?_|refine jQ ?_|(refine jB ?_;clear hK K)|(refine jC ?_;clear hK K)|refine jD ?_|refine jE ?_|refine jG ?_|refine jH ?_|refine jI ?_)|((with_reducible refine jR ?hq ?_);case hq=>rfl)|((first|(with_reducible first|refine jS fun K hK=>?_|refine jT ?_|refine jU ?_)|((with_reducible refine jV ?hy fun K hK=>?_);case hy=>rfl));simp only [go_sem, Nat.reduceEqDiff, Nat.reduceAdd, Nat.reduceMul, Nat.reduceLeDiff, Nat.reduceLT, Int.reduceLT, Int.reduceLE, Int.reduceEq, Int.reduceNeg, Int.reduceToNat, Nat.reducePow, reduceIte, reduceCtorEq, i0, i4, i3, c0, t1, t1'])|((with_reducible first|refine jW ?hy ?_|refine jY ?hy ?_);case hy=>rfl)|((with_reducible first|refine jX ?hy ?_|refine jZ ?hy ?_);case hy=>rfl)|((with_reducible refine jF ?hy ?_);case hy=>decide))
  exact fin
theorem dBridges_ok (h : RoM H o T ids p n) (hl : ids.length ≤ 100000) (fin : ∀ H' B v, IR H' B v ids → (∀ b, B = some b → H.size ≤ b) → Fr (fun _ => False) H H' → L v H') :
  CallsH Try.prog 31 #[.pointer (some ⟨o, 0, none⟩)] H L := by
 obtain ⟨vb, Bb, gb, h1, h2, h3, _⟩ := id h.ex
 have c1 := h1.cellOf (i := 1) rfl
 obtain ⟨sb, cb, rfl⟩ := id h2.slice
 refine call31 (by simp) ?_
 simp only [Try.f31, Option.getD_some]
 repeat' (first|(with_reducible first|refine jA ?_|(refine hK _ _ ?_;clear hK K)|refine jJ fun K hK=>?_|refine jK ?_|refine jL ?_|refine jM ?_|refine jN ?_|refine jO ?_|refine jP ?_|refine jQ ?_|(refine jB ?_;clear hK K)|(refine jC ?_;clear hK K)|refine jD ?_|refine jE ?_|refine jG ?_|refine jH ?_|refine jI ?_)|((with_reducible refine jR ?hq ?_);case hq=>rfl)|((first|(with_reducible first|refine jS fun K hK=>?_|refine jT ?_|refine jU ?_)|((with_reducible refine jV ?hy fun K hK=>?_);case hy=>rfl));simp only [go_sem, Nat.reduceEqDiff, Nat.reduceAdd, Nat.reduceMul, Nat.reduceLeDiff, Nat.reduceLT, Int.reduceLT, Int.reduceLE, Int.reduceEq, Int.reduceNeg, Int.reduceToNat, Nat.reducePow, reduceIte, reduceCtorEq, c1])|((with_reducible first|refine jW ?hy ?_|refine jY ?hy ?_);case hy=>rfl)|((with_reducible first|refine jX ?hy ?_|refine jZ ?hy ?_);case hy=>rfl)|((with_reducible refine jF ?hy ?_);case hy=>decide))
 refine append_irp (lo := 0) (hi := ids.length) elems32 tl3 (IR.nil H) h2 (Nat.zero_le _) (Nat.le_refl _) (whole_st _ _ _) rfl (by decide) (by simp; omega) rfl fun w1 H1 B1 hw hf hB => ?_
 rw [List.drop_zero, Nat.sub_zero, List.take_length, List.nil_append] at hw
 repeat' (first|(with_reducible first|refine jA ?_|(refine hK _ _ ?_;clear hK K)|refine jJ fun K hK=>?_|refine jK ?_|refine jL ?_|refine jM ?_|refine jN ?_|refine jO ?_|refine jP ?_|refine jQ ?_|(refine jB ?_;clear hK K)|(refine jC ?_;clear hK K)|refine jD ?_|refine jE ?_|refine jG ?_|refine jH ?_|refine jI ?_)|((with_reducible refine jR ?hq ?_);case hq=>rfl)|((first|(with_reducible first|refine jS fun K hK=>?_|refine jT ?_|refine jU ?_)|((with_reducible refine jV ?hy fun K hK=>?_);case hy=>rfl));simp only [go_sem, Nat.reduceEqDiff, Nat.reduceAdd, Nat.reduceMul, Nat.reduceLeDiff, Nat.reduceLT, Int.reduceLT, Int.reduceLE, Int.reduceEq, Int.reduceNeg, Int.reduceToNat, Nat.reducePow, reduceIte, reduceCtorEq])|((with_reducible first|refine jW ?hy ?_|refine jY ?hy ?_);case hy=>rfl)|((with_reducible first|refine jX ?hy ?_|refine jZ ?hy ?_);case hy=>rfl)|((with_reducible refine jF ?hy ?_);case hy=>decide))
 refine fin H1 B1 _ hw (fun b hb => ?_) (hf.mono fun b _ h => by cases h)
 rcases hB with e | ⟨g', hg, hge⟩
 ·rw [e] at hb; cases hb
 ·rw [hg] at hb
  obtain rfl := Option.some.inj hb
  exact hge
end
end Go.Proofs.Ytpeaogldojepnaa
