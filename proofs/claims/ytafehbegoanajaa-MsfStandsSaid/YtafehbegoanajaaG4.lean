/-
  Linked trees in memory: what is told of the way between two vertices; Most.
  Most: where there is none.
  Linked trees: roots behind a link; trees that grow vertex by vertex; Link told by roots.
  Linked trees beside their list of edges.
  Least spanning forests, plain: an edge is of it just if lighter ones do not join its ends; an edge more, an edge less; the heaviest edge of a way.
  Linked trees told by their list of edges: joined, the heaviest on the way, an edge more, an edge less.
  A forest in memory; its small functions.
-/
import Derived.Test.YtafehbegoanajaaG3
import Derived.Test.YtafehbegoanajaaG0
import Derived.Test.YtafehbegoanajaaHpMb
import Derived.Test.YtafehbegoanajaaHpLb
import Derived.Test.YtafehbegoanajaaHpCR
import Derived.Test.YtafehbegoanajaaHpU
namespace Go.Li
open Go Go.Hp
theorem ev_turn {par : Par} {h0 r0 : Nat} {l : List Nat} (hl : Ch par h0 l) (hz : h0 ≠ 0) (hr : l.getLast? = some r0) : Ch (ev par 0 l) r0 l.reverse := by
 have hn := hl.nodup
 have hnz := hl.nz hz
 rcases List.eq_nil_or_concat l with e | ⟨q, z, e⟩
 ·exact absurd e hl.ne
 ·rw [List.concat_eq_append] at e
  subst e
  have e2 : z = r0 := by simpa using hr
  subst e2
  have := ev_chain (par := par) (r := []) (x := z) (p := q.reverse) (by simpa using hn) (fun h => by simp at h hnz; exact hnz.1 h)
  simpa using this
def IsMost (E : Es) (P : List Nat) (e : Ed) : Prop := ∃ b ∈ P, E b = some e ∧ ∀ x ∈ P, ∀ e', E x = some e' → x = b ∨ heavy e e' = true
theorem SP.edge {S : Ls} (hk : S.Ok) {u v : Nat} {P : List Nat} (hu : u < S.n) (huv : u ≠ v) (h : SP S.par (u + 1) (v + 1) P) : ∃ x ∈ P, (S.E x).isSome = true := by
 obtain ⟨h1, h2, h3, h4⟩ := h
 match P, h1, h2, h4 with
 | [x], h1, h2, _ =>
  simp at h1 h2
  omega
 | x :: y :: r, h1, _, h4 =>
  have e1 : x = u + 1 := by simpa using h1
  subst e1
  exact ⟨y, by simp, hk.vx (u + 1) y (by omega) (by omega) h4.1⟩
end Go.Li
namespace Go.Proofs.Ytafehbegoanajaa
open Go Go.Hp Go.Li
set_option linter.all false
set_option maxRecDepth 100000
set_option maxHeartbeats 1600000
section
variable {H H' : Heap} {t g c len r : Nat} {Bf : Option Nat} {vf : Value} {S : Ls} {N N' : Nodes} {rows rows' : List (List Nat)} {ids : Int → Option Nat} {fr : List Nat} {T : Nat → Prop} {K : Value → Heap → Prop}
theorem way_ok {u v q d r0 fn : Nat} {Q : Nat → Prop} {PO : Heap → Prop} (h : LtAt H t g c len r Bf vf S N rows ids fr) (hu : u < S.n) (hv : v < S.n) (hru : RootOf S.par (u + 1) r0) (hrv : RootOf S.par (v + 1) r0)
  (hPO : ∀ H1 H2, PO H1 → Fr (· = g) H1 H2 → PO H2)
  (cb : ∀ H1 N1 par1 a R K', NA H1 t g c len N1 → Acc N1 S.E par1 ((a.list ++ [v + 1]) :: R) S.V (v + 1) a R → SP S.par (u + 1) (v + 1) (a.list ++ [v + 1]) → Fr (· = g) H H1 →
   (∀ H2 N2 rows2, NA H2 t g c len N2 → LC N2 S.E par1 rows2 S.V → Fr (fun b => b = g ∨ Q b) H1 H2 → PO H2 → K' (.tuple #[]) H2) →
   CallsH Try.prog fn #[.int .i64 ((v + 1 : Nat) : Int), .pointer (some ⟨q, 0, none⟩), .pointer (some ⟨d, 0, none⟩)] H1 K')
  (fin : ∀ H' N' rows', NA H' t g c len N' → LC N' S.E S.par rows' S.V → Fr (fun b => b = g ∨ Q b) H H' → PO H' → K (.tuple #[]) H') :
  CallsH Try.prog 45 #[.pointer (some ⟨t, 0, none⟩), .int .i64 (u : Nat), .int .i64 (v : Nat), .func (.func fn) #[] #[.pointer (some ⟨q, 0, none⟩), .pointer (some ⟨d, 0, none⟩)]] H K := by
 have hn := h.ok.n64
 have ew : IntKind.i64.wrap ((u : Int) + 1) = ((u + 1 : Nat) : Int) := by rw [wrap_i64] <;> omega
 have ew2 : IntKind.i64.wrap ((v : Int) + 1) = ((v + 1 : Nat) : Int) := by rw [wrap_i64] <;> omega
 obtain ⟨P, hP, m, hm, hc⟩ := SP.exists (by omega) hru hrv
 have hmr : m.getLast? = some r0 := by
  obtain ⟨l, h1, h2⟩ := hru
  rw [hm.uniq h1]; exact h2
 have hVr : S.V r0 := h.ok.live hm (Ls.vtx hu) _ (List.mem_of_getLast? hmr)
 have hback := ev_turn hm (by omega) hmr
 have e3 := ev_back hm (by omega)
 refine call45 (by simp) ?_
 simp only [Try.f45, Option.getD_some]
 repeat' (first|(with_reducible first|refine jA ?_|(refine hK _ _ ?_;clear hK K)|refine jJ fun K hK=>?_|refine jK ?_|refine jL ?_|refine jM ?_|refine jN ?_|refine jO ?_|refine jP ?_|refine jQ ?_|(refine jB ?_;clear hK K)|(refine jC ?_;clear hK K)|refine jD ?_|refine jE ?_|refine jG ?_|refine jH ?_|refine jI ?_)|((with_reducible refine jR ?hq ?_);case hq=>rfl)|((first|(with_reducible first|refine jS fun K hK=>?_|refine jT ?_|refine jU ?_)|((with_reducible refine jV ?hy fun K hK=>?_);case hy=>rfl));simp only [go_sem, Nat.reduceEqDiff, Nat.reduceAdd, Nat.reduceMul, Nat.reduceLeDiff, Nat.reduceLT, Int.reduceLT, Int.reduceLE, Int.reduceEq, Int.reduceNeg, Int.reduceToNat, Nat.reducePow, reduceIte, reduceCtorEq, ew])|((with_reducible first|refine jW ?hy ?_|refine jY ?hy ?_);case hy=>rfl)|((with_reducible first|refine jX ?hy ?_|refine jZ ?hy ?_);case hy=>rfl)|((with_reducible refine jF ?hy ?_);case hy=>decide))
 refine root_ok h.na h.lc h.lt (Ls.vtx hu) hru fun H1 N1 rows1 hN1 hL1 hf1 => ?_
 repeat' (first|(with_reducible first|refine jA ?_|(refine hK _ _ ?_;clear hK K)|refine jJ fun K hK=>?_|refine jK ?_|refine jL ?_|refine jM ?_|refine jN ?_|refine jO ?_|refine jP ?_|refine jQ ?_|(refine jB ?_;clear hK K)|(refine jC ?_;clear hK K)|refine jD ?_|refine jE ?_|refine jG ?_|refine jH ?_|refine jI ?_)|((with_reducible refine jR ?hq ?_);case hq=>rfl)|((first|(with_reducible first|refine jS fun K hK=>?_|refine jT ?_|refine jU ?_)|((with_reducible refine jV ?hy fun K hK=>?_);case hy=>rfl));simp only [go_sem, Nat.reduceEqDiff, Nat.reduceAdd, Nat.reduceMul, Nat.reduceLeDiff, Nat.reduceLT, Int.reduceLT, Int.reduceLE, Int.reduceEq, Int.reduceNeg, Int.reduceToNat, Nat.reducePow, reduceIte, reduceCtorEq, ew])|((with_reducible first|refine jW ?hy ?_|refine jY ?hy ?_);case hy=>rfl)|((with_reducible first|refine jX ?hy ?_|refine jZ ?hy ?_);case hy=>rfl)|((with_reducible refine jF ?hy ?_);case hy=>decide))
 refine evert_ok hN1 hL1 h.lt (Ls.vtx hu) hm fun H2 N2 R2 b2 hN2 hL2 _ _ hf2 => ?_
 repeat' (first|(with_reducible first|refine jA ?_|(refine hK _ _ ?_;clear hK K)|refine jJ fun K hK=>?_|refine jK ?_|refine jL ?_|refine jM ?_|refine jN ?_|refine jO ?_|refine jP ?_|refine jQ ?_|(refine jB ?_;clear hK K)|(refine jC ?_;clear hK K)|refine jD ?_|refine jE ?_|refine jG ?_|refine jH ?_|refine jI ?_)|((with_reducible refine jR ?hq ?_);case hq=>rfl)|((first|(with_reducible first|refine jS fun K hK=>?_|refine jT ?_|refine jU ?_)|((with_reducible refine jV ?hy fun K hK=>?_);case hy=>rfl));simp only [go_sem, Nat.reduceEqDiff, Nat.reduceAdd, Nat.reduceMul, Nat.reduceLeDiff, Nat.reduceLT, Int.reduceLT, Int.reduceLE, Int.reduceEq, Int.reduceNeg, Int.reduceToNat, Nat.reducePow, reduceIte, reduceCtorEq, ew2])|((with_reducible first|refine jW ?hy ?_|refine jY ?hy ?_);case hy=>rfl)|((with_reducible first|refine jX ?hy ?_|refine jZ ?hy ?_);case hy=>rfl)|((with_reducible refine jF ?hy ?_);case hy=>decide))
 refine access_ok hN2 hL2 h.lt (Ls.vtx hv) fun H3 N3 a R hN3 hA hf3 => ?_
 have eP : P = a.list ++ [v + 1] := by
  have := hc.uniq hA.ch
  have := congrArg List.reverse this
  simpa using this
 subst eP
 repeat' (first|(with_reducible first|refine jA ?_|(refine hK _ _ ?_;clear hK K)|refine jJ fun K hK=>?_|refine jK ?_|refine jL ?_|refine jM ?_|refine jN ?_|refine jO ?_|refine jP ?_|refine jQ ?_|(refine jB ?_;clear hK K)|(refine jC ?_;clear hK K)|refine jD ?_|refine jE ?_|refine jG ?_|refine jH ?_|refine jI ?_)|((with_reducible refine jR ?hq ?_);case hq=>rfl)|((first|(with_reducible first|refine jS fun K hK=>?_|refine jT ?_|refine jU ?_)|((with_reducible refine jV ?hy fun K hK=>?_);case hy=>rfl));simp only [go_sem, Nat.reduceEqDiff, Nat.reduceAdd, Nat.reduceMul, Nat.reduceLeDiff, Nat.reduceLT, Int.reduceLT, Int.reduceLE, Int.reduceEq, Int.reduceNeg, Int.reduceToNat, Nat.reducePow, reduceIte, reduceCtorEq, ew2])|((with_reducible first|refine jW ?hy ?_|refine jY ?hy ?_);case hy=>rfl)|((with_reducible first|refine jX ?hy ?_|refine jZ ?hy ?_);case hy=>rfl)|((with_reducible refine jF ?hy ?_);case hy=>decide))
 have hf13 := (hf1.trans hf2).trans hf3
 refine cb H3 N3 _ a R _ hN3 hA hP hf13 fun H4 N4 rows4 hN4 hL4 hf4 hp4 => ?_
 repeat' (first|(with_reducible first|refine jA ?_|(refine hK _ _ ?_;clear hK K)|refine jJ fun K hK=>?_|refine jK ?_|refine jL ?_|refine jM ?_|refine jN ?_|refine jO ?_|refine jP ?_|refine jQ ?_|(refine jB ?_;clear hK K)|(refine jC ?_;clear hK K)|refine jD ?_|refine jE ?_|refine jG ?_|refine jH ?_|refine jI ?_)|((with_reducible refine jR ?hq ?_);case hq=>rfl)|((first|(with_reducible first|refine jS fun K hK=>?_|refine jT ?_|refine jU ?_)|((with_reducible refine jV ?hy fun K hK=>?_);case hy=>rfl));simp only [go_sem, Nat.reduceEqDiff, Nat.reduceAdd, Nat.reduceMul, Nat.reduceLeDiff, Nat.reduceLT, Int.reduceLT, Int.reduceLE, Int.reduceEq, Int.reduceNeg, Int.reduceToNat, Nat.reducePow, reduceIte, reduceCtorEq])|((with_reducible first|refine jW ?hy ?_|refine jY ?hy ?_);case hy=>rfl)|((with_reducible first|refine jX ?hy ?_|refine jZ ?hy ?_);case hy=>rfl)|((with_reducible refine jF ?hy ?_);case hy=>decide))
 refine evert_ok hN4 hL4 h.lt hVr hback fun H5 N5 R5 b5 hN5 hL5 _ _ hf5 => ?_
 rw [e3] at hL5
 repeat' (first|(with_reducible first|refine jA ?_|(refine hK _ _ ?_;clear hK K)|refine jJ fun K hK=>?_|refine jK ?_|refine jL ?_|refine jM ?_|refine jN ?_|refine jO ?_|refine jP ?_|refine jQ ?_|(refine jB ?_;clear hK K)|(refine jC ?_;clear hK K)|refine jD ?_|refine jE ?_|refine jG ?_|refine jH ?_|refine jI ?_)|((with_reducible refine jR ?hq ?_);case hq=>rfl)|((first|(with_reducible first|refine jS fun K hK=>?_|refine jT ?_|refine jU ?_)|((with_reducible refine jV ?hy fun K hK=>?_);case hy=>rfl));simp only [go_sem, Nat.reduceEqDiff, Nat.reduceAdd, Nat.reduceMul, Nat.reduceLeDiff, Nat.reduceLT, Int.reduceLT, Int.reduceLE, Int.reduceEq, Int.reduceNeg, Int.reduceToNat, Nat.reducePow, reduceIte, reduceCtorEq])|((with_reducible first|refine jW ?hy ?_|refine jY ?hy ?_);case hy=>rfl)|((with_reducible first|refine jX ?hy ?_|refine jZ ?hy ?_);case hy=>rfl)|((with_reducible refine jF ?hy ?_);case hy=>decide))
 exact fin _ _ _ hN5 hL5 (((hf13.mono fun b _ e => .inl e).trans hf4).trans (hf5.mono fun b _ e => .inl e)) (hPO _ _ hp4 hf5)
theorem LtAt.keepQ {T0 : Nat → Prop} (h : LtAt H t g c len r Bf vf S N rows ids fr) (hN : NA H' t g c len N') (hL : LC N' S.E S.par rows' S.V) (hf : Fr T0 H H') (hT : ∀ b, (b = t ∨ b = r ∨ Bf = some b) → ¬ T0 b) : LtAt H' t g c len r Bf vf S N' rows' ids fr where
 hd := h.hd.frame hf (hT _ (.inl rfl))
 na := hN
 mp := ⟨_, h.mp.choose_spec.frame hf (hT _ (.inr (.inl rfl)))⟩
 fri := IR.frame h.fri hf fun b hb => hT _ (.inr (.inr hb))
 ap := h.ap
 ok := h.ok
 lc := hL
 id := h.id
 free := h.free
 frn := h.frn
 all := h.all
 lt := h.lt
 ln := h.ln
theorem store4 {H : Heap} {b : Nat} {x0 x1 x2 x3 : Value} (hb : Blk H b [x0, x1, x2, x3]) (v0 v1 v2 v3 : Value) :
  Blk (hset (hset (hset (hset H ⟨b, 0, none⟩ v0) ⟨b, 1, none⟩ v1) ⟨b, 2, none⟩ v2) ⟨b, 3, none⟩ v3) b [v0, v1, v2, v3] ∧ Fr (· = b) H (hset (hset (hset (hset H ⟨b, 0, none⟩ v0) ⟨b, 1, none⟩ v1) ⟨b, 2, none⟩ v2) ⟨b, 3, none⟩ v3) :=
 ⟨(((hb.set_same 0 v0).set_same 1 v1).set_same 2 v2).set_same 3 v3, (((hset_fr H b 0 v0).trans (hset_fr _ b 1 v1)).trans (hset_fr _ b 2 v2)).trans (hset_fr _ b 3 v3)⟩
theorem most1_ok {h q d : Nat} {a : Tr} {R : List (List Nat)} {par : Par} {E : Es} {V : Nat → Prop} {v0 v1 v2 v3 : Value} (hN : NA H t g c len N) (hA : Acc N E par ((a.list ++ [h]) :: R) V h a R) (hV : ∀ h, V h → h < len) (hd : Blk H d [v0, v1, v2, v3]) (hdg : d ≠ g) (hdt : d ≠ t)
  (hq : hcell H ⟨q, 0, none⟩ = some (.pointer (some ⟨t, 0, none⟩))) (he : ∃ x ∈ a.list ++ [h], (E x).isSome = true)
  (fin : ∀ H' e, IsMost E (a.list ++ [h]) e → NA H' t g c len N → Blk H' d e.cells → Fr (· = d) H H' → K (.tuple #[]) H') :
  CallsH Try.prog 46 #[.int .i64 (h : Nat), .pointer (some ⟨q, 0, none⟩), .pointer (some ⟨d, 0, none⟩)] H K := by
 have hlt := hV h (hA.lc.live (by simp))
 obtain ⟨b, hb⟩ : ∃ b, (N h).best = b := ⟨_, rfl⟩
 have hB : Best E b (a.list ++ [h]) := by have := hA.tree.2.2.2.2.1; rw [hb] at this; simpa [Tr.list] using this
 obtain ⟨x, hx, hxe⟩ := he
 rcases hB with ⟨_, h2⟩ | ⟨h1, e, h2, h3⟩
 ·rw [h2 x hx] at hxe; cases hxe
 have hblt := hV b (hA.lc.live h1)
 have hbe : (N b).e = e := hA.lc.eok.e b e h2
 have hd1 := hN.hd
 have c9 := hN.cell (j := 9) hlt rfl
 have x5 := hN.cell (j := 5) hblt rfl
 have x6 := hN.cell (j := 6) hblt rfl
 have x7 := hN.cell (j := 7) hblt rfl
 have x8 := hN.cell (j := 8) hblt rfl
 rw [hbe] at x5 x6 x7 x8
 rw [hb] at c9
 have o0 := hd.okW (i := 0) (by simp)
 have o1 := hd.okW (i := 1) (by simp)
 have o2 := hd.okW (i := 2) (by simp)
 have o3 := hd.okW (i := 3) (by simp)
 refine call46 (by simp) ?_
 simp only [Try.f46, Option.getD_some]
 repeat' (first|(with_reducible first|refine jA ?_|(refine hK _ _ ?_;clear hK K)|refine jJ fun K hK=>?_|refine jK ?_|refine jL ?_|refine jM ?_|refine jN ?_|refine jO ?_|refine jP ?_|refine jQ ?_|(refine jB ?_;clear hK K)|(refine jC ?_;clear hK K)|refine jD ?_|refine jE ?_|refine jG ?_|refine jH ?_|refine jI ?_)|((with_reducible refine jR ?hq ?_);case hq=>rfl)|((first|(with_reducible first|refine jS fun K hK=>?_|refine jT ?_|refine jU ?_)|((with_reducible refine jV ?hy fun K hK=>?_);case hy=>rfl));simp only [go_sem, Nat.reduceEqDiff, Nat.reduceAdd, Nat.reduceMul, Nat.reduceLeDiff, Nat.reduceLT, Int.reduceLT, Int.reduceLE, Int.reduceEq, Int.reduceNeg, Int.reduceToNat, Nat.reducePow, reduceIte, reduceCtorEq, hq, hd1, c9, x5, x6, x7, x8, hlt, hblt, o0, o1, o2, o3, okW_hset])|((with_reducible first|refine jW ?hy ?_|refine jY ?hy ?_);case hy=>rfl)|((with_reducible first|refine jX ?hy ?_|refine jZ ?hy ?_);case hy=>rfl)|((with_reducible refine jF ?hy ?_);case hy=>decide))
 refine fin _ e ⟨b, h1, h2, h3⟩ ?_ ?_ ?_
 ·have f := store4 hd (.int .i64 e.id) (.int .i64 e.u) (.int .i64 e.v) (.int .i64 e.w)
  exact hN.frame f.2 (Ne.symm hdt) (Ne.symm hdg)
 ·exact (store4 hd (.int .i64 e.id) (.int .i64 e.u) (.int .i64 e.v) (.int .i64 e.w)).1
 ·exact (store4 hd (.int .i64 e.id) (.int .i64 e.u) (.int .i64 e.v) (.int .i64 e.w)).2
theorem m_most {u v r0 : Nat} (h : LtM H t T S) (hu : u < S.n) (hv : v < S.n) (huv : u ≠ v) (hru : RootOf S.par (u + 1) r0) (hrv : RootOf S.par (v + 1) r0)
  (fin : ∀ H' P e, SP S.par (u + 1) (v + 1) P → IsMost S.E P e → LtM H' t T S → Fr T H H' → K (.tuple #[e.val, .int .i64 0]) H') :
  CallsH Try.prog 30 #[.pointer (some ⟨t, 0, none⟩), .int .i64 (u : Nat), .int .i64 (v : Nat)] H K := by
 obtain ⟨g, c, len, r, Bf, vf, N, rows, ids, fr, h, e⟩ := h
 have hn := h.ok.n64
 have ew : IntKind.i64.wrap ((u : Int) + 1) = ((u + 1 : Nat) : Int) := by rw [wrap_i64] <;> omega
 have ew2 : IntKind.i64.wrap ((v : Int) + 1) = ((v + 1 : Nat) : Int) := by rw [wrap_i64] <;> omega
 refine call30 (by simp) ?_
 simp only [Try.f30, Option.getD_some]
 repeat' (first|(with_reducible first|refine jA ?_|(refine hK _ _ ?_;clear hK K)|refine jJ fun K hK=>?_|refine jK ?_|refine jL ?_|refine jM ?_|refine jN ?_|refine jO ?_|refine jP ?_|refine jQ ?_|(refine jB ?_;clear hK K)|(refine jC ?_;clear hK K)|refine jD ?_|refine jE ?_|refine jG ?_|refine jH ?_|refine jI ?_)|((with_reducible refine jR ?hq ?_);case hq=>rfl)|((first|(with_reducible first|refine jS fun K hK=>?_|refine jT ?_|refine jU ?_)|((with_reducible refine jV ?hy fun K hK=>?_);case hy=>rfl));simp only [go_sem, Nat.reduceEqDiff, Nat.reduceAdd, Nat.reduceMul, Nat.reduceLeDiff, Nat.reduceLT, Int.reduceLT, Int.reduceLE, Int.reduceEq, Int.reduceNeg, Int.reduceToNat, Nat.reducePow, reduceIte, reduceCtorEq, Array.size_push])|((with_reducible first|refine jW ?hy ?_|refine jY ?hy ?_);case hy=>rfl)|((with_reducible first|refine jX ?hy ?_|refine jZ ?hy ?_);case hy=>rfl)|((with_reducible refine jF ?hy ?_);case hy=>decide))
 generalize eH1 : H.push (.cells #[.pointer (some ⟨t, 0, none⟩)] _) = H1
 generalize eH2 : H1.push _ = H2
 have f1 : Fr (fun _ => False) H H1 := by rw [← eH1]; exact (Fr.refl _ _).push _
 have f2 : Fr (fun _ => False) H1 H2 := by rw [← eH2]; exact (Fr.refl _ _).push _
 have s1 : H1.size = H.size + 1 := by rw [← eH1]; simp
 have s2 : H2.size = H1.size + 1 := by rw [← eH2]; simp
 have q1 : Blk H1 H.size [.pointer (some ⟨t, 0, none⟩)] := by rw [← eH1]; exact Blk.new H [.pointer (some ⟨t, 0, none⟩)] _
 have q2 : Blk H2 (H.size + 1) [.int .i64 0, .int .i64 0, .int .i64 0, .int .i64 0] := by rw [← s1, ← eH2]; exact Blk.new H1 [.int .i64 0, .int .i64 0, .int .i64 0, .int .i64 0] _
 have q12 := q1.frame f2 fun h => h
 have h2 := h.grow (f1.trans f2)
 have c1 := q12.cellOf (i := 0) rfl
 simp only [go_sem, Nat.reduceEqDiff, Nat.reduceAdd, Nat.reduceMul, Nat.reduceLeDiff, Nat.reduceLT, Int.reduceLT, Int.reduceLE, Int.reduceEq, Int.reduceNeg, Int.reduceToNat, Nat.reducePow, reduceIte, reduceCtorEq, c1]
 repeat' (first|(with_reducible first|refine jA ?_|(refine hK _ _ ?_;clear hK K)|refine jJ fun K hK=>?_|refine jK ?_|refine jL ?_|refine jM ?_|refine jN ?_|refine jO ?_|refine jP ?_|refine jQ ?_|(refine jB ?_;clear hK K)|(refine jC ?_;clear hK K)|refine jD ?_|refine jE ?_|refine jG ?_|refine jH ?_|refine jI ?_)|((with_reducible refine jR ?hq ?_);case hq=>rfl)|((first|(with_reducible first|refine jS fun K hK=>?_|refine jT ?_|refine jU ?_)|((with_reducible refine jV ?hy fun K hK=>?_);case hy=>rfl));simp only [go_sem, Nat.reduceEqDiff, Nat.reduceAdd, Nat.reduceMul, Nat.reduceLeDiff, Nat.reduceLT, Int.reduceLT, Int.reduceLE, Int.reduceEq, Int.reduceNeg, Int.reduceToNat, Nat.reducePow, reduceIte, reduceCtorEq])|((with_reducible first|refine jW ?hy ?_|refine jY ?hy ?_);case hy=>rfl)|((with_reducible first|refine jX ?hy ?_|refine jZ ?hy ?_);case hy=>rfl)|((with_reducible refine jF ?hy ?_);case hy=>decide))
 clear eH1 eH2
 have f12 := f1.trans f2
 refine hasA2 h2 fun H3 h3 hf3 => ?_
 rw [inB_of hu, inB_of hv]
 have c3 := (hf3.cell (a := ⟨H.size, 0, none⟩) (hcell_lt c1) id).trans c1
 have q23 := q2.frame hf3 id
 have huv' : ((u : Int) == (v : Int)) = false := by simp; omega
 repeat' (first|(with_reducible first|refine jA ?_|(refine hK _ _ ?_;clear hK K)|refine jJ fun K hK=>?_|refine jK ?_|refine jL ?_|refine jM ?_|refine jN ?_|refine jO ?_|refine jP ?_|refine jQ ?_|(refine jB ?_;clear hK K)|(refine jC ?_;clear hK K)|refine jD ?_|refine jE ?_|refine jG ?_|refine jH ?_|refine jI ?_)|((with_reducible refine jR ?hq ?_);case hq=>rfl)|((first|(with_reducible first|refine jS fun K hK=>?_|refine jT ?_|refine jU ?_)|((with_reducible refine jV ?hy fun K hK=>?_);case hy=>rfl));simp only [go_sem, Nat.reduceEqDiff, Nat.reduceAdd, Nat.reduceMul, Nat.reduceLeDiff, Nat.reduceLT, Int.reduceLT, Int.reduceLE, Int.reduceEq, Int.reduceNeg, Int.reduceToNat, Nat.reducePow, reduceIte, reduceCtorEq, Bool.and_self, c3, huv', ew, ew2])|((with_reducible first|refine jW ?hy ?_|refine jY ?hy ?_);case hy=>rfl)|((with_reducible first|refine jX ?hy ?_|refine jZ ?hy ?_);case hy=>rfl)|((with_reducible refine jF ?hy ?_);case hy=>decide))
 refine same_ok h3.na h3.lc h3.lt (Ls.vtx hu) (Ls.vtx hv) hru hrv fun H4 N4 rows4 hN4 hL4 hf4 => ?_
 rw [decide_eq_true rfl]
 have hg := h3.na.lt
 have hlH := h.na.lt
 have h4 := h3.keep hN4 hL4 hf4
 have c4 := (hf4.cell (a := ⟨H.size, 0, none⟩) (hcell_lt c3) (by show ¬ H.size = g; omega)).trans c3
 have q24 := q23.frame hf4 (show ¬ H.size + 1 = g by omega)
 repeat' (first|(with_reducible first|refine jA ?_|(refine hK _ _ ?_;clear hK K)|refine jJ fun K hK=>?_|refine jK ?_|refine jL ?_|refine jM ?_|refine jN ?_|refine jO ?_|refine jP ?_|refine jQ ?_|(refine jB ?_;clear hK K)|(refine jC ?_;clear hK K)|refine jD ?_|refine jE ?_|refine jG ?_|refine jH ?_|refine jI ?_)|((with_reducible refine jR ?hq ?_);case hq=>rfl)|((first|(with_reducible first|refine jS fun K hK=>?_|refine jT ?_|refine jU ?_)|((with_reducible refine jV ?hy fun K hK=>?_);case hy=>rfl));simp only [go_sem, Nat.reduceEqDiff, Nat.reduceAdd, Nat.reduceMul, Nat.reduceLeDiff, Nat.reduceLT, Int.reduceLT, Int.reduceLE, Int.reduceEq, Int.reduceNeg, Int.reduceToNat, Nat.reducePow, reduceIte, reduceCtorEq])|((with_reducible first|refine jW ?hy ?_|refine jY ?hy ?_);case hy=>rfl)|((with_reducible first|refine jX ?hy ?_|refine jZ ?hy ?_);case hy=>rfl)|((with_reducible refine jF ?hy ?_);case hy=>decide))
 generalize eH5 : H4.push _ = H5
 have f5 : Fr (fun _ => False) H4 H5 := by rw [← eH5]; exact (Fr.refl _ _).push _
 have s5 : H5.size = H4.size + 1 := by rw [← eH5]; simp
 have d5 : Blk H5 H4.size [.int .i64 0, .int .i64 0, .int .i64 0, .int .i64 0] := by rw [← eH5]; exact Blk.new H4 [.int .i64 0, .int .i64 0, .int .i64 0, .int .i64 0] _
 clear eH5
 have h5 := h4.grow f5
 have c5 := (f5.cell (a := ⟨H.size, 0, none⟩) (hcell_lt c4) id).trans c4
 have q25 := q24.frame f5 id
 have l4 := hcell_lt c4
 have l4' := q24.lt
 have hg4 := h4.na.lt
 simp only [] at l4
 simp only [go_sem, Nat.reduceEqDiff, Nat.reduceAdd, Nat.reduceMul, Nat.reduceLeDiff, Nat.reduceLT, Int.reduceLT, Int.reduceLE, Int.reduceEq, Int.reduceNeg, Int.reduceToNat, Nat.reducePow, reduceIte, reduceCtorEq, c5]
 repeat' (first|(with_reducible first|refine jA ?_|(refine hK _ _ ?_;clear hK K)|refine jJ fun K hK=>?_|refine jK ?_|refine jL ?_|refine jM ?_|refine jN ?_|refine jO ?_|refine jP ?_|refine jQ ?_|(refine jB ?_;clear hK K)|(refine jC ?_;clear hK K)|refine jD ?_|refine jE ?_|refine jG ?_|refine jH ?_|refine jI ?_)|((with_reducible refine jR ?hq ?_);case hq=>rfl)|((first|(with_reducible first|refine jS fun K hK=>?_|refine jT ?_|refine jU ?_)|((with_reducible refine jV ?hy fun K hK=>?_);case hy=>rfl));simp only [go_sem, Nat.reduceEqDiff, Nat.reduceAdd, Nat.reduceMul, Nat.reduceLeDiff, Nat.reduceLT, Int.reduceLT, Int.reduceLE, Int.reduceEq, Int.reduceNeg, Int.reduceToNat, Nat.reducePow, reduceIte, reduceCtorEq])|((with_reducible first|refine jW ?hy ?_|refine jY ?hy ?_);case hy=>rfl)|((with_reducible first|refine jX ?hy ?_|refine jZ ?hy ?_);case hy=>rfl)|((with_reducible refine jF ?hy ?_);case hy=>decide))
 refine way_ok (Q := (· = H4.size)) (PO := fun X => ∃ P e, SP S.par (u + 1) (v + 1) P ∧ IsMost S.E P e ∧ Blk X H4.size e.cells) h5 hu hv hru hrv ?_ ?_ ?_
 ·rintro X1 X2 ⟨P, e, p1, p2, p3⟩ hf
  exact ⟨P, e, p1, p2, p3.frame hf (by omega)⟩
 ·intro H6 N6 par1 a R K' hN6 hA6 hP hf6 hk
  refine most1_ok hN6 hA6 h5.lt (d5.frame hf6 (by omega)) (by omega) (by omega) ((hf6.cell (a := ⟨H.size, 0, none⟩) (hcell_lt c5) (by show ¬ H.size = g; omega)).trans c5) (hP.edge h.ok hu huv) fun H7 e he hN7 hd7 hf7 => ?_
  exact hk _ _ _ hN7 hA6.lc (hf7.mono fun b _ e => .inr e) ⟨_, e, hP, he, hd7⟩
 ·rintro H6 N6 rows6 hN6 hL6 hf6 ⟨P, ed, hP, he, hd6⟩
  have q26 := q25.frame hf6 (by omega)
  have hbel := h4.below
  have h6 : LtAt H6 t g c len r Bf vf S N6 rows6 ids fr := h5.keepQ hN6 hL6 hf6 fun b hb hx => by
   rcases hx with e1 | e1
   ·rcases hb with e2 | e2 | e2
    ·exact h.na.ne (e2.symm.trans e1)
    ·exact h.ap.2.1 (e1.symm.trans e2)
    ·exact h.ap.2.2.2.1 (by rw [e2, e1])
   ·have := hbel b (hb.imp id fun h => .inr h)
    omega
  have r0 := hd6.cellOf (i := 0) rfl
  have r1 := hd6.cellOf (i := 1) rfl
  have r2 := hd6.cellOf (i := 2) rfl
  have r3 := hd6.cellOf (i := 3) rfl
  have o0 := q26.okW (i := 0) (by simp)
  have o1 := q26.okW (i := 1) (by simp)
  have o2 := q26.okW (i := 2) (by simp)
  have o3 := q26.okW (i := 3) (by simp)
  repeat' (first|(with_reducible first|refine jA ?_|(refine hK _ _ ?_;clear hK K)|refine jJ fun K hK=>?_|refine jK ?_|refine jL ?_|refine jM ?_|refine jN ?_|refine jO ?_|refine jP ?_|refine jQ ?_|(refine jB ?_;clear hK K)|(refine jC ?_;clear hK K)|refine jD ?_|refine jE ?_|refine jG ?_|refine jH ?_|refine jI ?_)|((with_reducible refine jR ?hq ?_);case hq=>rfl)|((first|(with_reducible first|refine jS fun K hK=>?_|refine jT ?_|refine jU ?_)|((with_reducible refine jV ?hy fun K hK=>?_);case hy=>rfl));simp only [go_sem, Nat.reduceEqDiff, Nat.reduceAdd, Nat.reduceMul, Nat.reduceLeDiff, Nat.reduceLT, Int.reduceLT, Int.reduceLE, Int.reduceEq, Int.reduceNeg, Int.reduceToNat, Nat.reducePow, reduceIte, reduceCtorEq, r0, r1, r2, r3, o0, o1, o2, o3, okW_hset, hcell_push, hcell_top, okW_push, okW_top, hcell_hset_ne, hcell_hset_off, hcell_hset_eq, okW_hset, hset_size, Array.size_push, Nat.lt_add_one, ne_add_one, add_one_ne, Nat.add_assoc, add_same, add_lt_same, Nat.reduceEqDiff, lt_add_k, add_k_ne, ne_add_k])|((with_reducible first|refine jW ?hy ?_|refine jY ?hy ?_);case hy=>rfl)|((with_reducible first|refine jX ?hy ?_|refine jZ ?hy ?_);case hy=>rfl)|((with_reducible refine jF ?hy ?_);case hy=>decide))
  obtain ⟨b7, f7⟩ := store4 q26 (.int .i64 ed.id) (.int .i64 ed.u) (.int .i64 ed.v) (.int .i64 ed.w)
  have hb0 := h.below
  refine fin _ P ed hP he ((h6.frame f7 fun b hb (e1 : b = H.size + 1) => ?_).mT e) ?_
  ·have := hb0 b hb
   omega
  ·have g04 : Fr (· = g) H H4 := ((f12.trans hf3).mono fun _ _ h => h.elim).trans hf4
   refine fr_g ((e g).2 (.inr (.inl rfl))) (((g04.trans (f5.mono fun _ _ h => h.elim)).trans' hf6 fun b hb hx => ?_).trans' f7 fun b hb (hx : b = H.size + 1) => (by omega))
   rcases hx with hx | hx
   ·exact hx
   ·omega
end
end Go.Proofs.Ytafehbegoanajaa
namespace Go.Proofs.Ytafehbegoanajaa
open Go Go.Hp Go.Li
set_option linter.all false
set_option maxRecDepth 100000
set_option maxHeartbeats 1600000
section
variable {H H' : Heap} {t g c len r : Nat} {Bf : Option Nat} {vf : Value} {S : Ls} {N N' : Nodes} {rows rows' : List (List Nat)} {ids : Int → Option Nat} {fr : List Nat} {T : Nat → Prop} {K : Value → Heap → Prop}
theorem m_most_bad {u v : Int} (h : LtM H t T S) (hv : (inB S.n u && inB S.n v) = false) (fin : ∀ H', LtM H' t T S → Fr T H H' → K (.tuple #[Ed.zero.val, .int .i64 50]) H') :
  CallsH Try.prog 30 #[.pointer (some ⟨t, 0, none⟩), .int .i64 u, .int .i64 v] H K := by
 obtain ⟨g, c, len, r, Bf, vf, N, rows, ids, fr, h, e⟩ := h
 refine call30 (by simp) ?_
 simp only [Try.f30, Option.getD_some]
 repeat' (first|(with_reducible first|refine jA ?_|(refine hK _ _ ?_;clear hK K)|refine jJ fun K hK=>?_|refine jK ?_|refine jL ?_|refine jM ?_|refine jN ?_|refine jO ?_|refine jP ?_|refine jQ ?_|(refine jB ?_;clear hK K)|(refine jC ?_;clear hK K)|refine jD ?_|refine jE ?_|refine jG ?_|refine jH ?_|refine jI ?_)|((with_reducible refine jR ?hq ?_);case hq=>rfl)|((first|(with_reducible first|refine jS fun K hK=>?_|refine jT ?_|refine jU ?_)|((with_reducible refine jV ?hy fun K hK=>?_);case hy=>rfl));simp only [go_sem, Nat.reduceEqDiff, Nat.reduceAdd, Nat.reduceMul, Nat.reduceLeDiff, Nat.reduceLT, Int.reduceLT, Int.reduceLE, Int.reduceEq, Int.reduceNeg, Int.reduceToNat, Nat.reducePow, reduceIte, reduceCtorEq, Array.size_push])|((with_reducible first|refine jW ?hy ?_|refine jY ?hy ?_);case hy=>rfl)|((with_reducible first|refine jX ?hy ?_|refine jZ ?hy ?_);case hy=>rfl)|((with_reducible refine jF ?hy ?_);case hy=>decide))
 generalize eH1 : H.push (.cells #[.pointer (some ⟨t, 0, none⟩)] _) = H1
 generalize eH2 : H1.push _ = H2
 have f1 : Fr (fun _ => False) H H1 := by rw [← eH1]; exact (Fr.refl _ _).push _
 have f2 : Fr (fun _ => False) H1 H2 := by rw [← eH2]; exact (Fr.refl _ _).push _
 have s1 : H1.size = H.size + 1 := by rw [← eH1]; simp
 have q1 : Blk H1 H.size [.pointer (some ⟨t, 0, none⟩)] := by rw [← eH1]; exact Blk.new H [.pointer (some ⟨t, 0, none⟩)] _
 have q2 : Blk H2 (H.size + 1) [.int .i64 0, .int .i64 0, .int .i64 0, .int .i64 0] := by rw [← s1, ← eH2]; exact Blk.new H1 [.int .i64 0, .int .i64 0, .int .i64 0, .int .i64 0] _
 have q12 := q1.frame f2 fun h => h
 have h2 := h.grow (f1.trans f2)
 have c1 := q12.cellOf (i := 0) rfl
 simp only [go_sem, Nat.reduceEqDiff, Nat.reduceAdd, Nat.reduceMul, Nat.reduceLeDiff, Nat.reduceLT, Int.reduceLT, Int.reduceLE, Int.reduceEq, Int.reduceNeg, Int.reduceToNat, Nat.reducePow, reduceIte, reduceCtorEq, c1]
 repeat' (first|(with_reducible first|refine jA ?_|(refine hK _ _ ?_;clear hK K)|refine jJ fun K hK=>?_|refine jK ?_|refine jL ?_|refine jM ?_|refine jN ?_|refine jO ?_|refine jP ?_|refine jQ ?_|(refine jB ?_;clear hK K)|(refine jC ?_;clear hK K)|refine jD ?_|refine jE ?_|refine jG ?_|refine jH ?_|refine jI ?_)|((with_reducible refine jR ?hq ?_);case hq=>rfl)|((first|(with_reducible first|refine jS fun K hK=>?_|refine jT ?_|refine jU ?_)|((with_reducible refine jV ?hy fun K hK=>?_);case hy=>rfl));simp only [go_sem, Nat.reduceEqDiff, Nat.reduceAdd, Nat.reduceMul, Nat.reduceLeDiff, Nat.reduceLT, Int.reduceLT, Int.reduceLE, Int.reduceEq, Int.reduceNeg, Int.reduceToNat, Nat.reducePow, reduceIte, reduceCtorEq])|((with_reducible first|refine jW ?hy ?_|refine jY ?hy ?_);case hy=>rfl)|((with_reducible first|refine jX ?hy ?_|refine jZ ?hy ?_);case hy=>rfl)|((with_reducible refine jF ?hy ?_);case hy=>decide))
 clear eH1 eH2
 refine hasA2 h2 fun H3 h3 hf3 => ?_
 rw [hv]
 have q23 := q2.frame hf3 id
 have o0 := q23.okW (i := 0) (by simp)
 have o1 := q23.okW (i := 1) (by simp)
 have o2 := q23.okW (i := 2) (by simp)
 have o3 := q23.okW (i := 3) (by simp)
 repeat' (first|(with_reducible first|refine jA ?_|(refine hK _ _ ?_;clear hK K)|refine jJ fun K hK=>?_|refine jK ?_|refine jL ?_|refine jM ?_|refine jN ?_|refine jO ?_|refine jP ?_|refine jQ ?_|(refine jB ?_;clear hK K)|(refine jC ?_;clear hK K)|refine jD ?_|refine jE ?_|refine jG ?_|refine jH ?_|refine jI ?_)|((with_reducible refine jR ?hq ?_);case hq=>rfl)|((first|(with_reducible first|refine jS fun K hK=>?_|refine jT ?_|refine jU ?_)|((with_reducible refine jV ?hy fun K hK=>?_);case hy=>rfl));simp only [go_sem, Nat.reduceEqDiff, Nat.reduceAdd, Nat.reduceMul, Nat.reduceLeDiff, Nat.reduceLT, Int.reduceLT, Int.reduceLE, Int.reduceEq, Int.reduceNeg, Int.reduceToNat, Nat.reducePow, reduceIte, reduceCtorEq, o0, o1, o2, o3, okW_hset, hcell_push, hcell_top, okW_push, okW_top, hcell_hset_ne, hcell_hset_off, hcell_hset_eq, okW_hset, hset_size, Array.size_push, Nat.lt_add_one, ne_add_one, add_one_ne, Nat.add_assoc, add_same, add_lt_same, Nat.reduceEqDiff, lt_add_k, add_k_ne, ne_add_k])|((with_reducible first|refine jW ?hy ?_|refine jY ?hy ?_);case hy=>rfl)|((with_reducible first|refine jX ?hy ?_|refine jZ ?hy ?_);case hy=>rfl)|((with_reducible refine jF ?hy ?_);case hy=>decide))
 obtain ⟨b7, f7⟩ := store4 q23 (.int .i64 0) (.int .i64 0) (.int .i64 0) (.int .i64 0)
 have hb0 := h.below
 refine fin _ ((h3.frame f7 fun b hb (e1 : b = H.size + 1) => ?_).mT e) ?_
 ·have := hb0 b hb
  omega
 ·exact (((f1.trans f2).trans hf3).trans' f7 fun b hb (e1 : b = H.size + 1) => by omega).mono fun _ _ h => h.elim
theorem m_most_self {u v : Nat} (h : LtM H t T S) (hu : u < S.n) (hv : v < S.n) (huv : u = v) (fin : ∀ H', LtM H' t T S → Fr T H H' → K (.tuple #[Ed.zero.val, .int .i64 54]) H') :
  CallsH Try.prog 30 #[.pointer (some ⟨t, 0, none⟩), .int .i64 (u : Nat), .int .i64 (v : Nat)] H K := by
 obtain ⟨g, c, len, r, Bf, vf, N, rows, ids, fr, h, e⟩ := h
 have hn := h.ok.n64
 have hlH := h.na.lt
 have ew : IntKind.i64.wrap ((u : Int) + 1) = ((u + 1 : Nat) : Int) := by rw [wrap_i64] <;> omega
 have ew2 : IntKind.i64.wrap ((v : Int) + 1) = ((v + 1 : Nat) : Int) := by rw [wrap_i64] <;> omega
 refine call30 (by simp) ?_
 simp only [Try.f30, Option.getD_some]
 repeat' (first|(with_reducible first|refine jA ?_|(refine hK _ _ ?_;clear hK K)|refine jJ fun K hK=>?_|refine jK ?_|refine jL ?_|refine jM ?_|refine jN ?_|refine jO ?_|refine jP ?_|refine jQ ?_|(refine jB ?_;clear hK K)|(refine jC ?_;clear hK K)|refine jD ?_|refine jE ?_|refine jG ?_|refine jH ?_|refine jI ?_)|((with_reducible refine jR ?hq ?_);case hq=>rfl)|((first|(with_reducible first|refine jS fun K hK=>?_|refine jT ?_|refine jU ?_)|((with_reducible refine jV ?hy fun K hK=>?_);case hy=>rfl));simp only [go_sem, Nat.reduceEqDiff, Nat.reduceAdd, Nat.reduceMul, Nat.reduceLeDiff, Nat.reduceLT, Int.reduceLT, Int.reduceLE, Int.reduceEq, Int.reduceNeg, Int.reduceToNat, Nat.reducePow, reduceIte, reduceCtorEq, Array.size_push])|((with_reducible first|refine jW ?hy ?_|refine jY ?hy ?_);case hy=>rfl)|((with_reducible first|refine jX ?hy ?_|refine jZ ?hy ?_);case hy=>rfl)|((with_reducible refine jF ?hy ?_);case hy=>decide))
 generalize eH1 : H.push (.cells #[.pointer (some ⟨t, 0, none⟩)] _) = H1
 generalize eH2 : H1.push _ = H2
 have f1 : Fr (fun _ => False) H H1 := by rw [← eH1]; exact (Fr.refl _ _).push _
 have f2 : Fr (fun _ => False) H1 H2 := by rw [← eH2]; exact (Fr.refl _ _).push _
 have s1 : H1.size = H.size + 1 := by rw [← eH1]; simp
 have q1 : Blk H1 H.size [.pointer (some ⟨t, 0, none⟩)] := by rw [← eH1]; exact Blk.new H [.pointer (some ⟨t, 0, none⟩)] _
 have q2 : Blk H2 (H.size + 1) [.int .i64 0, .int .i64 0, .int .i64 0, .int .i64 0] := by rw [← s1, ← eH2]; exact Blk.new H1 [.int .i64 0, .int .i64 0, .int .i64 0, .int .i64 0] _
 have q12 := q1.frame f2 fun h => h
 have h2 := h.grow (f1.trans f2)
 have c1 := q12.cellOf (i := 0) rfl
 simp only [go_sem, Nat.reduceEqDiff, Nat.reduceAdd, Nat.reduceMul, Nat.reduceLeDiff, Nat.reduceLT, Int.reduceLT, Int.reduceLE, Int.reduceEq, Int.reduceNeg, Int.reduceToNat, Nat.reducePow, reduceIte, reduceCtorEq, c1]
 repeat' (first|(with_reducible first|refine jA ?_|(refine hK _ _ ?_;clear hK K)|refine jJ fun K hK=>?_|refine jK ?_|refine jL ?_|refine jM ?_|refine jN ?_|refine jO ?_|refine jP ?_|refine jQ ?_|(refine jB ?_;clear hK K)|(refine jC ?_;clear hK K)|refine jD ?_|refine jE ?_|refine jG ?_|refine jH ?_|refine jI ?_)|((with_reducible refine jR ?hq ?_);case hq=>rfl)|((first|(with_reducible first|refine jS fun K hK=>?_|refine jT ?_|refine jU ?_)|((with_reducible refine jV ?hy fun K hK=>?_);case hy=>rfl));simp only [go_sem, Nat.reduceEqDiff, Nat.reduceAdd, Nat.reduceMul, Nat.reduceLeDiff, Nat.reduceLT, Int.reduceLT, Int.reduceLE, Int.reduceEq, Int.reduceNeg, Int.reduceToNat, Nat.reducePow, reduceIte, reduceCtorEq])|((with_reducible first|refine jW ?hy ?_|refine jY ?hy ?_);case hy=>rfl)|((with_reducible first|refine jX ?hy ?_|refine jZ ?hy ?_);case hy=>rfl)|((with_reducible refine jF ?hy ?_);case hy=>decide))
 clear eH1 eH2
 refine hasA2 h2 fun H3 h3 hf3 => ?_
 rw [inB_of hu, inB_of hv]
 have q23 := q2.frame hf3 id
 have c3 := (hf3.cell (a := ⟨H.size, 0, none⟩) (hcell_lt c1) id).trans c1
 have huv' : ((u : Int) == (v : Int)) = true := by simp [huv]
 have o0 := q23.okW (i := 0) (by simp)
 have o1 := q23.okW (i := 1) (by simp)
 have o2 := q23.okW (i := 2) (by simp)
 have o3 := q23.okW (i := 3) (by simp)
 repeat' (first|(with_reducible first|refine jA ?_|(refine hK _ _ ?_;clear hK K)|refine jJ fun K hK=>?_|refine jK ?_|refine jL ?_|refine jM ?_|refine jN ?_|refine jO ?_|refine jP ?_|refine jQ ?_|(refine jB ?_;clear hK K)|(refine jC ?_;clear hK K)|refine jD ?_|refine jE ?_|refine jG ?_|refine jH ?_|refine jI ?_)|((with_reducible refine jR ?hq ?_);case hq=>rfl)|((first|(with_reducible first|refine jS fun K hK=>?_|refine jT ?_|refine jU ?_)|((with_reducible refine jV ?hy fun K hK=>?_);case hy=>rfl));simp only [go_sem, Nat.reduceEqDiff, Nat.reduceAdd, Nat.reduceMul, Nat.reduceLeDiff, Nat.reduceLT, Int.reduceLT, Int.reduceLE, Int.reduceEq, Int.reduceNeg, Int.reduceToNat, Nat.reducePow, reduceIte, reduceCtorEq, Bool.and_self, c3, huv', o0, o1, o2, o3, okW_hset, hcell_push, hcell_top, okW_push, okW_top, hcell_hset_ne, hcell_hset_off, hcell_hset_eq, okW_hset, hset_size, Array.size_push, Nat.lt_add_one, ne_add_one, add_one_ne, Nat.add_assoc, add_same, add_lt_same, Nat.reduceEqDiff, lt_add_k, add_k_ne, ne_add_k])|((with_reducible first|refine jW ?hy ?_|refine jY ?hy ?_);case hy=>rfl)|((with_reducible first|refine jX ?hy ?_|refine jZ ?hy ?_);case hy=>rfl)|((with_reducible refine jF ?hy ?_);case hy=>decide))
 obtain ⟨b7, f7⟩ := store4 q23 (.int .i64 0) (.int .i64 0) (.int .i64 0) (.int .i64 0)
 have hb0 := h.below
 refine fin _ ((h3.frame f7 fun b hb (e1 : b = H.size + 1) => ?_).mT e) ?_
 ·have := hb0 b hb
  omega
 ·exact (((f1.trans f2).trans hf3).mono fun _ _ h => h.elim).trans' f7 fun b hb (e1 : b = H.size + 1) => by omega
theorem m_most_none {u v ru rv : Nat} (h : LtM H t T S) (hu : u < S.n) (hv : v < S.n) (huv : u ≠ v) (hru : RootOf S.par (u + 1) ru) (hrv : RootOf S.par (v + 1) rv) (hne : ru ≠ rv) (fin : ∀ H', LtM H' t T S → Fr T H H' → K (.tuple #[Ed.zero.val, .int .i64 54]) H') :
  CallsH Try.prog 30 #[.pointer (some ⟨t, 0, none⟩), .int .i64 (u : Nat), .int .i64 (v : Nat)] H K := by
 obtain ⟨g, c, len, r, Bf, vf, N, rows, ids, fr, h, e⟩ := h
 have hn := h.ok.n64
 have hlH := h.na.lt
 have ew : IntKind.i64.wrap ((u : Int) + 1) = ((u + 1 : Nat) : Int) := by rw [wrap_i64] <;> omega
 have ew2 : IntKind.i64.wrap ((v : Int) + 1) = ((v + 1 : Nat) : Int) := by rw [wrap_i64] <;> omega
 refine call30 (by simp) ?_
 simp only [Try.f30, Option.getD_some]
 repeat' (first|(with_reducible first|refine jA ?_|(refine hK _ _ ?_;clear hK K)|refine jJ fun K hK=>?_|refine jK ?_|refine jL ?_|refine jM ?_|refine jN ?_|refine jO ?_|refine jP ?_|refine jQ ?_|(refine jB ?_;clear hK K)|(refine jC ?_;clear hK K)|refine jD ?_|refine jE ?_|refine jG ?_|refine jH ?_|refine jI ?_)|((with_reducible refine jR ?hq ?_);case hq=>rfl)|((first|(with_reducible first|refine jS fun K hK=>?_|refine jT ?_|refine jU ?_)|((with_reducible refine jV ?hy fun K hK=>?_);case hy=>rfl));simp only [go_sem, Nat.reduceEqDiff, Nat.reduceAdd, Nat.reduceMul, Nat.reduceLeDiff, Nat.reduceLT, Int.reduceLT, Int.reduceLE, Int.reduceEq, Int.reduceNeg, Int.reduceToNat, Nat.reducePow, reduceIte, reduceCtorEq, Array.size_push])|((with_reducible first|refine jW ?hy ?_|refine jY ?hy ?_);case hy=>rfl)|((with_reducible first|refine jX ?hy ?_|refine jZ ?hy ?_);case hy=>rfl)|((with_reducible refine jF ?hy ?_);case hy=>decide))
 generalize eH1 : H.push (.cells #[.pointer (some ⟨t, 0, none⟩)] _) = H1
 generalize eH2 : H1.push _ = H2
 have f1 : Fr (fun _ => False) H H1 := by rw [← eH1]; exact (Fr.refl _ _).push _
 have f2 : Fr (fun _ => False) H1 H2 := by rw [← eH2]; exact (Fr.refl _ _).push _
 have s1 : H1.size = H.size + 1 := by rw [← eH1]; simp
 have q1 : Blk H1 H.size [.pointer (some ⟨t, 0, none⟩)] := by rw [← eH1]; exact Blk.new H [.pointer (some ⟨t, 0, none⟩)] _
 have q2 : Blk H2 (H.size + 1) [.int .i64 0, .int .i64 0, .int .i64 0, .int .i64 0] := by rw [← s1, ← eH2]; exact Blk.new H1 [.int .i64 0, .int .i64 0, .int .i64 0, .int .i64 0] _
 have q12 := q1.frame f2 fun h => h
 have h2 := h.grow (f1.trans f2)
 have c1 := q12.cellOf (i := 0) rfl
 simp only [go_sem, Nat.reduceEqDiff, Nat.reduceAdd, Nat.reduceMul, Nat.reduceLeDiff, Nat.reduceLT, Int.reduceLT, Int.reduceLE, Int.reduceEq, Int.reduceNeg, Int.reduceToNat, Nat.reducePow, reduceIte, reduceCtorEq, c1]
 repeat' (first|(with_reducible first|refine jA ?_|(refine hK _ _ ?_;clear hK K)|refine jJ fun K hK=>?_|refine jK ?_|refine jL ?_|refine jM ?_|refine jN ?_|refine jO ?_|refine jP ?_|refine jQ ?_|(refine jB ?_;clear hK K)|(refine jC ?_;clear hK K)|refine jD ?_|refine jE ?_|refine jG ?_|refine jH ?_|refine jI ?_)|((with_reducible refine jR ?hq ?_);case hq=>rfl)|((first|(with_reducible first|refine jS fun K hK=>?_|refine jT ?_|refine jU ?_)|((with_reducible refine jV ?hy fun K hK=>?_);case hy=>rfl));simp only [go_sem, Nat.reduceEqDiff, Nat.reduceAdd, Nat.reduceMul, Nat.reduceLeDiff, Nat.reduceLT, Int.reduceLT, Int.reduceLE, Int.reduceEq, Int.reduceNeg, Int.reduceToNat, Nat.reducePow, reduceIte, reduceCtorEq])|((with_reducible first|refine jW ?hy ?_|refine jY ?hy ?_);case hy=>rfl)|((with_reducible first|refine jX ?hy ?_|refine jZ ?hy ?_);case hy=>rfl)|((with_reducible refine jF ?hy ?_);case hy=>decide))
 clear eH1 eH2
 refine hasA2 h2 fun H3 h3 hf3 => ?_
 rw [inB_of hu, inB_of hv]
 have q23 := q2.frame hf3 id
 have c3 := (hf3.cell (a := ⟨H.size, 0, none⟩) (hcell_lt c1) id).trans c1
 have huv' : ((u : Int) == (v : Int)) = false := by simp; omega
 repeat' (first|(with_reducible first|refine jA ?_|(refine hK _ _ ?_;clear hK K)|refine jJ fun K hK=>?_|refine jK ?_|refine jL ?_|refine jM ?_|refine jN ?_|refine jO ?_|refine jP ?_|refine jQ ?_|(refine jB ?_;clear hK K)|(refine jC ?_;clear hK K)|refine jD ?_|refine jE ?_|refine jG ?_|refine jH ?_|refine jI ?_)|((with_reducible refine jR ?hq ?_);case hq=>rfl)|((first|(with_reducible first|refine jS fun K hK=>?_|refine jT ?_|refine jU ?_)|((with_reducible refine jV ?hy fun K hK=>?_);case hy=>rfl));simp only [go_sem, Nat.reduceEqDiff, Nat.reduceAdd, Nat.reduceMul, Nat.reduceLeDiff, Nat.reduceLT, Int.reduceLT, Int.reduceLE, Int.reduceEq, Int.reduceNeg, Int.reduceToNat, Nat.reducePow, reduceIte, reduceCtorEq, Bool.and_self, c3, huv', ew, ew2])|((with_reducible first|refine jW ?hy ?_|refine jY ?hy ?_);case hy=>rfl)|((with_reducible first|refine jX ?hy ?_|refine jZ ?hy ?_);case hy=>rfl)|((with_reducible refine jF ?hy ?_);case hy=>decide))
 refine same_ok h3.na h3.lc h3.lt (Ls.vtx hu) (Ls.vtx hv) hru hrv fun H4 N4 rows4 hN4 hL4 hf4 => ?_
 rw [decide_eq_false hne]
 have h4 := h3.keep hN4 hL4 hf4
 have q24 := q23.frame hf4 (show ¬ H.size + 1 = g by omega)
 have o0 := q24.okW (i := 0) (by simp)
 have o1 := q24.okW (i := 1) (by simp)
 have o2 := q24.okW (i := 2) (by simp)
 have o3 := q24.okW (i := 3) (by simp)
 repeat' (first|(with_reducible first|refine jA ?_|(refine hK _ _ ?_;clear hK K)|refine jJ fun K hK=>?_|refine jK ?_|refine jL ?_|refine jM ?_|refine jN ?_|refine jO ?_|refine jP ?_|refine jQ ?_|(refine jB ?_;clear hK K)|(refine jC ?_;clear hK K)|refine jD ?_|refine jE ?_|refine jG ?_|refine jH ?_|refine jI ?_)|((with_reducible refine jR ?hq ?_);case hq=>rfl)|((first|(with_reducible first|refine jS fun K hK=>?_|refine jT ?_|refine jU ?_)|((with_reducible refine jV ?hy fun K hK=>?_);case hy=>rfl));simp only [go_sem, Nat.reduceEqDiff, Nat.reduceAdd, Nat.reduceMul, Nat.reduceLeDiff, Nat.reduceLT, Int.reduceLT, Int.reduceLE, Int.reduceEq, Int.reduceNeg, Int.reduceToNat, Nat.reducePow, reduceIte, reduceCtorEq, o0, o1, o2, o3, okW_hset, hcell_push, hcell_top, okW_push, okW_top, hcell_hset_ne, hcell_hset_off, hcell_hset_eq, okW_hset, hset_size, Array.size_push, Nat.lt_add_one, ne_add_one, add_one_ne, Nat.add_assoc, add_same, add_lt_same, Nat.reduceEqDiff, lt_add_k, add_k_ne, ne_add_k])|((with_reducible first|refine jW ?hy ?_|refine jY ?hy ?_);case hy=>rfl)|((with_reducible first|refine jX ?hy ?_|refine jZ ?hy ?_);case hy=>rfl)|((with_reducible refine jF ?hy ?_);case hy=>decide))
 obtain ⟨b7, f7⟩ := store4 q24 (.int .i64 0) (.int .i64 0) (.int .i64 0) (.int .i64 0)
 have hb0 := h.below
 refine fin _ ((h4.frame f7 fun b hb (e1 : b = H.size + 1) => ?_).mT e) ?_
 ·have := hb0 b hb
  omega
 ·exact (fr_g ((e g).2 (.inr (.inl rfl))) ((((f1.trans f2).trans hf3).mono fun _ _ h => h.elim).trans hf4)).trans' f7 fun b hb (e1 : b = H.size + 1) => by omega
end
end Go.Proofs.Ytafehbegoanajaa
namespace Go.Li
open Go Go.Hp
set_option linter.unusedVariables false
theorem Ch.up_mem {par : Par} {x : Nat} {l : List Nat} (h : Ch par x l) : ∀ y ∈ l, y = x ∨ ∃ z, par z = y := by
  induction h with
  | root _ => intro y hy; exact .inl (List.mem_singleton.1 hy)
  | @step h l h0 k ih =>
    intro y hy
    rcases List.mem_cons.1 hy with rfl | hy
    · exact .inl rfl
    · rcases ih y hy with rfl | h1
      · exact .inr ⟨h, rfl⟩
      · exact .inr h1
theorem Ch.root_last {par : Par} {x y r : Nat} {l : List Nat} (h : Ch par x l) (hl : l.getLast? = some r) (hy : y ∈ l) (h0 : par y = 0) : y = r := by
  obtain ⟨p, q, e⟩ := List.append_of_mem hy
  subst e
  have h1 := h.tail
  cases h1 with
  | root _ => simpa using hl
  | step h2 _ => exact absurd h0 h2
theorem RootOf.zero {par : Par} {x r : Nat} (h : RootOf par x r) : par r = 0 := by
  obtain ⟨l, h1, h2⟩ := h
  obtain ⟨p, e⟩ : ∃ p, l = p ++ [r] := by
    rcases List.eq_nil_or_concat l with e | ⟨q, z, e⟩
    · exact absurd e h1.ne
    · rw [List.concat_eq_append] at e
      subst e
      have : z = r := by simpa using h2
      exact ⟨q, by rw [this]⟩
  subst e
  have h3 := h1.tail
  cases h3 with
  | root h => exact h
  | step h0 k => exact absurd rfl k.ne
structure Linked (S S' : Ls) (u v : Nat) (e : Ed) : Prop where
  ok : S'.Ok
  n : S'.n = S.n
  ed : ∃ k, S.n < k ∧ S.E k = none ∧ S'.E = setE S.E k (some e)
  root : ∀ ru rv x r, RootOf S.par (u + 1) ru → RootOf S.par (v + 1) rv → (1 ≤ x ∧ x ≤ S.n) → RootOf S.par x r → RootOf S'.par x (if r = ru then rv else r)
  lone : ∀ a, 1 ≤ a → a ≤ S.n → a ≠ u + 1 → a ≠ v + 1 → S.par a = 0 → (∀ y, S.par y ≠ a) → S'.par a = 0 ∧ ∀ y, S'.par y ≠ a
section
variable {S : Ls}
theorem Ls.Ok.linked (k : S.Ok) {u v h ru rv : Nat} {l lv : List Nat} {e : Ed} (hu : u < S.n) (hv : v < S.n) (eu : e.u = (u : Nat)) (ev' : e.v = (v : Nat)) (hl : Ch S.par (u + 1) l) (hlv : Ch (Li.ev S.par 0 l) (v + 1) lv) (hul : u + 1 ∉ lv) (hh : S.n < h) (hE : S.E h = none)
    (hid : ∀ x e', S.E x = some e' → e'.id ≠ e.id) (hru : RootOf S.par (u + 1) ru) (hrv : RootOf S.par (v + 1) rv) (hne : ru ≠ rv) : Linked S (S.link l h e) u v e := by
  have k1 := k.evert ⟨by omega, by omega⟩ hl
  have hV : ¬ S.V h := by
    rintro (⟨_, h1⟩ | h1)
    · omega
    · rw [hE] at h1; cases h1
  have p0 : Li.ev S.par 0 l (u + 1) = 0 := by obtain ⟨r, rfl⟩ := hl.head; exact ev_head
  have ph : Li.ev S.par 0 l h = 0 := k1.dd h hV
  have nk' : ∀ y, Li.ev S.par 0 l y ≠ h := k1.no_kid hV (by omega)
  have tu : e.u.toNat = u := by omega
  have tv : e.v.toNat = v := by omega
  have hlast : l.getLast? = some ru := by
    obtain ⟨l', h1, h2⟩ := hru
    rw [hl.uniq h1]; exact h2
  have hlvl : lv.getLast? = some rv := by
    have h1 := ev_root hl (by omega) hlast hrv
    rw [if_neg (Ne.symm hne)] at h1
    obtain ⟨l', h2, h3⟩ := h1
    rw [hlv.uniq h2]; exact h3
  have hlive := k1.live hlv (Ls.vtx (S := S.ev l) hv)
  have hhl : h ∉ lv := fun hm => hV (hlive h hm)
  have hll : ∀ y ∈ l, S.V y := k.live hl (Ls.vtx hu)
  have hhn : h ≠ u + 1 := by omega
  have epar : (S.link l h e).par = setP (setP (Li.ev S.par 0 l) h (v + 1)) (u + 1) h := by unfold Ls.link; rw [tu, tv]
  refine ⟨k.linkOk hu hv eu ev' hl hlv hul hh hE hid, rfl, ⟨h, hh, hE, rfl⟩, fun ru' rv' x r h1 h2 hx hxr => ?_, fun a a1 a2 a3 a4 a5 a6 => ?_⟩
  · obtain rfl := h1.uniq hru
    obtain rfl := h2.uniq hrv
    rw [epar]
    obtain ⟨m, hm, hml⟩ := ev_root hl (by omega) hlast hxr
    have hhm : h ∉ m := fun hmem => by
      rcases hm.up_mem h hmem with e | ⟨z, e⟩
      · omega
      · exact nk' z e
    obtain ⟨m1, q1, q2, _⟩ := hang_chain (by omega) hlv hhl hm ph
    rw [q2 hhm] at q1
    have hlv2 : Ch (setP (Li.ev S.par 0 l) h (v + 1)) h (h :: lv) := by
      refine .step (by rw [setP_same]; omega) ?_
      rw [setP_same]
      exact hlv.congr fun y hy => setP_ne _ fun e => hhl (e ▸ hy)
    have p2u : setP (Li.ev S.par 0 l) h (v + 1) (u + 1) = 0 := by rw [setP_ne _ (Ne.symm hhn)]; exact p0
    obtain ⟨m2, q3, q4, q5⟩ := hang_chain (by omega) hlv2 (by simp only [List.mem_cons, not_or]; exact ⟨Ne.symm hhn, hul⟩) q1 p2u
    refine ⟨m2, q3, ?_⟩
    by_cases er : r = ru'
    · rw [if_pos er] at hml ⊢
      rw [q5 (List.mem_of_getLast? hml), List.getLast?_append]
      obtain ⟨s, hs⟩ := hlv.head
      rw [hs] at hlvl ⊢
      rw [List.getLast?_cons_cons, hlvl]; rfl
    · rw [if_neg er] at hml ⊢
      have hnm : u + 1 ∉ m := fun hmem => by
        have e1 := hm.root_last hml hmem p0
        have h0 := hxr.zero
        rw [← e1] at h0
        have := (RootOf.self h0).uniq hru
        exact er (by rw [← e1, this])
      rw [q4 hnm]; exact hml
  · rw [epar]
    have hal : a ∉ l := fun hm => by
      rcases hl.up_mem a hm with e | ⟨z, e⟩
      · exact a3 e
      · exact a6 z e
    constructor
    · rw [setP_ne _ a3, setP_ne _ (by omega), ev_not_mem hal]; exact a5
    · intro y hy
      by_cases e1 : y = u + 1
      · rw [e1, setP_same] at hy; omega
      · rw [setP_ne _ e1] at hy
        by_cases e2 : y = h
        · rw [e2, setP_same] at hy; omega
        · rw [setP_ne _ e2] at hy
          rcases ev_mem (l := l) (prev := 0) (par := S.par) (i := y) with h1 | h1 | ⟨_, h1⟩
          · omega
          · rw [hy] at h1; exact hal h1
          · rw [hy] at h1; exact a6 y h1.symm
structure Grow (S : Ls) (i : Nat) : Prop where
  one : ∃ r, ∀ a, a < i → RootOf S.par (a + 1) r
  lone : ∀ a, i ≤ a → a < S.n → S.par (a + 1) = 0 ∧ ∀ y, S.par y ≠ a + 1
theorem Grow.new (n : Nat) : Grow (Ls.new n) 1 :=
  ⟨⟨1, fun a ha => by obtain rfl : a = 0 := by omega
                      exact RootOf.self rfl⟩, fun a _ _ => ⟨rfl, fun y h => by cases h⟩⟩
theorem Grow.self {i : Nat} (h : Grow S i) (hi : i < S.n) : RootOf S.par (i + 1) (i + 1) := RootOf.self (h.lone i (Nat.le_refl _) hi).1
theorem Grow.apart {i a ra : Nat} (h : Grow S i) (hi : i < S.n) (ha : a < i) (hra : RootOf S.par (a + 1) ra) : ra ≠ i + 1 := by
  rintro rfl
  obtain ⟨l, h1, h2⟩ := hra
  rcases h1.up_mem _ (List.mem_of_getLast? h2) with e | ⟨z, e⟩
  · omega
  · exact (h.lone i (Nat.le_refl _) hi).2 z e
theorem Grow.up {i u v : Nat} {S' : Ls} {e : Ed} (h : Grow S i) (hi : i < S.n) (hk : Linked S S' u v e) (hor : (u = i ∧ v < i) ∨ (v = i ∧ u < i)) : Grow S' (i + 1) := by
  obtain ⟨r, hr⟩ := h.one
  have hs := h.self hi
  refine ⟨?_, fun a ha hn => ?_⟩
  · rcases hor with ⟨rfl, hv⟩ | ⟨rfl, hu⟩
    · have hne := h.apart hi hv (hr v hv)
      refine ⟨r, fun a ha => ?_⟩
      by_cases e : a = u
      · subst e
        have := hk.root _ _ _ _ hs (hr v hv) ⟨by omega, by omega⟩ hs
        rwa [if_pos rfl] at this
      · have := hk.root _ _ _ _ hs (hr v hv) ⟨by omega, by omega⟩ (hr a (by omega))
        rwa [if_neg hne] at this
    · have hne := h.apart hi hu (hr u hu)
      refine ⟨v + 1, fun a ha => ?_⟩
      by_cases e : a = v
      · subst e
        have := hk.root _ _ _ _ (hr u hu) hs ⟨by omega, by omega⟩ hs
        rwa [if_neg (Ne.symm hne)] at this
      · have := hk.root _ _ _ _ (hr u hu) hs ⟨by omega, by omega⟩ (hr a (by omega))
        rwa [if_pos rfl] at this
  · rw [hk.n] at hn
    obtain ⟨h1, h2⟩ := h.lone a (by omega) hn
    exact hk.lone (a + 1) (by omega) (by omega) (by omega) (by omega) h1 h2
end
end Go.Li
namespace Go.Proofs.Ytafehbegoanajaa
open Go Go.Hp Go.Li
set_option linter.all false
section
variable {H H' : Heap} {t : Nat} {S : Ls} {T : Nat → Prop} {K : Value → Heap → Prop}
theorem m_link {u v : Nat} {id w : Int} {ru rv : Nat} (h : LtM H t T S) (hu : u < S.n) (hv : v < S.n) (ha : okArg id w = true) (hid : ∀ k x, S.E k = some x → x.id ≠ id) (hru : RootOf S.par (u + 1) ru) (hrv : RootOf S.par (v + 1) rv) (hne : ru ≠ rv)
    (fin : ∀ H' T' S', LtM H' t T' S' → Linked S S' u v ⟨id, (u : Nat), (v : Nat), w⟩ → Fr T H H' → (∀ b, T' b → T b ∨ H.size ≤ b) → K (.int .i64 0) H') :
    CallsH Try.prog 47 #[.pointer (some ⟨t, 0, none⟩), .int .i64 (u : Nat), .int .i64 (v : Nat), .int .i64 id, .int .i64 w] H K := by
  have hok := h.ok
  have hru0 := hru
  obtain ⟨l, hl, hlast⟩ := hru0
  have h1 := ev_root hl (by omega) hlast hrv
  rw [if_neg (Ne.symm hne)] at h1
  obtain ⟨lv, hlv, hlvl⟩ := h1
  have p0 : Li.ev S.par 0 l (u + 1) = 0 := by obtain ⟨r, rfl⟩ := hl.head; exact ev_head
  have hul : u + 1 ∉ lv := fun hm => by
    have e1 := hlv.root_last hlvl hm p0
    have h0 := hrv.zero
    rw [← e1] at h0
    have := (RootOf.self h0).uniq hru
    exact hne (by rw [← this, e1])
  refine link_ok h hu hv ha hid hru hrv hne hl hlv hul fun H' T' k hM hk hE hf hT => ?_
  exact fin H' T' _ hM (hok.linked hu hv rfl rfl hl hlv hul hk hE (fun x e' he => hid x e' he) hru hrv hne) hf hT
end
end Go.Proofs.Ytafehbegoanajaa
namespace Go.Li
open Go Go.Hp
set_option linter.unusedVariables false
section
variable {S : Ls}
theorem Ls.Ok.par0 (k : S.Ok) : S.par 0 = 0 := k.dd 0 k.v0
theorem Ls.Ok.adj0 (k : S.Ok) {x : Nat} : ¬ Adj S.par x 0 := by
 rintro (⟨_, h⟩ | ⟨h, h2⟩)
 ·exact h rfl
 ·rw [k.par0] at h; exact h2 h.symm
theorem Ls.Ok.wk0 (k : S.Ok) : ∀ {l : List Nat} {x : Nat}, Wk S.par (x :: l) → 0 ∉ l
 | [], _, _ => by simp
 | y :: r, x, h => by
  simp only [List.mem_cons, not_or]
  refine ⟨fun e => ?_, k.wk0 h.2⟩
  have := h.1
  rw [← e] at this
  exact k.adj0 this
theorem Ls.Ok.sp0 (k : S.Ok) {a b : Nat} {P : List Nat} (h : SP S.par a b P) (ha : a ≠ 0) : 0 ∉ P := by
 obtain ⟨h1, h2, h3, h4⟩ := h
 cases P with
 | nil => simp
 | cons x r =>
  have e : x = a := by simpa using h1
  subst e
  simp only [List.mem_cons, not_or]
  exact ⟨Ne.symm ha, k.wk0 h4⟩
theorem Ls.Ok.sp (k : S.Ok) {a b : Nat} {P P' : List Nat} (ha : S.V a) (h : SP S.par a b P) (h' : SP S.par a b P') : P = P' := by
 have ha0 : a ≠ 0 := fun e => k.v0 (e ▸ ha)
 obtain ⟨m, hm⟩ := k.ac a ha
 exact SP.uniq hm ha0 h h' (k.sp0 h ha0) (k.sp0 h' ha0)
theorem Ls.Ok.over (k : S.Ok) {h : Nat} {e : Ed} {a : Nat} (he : S.E h = some e) (ha : a = e.u.toNat + 1 ∨ a = e.v.toNat + 1) : Adj S.par a h ∧ Adj S.par h a :=
 ⟨((k.ad h e a he).2 ha).symm, (k.ad h e a he).2 ha⟩
def Has (S : Ls) (es : List Ed) : Prop := ∀ e, (∃ k, S.E k = some e) ↔ e ∈ es
theorem Has.new (n : Nat) : Has (Ls.new n) [] := fun e => ⟨fun ⟨k, h⟩ => (by cases h), fun h => (by cases h)⟩
theorem Linked.has {S' : Ls} {u v : Nat} {e : Ed} {es : List Ed} (h : Linked S S' u v e) (he : Has S es) : Has S' (es ++ [e]) := fun x => by
 obtain ⟨k, k1, k2, k3⟩ := h.ed
 rw [k3]
 simp only [List.mem_append, List.mem_singleton]
 rw [← he x]
 constructor
 ·rintro ⟨y, hy⟩
  by_cases ey : y = k
  ·rw [ey, setE_same] at hy
   exact .inr (Option.some.inj hy).symm
  ·rw [setE_ne _ _ ey] at hy
   exact .inl ⟨y, hy⟩
 ·rintro (⟨y, hy⟩ | rfl)
  ·exact ⟨y, by rw [setE_ne _ _ fun ey => by rw [ey, k2] at hy; cases hy]; exact hy⟩
  ·exact ⟨k, setE_same _ _ _⟩
theorem Has.id {es : List Ed} (h : Has S es) {i : Int} (hi : ∀ e ∈ es, e.id ≠ i) : ∀ k x, S.E k = some x → x.id ≠ i := fun k x hk => hi x ((h x).1 ⟨k, hk⟩)
theorem heavy_asymm {a b : Ed} (h : heavy a b = true) : heavy b a = false := by
 unfold heavy at *
 simp only [Bool.or_eq_true, decide_eq_true_eq, Bool.and_eq_true, Bool.or_eq_false_iff, decide_eq_false_iff_not, Bool.and_eq_false_iff] at *
 omega
theorem IsMost.uniq {E : Es} {P P' : List Nat} {e e' : Ed} (hm : ∀ x, x ∈ P ↔ x ∈ P') (h : IsMost E P e) (h' : IsMost E P' e') : e = e' := by
 obtain ⟨b, h1, h2, h3⟩ := h
 obtain ⟨b', h4, h5, h6⟩ := h'
 rcases h3 b' ((hm b').2 h4) e' h5 with rfl | h7
 ·rw [h2] at h5; exact Option.some.inj h5
 ·rcases h6 b ((hm b).1 h1) e h2 with rfl | h8
  ·rw [h2] at h5; exact Option.some.inj h5
  ·rw [heavy_asymm h7] at h8; cases h8
end
abbrev St := Nat × Nat
inductive Rw (E : Nat → Nat → Prop) : Nat → Nat → Prop
 | refl (u : Nat) : Rw E u u
 | step {u v w : Nat} : Rw E u v → E v w → Rw E u w
theorem Rw.trans {E : Nat → Nat → Prop} {u v w : Nat} (h : Rw E u v) (k : Rw E v w) : Rw E u w := by
 induction k with
 | refl => exact h
 | step _ e ih => exact .step ih e
theorem Rw.symm {E : Nat → Nat → Prop} (hE : ∀ a b, E a b → E b a) {u v : Nat} (h : Rw E u v) : Rw E v u := by
 induction h with
 | refl => exact .refl _
 | step _ e ih => exact (Rw.step (.refl _) (hE _ _ e)).trans ih
def EdgeL (l : List St) (a b : Nat) : Prop := (a, b) ∈ l ∨ (b, a) ∈ l
def RchL (l : List St) (a b : Nat) : Prop := Rw (EdgeL l) a b
def endsL (es : List Ed) : List St := es.map fun x => (x.u.toNat, x.v.toNat)
theorem Adj.root {par : Par} {x y r : Nat} (h : Adj par x y) (hr : RootOf par x r) : RootOf par y r := by
 rcases h with ⟨h1, h2⟩ | ⟨h1, h2⟩
 ·have := (RootOf.up (par := par) (h := x) (r := r) (by rw [h1]; exact h2)).1 hr
  rw [h1] at this; exact this
 ·exact (RootOf.up (par := par) (h := y) (r := r) (by rw [h1]; exact h2)).2 (by rw [h1]; exact hr)
section
variable {S : Ls} {es : List Ed}
theorem Ls.Ok.ends (k : S.Ok) (hs : Has S es) : ∀ x ∈ es, ∃ p q : Nat, x.u = p ∧ x.v = q ∧ p < S.n ∧ q < S.n := fun x hx => by
 obtain ⟨g, hg⟩ := (hs x).2 hx
 obtain ⟨q1, q2, q3, q4, q5⟩ := k.en g x hg
 exact ⟨x.u.toNat, x.v.toNat, by omega, by omega, by omega, by omega⟩
theorem Ls.Ok.rch_root (k : S.Ok) (hs : Has S es) {a b r : Nat} (h : RchL (endsL es) a b) (hr : RootOf S.par (a + 1) r) : RootOf S.par (b + 1) r := by
 induction h with
 | refl => exact hr
 | @step x y _ e ih =>
  have key : ∀ p q, (p, q) ∈ endsL es → ∃ g, Adj S.par (p + 1) g ∧ Adj S.par g (q + 1) ∧ Adj S.par (q + 1) g ∧ Adj S.par g (p + 1) := fun p q hm => by
   obtain ⟨x, hx, he⟩ := List.mem_map.1 hm
   obtain ⟨g, hg⟩ := (hs x).2 hx
   simp only [Prod.mk.injEq] at he
   have h1 := k.over (a := p + 1) hg (.inl (by omega))
   have h2 := k.over (a := q + 1) hg (.inr (by omega))
   exact ⟨g, h1.1, h2.2, h2.1, h1.2⟩
  rcases e with e | e
  ·obtain ⟨g, h1, h2, _, _⟩ := key _ _ e
   exact h2.root (h1.root ih)
  ·obtain ⟨g, _, _, h1, h2⟩ := key _ _ e
   exact h2.root (h1.root ih)
theorem Ls.Ok.wk_rch (k : S.Ok) (hs : Has S es) : ∀ (m : Nat) (P : List Nat) (a b : Nat), P.length ≤ m → Wk S.par ((a + 1) :: P) → ((a + 1) :: P).getLast? = some (b + 1) → a < S.n → b < S.n → RchL (endsL es) a b
 | m, [], a, b, _, _, h, _, _ => by
  have : a = b := by simpa using h
  subst this
  exact .refl _
 | m, [g], a, b, hm, hw, h, ha, hb => by
  have hE := k.vx (a + 1) g (by omega) (by omega) hw.1
  have : g = b + 1 := by simpa using h
  rw [this, k.eno (by omega)] at hE
  cases hE
 | m + 1, g :: y :: P, a, b, hm, hw, h, ha, hb => by
  have hE := k.vx (a + 1) g (by omega) (by omega) hw.1
  obtain ⟨e, he⟩ := Option.isSome_iff_exists.1 hE
  obtain ⟨q1, q2, q3, q4, q5⟩ := k.en g e he
  have ha1 := (k.ad g e (a + 1) he).1 hw.1.symm
  have hy := (k.ad g e y he).1 hw.2.1
  obtain ⟨z, hz⟩ : ∃ z, y = z + 1 := ⟨y - 1, by omega⟩
  subst hz
  have ih := k.wk_rch hs m P z b (by simp at hm; omega) hw.2.2 (by rw [List.getLast?_cons_cons, List.getLast?_cons_cons] at h; exact h) (by omega) hb
  have hmem : (e.u.toNat, e.v.toNat) ∈ endsL es := List.mem_map.2 ⟨e, (hs e).1 ⟨g, he⟩, rfl⟩
  by_cases haz : a = z
  ·rw [haz]; exact ih
  ·refine Rw.trans (.step (.refl a) ?_) ih
   rcases ha1 with ha1 | ha1
   ·rcases hy with hy | hy
    ·omega
    ·exact .inl (by rw [show a = e.u.toNat by omega, show z = e.v.toNat by omega]; exact hmem)
   ·rcases hy with hy | hy
    ·exact .inr (by rw [show a = e.v.toNat by omega, show z = e.u.toNat by omega]; exact hmem)
    ·omega
theorem Ls.Ok.root_rch (k : S.Ok) (hs : Has S es) {a b r : Nat} (ha : a < S.n) (hb : b < S.n) (hra : RootOf S.par (a + 1) r) (hrb : RootOf S.par (b + 1) r) : RchL (endsL es) a b := by
 obtain ⟨P, hP, _⟩ := SP.exists (by omega) hra hrb
 obtain ⟨h1, h2, h3, h4⟩ := hP
 cases P with
 | nil => cases h1
 | cons x q =>
  have e : x = a + 1 := by simpa using h1
  subst e
  exact k.wk_rch hs _ q a b (Nat.le_refl _) h4 h2 ha hb
end
theorem Ls.Ok.root_vtx {S : Ls} (k : S.Ok) {a r : Nat} (ha : S.V a) (h : RootOf S.par a r) : ∃ r0, r = r0 + 1 ∧ r0 < S.n := by
 have h0 := h.zero
 obtain ⟨l, h1, h2⟩ := h
 have hV := k.live h1 ha r (List.mem_of_getLast? h2)
 rcases hV with ⟨h3, h4⟩ | h3
 ·exact ⟨r - 1, by omega, by omega⟩
 ·obtain ⟨e, he⟩ := Option.isSome_iff_exists.1 h3
  exact absurd h0 (k.en r e he).2.2.2.2
section
variable {S : Ls} {es : List Ed}
theorem Ls.Ok.rooted (k : S.Ok) {a : Nat} (ha : a < S.n) : ∃ r0, RootOf S.par (a + 1) (r0 + 1) ∧ r0 < S.n := by
 obtain ⟨l, hl⟩ := k.ac (a + 1) (Ls.vtx ha)
 obtain ⟨r, hr⟩ : ∃ r, l.getLast? = some r := by
  cases h : l.getLast? with
  | none => rw [List.getLast?_eq_none_iff] at h; exact absurd h hl.ne
  | some y => exact ⟨y, rfl⟩
 obtain ⟨r0, rfl, h0⟩ := k.root_vtx (Ls.vtx ha) ⟨l, hl, hr⟩
 exact ⟨r0, ⟨l, hl, hr⟩, h0⟩
end
def woL (es : List Ed) (i : Nat) : List Ed := es.take i ++ es.drop (i + 1)
theorem woL_split {es : List Ed} {i : Nat} {x : Ed} (hi : es[i]? = some x) : es = es.take i ++ x :: es.drop (i + 1) := by
 obtain ⟨h1, h2⟩ := List.getElem?_eq_some_iff.1 hi
 rw [← h2, List.getElem_cons_drop, List.take_append_drop]
theorem woL_len {es : List Ed} {i : Nat} {x : Ed} (hi : es[i]? = some x) : (woL es i).length + 1 = es.length := by
 have := congrArg List.length (woL_split hi)
 unfold woL
 simp only [List.length_append, List.length_cons] at this ⊢
 omega
theorem woL_nodup {es : List Ed} {i : Nat} {x : Ed} (hi : es[i]? = some x) (hn : (es.map (·.id)).Nodup) : ((woL es i).map (·.id)).Nodup ∧ (∀ y ∈ woL es i, y.id ≠ x.id) := by
 rw [woL_split hi, List.map_append, List.map_cons, List.nodup_append, List.nodup_cons] at hn
 obtain ⟨h1, ⟨h2, h3⟩, h4⟩ := hn
 unfold woL
 refine ⟨?_, fun y hy e => ?_⟩
 ·rw [List.map_append, List.nodup_append]
  exact ⟨h1, h3, fun a ha b hb => h4 a ha b (.tail _ hb)⟩
 ·rcases List.mem_append.1 hy with hy | hy
  ·exact h4 y.id (List.mem_map_of_mem hy) x.id (.head _) e
  ·exact h2 (e ▸ List.mem_map_of_mem hy)
section
variable {S : Ls} {es : List Ed}
theorem Ls.Ok.cut_has (k : S.Ok) (hs : Has S es) (hn : (es.map (·.id)).Nodup) {h c i : Nat} {x : Ed} (hh : S.E h = some x) (hi : es[i]? = some x) : Has (S.cut h c) (woL es i) := fun y => by
 have hsp := woL_split hi
 have hnn := (woL_nodup hi hn).2
 show (∃ g, setE S.E h none g = some y) ↔ _
 constructor
 ·rintro ⟨g, hg⟩
  by_cases e : g = h
  ·rw [e, setE_same] at hg; cases hg
  ·rw [setE_ne _ _ e] at hg
   have hy := (hs y).1 ⟨g, hg⟩
   rw [hsp] at hy
   rcases List.mem_append.1 hy with hy | hy
   ·exact List.mem_append_left _ hy
   ·rcases List.mem_cons.1 hy with rfl | hy
    ·exact absurd (k.uq g h y y hg hh rfl) e
    ·exact List.mem_append_right _ hy
 ·intro hy
  have hm : y ∈ es := by
   rw [hsp]
   rcases List.mem_append.1 hy with hy | hy
   ·exact List.mem_append_left _ hy
   ·exact List.mem_append_right _ (.tail _ hy)
  obtain ⟨g, hg⟩ := (hs y).2 hm
  refine ⟨g, ?_⟩
  rw [setE_ne _ _ fun e => ?_]
  ·exact hg
  ·subst e
   rw [hh] at hg
   obtain rfl := Option.some.inj hg
   exact hnn _ hy rfl
end
end Go.Li
namespace Go.Ms
open Go Go.Li Go.Br
set_option linter.unusedVariables false
def Lk (S : Ed → Prop) (a b : Nat) : Prop := ∃ e, S e ∧ a = e.u.toNat ∧ b = e.v.toNat
abbrev Cn (S : Ed → Prop) (a b : Nat) : Prop := Con (Lk S) a b
section
variable {S S' F : Ed → Prop} {a b c : Nat} {e x y z w : Ed} {l l' : List Ed}
theorem Cn.sub (h : ∀ e, S e → S' e) (k : Cn S a b) : Cn S' a b := Con.mono (fun _ _ ⟨e, h1, h2⟩ => ⟨e, h e h1, h2⟩) k
theorem Cn.of (h : ∀ e, S e → Cn S' e.u.toNat e.v.toNat) (k : Cn S a b) : Cn S' a b := Con.lift (fun _ _ ⟨e, h1, h2, h3⟩ => by subst h2 h3; exact h e h1) k
theorem Cn.edge (h : S e) : Cn S e.u.toNat e.v.toNat := .one ⟨e, h, rfl, rfl⟩
theorem Cn.side {P : Nat → Prop} (hP : ∀ e, S e → (P e.u.toNat ↔ P e.v.toNat)) (k : Cn S a b) : P a ↔ P b := Con.closed (fun _ _ ⟨e, h1, h2, h3⟩ => by subst h2 h3; exact hP e h1) k
def more (S : Ed → Prop) (x : Ed) : Ed → Prop := fun e => S e ∨ e = x
theorem Cn.more : Cn (more S x) a b ↔ Cn S a b ∨ (Cn S a x.u.toNat ∧ Cn S x.v.toNat b) ∨ (Cn S a x.v.toNat ∧ Cn S x.u.toNat b) := by
 have h : Cn (Ms.more S x) a b ↔ Con (plus (Lk S) x.u.toNat x.v.toNat) a b := by
  constructor
  ·refine Con.mono fun p q ⟨e, h1, h2, h3⟩ => ?_
   rcases h1 with h1 | rfl
   ·exact .inl ⟨e, h1, h2, h3⟩
   ·exact .inr ⟨h2, h3⟩
  ·refine Con.mono fun p q h => ?_
   rcases h with ⟨e, h1, h2⟩ | ⟨rfl, rfl⟩
   ·exact ⟨e, .inl h1, h2⟩
   ·exact ⟨x, .inr rfl, rfl, rfl⟩
 rw [h, Con.plus]
theorem Cn.none (hS : ∀ e, ¬ S e) (k : Cn S a b) : a = b := by
 have := k.side (P := fun z => a = z) fun e he => absurd he (hS e)
 exact this.1 rfl
theorem hv_self (a : Ed) : heavy a a = false := by unfold heavy; simp
theorem hv_iff {a b : Ed} : heavy a b = true ↔ b.w < a.w ∨ (a.w = b.w ∧ b.id < a.id) := by unfold heavy; simp
theorem hv_trans {a b c : Ed} (h : heavy a b = true) (k : heavy b c = true) : heavy a c = true := by rw [hv_iff] at *; omega
theorem hv_asymm {a b : Ed} (h : heavy a b = true) : ¬ heavy b a = true := by rw [hv_iff] at *; omega
theorem hv_total {a b : Ed} (h : a.id ≠ b.id) : heavy a b = true ∨ heavy b a = true := by rw [hv_iff, hv_iff]; omega
def Lo (S : Ed → Prop) (e : Ed) : Ed → Prop := fun x => S x ∧ heavy e x = true
def Le (S : Ed → Prop) (e : Ed) : Ed → Prop := fun x => S x ∧ (x = e ∨ heavy e x = true)
def In (l : List Ed) : Ed → Prop := fun e => e ∈ l
def Msf (l : List Ed) (F : Ed → Prop) : Prop := ∀ e, F e ↔ e ∈ l ∧ ¬ Cn (Lo (In l) e) e.u.toNat e.v.toNat
def Uq (l : List Ed) : Prop := ∀ x ∈ l, ∀ y ∈ l, x.id = y.id → x = y
theorem Uq.cmp (hu : Uq l) (hx : x ∈ l) (hy : y ∈ l) (h : x ≠ y) : heavy x y = true ∨ heavy y x = true := hv_total fun e => h (hu x hx y hy e)
def rank (l : List Ed) (e : Ed) : Nat := l.countP fun x => heavy e x
theorem countP_lt {p q : Ed → Bool} (hpq : ∀ x, p x = true → q x = true) : ∀ {l : List Ed}, w ∈ l → q w = true → p w = false → l.countP p < l.countP q
 | [], h, _, _ => by cases h
 | x :: l, h, h1, h2 => by
  have hle : l.countP p ≤ l.countP q := List.countP_mono_left fun x _ => hpq x
  rcases List.mem_cons.1 h with rfl | h
  ·rw [List.countP_cons_of_pos h1, List.countP_cons_of_neg (by rw [h2]; decide)]
   omega
  ·have ih := countP_lt hpq h h1 h2
   rw [List.countP_cons, List.countP_cons]
   by_cases hx : p x = true
   ·rw [if_pos hx, if_pos (hpq x hx)]; omega
   ·rw [if_neg hx]; omega
theorem rank_lt (hw : w ∈ l) (h : heavy x w = true) : rank l w < rank l x := countP_lt (fun y hy => hv_trans h hy) hw h (hv_self w)
theorem Msf.mem (h : Msf l F) (he : F e) : e ∈ l := ((h e).1 he).1
theorem Msf.no (h : Msf l F) (he : F e) : ¬ Cn (Lo (In l) e) e.u.toNat e.v.toNat := ((h e).1 he).2
theorem Msf.join (h : Msf l F) : ∀ (m : Nat) (x : Ed), rank l x ≤ m → x ∈ l → Cn (Le F x) x.u.toNat x.v.toNat
 | m, x, hm, hx => by
  by_cases hF : F x
  ·exact .edge ⟨hF, .inl rfl⟩
  ·have hc : Cn (Lo (In l) x) x.u.toNat x.v.toNat := Classical.byContradiction fun hn => hF ((h x).2 ⟨hx, hn⟩)
   refine hc.of fun y hy => ?_
   have hlt := rank_lt hy.1 hy.2
   match m with
   | 0 => omega
   | m + 1 => exact (h.join m y (by omega) hy.1).sub fun z hz => ⟨hz.1, .inr (hz.2.elim (fun e => e ▸ hy.2) fun k => hv_trans hy.2 k)⟩
theorem Msf.low (h : Msf l F) (k : Cn (Lo (In l) e) a b) : Cn (Lo F e) a b := k.of fun x hx => (h.join _ x (Nat.le_refl _) hx.1).sub fun z hz => ⟨hz.1, hz.2.elim (fun e => e ▸ hx.2) fun k => hv_trans hx.2 k⟩
theorem Msf.upto (h : Msf l F) (k : Cn (Le (In l) e) a b) : Cn (Le F e) a b := k.of fun x hx => (h.join _ x (Nat.le_refl _) hx.1).sub fun z hz => ⟨hz.1, by
 rcases hx.2 with rfl | hx
 ·exact hz.2
 ·exact .inr (hz.2.elim (fun e => e ▸ hx) fun k => hv_trans hx k)⟩
theorem Msf.up (h : Msf l F) (k : Cn (Lo F e) a b) : Cn (Lo (In l) e) a b := k.sub fun x hx => ⟨h.mem hx.1, hx.2⟩
theorem Msf.all (h : Msf l F) : Cn (In l) a b ↔ Cn F a b := ⟨fun k => k.of fun x hx => (h.join _ x (Nat.le_refl _) hx).sub fun z hz => hz.1, fun k => k.sub fun x hx => h.mem hx⟩
theorem top_of_list (hu : Uq l) : l ≠ [] → ∃ m ∈ l, ∀ x ∈ l, x = m ∨ heavy m x = true := by
 induction l with
 | nil => exact fun h => absurd rfl h
 | cons y l ih =>
  intro _
  by_cases hl : l = []
  ·subst hl
   exact ⟨y, .head _, fun x hx => .inl (List.mem_singleton.1 hx)⟩
  ·obtain ⟨m, hm, hx⟩ := ih (fun a ha b hb => hu a (.tail _ ha) b (.tail _ hb)) hl
   by_cases hy : y = m
   ·exact ⟨m, .tail _ hm, fun x h => (List.mem_cons.1 h).elim (fun e => .inl (e.trans hy)) (hx x)⟩
   ·rcases hu.cmp (.head _) (.tail _ hm) hy with h | h
    ·exact ⟨y, .head _, fun x hx' => (List.mem_cons.1 hx').elim .inl fun hx' => .inr ((hx x hx').elim (fun e => e ▸ h) fun k => hv_trans h k)⟩
    ·exact ⟨m, .tail _ hm, fun x hx' => (List.mem_cons.1 hx').elim (fun e => .inr (e ▸ h)) (hx x)⟩
theorem Msf.acyc (h : Msf l F) (hu : Uq l) (hx : F x) : ∀ (m : Nat) (g : List Ed), g.length ≤ m → (∀ w ∈ g, F w ∧ w ≠ x) → ¬ Cn (In g) x.u.toNat x.v.toNat
 | m, g, hm, hg, hc => by
  have hxn := h.no hx
  by_cases hn : g = []
  ·subst hn
   have := hc.none fun e he => by cases he
   rw [this] at hxn
   exact hxn (.refl _)
  ·have hug : Uq g := fun a ha b hb => hu a (h.mem (hg a ha).1) b (h.mem (hg b hb).1)
   obtain ⟨t, ht, hmax⟩ := top_of_list hug hn
   obtain ⟨hFt, htx⟩ := hg t ht
   let g' := g.filter fun w => decide (w ≠ t)
   have hg' : ∀ w, w ∈ g' ↔ w ∈ g ∧ w ≠ t := fun w => by simp [g']
   have hlen : g'.length < g.length := by
    have : g'.length = g.countP fun w => decide (w ≠ t) := List.countP_eq_length_filter.symm
    rw [this]
    have := countP_lt (p := fun w => decide (w ≠ t)) (q := fun _ => true) (fun _ _ => rfl) ht rfl (by simp)
    rwa [List.countP_true] at this
   match m with
   | 0 => omega
   | m + 1 =>
    have ih := h.acyc hu hx m g' (by omega) fun w hw => hg w ((hg' w).1 hw).1
    rcases hu.cmp (h.mem hFt) (h.mem hx) htx with htx' | htx'
    ·have hc' : Cn (more (In g') t) x.u.toNat x.v.toNat := hc.sub fun w hw => by
      by_cases e : w = t
      ·exact .inr e
      ·exact .inl ((hg' w).2 ⟨hw, e⟩)
     have low : ∀ {p q : Nat}, Cn (In g') p q → Cn (Lo (In l) t) p q := fun k => k.sub fun w hw => by
      obtain ⟨h1, h2⟩ := (hg' w).1 hw
      exact ⟨h.mem (hg w h1).1, (hmax w h1).resolve_left h2⟩
     have hxe : Cn (Lo (In l) t) x.u.toNat x.v.toNat := .edge ⟨h.mem hx, htx'⟩
     rcases Cn.more.1 hc' with k | ⟨k1, k2⟩ | ⟨k1, k2⟩
     ·exact ih k
     ·exact h.no hFt (((low k1).symm.trans hxe).trans (low k2).symm)
     ·exact h.no hFt (((low k2).trans hxe.symm).trans (low k1))
    ·exact hxn (hc.sub fun w hw => ⟨h.mem (hg w hw).1, (hmax w hw).elim (fun e => e ▸ htx') fun k => hv_trans htx' k⟩)
theorem Msf.apart (h : Msf l F) (hu : Uq l) (hx : F x) : ¬ Cn (fun e => F e ∧ e ≠ x) x.u.toNat x.v.toNat := fun hc => by
 classical
 refine h.acyc hu hx _ (l.filter fun w => decide (F w ∧ w ≠ x)) (Nat.le_refl _) (fun w hw => by simpa using (List.mem_filter.1 hw).2) (hc.sub fun w hw => ?_)
 exact List.mem_filter.2 ⟨h.mem hw.1, by simpa using hw⟩
structure Mx (F : Ed → Prop) (a b : Nat) (y : Ed) : Prop where
 of : F y
 cut : ¬ Cn (fun e => F e ∧ e ≠ y) a b
 le : Cn (Le F y) a b
theorem Mx.low (h : Mx F a b y) : ¬ Cn (Lo F y) a b := fun k => h.cut (k.sub fun e he => ⟨he.1, fun e' => by subst e'; have := he.2; rw [hv_self] at this; cases this⟩)
theorem Mx.ends (h : Mx F a b y) : (Cn (Lo F y) a y.u.toNat ∧ Cn (Lo F y) y.v.toNat b) ∨ (Cn (Lo F y) a y.v.toNat ∧ Cn (Lo F y) y.u.toNat b) := by
 have hc : Cn (more (Lo F y) y) a b := h.le.sub fun e he => he.2.elim .inr fun k => .inl ⟨he.1, k⟩
 rcases Cn.more.1 hc with k | k
 ·exact absurd k h.low
 ·exact k
theorem Msf.more_out (h : Msf l F) (hl : ∀ e, e ∈ l' ↔ e ∈ l ∨ e = x) (hno : ¬ Cn (In l) x.u.toNat x.v.toNat) (hnew : x ∉ l) : Msf l' (fun e => F e ∨ e = x) := by
 have key : ∀ e p q, Cn (Lo (In l') e) p q → Cn (more (Lo (In l) e) x) p q := fun e p q k => k.sub fun z hz => ((hl z).1 hz.1).elim (fun h => .inl ⟨h, hz.2⟩) .inr
 intro e
 constructor
 ·rintro (he | rfl)
  ·refine ⟨(hl e).2 (.inl (h.mem he)), fun k => ?_⟩
   have hel : Cn (In l) e.u.toNat e.v.toNat := .edge (h.mem he)
   have up : ∀ {p q : Nat}, Cn (Lo (In l) e) p q → Cn (In l) p q := fun k => k.sub fun z hz => hz.1
   rcases Cn.more.1 (key _ _ _ k) with k | ⟨k1, k2⟩ | ⟨k1, k2⟩
   ·exact h.no he k
   ·exact hno (((up k1).symm.trans hel).trans (up k2).symm)
   ·exact hno (((up k2).trans hel.symm).trans (up k1))
  ·refine ⟨(hl e).2 (.inr rfl), fun k => hno (k.sub fun z hz => ((hl z).1 hz.1).resolve_right fun e' => by have := hz.2; rw [e', hv_self] at this; cases this)⟩
 ·rintro ⟨he, hn⟩
  rcases (hl e).1 he with he | rfl
  ·exact .inl ((h e).2 ⟨he, fun k => hn (k.sub fun z hz => ⟨(hl z).2 (.inl hz.1), hz.2⟩)⟩)
  ·exact .inr rfl
theorem Msf.more_keep (h : Msf l F) (hl : ∀ e, e ∈ l' ↔ e ∈ l ∨ e = x) (hy : Mx F x.u.toNat x.v.toNat y) (hxy : heavy x y = true) (hnew : x ∉ l) : Msf l' F := by
 have hjoin : ∀ e, heavy e x = true → Cn (Lo (In l) e) x.u.toNat x.v.toNat := fun e he => hy.le.sub fun z hz => ⟨h.mem hz.1, hz.2.elim (fun e' => e' ▸ hv_trans he hxy) fun k => hv_trans (hv_trans he hxy) k⟩
 have key : ∀ e p q, Cn (Lo (In l') e) p q → Cn (Lo (In l) e) p q := fun e p q k => k.of fun z hz => by
  rcases (hl z).1 hz.1 with h1 | rfl
  ·exact .edge ⟨h1, hz.2⟩
  ·exact hjoin e hz.2
 intro e
 rw [h e]
 constructor
 ·rintro ⟨he, hn⟩
  exact ⟨(hl e).2 (.inl he), fun k => hn (key _ _ _ k)⟩
 ·rintro ⟨he, hn⟩
  rcases (hl e).1 he with he | rfl
  ·exact ⟨he, fun k => hn (k.sub fun z hz => ⟨(hl z).2 (.inl hz.1), hz.2⟩)⟩
  ·refine absurd (hy.le.sub fun z hz => ?_) hn
   exact ⟨(hl z).2 (.inl (h.mem hz.1)), hz.2.elim (fun e' => e' ▸ hxy) fun k => hv_trans hxy k⟩
theorem Msf.more_swap (h : Msf l F) (hu : Uq l') (hl : ∀ e, e ∈ l' ↔ e ∈ l ∨ e = x) (hy : Mx F x.u.toNat x.v.toNat y) (hxy : heavy y x = true) (hnew : x ∉ l) : Msf l' (fun e => (F e ∧ e ≠ y) ∨ e = x) := by
 have hyl := h.mem hy.of
 have key : ∀ e p q, Cn (Lo (In l') e) p q → Cn (more (Lo (In l) e) x) p q := fun e p q k => k.sub fun z hz => ((hl z).1 hz.1).elim (fun h => .inl ⟨h, hz.2⟩) .inr
 have key2 : ∀ e p q, ¬ heavy e x = true → Cn (Lo (In l') e) p q → Cn (Lo (In l) e) p q := fun e p q hn k => k.sub fun z hz => ((hl z).1 hz.1).elim (fun h => ⟨h, hz.2⟩) fun e' => absurd (e' ▸ hz.2) hn
 have hxn : ¬ Cn (Lo (In l') x) x.u.toNat x.v.toNat := fun k => hy.cut ((h.low (key2 x _ _ (by rw [hv_self]; decide) k)).sub fun z hz => ⟨hz.1, fun e' => by subst e'; exact hv_asymm hxy hz.2⟩)
 have hyj : Cn (Lo (In l') y) y.u.toNat y.v.toNat := by
  have up : ∀ {p q : Nat}, Cn (Lo F y) p q → Cn (Lo (In l') y) p q := fun k => k.sub fun z hz => ⟨(hl z).2 (.inl (h.mem hz.1)), hz.2⟩
  have hx : Cn (Lo (In l') y) x.u.toNat x.v.toNat := .edge ⟨(hl x).2 (.inr rfl), hxy⟩
  rcases hy.ends with ⟨k1, k2⟩ | ⟨k1, k2⟩
  ·exact ((up k1).symm.trans hx).trans (up k2).symm
  ·exact ((up k2).trans hx.symm).trans (up k1)
 intro e
 by_cases hex : e = x
 ·subst hex
  exact ⟨fun _ => ⟨(hl e).2 (.inr rfl), hxn⟩, fun _ => .inr rfl⟩
 by_cases hey : e = y
 ·subst hey
  constructor
  ·rintro (⟨_, h1⟩ | h1)
   ·exact absurd rfl h1
   ·exact absurd h1 hex
  ·rintro ⟨_, h1⟩; exact absurd hyj h1
 constructor
 ·rintro (⟨he, _⟩ | h1)
  ·have hel := h.mem he
   refine ⟨(hl e).2 (.inl hel), fun k => ?_⟩
   by_cases hlt : heavy e x = true
   ·have hlow : ∀ {p q : Nat}, Cn (Lo (In l) e) p q → Cn (Lo F e) p q := h.low
    have hcon : ∀ {S : Ed → Prop}, (∀ {p q : Nat}, Cn (Lo F e) p q → Cn S p q) → S e → (Cn (Lo F e) e.u.toNat x.u.toNat ∧ Cn (Lo F e) x.v.toNat e.v.toNat) ∨ (Cn (Lo F e) e.u.toNat x.v.toNat ∧ Cn (Lo F e) x.u.toNat e.v.toNat) → Cn S x.u.toNat x.v.toNat := fun m he hor => by
     have ee := Cn.edge he
     rcases hor with ⟨k1, k2⟩ | ⟨k1, k2⟩
     ·exact ((m k1).symm.trans ee).trans (m k2).symm
     ·exact ((m k2).trans ee.symm).trans (m k1)
    have hor : (Cn (Lo F e) e.u.toNat x.u.toNat ∧ Cn (Lo F e) x.v.toNat e.v.toNat) ∨ (Cn (Lo F e) e.u.toNat x.v.toNat ∧ Cn (Lo F e) x.u.toNat e.v.toNat) := by
     rcases Cn.more.1 (key _ _ _ k) with k | ⟨k1, k2⟩ | ⟨k1, k2⟩
     ·exact absurd k (h.no he)
     ·exact .inl ⟨hlow k1, hlow k2⟩
     ·exact .inr ⟨hlow k1, hlow k2⟩
    rcases hu.cmp ((hl e).2 (.inl hel)) ((hl y).2 (.inl hyl)) hey with hh | hh
    ·have hx : Cn (Lo F e) x.u.toNat x.v.toNat := hy.le.sub fun z hz => ⟨hz.1, hz.2.elim (fun e' => e' ▸ hh) fun k => hv_trans hh k⟩
     refine h.no he (h.up ?_)
     rcases hor with ⟨k1, k2⟩ | ⟨k1, k2⟩
     ·exact (k1.trans hx).trans k2
     ·exact (k1.trans hx.symm).trans k2
    ·exact hy.cut (hcon (S := fun z => F z ∧ z ≠ y) (fun k => k.sub fun z hz => ⟨hz.1, fun e' => by subst e'; exact hv_asymm hh hz.2⟩) ⟨he, hey⟩ hor)
   ·exact h.no he (key2 _ _ _ hlt k)
  ·exact absurd h1 hex
 ·rintro ⟨he, hn⟩
  have hel := ((hl e).1 he).resolve_right hex
  exact .inl ⟨(h e).2 ⟨hel, fun k => hn (k.sub fun z hz => ⟨(hl z).2 (.inl hz.1), hz.2⟩)⟩, hey⟩
theorem Msf.less_out (h : Msf l F) (hl : ∀ e, e ∈ l' ↔ e ∈ l ∧ e ≠ x) (hx : ¬ F x) : Msf l' F := by
 have key : ∀ e p q, Cn (Lo (In l) e) p q → Cn (Lo (In l') e) p q := fun e p q k => (h.low k).sub fun z hz => ⟨(hl z).2 ⟨h.mem hz.1, fun e' => hx (e' ▸ hz.1)⟩, hz.2⟩
 intro e
 constructor
 ·intro he
  exact ⟨(hl e).2 ⟨h.mem he, fun e' => hx (e' ▸ he)⟩, fun k => h.no he (k.sub fun z hz => ⟨((hl z).1 hz.1).1, hz.2⟩)⟩
 ·rintro ⟨he, hn⟩
  exact (h e).2 ⟨((hl e).1 he).1, fun k => hn (key _ _ _ k)⟩
def Cross (F : Ed → Prop) (x y : Ed) : Prop := ¬ (Cn (fun e => F e ∧ e ≠ x) x.u.toNat y.u.toNat ↔ Cn (fun e => F e ∧ e ≠ x) x.u.toNat y.v.toNat)
theorem Msf.split (h : Msf l F) (hl : ∀ e, e ∈ l' ↔ e ∈ l ∧ e ≠ x) (k : Cn (Lo (In l) e) a b) : Cn (Lo (In l') e) a b ∨ (heavy e x = true ∧ ((Cn (Lo (In l') e) a x.u.toNat ∧ Cn (Lo (In l') e) x.v.toNat b) ∨ (Cn (Lo (In l') e) a x.v.toNat ∧ Cn (Lo (In l') e) x.u.toNat b))) := by
 by_cases hx : heavy e x = true
 ·have k' : Cn (more (Lo (In l') e) x) a b := k.sub fun z hz => by
   by_cases ez : z = x
   ·exact .inr ez
   ·exact .inl ⟨(hl z).2 ⟨hz.1, ez⟩, hz.2⟩
  rcases Cn.more.1 k' with k | k
  ·exact .inl k
  ·exact .inr ⟨hx, k⟩
 ·exact .inl (k.sub fun z hz => ⟨(hl z).2 ⟨hz.1, fun e' => hx (e' ▸ hz.2)⟩, hz.2⟩)
theorem Msf.rest (h : Msf l F) (hl : ∀ e, e ∈ l' ↔ e ∈ l ∧ e ≠ x) {R : Ed → Prop} (hR : ∀ e, R e → e ∈ l' ∧ ¬ Cross F x e) (k : Cn R a b) : Cn (fun e => F e ∧ e ≠ x) x.u.toNat a ↔ Cn (fun e => F e ∧ e ≠ x) x.u.toNat b :=
 k.side (P := fun z => Cn (fun e => F e ∧ e ≠ x) x.u.toNat z) fun e he => Classical.byContradiction fun hc => (hR e he).2 hc
theorem Msf.side (h : Msf l F) (hu : Uq l) (hx : F x) : ¬ Cn (fun e => F e ∧ e ≠ x) x.u.toNat x.v.toNat := h.apart hu hx
theorem Msf.less_none (h : Msf l F) (hu : Uq l) (hl : ∀ e, e ∈ l' ↔ e ∈ l ∧ e ≠ x) (hx : F x) (hno : ∀ y ∈ l', ¬ Cross F x y) : Msf l' (fun e => F e ∧ e ≠ x) := by
 intro e
 constructor
 ·rintro ⟨he, hne⟩
  exact ⟨(hl e).2 ⟨h.mem he, hne⟩, fun k => h.no he (k.sub fun z hz => ⟨((hl z).1 hz.1).1, hz.2⟩)⟩
 ·rintro ⟨he, hn⟩
  obtain ⟨hel, hne⟩ := (hl e).1 he
  refine ⟨(h e).2 ⟨hel, fun k => ?_⟩, hne⟩
  have hr : ∀ {p q : Nat}, Cn (Lo (In l') e) p q → (Cn (fun e => F e ∧ e ≠ x) x.u.toNat p ↔ Cn (fun e => F e ∧ e ≠ x) x.u.toNat q) := fun k => h.rest hl (fun z hz => ⟨hz.1, hno z hz.1⟩) k
  have hec := Classical.byContradiction fun hc => hno e he hc
  have hs := h.side hu hx
  rcases h.split hl k with k | ⟨_, ⟨k1, k2⟩ | ⟨k1, k2⟩⟩
  ·exact hn k
  ·exact hs ((hr k2).2 (hec.1 ((hr k1).2 (.refl _))))
  ·exact hs ((hr k1).1 (hec.2 ((hr k2).1 (.refl _))))
theorem Msf.less_best (h : Msf l F) (hu : Uq l) (hl : ∀ e, e ∈ l' ↔ e ∈ l ∧ e ≠ x) (hx : F x) (hy : y ∈ l') (hc : Cross F x y) (hmin : ∀ z ∈ l', Cross F x z → z = y ∨ heavy z y = true) : Msf l' (fun e => (F e ∧ e ≠ x) ∨ e = y) := by
 have hs := h.side hu hx
 have hyF : ¬ F y := fun hf => hc (by
  have : Cn (fun e => F e ∧ e ≠ x) y.u.toNat y.v.toNat := .edge ⟨hf, ((hl y).1 hy).2⟩
  exact ⟨fun k => k.trans this, fun k => k.trans this.symm⟩)
 have hyl := (hl y).1 hy
 have hr : ∀ {e : Ed} {p q : Nat}, ¬ heavy e y = true → Cn (Lo (In l') e) p q → (Cn (fun e => F e ∧ e ≠ x) x.u.toNat p ↔ Cn (fun e => F e ∧ e ≠ x) x.u.toNat q) := fun {e p q} hle k =>
  h.rest hl (fun z hz => ⟨hz.1, fun hcz => by
   rcases hmin z hz.1 hcz with rfl | h1
   ·exact hle hz.2
   ·exact hle (hv_trans hz.2 h1)⟩) k
 intro e
 by_cases hey : e = y
 ·subst hey
  refine ⟨fun _ => ⟨hy, fun k => hc ?_⟩, fun _ => .inr rfl⟩
  exact hr (by rw [hv_self]; decide) k
 constructor
 ·rintro (⟨he, hne⟩ | h1)
  ·exact ⟨(hl e).2 ⟨h.mem he, hne⟩, fun k => h.no he (k.sub fun z hz => ⟨((hl z).1 hz.1).1, hz.2⟩)⟩
  ·exact absurd h1 hey
 ·rintro ⟨he, hn⟩
  obtain ⟨hel, hne⟩ := (hl e).1 he
  refine .inl ⟨(h e).2 ⟨hel, fun k => ?_⟩, hne⟩
  rcases h.split hl k with k | ⟨hex, hor⟩
  ·exact hn k
  by_cases hle : heavy e y = true
  ·have ky : Cn (Lo (In l) y) y.u.toNat y.v.toNat := Classical.byContradiction fun hno => hyF ((h y).2 ⟨hyl.1, hno⟩)
   have up : ∀ {p q : Nat}, Cn (Lo (In l') y) p q → Cn (Lo (In l') e) p q := fun k => k.sub fun z hz => ⟨hz.1, hv_trans hle hz.2⟩
   have hye : Cn (Lo (In l') e) y.u.toNat y.v.toNat := .edge ⟨hy, hle⟩
   have hxx : Cn (Lo (In l') e) x.u.toNat x.v.toNat := by
    rcases h.split hl ky with k | ⟨_, ⟨k1, k2⟩ | ⟨k1, k2⟩⟩
    ·exact absurd (hr (by rw [hv_self]; decide) k) hc
    ·exact ((up k1).symm.trans hye).trans (up k2).symm
    ·exact ((up k2).trans hye.symm).trans (up k1)
   rcases hor with ⟨k1, k2⟩ | ⟨k1, k2⟩
   ·exact hn ((k1.trans hxx).trans k2)
   ·exact hn ((k1.trans hxx.symm).trans k2)
  ·have hec : Cn (fun e => F e ∧ e ≠ x) x.u.toNat e.u.toNat ↔ Cn (fun e => F e ∧ e ≠ x) x.u.toNat e.v.toNat := Classical.byContradiction fun hce => by
    rcases hmin e he hce with h1 | h1
    ·exact hey h1
    ·exact hle h1
   rcases hor with ⟨k1, k2⟩ | ⟨k1, k2⟩
   ·exact hs ((hr hle k2).2 (hec.1 ((hr hle k1).2 (.refl _))))
   ·exact hs ((hr hle k1).1 (hec.2 ((hr hle k2).1 (.refl _))))
theorem Mx.uniq (h : Msf l F) (hu : Uq l) (h1 : Mx F a b y) (h2 : Mx F a b z) : y = z := Classical.byContradiction fun hne => by
 rcases hu.cmp (h.mem h1.of) (h.mem h2.of) hne with k | k
 ·exact h1.low (h2.le.sub fun e he => ⟨he.1, he.2.elim (fun e' => e' ▸ k) fun k' => hv_trans k k'⟩)
 ·exact h2.low (h1.le.sub fun e he => ⟨he.1, he.2.elim (fun e' => e' ▸ k) fun k' => hv_trans k k'⟩)
theorem Msf.uniq {F' : Ed → Prop} (h : Msf l F) (h' : Msf l' F') (hl : ∀ e, e ∈ l ↔ e ∈ l') (e : Ed) : F e ↔ F' e := by
 rw [h e, h' e, hl e]
 have : ∀ {p q : Nat}, Cn (Lo (In l) e) p q ↔ Cn (Lo (In l') e) p q := ⟨fun k => k.sub fun z hz => ⟨(hl z).1 hz.1, hz.2⟩, fun k => k.sub fun z hz => ⟨(hl z).2 hz.1, hz.2⟩⟩
 rw [this]
end
end Go.Ms
namespace Go.Ms
open Go Go.Hp Go.Li Go.Br
set_option linter.unusedVariables false
section
variable {S : Ls} {F : List Ed} {Q : Ed → Prop}
theorem rch_cn {F : List Ed} {a b : Nat} : RchL (endsL F) a b ↔ Cn (In F) a b := by
 constructor
 ·intro h
  induction h with
  | refl => exact .refl _
  | @step x y _ e ih =>
   rcases e with e | e
   ·obtain ⟨z, hz, he⟩ := List.mem_map.1 e
    simp only [Prod.mk.injEq] at he
    exact .snoc ih (.inl ⟨z, hz, he.1.symm, he.2.symm⟩)
   ·obtain ⟨z, hz, he⟩ := List.mem_map.1 e
    simp only [Prod.mk.injEq] at he
    exact .snoc ih (.inr ⟨z, hz, he.1.symm, he.2.symm⟩)
 ·intro h
  induction h with
  | refl => exact .refl _
  | @snoc x y _ e ih =>
   rcases e with ⟨z, hz, h1, h2⟩ | ⟨z, hz, h1, h2⟩
   ·exact .step ih (.inl (List.mem_map.2 ⟨z, hz, by rw [h1, h2]⟩))
   ·exact .step ih (.inr (List.mem_map.2 ⟨z, hz, by rw [h1, h2]⟩))
theorem wk_con (k : S.Ok) : ∀ (m : Nat) (P : List Nat) (a b : Nat), P.length ≤ m → Wk S.par ((a + 1) :: P) → ((a + 1) :: P).getLast? = some (b + 1) → a < S.n → b < S.n → (∀ x ∈ P, ∀ e, S.E x = some e → Q e) → Cn Q a b
 | m, [], a, b, _, _, h, _, _, _ => by
  have : a = b := by simpa using h
  subst this
  exact .refl _
 | m, [g], a, b, hm, hw, h, ha, hb, _ => by
  have hE := k.vx (a + 1) g (by omega) (by omega) hw.1
  have : g = b + 1 := by simpa using h
  rw [this, k.eno (by omega)] at hE
  cases hE
 | m + 1, g :: y :: P, a, b, hm, hw, h, ha, hb, hQ => by
  have hE := k.vx (a + 1) g (by omega) (by omega) hw.1
  obtain ⟨e, he⟩ := Option.isSome_iff_exists.1 hE
  obtain ⟨q1, q2, q3, q4, q5⟩ := k.en g e he
  have ha1 := (k.ad g e (a + 1) he).1 hw.1.symm
  have hy := (k.ad g e y he).1 hw.2.1
  obtain ⟨z, hz⟩ : ∃ z, y = z + 1 := ⟨y - 1, by omega⟩
  subst hz
  have ih := wk_con k m P z b (by simp at hm; omega) hw.2.2 (by rw [List.getLast?_cons_cons, List.getLast?_cons_cons] at h; exact h) (by omega) hb fun x hx => hQ x (.tail _ (.tail _ hx))
  have he' := Cn.edge (hQ g (.head _) e he)
  by_cases haz : a = z
  ·rw [haz]; exact ih
  ·refine Con.trans ?_ ih
   rcases ha1 with ha1 | ha1
   ·rcases hy with hy | hy
    ·omega
    ·rw [show a = e.u.toNat by omega, show z = e.v.toNat by omega]; exact he'
   ·rcases hy with hy | hy
    ·rw [show a = e.v.toNat by omega, show z = e.u.toNat by omega]; exact he'.symm
    ·omega
theorem most_split (k : S.Ok) (hs : Has S F) {u v : Nat} {P : List Nat} {e : Ed} (hu : u < S.n) (hv : v < S.n) (h : SP S.par (u + 1) (v + 1) P) (hm : IsMost S.E P e) :
  e ∈ F ∧ Cn (Le (In F) e) u v ∧ ((Cn (fun x => x ∈ F ∧ x ≠ e) u e.u.toNat ∧ Cn (fun x => x ∈ F ∧ x ≠ e) e.v.toNat v) ∨ (Cn (fun x => x ∈ F ∧ x ≠ e) u e.v.toNat ∧ Cn (fun x => x ∈ F ∧ x ≠ e) e.u.toNat v)) := by
 obtain ⟨b, hb, hbe, hmax⟩ := hm
 obtain ⟨q1, q2, q3, q4, q5⟩ := k.en b e hbe
 have heF := (hs e).1 ⟨b, hbe⟩
 refine ⟨heF, ?_, ?_⟩
 ·cases P with
  | nil => cases hb
  | cons x q =>
   have ex : x = u + 1 := by simpa using h.head
   subst ex
   refine wk_con k _ q u v (Nat.le_refl _) h.wk h.last hu hv fun x hx e' he' => ⟨(hs e').1 ⟨x, he'⟩, ?_⟩
   rcases hmax x (.tail _ hx) e' he' with rfl | h1
   ·rw [hbe] at he'; exact .inl (Option.some.inj he').symm
   ·exact .inr h1
 ·obtain ⟨A, B, rfl⟩ := List.append_of_mem hb
  have hnd := h.nd
  rw [List.nodup_append] at hnd
  obtain ⟨hA, hB, hAB⟩ := hnd
  rw [List.nodup_cons] at hB
  have other : ∀ x ∈ A ++ B, ∀ e', S.E x = some e' → e' ∈ F ∧ e' ≠ e := fun x hx e' he' => by
   refine ⟨(hs e').1 ⟨x, he'⟩, fun e1 => ?_⟩
   subst e1
   have hxb : x = b := k.uq x b e' e' he' hbe rfl
   subst hxb
   rcases List.mem_append.1 hx with hx | hx
   ·exact hAB x hx x (.head _) rfl
   ·exact hB.1 hx
  have hw := h.wk
  cases A with
  | nil =>
   have : b = u + 1 := by simpa using h.head
   omega
  | cons a0 A' =>
   have ea : a0 = u + 1 := by simpa using h.head
   subst ea
   obtain ⟨A'', x, hx⟩ : ∃ A'' x, (u + 1) :: A' = A'' ++ [x] := by
    rcases List.eq_nil_or_concat ((u + 1) :: A') with e1 | ⟨p, x, e1⟩
    ·cases e1
    ·exact ⟨p, x, by simpa using e1⟩
   cases B with
   | nil =>
    have := h.last
    rw [List.getLast?_append] at this
    simp at this
    omega
   | cons y B' =>
    have hwB : Wk S.par (b :: y :: B') := hw.right
    have hwA : Wk S.par ((u + 1) :: A') := hw.left
    have hxb : Adj S.par x b := by
     rw [hx, List.append_assoc] at hw
     exact (Wk.right hw).1
    have hyb : Adj S.par b y := hwB.1
    have hx1 := (k.ad b e x hbe).1 hxb.symm
    have hy1 := (k.ad b e y hbe).1 hyb
    have hxm : x ∈ (u + 1) :: A' := by rw [hx]; simp
    have hxy : x ≠ y := hAB x hxm y (.tail _ (.head _))
    obtain ⟨c, hc⟩ : ∃ c, x = c + 1 := ⟨x - 1, by omega⟩
    obtain ⟨d, hd⟩ : ∃ d, y = d + 1 := ⟨y - 1, by omega⟩
    subst hc hd
    have cA : Cn (fun x => x ∈ F ∧ x ≠ e) u c := wk_con k _ A' u c (Nat.le_refl _) hwA (by rw [hx]; simp) hu (by omega) fun z hz => other z (List.mem_append_left _ (.tail _ hz))
    have hlast : ((d + 1) :: B').getLast? = some (v + 1) := by
     have := h.last
     rw [List.getLast?_append, List.getLast?_cons_cons] at this
     cases hh : ((d + 1) :: B').getLast? with
     | none => rw [List.getLast?_eq_none_iff] at hh; cases hh
     | some w => rw [hh] at this; simpa using this
    have cB : Cn (fun x => x ∈ F ∧ x ≠ e) d v := wk_con k _ B' d v (Nat.le_refl _) hwB.2 hlast (by omega) hv fun z hz => other z (List.mem_append_right _ (.tail _ hz))
    rcases hx1 with hx1 | hx1 <;> rcases hy1 with hy1 | hy1
    ·omega
    ·exact .inl ⟨by rw [show e.u.toNat = c by omega]; exact cA, by rw [show e.v.toNat = d by omega]; exact cB⟩
    ·exact .inr ⟨by rw [show e.v.toNat = c by omega]; exact cA, by rw [show e.u.toNat = d by omega]; exact cB⟩
    ·omega
theorem Msf.mx {l : List Ed} {u v : Nat} {e : Ed} (h : Msf l (In F)) (hu : Uq l) (h1 : e ∈ F) (h2 : Cn (Le (In F) e) u v)
  (h3 : (Cn (fun x => x ∈ F ∧ x ≠ e) u e.u.toNat ∧ Cn (fun x => x ∈ F ∧ x ≠ e) e.v.toNat v) ∨ (Cn (fun x => x ∈ F ∧ x ≠ e) u e.v.toNat ∧ Cn (fun x => x ∈ F ∧ x ≠ e) e.u.toNat v)) : Mx (In F) u v e := by
 refine ⟨h1, fun hc => h.apart hu h1 ?_, h2⟩
 rcases h3 with ⟨a, b⟩ | ⟨a, b⟩
 ·exact (a.symm.trans hc).trans b.symm
 ·exact (b.trans hc.symm).trans a
end
def TrM (H : Heap) (t : Nat) (T : Nat → Prop) (n : Nat) (F : List Ed) : Prop := ∃ S : Ls, Proofs.Ytafehbegoanajaa.LtM H t T S ∧ S.n = n ∧ Has S F
end Go.Ms
namespace Go.Proofs.Ytafehbegoanajaa
open Go Go.Hp Go.Li Go.Br Go.Ms
set_option linter.all false
set_option maxRecDepth 100000
set_option maxHeartbeats 1600000
section
variable {H H' : Heap} {t n : Nat} {T T0 : Nat → Prop} {F : List Ed} {K : Value → Heap → Prop}
theorem _root_.Go.Ms.TrM.frame (h : TrM H t T n F) (hf : Fr T0 H H') (hT : ∀ b, T b → ¬ T0 b) : TrM H' t T n F := by
 obtain ⟨S, h1, h2, h3⟩ := h
 exact ⟨S, h1.frame hf hT, h2, h3⟩
theorem _root_.Go.Ms.TrM.below (h : TrM H t T n F) : ∀ b, T b → b < H.size := by
 obtain ⟨S, h1, h2, h3⟩ := h
 exact h1.below
theorem tr_root {S : Ls} (k : S.Ok) (hs : Has S F) {a b ra rb : Nat} (ha : a < S.n) (hb : b < S.n) (hra : RootOf S.par (a + 1) ra) (hrb : RootOf S.par (b + 1) rb) : ra = rb ↔ Cn (In F) a b := by
 constructor
 ·rintro rfl
  exact rch_cn.1 (k.root_rch hs ha hb hra hrb)
 ·intro h
  have := k.rch_root hs (rch_cn.2 h) hra
  exact this.uniq hrb
theorem t_same {u v : Nat} (h : TrM H t T n F) (hu : u < n) (hv : v < n) (fin : ∀ H' b, (b = true ↔ Cn (In F) u v) → TrM H' t T n F → Fr T H H' → K (.tuple #[.bool b, .int .i64 0]) H') :
  CallsH Try.prog 54 #[.pointer (some ⟨t, 0, none⟩), .int .i64 (u : Nat), .int .i64 (v : Nat)] H K := by
 obtain ⟨S, h1, rfl, h3⟩ := h
 obtain ⟨ru, hru, _⟩ := h1.ok.rooted hu
 obtain ⟨rv, hrv, _⟩ := h1.ok.rooted hv
 refine m_same h1 hu hv hru hrv fun H' hM hf => fin H' _ ?_ ⟨S, hM, rfl, h3⟩ hf
 rw [decide_eq_true_iff]
 exact tr_root h1.ok h3 hu hv hru hrv
theorem t_most {u v : Nat} (h : TrM H t T n F) (hu : u < n) (hv : v < n)
  (no : (u = v ∨ ¬ Cn (In F) u v) → ∀ H', TrM H' t T n F → Fr T H H' → K (.tuple #[Ed.zero.val, .int .i64 54]) H')
  (fin : u ≠ v → Cn (In F) u v → ∀ H' e, e ∈ F → Cn (Le (In F) e) u v → ((Cn (fun x => x ∈ F ∧ x ≠ e) u e.u.toNat ∧ Cn (fun x => x ∈ F ∧ x ≠ e) e.v.toNat v) ∨ (Cn (fun x => x ∈ F ∧ x ≠ e) u e.v.toNat ∧ Cn (fun x => x ∈ F ∧ x ≠ e) e.u.toNat v)) → TrM H' t T n F → Fr T H H' → K (.tuple #[e.val, .int .i64 0]) H') :
  CallsH Try.prog 30 #[.pointer (some ⟨t, 0, none⟩), .int .i64 (u : Nat), .int .i64 (v : Nat)] H K := by
 obtain ⟨S, h1, rfl, h3⟩ := h
 by_cases huv : u = v
 ·exact m_most_self h1 hu hv huv fun H' hM hf => no (.inl huv) H' ⟨S, hM, rfl, h3⟩ hf
 obtain ⟨ru, hru, _⟩ := h1.ok.rooted hu
 obtain ⟨rv, hrv, _⟩ := h1.ok.rooted hv
 by_cases hc : Cn (In F) u v
 ·have e := (tr_root h1.ok h3 hu hv hru hrv).2 hc
  rw [← e] at hrv
  refine m_most h1 hu hv huv hru hrv fun H' P e hP hm hM hf => ?_
  obtain ⟨k1, k2, k3⟩ := most_split h1.ok h3 hu hv hP hm
  exact fin huv hc H' e k1 k2 k3 ⟨S, hM, rfl, h3⟩ hf
 ·exact m_most_none h1 hu hv huv hru hrv (fun e => hc ((tr_root h1.ok h3 hu hv hru hrv).1 e)) fun H' hM hf => no (.inr hc) H' ⟨S, hM, rfl, h3⟩ hf
theorem t_link {u v : Nat} {id w : Int} (h : TrM H t T n F) (hu : u < n) (hv : v < n) (ha : okArg id w = true) (hid : ∀ e ∈ F, e.id ≠ id) (hc : ¬ Cn (In F) u v)
  (fin : ∀ H' T', TrM H' t T' n (F ++ [⟨id, (u : Nat), (v : Nat), w⟩]) → Fr T H H' → (∀ b, T' b → T b ∨ H.size ≤ b) → K (.int .i64 0) H') :
  CallsH Try.prog 47 #[.pointer (some ⟨t, 0, none⟩), .int .i64 (u : Nat), .int .i64 (v : Nat), .int .i64 id, .int .i64 w] H K := by
 obtain ⟨S, h1, rfl, h3⟩ := h
 obtain ⟨ru, hru, _⟩ := h1.ok.rooted hu
 obtain ⟨rv, hrv, _⟩ := h1.ok.rooted hv
 refine m_link h1 hu hv ha (h3.id hid) hru hrv (fun e => hc ((tr_root h1.ok h3 hu hv hru hrv).1 e)) fun H' T' S' hM hk hf hT => fin H' T' ⟨S', hM, hk.n, hk.has h3⟩ hf hT
theorem t_cut {i : Nat} {x : Ed} (h : TrM H t T n F) (hn : (F.map (·.id)).Nodup) (hi : F[i]? = some x) (fin : ∀ H' T', TrM H' t T' n (woL F i) → Fr T H H' → (∀ b, T' b → T b ∨ H.size ≤ b) → K (.int .i64 0) H') :
  CallsH Try.prog 48 #[.pointer (some ⟨t, 0, none⟩), .int .i64 x.id] H K := by
 obtain ⟨S, h1, rfl, h3⟩ := h
 obtain ⟨g, hg⟩ := (h3 x).2 (List.mem_of_getElem? hi)
 obtain ⟨c, p, c1, _⟩ := h1.ok.kid hg
 exact cut_ok h1 hg rfl c1 fun H' T' hM hf hT => fin H' T' ⟨S.cut g c, hM, rfl, h1.ok.cut_has h3 hn hg hi⟩ hf hT
theorem t_new {n : Nat} (h1 : 1 ≤ n) (h2 : n ≤ 64) (fin : ∀ H' t T, TrM H' t T n [] → Fr (fun _ => False) H H' → (∀ b, T b → H.size ≤ b) → K (.tuple #[.pointer (some ⟨t, 0, none⟩), .int .i64 0]) H') :
  CallsH Try.prog 28 #[.int .i64 (n : Nat)] H K :=
 lnew_ok h1 h2 fun H' t T hM hf hT => fin H' t T ⟨_, hM, rfl, Has.new n⟩ hf hT
end
end Go.Proofs.Ytafehbegoanajaa
namespace Go.Ms
open Go Go.Hp Go.Li Go.Br
set_option linter.unusedVariables false
def sumW (F : List Ed) : Int := (F.map (·.w)).sum
def byId (l : List Ed) (i : Int) : Option Ed := l.find? fun e => decide (e.id = i)
def wV (w : Int) : Value := .int .i64 w
section
variable {l l' F : List Ed} {i : Int} {x e : Ed}
theorem byId_some (h : byId l i = some x) : x ∈ l ∧ x.id = i := ⟨List.mem_of_find?_eq_some h, by simpa using List.find?_some h⟩
theorem byId_none : byId l i = none ↔ ∀ x ∈ l, x.id ≠ i := by unfold byId; rw [List.find?_eq_none]; simp
theorem uq_of (hn : (l.map (·.id)).Nodup) : Uq l := fun x hx y hy h => by
 obtain ⟨a, ha⟩ := List.mem_iff_getElem?.1 hx
 obtain ⟨b, hb⟩ := List.mem_iff_getElem?.1 hy
 have : a = b := (List.getElem?_inj (l := l.map (·.id)) (by rw [List.length_map]; exact (List.getElem?_eq_some_iff.1 ha).1) hn).1 (by rw [List.getElem?_map, List.getElem?_map, ha, hb]; simp [h])
 subst this
 rw [ha] at hb
 exact Option.some.inj hb
theorem byId_mem (hn : (l.map (·.id)).Nodup) (h : x ∈ l) : byId l x.id = some x := by
 cases hb : byId l x.id with
 | none => exact absurd rfl (byId_none.1 hb x h)
 | some y =>
  obtain ⟨h1, h2⟩ := byId_some hb
  rw [uq_of hn y h1 x h h2]
theorem byId_add (hx : ∀ e ∈ l, e.id ≠ x.id) (j : Int) : byId (l ++ [x]) j = if j = x.id then some x else byId l j := by
 unfold byId
 rw [List.find?_append]
 by_cases e : j = x.id
 ·subst e
  rw [if_pos rfl, List.find?_eq_none.2 (by simpa using hx)]
  simp
 ·rw [if_neg e]
  have : List.find? (fun e => decide (e.id = j)) [x] = none := by simp; exact fun h => e h.symm
  rw [this]; simp
theorem byId_wo (hn : (l.map (·.id)).Nodup) {k : Nat} (hk : l[k]? = some x) (j : Int) : byId (woL l k) j = if j = x.id then none else byId l j := by
 have h1 := woL_split hk
 obtain ⟨h2, h3⟩ := woL_nodup hk hn
 by_cases e : j = x.id
 ·rw [if_pos e, byId_none]
  intro y hy
  rw [e]; exact h3 y hy
 ·rw [if_neg e]
  have : byId l j = byId (l.take k ++ x :: l.drop (k + 1)) j := by rw [← h1]
  rw [this]
  unfold byId woL
  rw [List.find?_append, List.find?_append, List.find?_cons_of_neg (by simpa using fun h => e h.symm)]
theorem mem_wo (hn : (l.map (·.id)).Nodup) {k : Nat} (hk : l[k]? = some x) : e ∈ woL l k ↔ e ∈ l ∧ e ≠ x := by
 have h1 := woL_split hk
 obtain ⟨h2, h3⟩ := woL_nodup hk hn
 constructor
 ·intro h
  refine ⟨?_, fun e' => h3 e h (by rw [e'])⟩
  rw [h1]
  unfold woL at h
  rcases List.mem_append.1 h with h | h
  ·exact List.mem_append_left _ h
  ·exact List.mem_append_right _ (.tail _ h)
 ·rintro ⟨h, hne⟩
  rw [h1] at h
  unfold woL
  rcases List.mem_append.1 h with h | h
  ·exact List.mem_append_left _ h
  ·rcases List.mem_cons.1 h with h | h
   ·exact absurd h hne
   ·exact List.mem_append_right _ h
theorem sum_add (F : List Ed) (x : Ed) : sumW (F ++ [x]) = sumW F + x.w := by unfold sumW; simp
theorem sum_wo {k : Nat} (hk : F[k]? = some x) : sumW (woL F k) = sumW F - x.w := by
 have h1 := woL_split hk
 have : sumW F = sumW (F.take k ++ x :: F.drop (k + 1)) := by rw [← h1]
 rw [this]
 unfold sumW woL
 simp only [List.map_append, List.map_cons, List.sum_append, List.sum_cons]
 omega
theorem sum_le {F : List Ed} (h : ∀ e ∈ F, -1099511627776 ≤ e.w ∧ e.w ≤ 1099511627776) : -(1099511627776 * (F.length : Int)) ≤ sumW F ∧ sumW F ≤ 1099511627776 * (F.length : Int) := by
 induction F with
 | nil => exact ⟨by decide, by decide⟩
 | cons x F ih =>
  have h1 := h x (.head _)
  have h2 := ih fun e he => h e (.tail _ he)
  have : sumW (x :: F) = x.w + sumW F := by unfold sumW; simp
  rw [this, List.length_cons]
  omega
theorem len_le {α : Type} [DecidableEq α] : ∀ {a b : List α}, a.Nodup → (∀ x ∈ a, x ∈ b) → a.length ≤ b.length
 | [], _, _, _ => Nat.zero_le _
 | x :: a, b, h, hs => by
  rw [List.nodup_cons] at h
  have hx := hs x (.head _)
  have := len_le (b := b.erase x) h.2 fun y hy => (List.mem_erase_of_ne fun (e : y = x) => h.1 (by rw [← e]; exact hy)).2 (hs y (.tail _ hy))
  rw [List.length_erase_of_mem hx] at this
  have : 0 < b.length := List.length_pos_of_mem hx
  simp only [List.length_cons]
  omega
end
def OkE (n : Nat) (e : Ed) : Prop := (∃ u v : Nat, e.u = (u : Int) ∧ e.v = (v : Int) ∧ u < n ∧ v < n ∧ u ≠ v) ∧ Proofs.Ytafehbegoanajaa.okArg e.id e.w = true
structure Fp (n : Nat) (l F : List Ed) : Prop where
 n1 : 1 ≤ n
 n64 : n ≤ 64
 uq : (l.map (·.id)).Nodup
 ok : ∀ e ∈ l, OkE n e
 len : l.length ≤ 192
 msf : Msf l (In F)
 fn : (F.map (·.id)).Nodup
section
variable {n : Nat} {l F : List Ed}
theorem Fp.sub (h : Fp n l F) : ∀ e ∈ F, e ∈ l := fun e he => h.msf.mem he
theorem Fp.flen (h : Fp n l F) : F.length ≤ 192 := by
 have := len_le h.fn (b := l.map (·.id)) fun i hi => by
  obtain ⟨e, he, rfl⟩ := List.mem_map.1 hi
  exact List.mem_map.2 ⟨e, h.sub e he, rfl⟩
 rw [List.length_map, List.length_map] at this
 exact Nat.le_trans this h.len
theorem OkE.w {e : Ed} (h : OkE n e) : -1099511627776 ≤ e.w ∧ e.w ≤ 1099511627776 := by
 have := h.2
 unfold Proofs.Ytafehbegoanajaa.okArg at this
 simp only [Bool.and_eq_true, decide_eq_true_iff] at this
 exact this.2.2
theorem Fp.sum (h : Fp n l F) : -211106232532992 ≤ sumW F ∧ sumW F ≤ 211106232532992 := by
 have h1 := sum_le (F := F) fun e he => (h.ok e (h.sub e he)).w
 have := h.flen
 omega
end
def MxM (H : Heap) (f : Nat) (T : Nat → Prop) (n : Nat) (g : Int → Option Ed) (k1 : Nat) (F : List Ed) : Prop :=
 ∃ r1 r2 t Tt k2, Blk H f [.int .i64 (n : Nat), .map (some r1), .map (some r2), .pointer (some ⟨t, 0, none⟩), .int .i64 (sumW F)] ∧ MapF intK Ed.val H r1 g k1 ∧ MapB H r1 ∧ MapF intK wV H r2 (fun i => (byId F i).map (·.w)) k2 ∧ MapB H r2 ∧ TrM H t Tt n F ∧
  (f ≠ r1 ∧ f ≠ r2 ∧ r1 ≠ r2) ∧ (¬ Tt f ∧ ¬ Tt r1 ∧ ¬ Tt r2) ∧ ∀ b, T b ↔ (b = f ∨ b = r1 ∨ b = r2 ∨ Tt b)
structure MsM (H : Heap) (f : Nat) (T : Nat → Prop) (n : Nat) (l F : List Ed) : Prop where
 m : MxM H f T n (byId l) l.length F
 p : Fp n l F
end Go.Ms
namespace Go.Proofs.Ytafehbegoanajaa
open Go Go.Hp Go.Li Go.Br Go.Ms
set_option linter.all false
set_option maxRecDepth 100000
set_option maxHeartbeats 1600000
@[go_sem] theorem mapT_edges : mapT Try.prog 66 = some (3, Ed.zero.val) := by kernel_rfl
section
variable {H H' : Heap} {f n k1 : Nat} {T T0 : Nat → Prop} {g : Int → Option Ed} {l F : List Ed} {L : Value → Heap → Prop}
theorem _root_.Go.Ms.MxM.frame (h : MxM H f T n g k1 F) (hf : Fr T0 H H') (hT : ∀ b, T b → ¬ T0 b) : MxM H' f T n g k1 F := by
 obtain ⟨r1, r2, t, Tt, k2, h1, h2, h3, h4, h5, h6, h7, h8, h9⟩ := h
 have a : ∀ b, (b = f ∨ b = r1 ∨ b = r2 ∨ Tt b) → ¬ T0 b := fun b hb => hT b ((h9 b).2 hb)
 exact ⟨r1, r2, t, Tt, k2, h1.frame hf (a _ (.inl rfl)), h2.frame hf (a _ (.inr (.inl rfl))), h3.frame hf (a _ (.inr (.inl rfl))), h4.frame hf (a _ (.inr (.inr (.inl rfl)))), h5.frame hf (a _ (.inr (.inr (.inl rfl)))), h6.frame hf fun b hb => a b (.inr (.inr (.inr hb))), h7, h8, h9⟩
theorem _root_.Go.Ms.MxM.below (h : MxM H f T n g k1 F) : ∀ b, T b → b < H.size := by
 obtain ⟨r1, r2, t, Tt, k2, h1, h2, h3, h4, h5, h6, h7, h8, h9⟩ := h
 intro b hb
 rcases (h9 b).1 hb with rfl | rfl | rfl | hb
 ·exact h1.lt
 ·exact h2.lt
 ·exact h4.lt
 ·exact h6.below b hb
theorem _root_.Go.Ms.MsM.frame (h : MsM H f T n l F) (hf : Fr T0 H H') (hT : ∀ b, T b → ¬ T0 b) : MsM H' f T n l F := ⟨h.m.frame hf hT, h.p⟩
theorem _root_.Go.Ms.MsM.below (h : MsM H f T n l F) : ∀ b, T b → b < H.size := h.m.below
theorem mheavier_ok {a b : Ed} (fin : ∀ H', Fr (fun _ => False) H H' → L (.bool (heavy a b)) H') :
  CallsH Try.prog 32 #[a.val, b.val] H L := by
 simp only [Ed.val]
 refine call32 (by simp) ?_
 simp only [Try.f32, Option.getD_some]
 unfold heavy at fin
 by_cases h1 : a.w > b.w
 ·have t1 : (b.w < a.w) = True := by simp; omega
  rw [decide_eq_true h1, Bool.true_or] at fin
  repeat' (first|(with_reducible first|refine jA ?_|(refine hK _ _ ?_;clear hK K)|refine jJ fun K hK=>?_|refine jK ?_|refine jL ?_|refine jM ?_|refine jN ?_|refine jO ?_|refine jP ?_|refine jQ ?_|(refine jB ?_;clear hK K)|(refine jC ?_;clear hK K)|refine jD ?_|refine jE ?_|refine jG ?_|refine jH ?_|refine jI ?_)|((with_reducible refine jR ?hq ?_);case hq=>rfl)|((first|(with_reducible first|refine jS fun K hK=>?_|refine jT ?_|refine jU ?_)|((with_reducible refine jV ?hy fun K hK=>?_);case hy=>rfl));simp only [go_sem, Nat.reduceEqDiff, Nat.reduceAdd, Nat.reduceMul, Nat.reduceLeDiff, Nat.reduceLT, Int.reduceLT, Int.reduceLE, Int.reduceEq, Int.reduceNeg, Int.reduceToNat, Nat.reducePow, reduceIte, reduceCtorEq, t1, Array.size_push, hcell_push, hcell_top, okW_push, okW_top, hcell_hset_ne, hcell_hset_off, hcell_hset_eq, okW_hset, hset_size, Array.size_push, Nat.lt_add_one, ne_add_one, add_one_ne, Nat.add_assoc, add_same, add_lt_same, Nat.reduceEqDiff, lt_add_k, add_k_ne, ne_add_k])|((with_reducible first|refine jW ?hy ?_|refine jY ?hy ?_);case hy=>rfl)|((with_reducible first|refine jX ?hy ?_|refine jZ ?hy ?_);case hy=>rfl)|((with_reducible refine jF ?hy ?_);case hy=>decide))
  exact fin _ (((Fr.refl _ _).push _).push _)
 ·have t1 : (b.w < a.w) = False := by simp; omega
  rw [decide_eq_false h1, Bool.false_or] at fin
  by_cases h2 : a.w = b.w
  ·have t2 : (a.w == b.w) = true := by simp [h2]
   rw [decide_eq_true h2, Bool.true_and] at fin
   by_cases h3 : a.id > b.id
   ·have t3 : (b.id < a.id) = True := by simp; omega
    rw [decide_eq_true h3] at fin
    repeat' (first|(with_reducible first|refine jA ?_|(refine hK _ _ ?_;clear hK K)|refine jJ fun K hK=>?_|refine jK ?_|refine jL ?_|refine jM ?_|refine jN ?_|refine jO ?_|refine jP ?_|refine jQ ?_|(refine jB ?_;clear hK K)|(refine jC ?_;clear hK K)|refine jD ?_|refine jE ?_|refine jG ?_|refine jH ?_|refine jI ?_)|((with_reducible refine jR ?hq ?_);case hq=>rfl)|((first|(with_reducible first|refine jS fun K hK=>?_|refine jT ?_|refine jU ?_)|((with_reducible refine jV ?hy fun K hK=>?_);case hy=>rfl));simp only [go_sem, Nat.reduceEqDiff, Nat.reduceAdd, Nat.reduceMul, Nat.reduceLeDiff, Nat.reduceLT, Int.reduceLT, Int.reduceLE, Int.reduceEq, Int.reduceNeg, Int.reduceToNat, Nat.reducePow, reduceIte, reduceCtorEq, t1, t2, t3, Array.size_push, hcell_push, hcell_top, okW_push, okW_top, hcell_hset_ne, hcell_hset_off, hcell_hset_eq, okW_hset, hset_size, Array.size_push, Nat.lt_add_one, ne_add_one, add_one_ne, Nat.add_assoc, add_same, add_lt_same, Nat.reduceEqDiff, lt_add_k, add_k_ne, ne_add_k])|((with_reducible first|refine jW ?hy ?_|refine jY ?hy ?_);case hy=>rfl)|((with_reducible first|refine jX ?hy ?_|refine jZ ?hy ?_);case hy=>rfl)|((with_reducible refine jF ?hy ?_);case hy=>decide))
    exact fin _ (((Fr.refl _ _).push _).push _)
   ·have t3 : (b.id < a.id) = False := by simp; omega
    rw [decide_eq_false h3] at fin
    repeat' (first|(with_reducible first|refine jA ?_|(refine hK _ _ ?_;clear hK K)|refine jJ fun K hK=>?_|refine jK ?_|refine jL ?_|refine jM ?_|refine jN ?_|refine jO ?_|refine jP ?_|refine jQ ?_|(refine jB ?_;clear hK K)|(refine jC ?_;clear hK K)|refine jD ?_|refine jE ?_|refine jG ?_|refine jH ?_|refine jI ?_)|((with_reducible refine jR ?hq ?_);case hq=>rfl)|((first|(with_reducible first|refine jS fun K hK=>?_|refine jT ?_|refine jU ?_)|((with_reducible refine jV ?hy fun K hK=>?_);case hy=>rfl));simp only [go_sem, Nat.reduceEqDiff, Nat.reduceAdd, Nat.reduceMul, Nat.reduceLeDiff, Nat.reduceLT, Int.reduceLT, Int.reduceLE, Int.reduceEq, Int.reduceNeg, Int.reduceToNat, Nat.reducePow, reduceIte, reduceCtorEq, t1, t2, t3, Array.size_push, hcell_push, hcell_top, okW_push, okW_top, hcell_hset_ne, hcell_hset_off, hcell_hset_eq, okW_hset, hset_size, Array.size_push, Nat.lt_add_one, ne_add_one, add_one_ne, Nat.add_assoc, add_same, add_lt_same, Nat.reduceEqDiff, lt_add_k, add_k_ne, ne_add_k])|((with_reducible first|refine jW ?hy ?_|refine jY ?hy ?_);case hy=>rfl)|((with_reducible first|refine jX ?hy ?_|refine jZ ?hy ?_);case hy=>rfl)|((with_reducible refine jF ?hy ?_);case hy=>decide))
    exact fin _ (((Fr.refl _ _).push _).push _)
  ·have t2 : (a.w == b.w) = false := beq_false_of_ne h2
   rw [decide_eq_false h2, Bool.false_and] at fin
   repeat' (first|(with_reducible first|refine jA ?_|(refine hK _ _ ?_;clear hK K)|refine jJ fun K hK=>?_|refine jK ?_|refine jL ?_|refine jM ?_|refine jN ?_|refine jO ?_|refine jP ?_|refine jQ ?_|(refine jB ?_;clear hK K)|(refine jC ?_;clear hK K)|refine jD ?_|refine jE ?_|refine jG ?_|refine jH ?_|refine jI ?_)|((with_reducible refine jR ?hq ?_);case hq=>rfl)|((first|(with_reducible first|refine jS fun K hK=>?_|refine jT ?_|refine jU ?_)|((with_reducible refine jV ?hy fun K hK=>?_);case hy=>rfl));simp only [go_sem, Nat.reduceEqDiff, Nat.reduceAdd, Nat.reduceMul, Nat.reduceLeDiff, Nat.reduceLT, Int.reduceLT, Int.reduceLE, Int.reduceEq, Int.reduceNeg, Int.reduceToNat, Nat.reducePow, reduceIte, reduceCtorEq, t1, t2, Array.size_push, hcell_push, hcell_top, okW_push, okW_top, hcell_hset_ne, hcell_hset_off, hcell_hset_eq, okW_hset, hset_size, Array.size_push, Nat.lt_add_one, ne_add_one, add_one_ne, Nat.add_assoc, add_same, add_lt_same, Nat.reduceEqDiff, lt_add_k, add_k_ne, ne_add_k])|((with_reducible first|refine jW ?hy ?_|refine jY ?hy ?_);case hy=>rfl)|((with_reducible first|refine jX ?hy ?_|refine jZ ?hy ?_);case hy=>rfl)|((with_reducible refine jF ?hy ?_);case hy=>decide))
   exact fin _ (((Fr.refl _ _).push _).push _)
theorem fhas_ok {x : Int} (hn : hcell H ⟨f, 0, none⟩ = some (.int .i64 (n : Nat))) (fin : L (.bool (inB n x)) H) :
  CallsH Try.prog 29 #[.pointer (some ⟨f, 0, none⟩), .int .i64 x] H L := by
 unfold inB at fin
 refine call29 (by simp) ?_
 simp only [Try.f29, Option.getD_some]
 by_cases h0 : 0 ≤ x
 ·have t1 : (0 ≤ x) = True := eq_true h0
  rw [decide_eq_true h0, Bool.true_and] at fin
  by_cases hk : x < n
  ·have t2 : (x < (n : Int)) = True := eq_true hk
   rw [decide_eq_true hk] at fin
   repeat' (first|(with_reducible first|refine jA ?_|(refine hK _ _ ?_;clear hK K)|refine jJ fun K hK=>?_|refine jK ?_|refine jL ?_|refine jM ?_|refine jN ?_|refine jO ?_|refine jP ?_|refine jQ ?_|(refine jB ?_;clear hK K)|(refine jC ?_;clear hK K)|refine jD ?_|refine jE ?_|refine jG ?_|refine jH ?_|refine jI ?_)|((with_reducible refine jR ?hq ?_);case hq=>rfl)|((first|(with_reducible first|refine jS fun K hK=>?_|refine jT ?_|refine jU ?_)|((with_reducible refine jV ?hy fun K hK=>?_);case hy=>rfl));simp only [go_sem, Nat.reduceEqDiff, Nat.reduceAdd, Nat.reduceMul, Nat.reduceLeDiff, Nat.reduceLT, Int.reduceLT, Int.reduceLE, Int.reduceEq, Int.reduceNeg, Int.reduceToNat, Nat.reducePow, reduceIte, reduceCtorEq, hn, t1, t2])|((with_reducible first|refine jW ?hy ?_|refine jY ?hy ?_);case hy=>rfl)|((with_reducible first|refine jX ?hy ?_|refine jZ ?hy ?_);case hy=>rfl)|((with_reducible refine jF ?hy ?_);case hy=>decide))
   exact fin
  ·have t2 : (x < (n : Int)) = False := eq_false hk
   rw [decide_eq_false hk] at fin
   repeat' (first|(with_reducible first|refine jA ?_|(refine hK _ _ ?_;clear hK K)|refine jJ fun K hK=>?_|refine jK ?_|refine jL ?_|refine jM ?_|refine jN ?_|refine jO ?_|refine jP ?_|refine jQ ?_|(refine jB ?_;clear hK K)|(refine jC ?_;clear hK K)|refine jD ?_|refine jE ?_|refine jG ?_|refine jH ?_|refine jI ?_)|((with_reducible refine jR ?hq ?_);case hq=>rfl)|((first|(with_reducible first|refine jS fun K hK=>?_|refine jT ?_|refine jU ?_)|((with_reducible refine jV ?hy fun K hK=>?_);case hy=>rfl));simp only [go_sem, Nat.reduceEqDiff, Nat.reduceAdd, Nat.reduceMul, Nat.reduceLeDiff, Nat.reduceLT, Int.reduceLT, Int.reduceLE, Int.reduceEq, Int.reduceNeg, Int.reduceToNat, Nat.reducePow, reduceIte, reduceCtorEq, hn, t1, t2])|((with_reducible first|refine jW ?hy ?_|refine jY ?hy ?_);case hy=>rfl)|((with_reducible first|refine jX ?hy ?_|refine jZ ?hy ?_);case hy=>rfl)|((with_reducible refine jF ?hy ?_);case hy=>decide))
   exact fin
 ·have t1 : (0 ≤ x) = False := eq_false h0
  rw [decide_eq_false h0, Bool.false_and] at fin
  repeat' (first|(with_reducible first|refine jA ?_|(refine hK _ _ ?_;clear hK K)|refine jJ fun K hK=>?_|refine jK ?_|refine jL ?_|refine jM ?_|refine jN ?_|refine jO ?_|refine jP ?_|refine jQ ?_|(refine jB ?_;clear hK K)|(refine jC ?_;clear hK K)|refine jD ?_|refine jE ?_|refine jG ?_|refine jH ?_|refine jI ?_)|((with_reducible refine jR ?hq ?_);case hq=>rfl)|((first|(with_reducible first|refine jS fun K hK=>?_|refine jT ?_|refine jU ?_)|((with_reducible refine jV ?hy fun K hK=>?_);case hy=>rfl));simp only [go_sem, Nat.reduceEqDiff, Nat.reduceAdd, Nat.reduceMul, Nat.reduceLeDiff, Nat.reduceLT, Int.reduceLT, Int.reduceLE, Int.reduceEq, Int.reduceNeg, Int.reduceToNat, Nat.reducePow, reduceIte, reduceCtorEq, hn, t1])|((with_reducible first|refine jW ?hy ?_|refine jY ?hy ?_);case hy=>rfl)|((with_reducible first|refine jX ?hy ?_|refine jZ ?hy ?_);case hy=>rfl)|((with_reducible refine jF ?hy ?_);case hy=>decide))
  exact fin
theorem take_ok {id w : Int} {u v : Nat} (hM : MxM H f T n g k1 F) (hu : u < n) (hv : v < n) (ha : okArg id w = true) (hid : ∀ e ∈ F, e.id ≠ id) (hc : ¬ Cn (In F) u v) (hw : -4611686018427387904 ≤ sumW F + w ∧ sumW F + w ≤ 4611686018427387904)
  (fin : ∀ H' T', MxM H' f T' n g k1 (F ++ [⟨id, (u : Nat), (v : Nat), w⟩]) → Fr T H H' → (∀ b, T' b → T b ∨ H.size ≤ b) → L (.tuple #[]) H') :
  CallsH Try.prog 31 #[.pointer (some ⟨f, 0, none⟩), (⟨id, (u : Nat), (v : Nat), w⟩ : Ed).val] H L := by
 obtain ⟨r1, r2, t, Tt, k2, hb, hm1, hB1, hm2, hB2, hT, ⟨d1, d2, d3⟩, ⟨d4, d5, d6⟩, he⟩ := hM
 simp only [Ed.val]
 have hbx : Blk (H.push (.cells #[.int .i64 id, .int .i64 (u : Nat), .int .i64 (v : Nat), .int .i64 w] 30)) H.size [.int .i64 id, .int .i64 (u : Nat), .int .i64 (v : Nat), .int .i64 w] := Blk.new H _ _
 have fb : Fr (fun _ => False) H (H.push (.cells #[.int .i64 id, .int .i64 (u : Nat), .int .i64 (v : Nat), .int .i64 w] 30)) := (Fr.refl _ _).push _
 have c3 := (hb.frame fb fun h => h).cellOf (i := 3) rfl
 have x0 := hbx.cellOf (i := 0) rfl
 have x1 := hbx.cellOf (i := 1) rfl
 have x2 := hbx.cellOf (i := 2) rfl
 have x3 := hbx.cellOf (i := 3) rfl
 refine call31 (by simp) ?_
 simp only [Try.f31, Option.getD_some]
 repeat' (first|(with_reducible first|refine jA ?_|(refine hK _ _ ?_;clear hK K)|refine jJ fun K hK=>?_|refine jK ?_|refine jL ?_|refine jM ?_|refine jN ?_|refine jO ?_|refine jP ?_|refine jQ ?_|(refine jB ?_;clear hK K)|(refine jC ?_;clear hK K)|refine jD ?_|refine jE ?_|refine jG ?_|refine jH ?_|refine jI ?_)|((with_reducible refine jR ?hq ?_);case hq=>rfl)|((first|(with_reducible first|refine jS fun K hK=>?_|refine jT ?_|refine jU ?_)|((with_reducible refine jV ?hy fun K hK=>?_);case hy=>rfl));simp only [go_sem, Nat.reduceEqDiff, Nat.reduceAdd, Nat.reduceMul, Nat.reduceLeDiff, Nat.reduceLT, Int.reduceLT, Int.reduceLE, Int.reduceEq, Int.reduceNeg, Int.reduceToNat, Nat.reducePow, reduceIte, reduceCtorEq, c3, x0, x1, x2, x3])|((with_reducible first|refine jW ?hy ?_|refine jY ?hy ?_);case hy=>rfl)|((with_reducible first|refine jX ?hy ?_|refine jZ ?hy ?_);case hy=>rfl)|((with_reducible refine jF ?hy ?_);case hy=>decide))
 clear c3 x0 x1 x2 x3
 generalize hH1 : H.push _ = H1 at hbx fb ⊢
 have hbl := hT.below
 refine t_link (hT.frame fb fun _ _ h => h) hu hv ha hid hc fun H2 T2 hT2 hf2 hTn => ?_
 have hb2 := (hb.frame fb fun h => h).frame hf2 d4
 have hx2 := hbx.frame hf2 fun h => by have := hbl _ h; omega
 have hm12 := (hm1.frame fb fun h => h).frame hf2 d5
 have hB12 := (hB1.frame fb fun h => h).frame hf2 d5
 have hm22 := (hm2.frame fb fun h => h).frame hf2 d6
 have hB22 := (hB2.frame fb fun h => h).frame hf2 d6
 have c2 := hb2.cellOf (i := 2) rfl
 have x0 := hx2.cellOf (i := 0) rfl
 have x3 := hx2.cellOf (i := 3) rfl
 have l1 := fb.size
 have l2 := hf2.size
 have lf := hb.lt
 have lr1 := hm1.lt
 have lr2 := hm2.lt
 repeat' (first|(with_reducible first|refine jA ?_|(refine hK _ _ ?_;clear hK K)|refine jJ fun K hK=>?_|refine jK ?_|refine jL ?_|refine jM ?_|refine jN ?_|refine jO ?_|refine jP ?_|refine jQ ?_|(refine jB ?_;clear hK K)|(refine jC ?_;clear hK K)|refine jD ?_|refine jE ?_|refine jG ?_|refine jH ?_|refine jI ?_)|((with_reducible refine jR ?hq ?_);case hq=>rfl)|((first|(with_reducible first|refine jS fun K hK=>?_|refine jT ?_|refine jU ?_)|((with_reducible refine jV ?hy fun K hK=>?_);case hy=>rfl));simp only [go_sem, Nat.reduceEqDiff, Nat.reduceAdd, Nat.reduceMul, Nat.reduceLeDiff, Nat.reduceLT, Int.reduceLT, Int.reduceLE, Int.reduceEq, Int.reduceNeg, Int.reduceToNat, Nat.reducePow, reduceIte, reduceCtorEq, c2, x0, x3])|((with_reducible first|refine jW ?hy ?_|refine jY ?hy ?_);case hy=>rfl)|((with_reducible first|refine jX ?hy ?_|refine jZ ?hy ?_);case hy=>rfl)|((with_reducible refine jF ?hy ?_);case hy=>decide))
 refine hp_updB (vf := wV) mapT_ids kInt hm22 hB22 id w fun H3 hm3 hB3 hf3 hs3 hcc => ?_
 have hb3 := hb2.frame hf3 d2
 have hx3 := hx2.frame hf3 (by omega)
 have c4 := hb3.cellOf (i := 4) rfl
 have y3 := hx3.cellOf (i := 3) rfl
 have ok4 := hb3.okW (i := 4) (by simp)
 have ew : IntKind.i64.wrap (sumW F + w) = sumW F + w := by rw [wrap_i64] <;> omega
 repeat' (first|(with_reducible first|refine jA ?_|(refine hK _ _ ?_;clear hK K)|refine jJ fun K hK=>?_|refine jK ?_|refine jL ?_|refine jM ?_|refine jN ?_|refine jO ?_|refine jP ?_|refine jQ ?_|(refine jB ?_;clear hK K)|(refine jC ?_;clear hK K)|refine jD ?_|refine jE ?_|refine jG ?_|refine jH ?_|refine jI ?_)|((with_reducible refine jR ?hq ?_);case hq=>rfl)|((first|(with_reducible first|refine jS fun K hK=>?_|refine jT ?_|refine jU ?_)|((with_reducible refine jV ?hy fun K hK=>?_);case hy=>rfl));simp only [go_sem, Nat.reduceEqDiff, Nat.reduceAdd, Nat.reduceMul, Nat.reduceLeDiff, Nat.reduceLT, Int.reduceLT, Int.reduceLE, Int.reduceEq, Int.reduceNeg, Int.reduceToNat, Nat.reducePow, reduceIte, reduceCtorEq, c4, y3, ok4, ew, hcell_push, hcell_top, okW_push, okW_top, hcell_hset_ne, hcell_hset_off, hcell_hset_eq, okW_hset, hset_size, Array.size_push, Nat.lt_add_one, ne_add_one, add_one_ne, Nat.add_assoc, add_same, add_lt_same, Nat.reduceEqDiff, lt_add_k, add_k_ne, ne_add_k])|((with_reducible first|refine jW ?hy ?_|refine jY ?hy ?_);case hy=>rfl)|((with_reducible first|refine jX ?hy ?_|refine jZ ?hy ?_);case hy=>rfl)|((with_reducible refine jF ?hy ?_);case hy=>decide))
 have hb4 := hb3.set_same 4 (.int .i64 (sumW F + w))
 have hf4 : Fr (· = f) H3 (hset H3 ⟨f, 4, none⟩ (.int .i64 (sumW F + w))) := Fr.set (S := (· = f)) (a := ⟨f, 4, none⟩) (Fr.refl _ _) (.inl rfl) _
 have nT2 : ∀ b, b < H.size → ¬ Tt b → ¬ T2 b := fun b hb hn h => (hTn b h).elim hn fun h => by omega
 refine fin _ (fun b => b = f ∨ b = r1 ∨ b = r2 ∨ T2 b) ⟨r1, r2, t, T2, _, by rw [sum_add]; exact hb4, ((hm12.frame hf3 d3).frame hf4 (Ne.symm d1)), ((hB12.frame hf3 d3).frame hf4 (Ne.symm d1)), (hm3.congr fun i => ?_).frame hf4 (Ne.symm d2), hB3.frame hf4 (Ne.symm d2), (hT2.frame hf3 fun b hb (e : b = r2) => nT2 r2 lr2 d6 (e ▸ hb)).frame hf4 fun b hb (e : b = f) => nT2 f lf d4 (e ▸ hb), ⟨d1, d2, d3⟩, ⟨nT2 f lf d4, nT2 r1 lr1 d5, nT2 r2 lr2 d6⟩, fun b => Iff.rfl⟩ ?_ fun b hb => ?_
 ·rw [byId_add hid]
  by_cases e : i = id
  ·rw [if_pos e, if_pos e]; rfl
  ·rw [if_neg e, if_neg e]
 ·refine (((fb.mono (S' := T) fun _ _ h => h.elim).trans' hf2 fun b hb h => (he b).2 (.inr (.inr (.inr h)))).trans' hf3 fun b hb (e : b = r2) => (he b).2 (.inr (.inr (.inl e)))).trans' hf4 fun b hb (e : b = f) => (he b).2 (.inl e)
 ·rcases hb with rfl | rfl | rfl | hb
  ·exact .inl ((he _).2 (.inl rfl))
  ·exact .inl ((he _).2 (.inr (.inl rfl)))
  ·exact .inl ((he _).2 (.inr (.inr (.inl rfl))))
  ·rcases hTn b hb with h | h
   ·exact .inl ((he _).2 (.inr (.inr (.inr h))))
   ·exact .inr (by omega)
theorem drop_ok {i : Nat} {x : Ed} (hM : MxM H f T n g k1 F) (hn : (F.map (·.id)).Nodup) (hi : F[i]? = some x) (hw : -4611686018427387904 ≤ sumW F - x.w ∧ sumW F - x.w ≤ 4611686018427387904)
  (fin : ∀ H' T', MxM H' f T' n g k1 (woL F i) → Fr T H H' → (∀ b, T' b → T b ∨ H.size ≤ b) → L (.tuple #[]) H') :
  CallsH Try.prog 33 #[.pointer (some ⟨f, 0, none⟩), x.val] H L := by
 obtain ⟨r1, r2, t, Tt, k2, hb, hm1, hB1, hm2, hB2, hT, ⟨d1, d2, d3⟩, ⟨d4, d5, d6⟩, he⟩ := hM
 simp only [Ed.val]
 have hbx : Blk (H.push (.cells #[.int .i64 x.id, .int .i64 x.u, .int .i64 x.v, .int .i64 x.w] 30)) H.size [.int .i64 x.id, .int .i64 x.u, .int .i64 x.v, .int .i64 x.w] := Blk.new H _ _
 have fb : Fr (fun _ => False) H (H.push (.cells #[.int .i64 x.id, .int .i64 x.u, .int .i64 x.v, .int .i64 x.w] 30)) := (Fr.refl _ _).push _
 have c3 := (hb.frame fb fun h => h).cellOf (i := 3) rfl
 have x0 := hbx.cellOf (i := 0) rfl
 refine call33 (by simp) ?_
 simp only [Try.f33, Option.getD_some]
 repeat' (first|(with_reducible first|refine jA ?_|(refine hK _ _ ?_;clear hK K)|refine jJ fun K hK=>?_|refine jK ?_|refine jL ?_|refine jM ?_|refine jN ?_|refine jO ?_|refine jP ?_|refine jQ ?_|(refine jB ?_;clear hK K)|(refine jC ?_;clear hK K)|refine jD ?_|refine jE ?_|refine jG ?_|refine jH ?_|refine jI ?_)|((with_reducible refine jR ?hq ?_);case hq=>rfl)|((first|(with_reducible first|refine jS fun K hK=>?_|refine jT ?_|refine jU ?_)|((with_reducible refine jV ?hy fun K hK=>?_);case hy=>rfl));simp only [go_sem, Nat.reduceEqDiff, Nat.reduceAdd, Nat.reduceMul, Nat.reduceLeDiff, Nat.reduceLT, Int.reduceLT, Int.reduceLE, Int.reduceEq, Int.reduceNeg, Int.reduceToNat, Nat.reducePow, reduceIte, reduceCtorEq, c3, x0])|((with_reducible first|refine jW ?hy ?_|refine jY ?hy ?_);case hy=>rfl)|((with_reducible first|refine jX ?hy ?_|refine jZ ?hy ?_);case hy=>rfl)|((with_reducible refine jF ?hy ?_);case hy=>decide))
 clear c3 x0
 generalize hH1 : H.push _ = H1 at hbx fb ⊢
 have hbl := hT.below
 refine t_cut (hT.frame fb fun _ _ h => h) hn hi fun H2 T2 hT2 hf2 hTn => ?_
 have hb2 := (hb.frame fb fun h => h).frame hf2 d4
 have hx2 := hbx.frame hf2 fun h => by have := hbl _ h; omega
 have hm12 := (hm1.frame fb fun h => h).frame hf2 d5
 have hB12 := (hB1.frame fb fun h => h).frame hf2 d5
 have hm22 := (hm2.frame fb fun h => h).frame hf2 d6
 have hB22 := (hB2.frame fb fun h => h).frame hf2 d6
 have c2 := hb2.cellOf (i := 2) rfl
 have x0 := hx2.cellOf (i := 0) rfl
 have l1 := fb.size
 have l2 := hf2.size
 have lf := hb.lt
 have lr1 := hm1.lt
 have lr2 := hm2.lt
 repeat' (first|(with_reducible first|refine jA ?_|(refine hK _ _ ?_;clear hK K)|refine jJ fun K hK=>?_|refine jK ?_|refine jL ?_|refine jM ?_|refine jN ?_|refine jO ?_|refine jP ?_|refine jQ ?_|(refine jB ?_;clear hK K)|(refine jC ?_;clear hK K)|refine jD ?_|refine jE ?_|refine jG ?_|refine jH ?_|refine jI ?_)|((with_reducible refine jR ?hq ?_);case hq=>rfl)|((first|(with_reducible first|refine jS fun K hK=>?_|refine jT ?_|refine jU ?_)|((with_reducible refine jV ?hy fun K hK=>?_);case hy=>rfl));simp only [go_sem, Nat.reduceEqDiff, Nat.reduceAdd, Nat.reduceMul, Nat.reduceLeDiff, Nat.reduceLT, Int.reduceLT, Int.reduceLE, Int.reduceEq, Int.reduceNeg, Int.reduceToNat, Nat.reducePow, reduceIte, reduceCtorEq, c2, x0])|((with_reducible first|refine jW ?hy ?_|refine jY ?hy ?_);case hy=>rfl)|((with_reducible first|refine jX ?hy ?_|refine jZ ?hy ?_);case hy=>rfl)|((with_reducible refine jF ?hy ?_);case hy=>decide))
 refine hp_delB (ty := 0) (vf := wV) mapT_ids kInt hm22 hB22 x.id fun H3 hm3 hB3 hf3 hs3 hcc => ?_
 have hb3 := hb2.frame hf3 d2
 have hx3 := hx2.frame hf3 (by omega)
 have c4 := hb3.cellOf (i := 4) rfl
 have y3 := hx3.cellOf (i := 3) rfl
 have ok4 := hb3.okW (i := 4) (by simp)
 have ew : IntKind.i64.wrap (sumW F - x.w) = sumW F - x.w := by rw [wrap_i64] <;> omega
 repeat' (first|(with_reducible first|refine jA ?_|(refine hK _ _ ?_;clear hK K)|refine jJ fun K hK=>?_|refine jK ?_|refine jL ?_|refine jM ?_|refine jN ?_|refine jO ?_|refine jP ?_|refine jQ ?_|(refine jB ?_;clear hK K)|(refine jC ?_;clear hK K)|refine jD ?_|refine jE ?_|refine jG ?_|refine jH ?_|refine jI ?_)|((with_reducible refine jR ?hq ?_);case hq=>rfl)|((first|(with_reducible first|refine jS fun K hK=>?_|refine jT ?_|refine jU ?_)|((with_reducible refine jV ?hy fun K hK=>?_);case hy=>rfl));simp only [go_sem, Nat.reduceEqDiff, Nat.reduceAdd, Nat.reduceMul, Nat.reduceLeDiff, Nat.reduceLT, Int.reduceLT, Int.reduceLE, Int.reduceEq, Int.reduceNeg, Int.reduceToNat, Nat.reducePow, reduceIte, reduceCtorEq, c4, y3, ok4, ew, hcell_push, hcell_top, okW_push, okW_top, hcell_hset_ne, hcell_hset_off, hcell_hset_eq, okW_hset, hset_size, Array.size_push, Nat.lt_add_one, ne_add_one, add_one_ne, Nat.add_assoc, add_same, add_lt_same, Nat.reduceEqDiff, lt_add_k, add_k_ne, ne_add_k])|((with_reducible first|refine jW ?hy ?_|refine jY ?hy ?_);case hy=>rfl)|((with_reducible first|refine jX ?hy ?_|refine jZ ?hy ?_);case hy=>rfl)|((with_reducible refine jF ?hy ?_);case hy=>decide))
 have hb4 := hb3.set_same 4 (.int .i64 (sumW F - x.w))
 have hf4 : Fr (· = f) H3 (hset H3 ⟨f, 4, none⟩ (.int .i64 (sumW F - x.w))) := Fr.set (S := (· = f)) (a := ⟨f, 4, none⟩) (Fr.refl _ _) (.inl rfl) _
 have nT2 : ∀ b, b < H.size → ¬ Tt b → ¬ T2 b := fun b hb hn h => (hTn b h).elim hn fun h => by omega
 refine fin _ (fun b => b = f ∨ b = r1 ∨ b = r2 ∨ T2 b) ⟨r1, r2, t, T2, _, by rw [sum_wo hi]; exact hb4, ((hm12.frame hf3 d3).frame hf4 (Ne.symm d1)), ((hB12.frame hf3 d3).frame hf4 (Ne.symm d1)), (hm3.congr fun j => ?_).frame hf4 (Ne.symm d2), hB3.frame hf4 (Ne.symm d2), (hT2.frame hf3 fun b hb (e : b = r2) => nT2 r2 lr2 d6 (e ▸ hb)).frame hf4 fun b hb (e : b = f) => nT2 f lf d4 (e ▸ hb), ⟨d1, d2, d3⟩, ⟨nT2 f lf d4, nT2 r1 lr1 d5, nT2 r2 lr2 d6⟩, fun b => Iff.rfl⟩ ?_ fun b hb => ?_
 ·rw [byId_wo hn hi]
  by_cases e : j = x.id
  ·rw [if_pos e, if_pos e]; rfl
  ·rw [if_neg e, if_neg e]
 ·refine (((fb.mono (S' := T) fun _ _ h => h.elim).trans' hf2 fun b hb h => (he b).2 (.inr (.inr (.inr h)))).trans' hf3 fun b hb (e : b = r2) => (he b).2 (.inr (.inr (.inl e)))).trans' hf4 fun b hb (e : b = f) => (he b).2 (.inl e)
 ·rcases hb with rfl | rfl | rfl | hb
  ·exact .inl ((he _).2 (.inl rfl))
  ·exact .inl ((he _).2 (.inr (.inl rfl)))
  ·exact .inl ((he _).2 (.inr (.inr (.inl rfl))))
  ·rcases hTn b hb with h | h
   ·exact .inl ((he _).2 (.inr (.inr (.inr h))))
   ·exact .inr (by omega)
end
end Go.Proofs.Ytafehbegoanajaa
