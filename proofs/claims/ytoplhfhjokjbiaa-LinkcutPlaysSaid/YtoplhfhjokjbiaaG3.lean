/-
  Linked trees in memory: Link, where it goes through.
  Linked trees in memory: Cut; New.
  Linked trees in memory: New; Most and what it hands over.
  Linked trees in memory: what is told of the way between two vertices; Most.
  Linked trees in memory: Path and what it hands over.
-/
import Derived.Test.YtoplhfhjokjbiaaG2
namespace Go.Proofs.Ytoplhfhjokjbiaa
open Go Go.Hp Go.Li
set_option linter.all false
set_option maxRecDepth 100000
set_option maxHeartbeats 1600000
section
variable {H H' : Heap} {t g c len r : Nat} {Bf : Option Nat} {vf : Value} {S : Ls} {N N' : Nodes} {rows rows' : List (List Nat)} {ids : Int → Option Nat} {fr : List Nat} {T : Nat → Prop} {K : Value → Heap → Prop}
theorem rowsN_succ (N : Nodes) (len : Nat) (x : Nd) : rowsN (upd N len x) (len + 1) = rowsN N len ++ x.cells := by
 have e1 : rowsN (upd N len x) len = rowsN N len := rowsN_congr fun i hi => upd_ne _ _ (by omega)
 unfold rowsN at e1 ⊢
 rw [List.range_succ, List.flatMap_append, e1]
 simp [upd_same]
structure Pre (H0 H : Heap) (t : Nat) (T : Nat → Prop) (S : Ls) (h g c len r : Nat) (Bf : Option Nat) (vf : Value) (N : Nodes) (rows : List (List Nat)) (ids : Int → Option Nat) (fr : List Nat) : Prop where
 at_ : LtAt H t g c len r Bf vf S N rows ids (fr ++ [h])
 fr : Fr T H0 H
 foot : ∀ b, (b = t ∨ b = g ∨ b = r ∨ Bf = some b) → T b ∨ H0.size ≤ b
theorem LtAt.refree (h : LtAt H t g c len r Bf vf S N rows ids fr) {fr' : List Nat} {c' : Nat} {H' : Heap} {v : Value} (hv : IR H' Bf v (natsI fr')) (hd : Blk H' t [.int .i64 S.n, .slice (some ⟨g, 0, none⟩) len c, .map (some r), v]) (hf : Fr (· = t) H H')
  (h1 : ∀ x ∈ fr', x ∈ fr) (h2 : fr'.Nodup) (h3 : ∀ x ∈ fr, x ∈ fr') : LtAt H' t g c len r Bf v S N rows ids fr' where
 hd := hd
 na := by
  obtain ⟨rest, k1, k2⟩ := h.na.nd
  exact ⟨hd.cellOf rfl, ⟨rest, k1.frame hf (Ne.symm h.na.ne), k2⟩, h.na.ne, h.na.cl, h.na.z⟩
 mp := ⟨_, h.mp.choose_spec.frame hf (Ne.symm h.ap.1)⟩
 fri := hv
 ap := h.ap
 ok := h.ok
 lc := h.lc
 id := h.id
 free := fun x hx => h.free x (h1 x hx)
 frn := h2
 all := fun x a b => (h.all x a b).imp (fun h => h) (h3 x)
 lt := h.lt
 ln := h.ln
theorem grown (h : LtAt H t g c len r Bf vf S N rows ids []) {H' : Heap} {g' c' : Nat} {B' : Option Nat} {v' : Value} {rest' : List Value}
  (hd : Blk H' t [.int .i64 S.n, .slice (some ⟨g', 0, none⟩) (len + 1) c', .map (some r), v']) (hb : Blk H' g' (rowsN N len ++ Nd.zero.cells ++ rest')) (hl : (len + 1) * 10 + rest'.length = c' * 10) (hc : len + 1 ≤ c')
  (hv : IR H' B' v' (natsI [len])) (hm : ∃ k, MapF intK natV H' r ids k) (hg : t ≠ g' ∧ g' ≠ r) (hB : B' ≠ some t ∧ B' ≠ some g' ∧ B' ≠ some r) :
  LtAt H' t g' c' (len + 1) r B' v' S (upd N len Nd.zero) rows ids [len] := by
 have hlen := edges_le (len := len) h.ok fun x h1 h2 => (h.all x h1 h2).resolve_right (by simp)
 have hn := h.ok.n64
 have hnl : S.n < len := by
  have := h.lt S.n (.inl ⟨h.ok.n1, Nat.le_refl _⟩)
  exact this
 have hV : ¬ S.V len := fun hv => absurd (h.lt len hv) (by omega)
 have hE : S.E len = none := by
  cases he : S.E len with
  | none => rfl
  | some e => exact absurd (.inr (by rw [he]; rfl)) hV
 refine ⟨hd, ⟨hd.cellOf rfl, ⟨rest', by rw [rowsN_succ]; exact hb, hl, hc⟩, hg.1, ?_, by omega, by omega⟩, hm, hv, ⟨h.ap.1, hg.2, hB⟩, h.ok, h.lc.dead hV (by omega) rfl hE, h.id, ?_, by simp, ?_, ?_, by omega⟩
 ·have hz := h.na.cl
  refine ⟨fun i hi => ?_, fun i hi => ?_, fun i hi => ?_, fun i hi => ?_⟩ <;> by_cases e : i = len
  ·rw [e, upd_same]; exact Nat.succ_pos _
  ·rw [upd_ne _ _ e]; have := hz.up i (by omega); omega
  ·rw [e, upd_same]; exact Nat.succ_pos _
  ·rw [upd_ne _ _ e]; have := hz.l i (by omega); omega
  ·rw [e, upd_same]; exact Nat.succ_pos _
  ·rw [upd_ne _ _ e]; have := hz.r i (by omega); omega
  ·rw [e, upd_same]; exact Nat.succ_pos _
  ·rw [upd_ne _ _ e]; have := hz.best i (by omega); omega
 ·intro x hx
  obtain rfl := List.mem_singleton.1 hx
  exact ⟨hnl, by omega, hE⟩
 ·intro x h1 h2
  by_cases e : x = len
  ·exact .inr (by simp [e])
  ·exact .inl ((h.all x h1 (by omega)).resolve_right (by simp))
 ·intro x hx
  have := h.lt x hx
  omega
theorem ir_drop {B : Option Nat} {v : Value} {xs : List Int} {x : Int} (h : IR H B v (xs ++ [x])) : ∃ gf cf, B = some gf ∧ v = .slice (some ⟨gf, 0, none⟩) (xs.length + 1) cf ∧ hcell H ⟨gf, xs.length, none⟩ = some (.int .i64 x) ∧ xs.length ≤ cf ∧ IR H (some gf) (.slice (some ⟨gf, 0, none⟩) xs.length cf) xs := by
 obtain ⟨gf, cf, rest, h1, h2, h3, h4, h5⟩ := h.row (by simp)
 simp only [List.length_append, List.length_cons, List.length_nil] at h2 h4 h5
 refine ⟨gf, cf, h1, h2, h3.cellOf ?_, by omega, by simp, .inr ⟨gf, cf, .int .i64 x :: rest, rfl, rfl, ?_, ?_, by omega⟩⟩
 ·simp
 ·simpa using h3
 ·simp; omega
theorem link_ok {L : Value → Heap → Prop} {u v : Nat} {id w : Int} {ru rv : Nat} {l lv : List Nat} (h : LtM H t T S) (hu : u < S.n) (hv : v < S.n) (ha : okArg id w = true) (hid : ∀ k x, S.E k = some x → x.id ≠ id) (hru : RootOf S.par (u + 1) ru) (hrv : RootOf S.par (v + 1) rv) (hne : ru ≠ rv)
  (hl : Ch S.par (u + 1) l) (hlv : Ch (ev S.par 0 l) (v + 1) lv) (hul : u + 1 ∉ lv)
  (fin : ∀ H' T' k, LtM H' t T' (S.link l k ⟨id, (u : Nat), (v : Nat), w⟩) → S.n < k → S.E k = none → Fr T H H' → (∀ b, T' b → T b ∨ H.size ≤ b) → L (.int .i64 0) H') :
  CallsH Try.prog 10 #[.pointer (some ⟨t, 0, none⟩), .int .i64 (u : Nat), .int .i64 (v : Nat), .int .i64 id, .int .i64 w] H L := by
 obtain ⟨g, c, len, r, Bf, vf, N, rows, ids, fr, h, e⟩ := h
 obtain ⟨⟨t1, t2⟩, t3, t4⟩ := okArg_ts ha
 obtain ⟨rl, rfl⟩ := hl.head
 have hn := h.ok.n64
 have ew : IntKind.i64.wrap ((u : Int) + 1) = ((u + 1 : Nat) : Int) := by rw [wrap_i64] <;> omega
 have ew2 : IntKind.i64.wrap ((v : Int) + 1) = ((v + 1 : Nat) : Int) := by rw [wrap_i64] <;> omega
 refine call10 (by simp) ?_
 simp only [Try.f10, Option.getD_some]
 repeat' (first|(with_reducible first|refine jA ?_|(refine hK _ _ ?_;clear hK K)|refine jJ fun K hK=>?_|refine jK ?_|refine jL ?_|refine jM ?_|refine jN ?_|refine jO ?_|refine jP ?_|refine jQ ?_|(refine jB ?_;clear hK K)|(refine jC ?_;clear hK K)|refine jD ?_|refine jE ?_|refine jG ?_|refine jH ?_|refine jI ?_)|((with_reducible refine jR ?hq ?_);case hq=>rfl)|((first|(with_reducible first|refine jS fun K hK=>?_|refine jT ?_|refine jU ?_)|((with_reducible refine jV ?hy fun K hK=>?_);case hy=>rfl));simp only [go_sem, Nat.reduceEqDiff, Nat.reduceAdd, Nat.reduceMul, Nat.reduceLeDiff, Nat.reduceLT, Int.reduceLT, Int.reduceLE, Int.reduceEq, Int.reduceNeg, Int.reduceToNat, Nat.reducePow, reduceIte, reduceCtorEq])|((with_reducible first|refine jW ?hy ?_|refine jY ?hy ?_);case hy=>rfl)|((with_reducible first|refine jX ?hy ?_|refine jZ ?hy ?_);case hy=>rfl)|((with_reducible refine jF ?hy ?_);case hy=>decide))
 refine hasA2 h fun H1 h1 hf1 => ?_
 have hid' : ids id = none := by
  cases hi : ids id with
  | none => rfl
  | some k =>
   obtain ⟨x, h2, h3⟩ := (h1.id id k).1 hi
   exact absurd h3 (hid k x h2)
 have d2 := h1.hd.cellOf (i := 2) rfl
 rw [inB_of hu, inB_of hv]
 repeat' (first|(with_reducible first|refine jA ?_|(refine hK _ _ ?_;clear hK K)|refine jJ fun K hK=>?_|refine jK ?_|refine jL ?_|refine jM ?_|refine jN ?_|refine jO ?_|refine jP ?_|refine jQ ?_|(refine jB ?_;clear hK K)|(refine jC ?_;clear hK K)|refine jD ?_|refine jE ?_|refine jG ?_|refine jH ?_|refine jI ?_)|((with_reducible refine jR ?hq ?_);case hq=>rfl)|((first|(with_reducible first|refine jS fun K hK=>?_|refine jT ?_|refine jU ?_)|((with_reducible refine jV ?hy fun K hK=>?_);case hy=>rfl));simp only [go_sem, Nat.reduceEqDiff, Nat.reduceAdd, Nat.reduceMul, Nat.reduceLeDiff, Nat.reduceLT, Int.reduceLT, Int.reduceLE, Int.reduceEq, Int.reduceNeg, Int.reduceToNat, Nat.reducePow, reduceIte, reduceCtorEq, t1, t2, t3, t4, d2, Bool.and_self])|((with_reducible first|refine jW ?hy ?_|refine jY ?hy ?_);case hy=>rfl)|((with_reducible first|refine jX ?hy ?_|refine jZ ?hy ?_);case hy=>rfl)|((with_reducible refine jF ?hy ?_);case hy=>decide))
 refine rd_lookupQ (vf := natV) mapT_ids kInt h1.mp.choose_spec id true ?_
 rw [hid']
 simp only [Option.map_none, gotV, if_true]
 repeat' (first|(with_reducible first|refine jA ?_|(refine hK _ _ ?_;clear hK K)|refine jJ fun K hK=>?_|refine jK ?_|refine jL ?_|refine jM ?_|refine jN ?_|refine jO ?_|refine jP ?_|refine jQ ?_|(refine jB ?_;clear hK K)|(refine jC ?_;clear hK K)|refine jD ?_|refine jE ?_|refine jG ?_|refine jH ?_|refine jI ?_)|((with_reducible refine jR ?hq ?_);case hq=>rfl)|((first|(with_reducible first|refine jS fun K hK=>?_|refine jT ?_|refine jU ?_)|((with_reducible refine jV ?hy fun K hK=>?_);case hy=>rfl));simp only [go_sem, Nat.reduceEqDiff, Nat.reduceAdd, Nat.reduceMul, Nat.reduceLeDiff, Nat.reduceLT, Int.reduceLT, Int.reduceLE, Int.reduceEq, Int.reduceNeg, Int.reduceToNat, Nat.reducePow, reduceIte, reduceCtorEq, ew, ew2])|((with_reducible first|refine jW ?hy ?_|refine jY ?hy ?_);case hy=>rfl)|((with_reducible first|refine jX ?hy ?_|refine jZ ?hy ?_);case hy=>rfl)|((with_reducible refine jF ?hy ?_);case hy=>decide))
 refine same_ok h1.na h1.lc h1.lt (Ls.vtx hu) (Ls.vtx hv) hru hrv fun H2 N2 rows2 hN2 hL2 hf2 => ?_
 have ed : decide (ru = rv) = false := by simp [hne]
 rw [ed]
 have h2 := h1.keep hN2 hL2 hf2
 have hfT : Fr T H H2 := (hf1.mono fun _ _ h => h.elim).trans (fr_g ((e g).2 (.inr (.inl rfl))) hf2)
 have s12 := hfT.size
 clear h1 hf1 d2 hN2 hL2 hf2 h
 repeat' (first|(with_reducible first|refine jA ?_|(refine hK _ _ ?_;clear hK K)|refine jJ fun K hK=>?_|refine jK ?_|refine jL ?_|refine jM ?_|refine jN ?_|refine jO ?_|refine jP ?_|refine jQ ?_|(refine jB ?_;clear hK K)|(refine jC ?_;clear hK K)|refine jD ?_|refine jE ?_|refine jG ?_|refine jH ?_|refine jI ?_)|((with_reducible refine jR ?hq ?_);case hq=>rfl)|((first|(with_reducible first|refine jS fun K hK=>?_|refine jT ?_|refine jU ?_)|((with_reducible refine jV ?hy fun K hK=>?_);case hy=>rfl));simp only [go_sem, Nat.reduceEqDiff, Nat.reduceAdd, Nat.reduceMul, Nat.reduceLeDiff, Nat.reduceLT, Int.reduceLT, Int.reduceLE, Int.reduceEq, Int.reduceNeg, Int.reduceToNat, Nat.reducePow, reduceIte, reduceCtorEq])|((with_reducible first|refine jW ?hy ?_|refine jY ?hy ?_);case hy=>rfl)|((with_reducible first|refine jX ?hy ?_|refine jZ ?hy ?_);case hy=>rfl)|((with_reducible refine jF ?hy ?_);case hy=>decide))
 rename_i KT hKT K1 hK1
 have tail : ∀ (e' : Env) (H5 : Heap) (g c len : Nat) (Bf : Option Nat) (vf : Value) (N : Nodes) (rows : List (List Nat)) (fr : List Nat) (k : Nat), LtAt H5 t g c len r Bf vf S N rows ids (fr ++ [k]) → Fr T H H5 → (∀ b, (b = t ∨ b = g ∨ b = r ∨ Bf = some b) → T b ∨ H.size ≤ b) →
   e' 0 = .pointer (some ⟨t, 0, none⟩) → e' 1 = .int .i64 (u : Nat) → e' 2 = .int .i64 (v : Nat) → e' 3 = .int .i64 id → e' 4 = .int .i64 w → KT e' H5 := by
  clear hK1 hK K K1 h2 e rows fr rows2 N2
  intro e' H5 g c len Bf vf N rows fr k h5 hf5 hft i0 i1 i2 i3 i4
  refine hKT _ _ ?_
  clear hKT KT
  have s5 := hf5.size
  have hkf := h5.free k (by simp)
  obtain ⟨hk1, hk2, hk3⟩ := hkf
  have hkfr : k ∉ fr := fun hm => by
   have := h5.frn
   rw [List.nodup_append] at this
   exact this.2.2 k hm k (by simp) rfl
  have hfri := h5.fri
  rw [natsI_append] at hfri
  obtain ⟨gf, cf, rfl, rfl, ck, hcf, hfr6⟩ := ir_drop hfri
  have hnl : (natsI fr).length = fr.length := by unfold natsI; simp
  rw [hnl] at ck hcf hfr6
  have hfl : fr.length < 4096 := by
   have h1 := len_bound (n := len) h5.frn fun x hx => (h5.free x hx).2.1
   have := h5.ln
   simp at h1
   omega
  have d3 := h5.hd.cellOf (i := 3) rfl
  rw [hnl] at d3
  have ex : IntKind.i64.wrap (((fr.length + 1 : Nat) : Int) - 1) = (fr.length : Nat) := by rw [wrap_i64] <;> omega
  have w3 := h5.hd.okW (i := 3) (by simp)
  have tx1 : ((fr.length : Int) < ((fr.length + 1 : Nat) : Int)) = True := by simp; omega
  have tx2 : (fr.length < fr.length + 1) = True := by simp
  have tx3 : (fr.length ≤ cf) = True := by simp [hcf]
  have hok := h5.ok
  have hd6 := h5.hd.set_same 3 (.slice (some ⟨gf, 0, none⟩) fr.length cf)
  have f6 := hset_fr H5 t 3 (.slice (some ⟨gf, 0, none⟩) fr.length cf)
  have na6 : NA (hset H5 ⟨t, 3, none⟩ (.slice (some ⟨gf, 0, none⟩) fr.length cf)) t g c len N := by
   obtain ⟨rest, k1, k2⟩ := h5.na.nd
   exact ⟨hd6.cellOf rfl, ⟨rest, k1.frame f6 (Ne.symm h5.na.ne), k2⟩, h5.na.ne, h5.na.cl, h5.na.z⟩
  obtain ⟨mk, hmk⟩ := h5.mp
  have mp6 := hmk.frame f6 (Ne.symm h5.ap.1)
  have fr6 := hfr6.frame f6 (fun b hb (e : b = t) => h5.ap.2.2.1 (by rw [hb, e]))
  have hd6' : Blk (hset H5 ⟨t, 3, none⟩ (.slice (some ⟨gf, 0, none⟩) fr.length cf)) t [.int .i64 S.n, .slice (some ⟨g, 0, none⟩) len c, .map (some r), .slice (some ⟨gf, 0, none⟩) fr.length cf] := hd6
  repeat' (first|(with_reducible first|refine jA ?_|(refine hK _ _ ?_;clear hK K)|refine jJ fun K hK=>?_|refine jK ?_|refine jL ?_|refine jM ?_|refine jN ?_|refine jO ?_|refine jP ?_|refine jQ ?_|(refine jB ?_;clear hK K)|(refine jC ?_;clear hK K)|refine jD ?_|refine jE ?_|refine jG ?_|refine jH ?_|refine jI ?_)|((with_reducible refine jR ?hq ?_);case hq=>rfl)|((first|(with_reducible first|refine jS fun K hK=>?_|refine jT ?_|refine jU ?_)|((with_reducible refine jV ?hy fun K hK=>?_);case hy=>rfl));simp only [go_sem, Nat.reduceEqDiff, Nat.reduceAdd, Nat.reduceMul, Nat.reduceLeDiff, Nat.reduceLT, Int.reduceLT, Int.reduceLE, Int.reduceEq, Int.reduceNeg, Int.reduceToNat, Nat.reducePow, reduceIte, reduceCtorEq, i0, i1, i2, i3, i4, d3, ex, ck, w3, tx1, tx2, tx3, Nat.sub_zero, ite_self])|((with_reducible first|refine jW ?hy ?_|refine jY ?hy ?_);case hy=>rfl)|((with_reducible first|refine jX ?hy ?_|refine jZ ?hy ?_);case hy=>rfl)|((with_reducible refine jF ?hy ?_);case hy=>decide))
  generalize hset H5 ⟨t, 3, none⟩ (.slice (some ⟨gf, 0, none⟩) fr.length cf) = H6 at hd6 hd6' f6 na6 mp6 fr6
  clear hd6 d3 w3 ck
  have e2 := hd6'.cellOf (i := 2) rfl
  simp only [go_sem, Nat.reduceEqDiff, Nat.reduceAdd, Nat.reduceMul, Nat.reduceLeDiff, Nat.reduceLT, Int.reduceLT, Int.reduceLE, Int.reduceEq, Int.reduceNeg, Int.reduceToNat, Nat.reducePow, reduceIte, reduceCtorEq, e2]
  repeat' (first|(with_reducible first|refine jA ?_|(refine hK _ _ ?_;clear hK K)|refine jJ fun K hK=>?_|refine jK ?_|refine jL ?_|refine jM ?_|refine jN ?_|refine jO ?_|refine jP ?_|refine jQ ?_|(refine jB ?_;clear hK K)|(refine jC ?_;clear hK K)|refine jD ?_|refine jE ?_|refine jG ?_|refine jH ?_|refine jI ?_)|((with_reducible refine jR ?hq ?_);case hq=>rfl)|((first|(with_reducible first|refine jS fun K hK=>?_|refine jT ?_|refine jU ?_)|((with_reducible refine jV ?hy fun K hK=>?_);case hy=>rfl));simp only [go_sem, Nat.reduceEqDiff, Nat.reduceAdd, Nat.reduceMul, Nat.reduceLeDiff, Nat.reduceLT, Int.reduceLT, Int.reduceLE, Int.reduceEq, Int.reduceNeg, Int.reduceToNat, Nat.reducePow, reduceIte, reduceCtorEq, i3])|((with_reducible first|refine jW ?hy ?_|refine jY ?hy ?_);case hy=>rfl)|((with_reducible first|refine jX ?hy ?_|refine jZ ?hy ?_);case hy=>rfl)|((with_reducible refine jF ?hy ?_);case hy=>decide))
  refine hp_updF (vf := natV) mapT_ids kInt mp6 id k fun H7 hM7 hf7 _ _ => ?_
  have hd7 := hd6'.frame hf7 h5.ap.1
  have na7 := na6.frame hf7 h5.ap.1 h5.ap.2.1
  have fr7 := fr6.frame hf7 (fun b hb (e : b = r) => h5.ap.2.2.2.2 (by rw [hb, e]))
  have hd7c := na7.hd
  have hVk : ¬ S.V k := by
   rintro (⟨_, h1⟩ | h1)
   ·omega
   ·rw [hk3] at h1; cases h1
  have hk0 : k ≠ 0 := by omega
  have hn8 := putNd na7 hk2 (x := newNd k ⟨id, (u : Nat), (v : Nat), w⟩) na7.z.1 na7.z.1 na7.z.1 hk2
  simp only [newNd, Nd.zero, Ed.zero, Int.cast_ofNat_Int] at hn8
  obtain ⟨na8, f8⟩ := hn8
  have o0 := na7.okw0 hk2
  have o1 := na7.okw hk2 1 (by omega)
  have o2 := na7.okw hk2 2 (by omega)
  have o3 := na7.okw hk2 3 (by omega)
  have o4 := na7.okw hk2 4 (by omega)
  have o5 := na7.okw hk2 5 (by omega)
  have o6 := na7.okw hk2 6 (by omega)
  have o7 := na7.okw hk2 7 (by omega)
  have o8 := na7.okw hk2 8 (by omega)
  have o9 := na7.okw hk2 9 (by omega)
  repeat' (first|(with_reducible first|refine jA ?_|(refine hK _ _ ?_;clear hK K)|refine jJ fun K hK=>?_|refine jK ?_|refine jL ?_|refine jM ?_|refine jN ?_|refine jO ?_|refine jP ?_|refine jQ ?_|(refine jB ?_;clear hK K)|(refine jC ?_;clear hK K)|refine jD ?_|refine jE ?_|refine jG ?_|refine jH ?_|refine jI ?_)|((with_reducible refine jR ?hq ?_);case hq=>rfl)|((first|(with_reducible first|refine jS fun K hK=>?_|refine jT ?_|refine jU ?_)|((with_reducible refine jV ?hy fun K hK=>?_);case hy=>rfl));simp only [go_sem, Nat.reduceEqDiff, Nat.reduceAdd, Nat.reduceMul, Nat.reduceLeDiff, Nat.reduceLT, Int.reduceLT, Int.reduceLE, Int.reduceEq, Int.reduceNeg, Int.reduceToNat, Nat.reducePow, reduceIte, reduceCtorEq, i0, i1, i2, i3, i4, hd7c, hk2, o0, o1, o2, o3, o4, o5, o6, o7, o8, o9, okW_hset, ew])|((with_reducible first|refine jW ?hy ?_|refine jY ?hy ?_);case hy=>rfl)|((with_reducible first|refine jX ?hy ?_|refine jZ ?hy ?_);case hy=>rfl)|((with_reducible refine jF ?hy ?_);case hy=>decide))
  have hL8 : LC (upd N k (newNd k ⟨id, (u : Nat), (v : Nat), w⟩)) (setE S.E k (some ⟨id, (u : Nat), (v : Nat), w⟩)) S.par ([k] :: rows) (fun i => S.V i ∨ i = k) := h5.lc.add hk0 hVk hk3 (hok.dd k hVk) (fun x e' hx => hid x e' hx)
  have hV8 : ∀ i, (S.V i ∨ i = k) → i < len := fun i hi => by
   rcases hi with hi | rfl
   ·exact h5.lt i hi
   ·exact hk2
  refine evert_ok (rows := [k] :: rows) na8 hL8 hV8 (.inl (Ls.vtx hu)) hl fun H9 N9 R9 b9 hN9 hL9 hT9 el9 hf9 => ?_
  have hul' : u + 1 < len := hV8 _ (.inl (Ls.vtx hu))
  have hvl' : v + 1 < len := hV8 _ (.inl (Ls.vtx hv))
  have hd9 := hN9.hd
  have w9 := hN9.okw0 hul'
  have hN10 := setUpA hN9 hul' hk2
  have hf10 := hset_fr H9 g ((u + 1) * 10) (.int .i64 (k : Nat))
  repeat' (first|(with_reducible first|refine jA ?_|(refine hK _ _ ?_;clear hK K)|refine jJ fun K hK=>?_|refine jK ?_|refine jL ?_|refine jM ?_|refine jN ?_|refine jO ?_|refine jP ?_|refine jQ ?_|(refine jB ?_;clear hK K)|(refine jC ?_;clear hK K)|refine jD ?_|refine jE ?_|refine jG ?_|refine jH ?_|refine jI ?_)|((with_reducible refine jR ?hq ?_);case hq=>rfl)|((first|(with_reducible first|refine jS fun K hK=>?_|refine jT ?_|refine jU ?_)|((with_reducible refine jV ?hy fun K hK=>?_);case hy=>rfl));simp only [go_sem, Nat.reduceEqDiff, Nat.reduceAdd, Nat.reduceMul, Nat.reduceLeDiff, Nat.reduceLT, Int.reduceLT, Int.reduceLE, Int.reduceEq, Int.reduceNeg, Int.reduceToNat, Nat.reducePow, reduceIte, reduceCtorEq, i0, i1, i2, i3, i4, hd9, ew, hul', w9])|((with_reducible first|refine jW ?hy ?_|refine jY ?hy ?_);case hy=>rfl)|((with_reducible first|refine jX ?hy ?_|refine jZ ?hy ?_);case hy=>rfl)|((with_reducible refine jF ?hy ?_);case hy=>decide))
  have hd10 := hN10.hd
  have w10 := hN10.okw0 hk2
  have hN11 := setUpA hN10 hk2 hvl'
  have hf11 := hset_fr (hset H9 ⟨g, (u + 1) * 10, none⟩ (.int .i64 (k : Nat))) g (k * 10) (.int .i64 ((v + 1 : Nat) : Int))
  simp only [go_sem, Nat.reduceEqDiff, Nat.reduceAdd, Nat.reduceMul, Nat.reduceLeDiff, Nat.reduceLT, Int.reduceLT, Int.reduceLE, Int.reduceEq, Int.reduceNeg, Int.reduceToNat, Nat.reducePow, reduceIte, reduceCtorEq, hd10]
  repeat' (first|(with_reducible first|refine jA ?_|(refine hK _ _ ?_;clear hK K)|refine jJ fun K hK=>?_|refine jK ?_|refine jL ?_|refine jM ?_|refine jN ?_|refine jO ?_|refine jP ?_|refine jQ ?_|(refine jB ?_;clear hK K)|(refine jC ?_;clear hK K)|refine jD ?_|refine jE ?_|refine jG ?_|refine jH ?_|refine jI ?_)|((with_reducible refine jR ?hq ?_);case hq=>rfl)|((first|(with_reducible first|refine jS fun K hK=>?_|refine jT ?_|refine jU ?_)|((with_reducible refine jV ?hy fun K hK=>?_);case hy=>rfl));simp only [go_sem, Nat.reduceEqDiff, Nat.reduceAdd, Nat.reduceMul, Nat.reduceLeDiff, Nat.reduceLT, Int.reduceLT, Int.reduceLE, Int.reduceEq, Int.reduceNeg, Int.reduceToNat, Nat.reducePow, reduceIte, reduceCtorEq, i0, i1, i2, i3, i4, hd10, ew2, hk2, w10])|((with_reducible first|refine jW ?hy ?_|refine jY ?hy ?_);case hy=>rfl)|((with_reducible first|refine jX ?hy ?_|refine jZ ?hy ?_);case hy=>rfl)|((with_reducible refine jF ?hy ?_);case hy=>decide))
  have k1 := hok.evert ⟨by omega, by omega⟩ hl
  have hnk : ∀ y, ev S.par 0 ((u + 1) :: rl) y ≠ k := k1.no_kid (h := k) hVk hk0
  have hpk : ev S.par 0 ((u + 1) :: rl) k = 0 := k1.dd k hVk
  obtain ⟨R', hR'⟩ := hL9.alone (h := k) (.inr rfl) hpk hnk
  have huk : u + 1 ≠ k := by omega
  have hL10 : LC (upd N9 (u + 1) { N9 (u + 1) with up := k }) (setE S.E k (some ⟨id, (u : Nat), (v : Nat), w⟩)) (setP (ev S.par 0 ((u + 1) :: rl)) (u + 1) k) (((u + 1) :: rl) :: R9) (fun i => S.V i ∨ i = k) :=
   LC.hang hL9 hT9 el9 ev_head (Or.inr rfl) (Ch.root hpk) (by simp; omega)
  have hL10' := hL10.perm hR'
  obtain ⟨T2, hT2, eT2⟩ := hL10'.trees [k] (.head _)
  have eT3 : T2.root = k := by
   cases T2 with
   | nil => simp [Tr.list] at eT2
   | node a x b =>
    have h1 : x ∈ [k] := by rw [← eT2]; simp [Tr.list]
    simpa [Tr.root] using h1
  have hpk10 : setP (ev S.par 0 ((u + 1) :: rl)) (u + 1) k k = 0 := by rw [setP_ne _ (Ne.symm huk)]; exact hpk
  have hlv10 : Ch (setP (ev S.par 0 ((u + 1) :: rl)) (u + 1) k) (v + 1) lv := hlv.congr fun x hx => setP_ne _ fun e => hul (e ▸ hx)
  have hklv : k ∉ lv := fun hm => hVk (k1.live hlv (Ls.vtx (S := S.ev ((u + 1) :: rl)) hv) k hm)
  have hL11 := LC.hang (T := T2) (r := []) hL10' (by have := hT2; simp only [List.headD_cons] at this; rw [hpk10] at this; exact this) eT2 hpk10 (.inl (Ls.vtx hv)) hlv10 hklv
  rw [eT3] at hL11
  have hpar : setP (setP (ev S.par 0 ((u + 1) :: rl)) (u + 1) k) k (v + 1) = (S.link ((u + 1) :: rl) k ⟨id, (u : Nat), (v : Nat), w⟩).par := by
   show _ = setP (setP (ev S.par 0 ((u + 1) :: rl)) k (v + 1)) (u + 1) k
   funext i
   unfold setP
   by_cases e1 : i = k
   ·subst e1; simp [Ne.symm huk]
   ·simp [e1]
  rw [hpar] at hL11
  have hokL := hok.linkOk (h := k) (e := ⟨id, (u : Nat), (v : Nat), w⟩) hu hv rfl rfl hl hlv hul hk1 hk3 (fun x e' hx => hid x e' hx)
  have hg := (((f8.trans hf9).trans hf10).trans hf11)
  have hVL : ∀ x, (S.link ((u + 1) :: rl) k ⟨id, (u : Nat), (v : Nat), w⟩).V x ↔ S.V x ∨ x = k := fun x => by
   show ((1 ≤ x ∧ x ≤ S.n) ∨ (setE S.E k (some _) x).isSome = true) ↔ ((1 ≤ x ∧ x ≤ S.n) ∨ (S.E x).isSome = true) ∨ x = k
   by_cases ex : x = k
   ·rw [ex, setE_same]; simp
   ·rw [setE_ne _ _ ex]; simp [ex]
  have hVe : (S.link ((u + 1) :: rl) k ⟨id, (u : Nat), (v : Nat), w⟩).V = fun x => S.V x ∨ x = k := funext fun x => propext (hVL x)
  refine fin _ (fun b => b = t ∨ b = g ∨ b = r ∨ some gf = some b) k ⟨g, c, len, r, some gf, .slice (some ⟨gf, 0, none⟩) fr.length cf, _, [k] :: R', fun j => if j = id then some k else ids j, fr, ⟨?_, hN11, ?_, ?_, h5.ap, hokL, ?_, fun i h' => ?_, fun x hx => ?_, ?_, fun x a b => ?_, fun x hx => ?_, h5.ln⟩, fun b => Iff.rfl⟩ hk1 hk3 ?_ (fun b hb => hft b hb)
  ·exact hd7.frame hg h5.na.ne
  ·exact ⟨_, hM7.frame hg (Ne.symm h5.ap.2.1)⟩
  ·exact fr7.frame hg fun b hb (e : b = g) => h5.ap.2.2.2.1 (by rw [hb, e])
  ·rw [hVe]; exact hL11
  ·show (if i = id then some k else ids i) = some h' ↔ ∃ e, setE S.E k (some ⟨id, (u : Nat), (v : Nat), w⟩) h' = some e ∧ e.id = i
   by_cases ei : i = id
   ·rw [if_pos ei]
    constructor
    ·intro h1
     obtain rfl := Option.some.inj h1
     exact ⟨_, setE_same _ _ _, ei.symm⟩
    ·rintro ⟨x, h1, h2⟩
     by_cases ek : h' = k
     ·rw [ek]
     ·rw [setE_ne _ _ ek] at h1
      exact absurd (h2.trans ei) (hid h' x h1)
   ·rw [if_neg ei, h5.id i h']
    by_cases ek : h' = k
    ·rw [ek, setE_same]
     constructor
     ·rintro ⟨x, h1, h2⟩
      rw [hk3] at h1; cases h1
     ·rintro ⟨x, h1, h2⟩
      obtain rfl := Option.some.inj h1
      exact absurd h2.symm ei
    ·rw [setE_ne _ _ ek]
  ·have h1 := h5.free x (List.mem_append_left _ hx)
   refine ⟨h1.1, h1.2.1, ?_⟩
   show setE S.E k _ x = none
   rw [setE_ne _ _ fun (e : x = k) => hkfr (e ▸ hx)]
   exact h1.2.2
  ·have := h5.frn
   rw [List.nodup_append] at this
   exact this.1
  ·show (setE S.E k _ x).isSome = true ∨ x ∈ fr
   by_cases ek : x = k
   ·rw [ek, setE_same]; exact .inl rfl
   ·rw [setE_ne _ _ ek]
    refine (h5.all x a b).imp (fun h => h) fun h => ?_
    rcases List.mem_append.1 h with h | h
    ·exact h
    ·exact absurd (List.mem_singleton.1 h) ek
  ·exact hV8 x ((hVL x).1 hx)
  ·refine hf5.trans' (S' := fun b => b = t ∨ b = r ∨ b = g) (((f6.mono fun _ _ h => .inl h).trans (hf7.mono fun _ _ h => .inr (.inl h))).trans (hg.mono fun _ _ h => .inr (.inr h))) fun b hb hS => ?_
   rcases hS with h1 | h1 | h1
   ·exact (hft b (.inl h1)).resolve_right (by omega)
   ·exact (hft b (.inr (.inr (.inl h1)))).resolve_right (by omega)
   ·exact (hft b (.inr (.inl h1))).resolve_right (by omega)
 clear hKT
 have hTt : T t := (e t).2 (.inl rfl)
 have hTg : T g := (e g).2 (.inr (.inl rfl))
 obtain ⟨fa, fc, hfa⟩ := h2.fri.slice
 have hnl : (natsI fr).length = fr.length := by unfold natsI; simp
 rw [hnl] at hfa
 subst hfa
 have d3 := h2.hd.cellOf (i := 3) rfl
 rcases (show fr = [] ∨ ∃ fr0 k, fr = fr0 ++ [k] from by
  rcases List.eq_nil_or_concat fr with h | ⟨a, b, h⟩
  ·exact .inl h
  ·exact .inr ⟨a, b, by rw [h, List.concat_eq_append]⟩) with rfl | ⟨fr0, k, rfl⟩
 ·simp only [go_sem, Nat.reduceEqDiff, Nat.reduceAdd, Nat.reduceMul, Nat.reduceLeDiff, Nat.reduceLT, Int.reduceLT, Int.reduceLE, Int.reduceEq, Int.reduceNeg, Int.reduceToNat, Nat.reducePow, reduceIte, reduceCtorEq, d3]
  repeat' (first|(with_reducible first|refine jA ?_|(refine hK _ _ ?_;clear hK K)|refine jJ fun K hK=>?_|refine jK ?_|refine jL ?_|refine jM ?_|refine jN ?_|refine jO ?_|refine jP ?_|refine jQ ?_|(refine jB ?_;clear hK K)|(refine jC ?_;clear hK K)|refine jD ?_|refine jE ?_|refine jG ?_|refine jH ?_|refine jI ?_)|((with_reducible refine jR ?hq ?_);case hq=>rfl)|((first|(with_reducible first|refine jS fun K hK=>?_|refine jT ?_|refine jU ?_)|((with_reducible refine jV ?hy fun K hK=>?_);case hy=>rfl));simp only [go_sem, Nat.reduceEqDiff, Nat.reduceAdd, Nat.reduceMul, Nat.reduceLeDiff, Nat.reduceLT, Int.reduceLT, Int.reduceLE, Int.reduceEq, Int.reduceNeg, Int.reduceToNat, Nat.reducePow, reduceIte, reduceCtorEq])|((with_reducible first|refine jW ?hy ?_|refine jY ?hy ?_);case hy=>rfl)|((with_reducible first|refine jX ?hy ?_|refine jZ ?hy ?_);case hy=>rfl)|((with_reducible refine jF ?hy ?_);case hy=>decide))
  refine hK1 _ _ ?_
  clear hK1 K1
  repeat' (first|(with_reducible first|refine jA ?_|(refine hK _ _ ?_;clear hK K)|refine jJ fun K hK=>?_|refine jK ?_|refine jL ?_|refine jM ?_|refine jN ?_|refine jO ?_|refine jP ?_|refine jQ ?_|(refine jB ?_;clear hK K)|(refine jC ?_;clear hK K)|refine jD ?_|refine jE ?_|refine jG ?_|refine jH ?_|refine jI ?_)|((with_reducible refine jR ?hq ?_);case hq=>rfl)|((first|(with_reducible first|refine jS fun K hK=>?_|refine jT ?_|refine jU ?_)|((with_reducible refine jV ?hy fun K hK=>?_);case hy=>rfl));simp only [go_sem, Nat.reduceEqDiff, Nat.reduceAdd, Nat.reduceMul, Nat.reduceLeDiff, Nat.reduceLT, Int.reduceLT, Int.reduceLE, Int.reduceEq, Int.reduceNeg, Int.reduceToNat, Nat.reducePow, reduceIte, reduceCtorEq])|((with_reducible first|refine jW ?hy ?_|refine jY ?hy ?_);case hy=>rfl)|((with_reducible first|refine jX ?hy ?_|refine jZ ?hy ?_);case hy=>rfl)|((with_reducible refine jF ?hy ?_);case hy=>decide))
  have d1 := h2.hd.cellOf (i := 1) rfl
  obtain ⟨rest, hb2, hr2, hc2⟩ := h2.na.nd
  have hgl := h2.na.lt
  have hlen := h2.ln
  have hmr := h2.mp.choose_spec
  have hrl := hmr.lt
  simp only [go_sem, Nat.reduceEqDiff, Nat.reduceAdd, Nat.reduceMul, Nat.reduceLeDiff, Nat.reduceLT, Int.reduceLT, Int.reduceLE, Int.reduceEq, Int.reduceNeg, Int.reduceToNat, Nat.reducePow, reduceIte, reduceCtorEq, d1]
  repeat' (first|(with_reducible first|refine jA ?_|(refine hK _ _ ?_;clear hK K)|refine jJ fun K hK=>?_|refine jK ?_|refine jL ?_|refine jM ?_|refine jN ?_|refine jO ?_|refine jP ?_|refine jQ ?_|(refine jB ?_;clear hK K)|(refine jC ?_;clear hK K)|refine jD ?_|refine jE ?_|refine jG ?_|refine jH ?_|refine jI ?_)|((with_reducible refine jR ?hq ?_);case hq=>rfl)|((first|(with_reducible first|refine jS fun K hK=>?_|refine jT ?_|refine jU ?_)|((with_reducible refine jV ?hy fun K hK=>?_);case hy=>rfl));simp only [go_sem, Nat.reduceEqDiff, Nat.reduceAdd, Nat.reduceMul, Nat.reduceLeDiff, Nat.reduceLT, Int.reduceLT, Int.reduceLE, Int.reduceEq, Int.reduceNeg, Int.reduceToNat, Nat.reducePow, reduceIte, reduceCtorEq])|((with_reducible first|refine jW ?hy ?_|refine jY ?hy ?_);case hy=>rfl)|((with_reducible first|refine jX ?hy ?_|refine jZ ?hy ?_);case hy=>rfl)|((with_reducible refine jF ?hy ?_);case hy=>decide))
  generalize eH3 : H2.push _ = H3
  have f3 : Fr (fun _ => False) H2 H3 := by rw [← eH3]; exact (Fr.refl _ _).push _
  have s3 : H3.size = H2.size + 1 := by rw [← eH3]; simp
  have b3 : Blk H3 H2.size Nd.zero.cells := by rw [← eH3]; exact Blk.new H2 Nd.zero.cells _
  clear eH3
  refine append_row (g := g) (n := len) (m := 1) (c := c) (l := rowsN N2 len) (rest := rest) (new := Nd.zero.cells) (sz := 10) (e := 74) (by kernel_rfl) tl74 (hb2.frame f3 fun h => h) (rowsN_len _ _) hr2 hc2 (readL_blk b3 10 0 0 (by simp [Nd.cells])) (by simp [Nd.cells, Nd.zero, Ed.zero, plainVal]) (by decide) (by simp only []; omega) rfl rfl fun H4 g' c' rest' hb4 hl4 hc4 hf4 hg4 => ?_
  have htg : t ≠ g := h2.na.ne
  have hd4 := (h2.hd.frame f3 fun h => h).frame hf4 htg
  have w1 := hd4.okW (i := 1) (by simp)
  have htg' : t ≠ g' := by rcases hg4 with e | e <;> omega
  have hgr' : g' ≠ r := by
   have := h2.ap.2.1
   rcases hg4 with e | e <;> omega
  have hd5 := hd4.set_same 1 (.slice (some ⟨g', 0, none⟩) (len + 1) c')
  have f5 := hset_fr H4 t 1 (.slice (some ⟨g', 0, none⟩) (len + 1) c')
  have hb5 := hb4.frame f5 (Ne.symm htg')
  have hBt : ∀ b, Bf = some b → b ≠ t ∧ b ≠ g ∧ b ≠ r ∧ b < H2.size := fun b hb => ⟨fun e => h2.ap.2.2.1 (by rw [hb, e]), fun e => h2.ap.2.2.2.1 (by rw [hb, e]), fun e => h2.ap.2.2.2.2 (by rw [hb, e]), h2.fri.lt hb⟩
  have fri5 := ((h2.fri.frame f3 fun b _ h => h).frame hf4 fun b hb (e : b = g) => (hBt b hb).2.1 e).frame f5 fun b hb (e : b = t) => (hBt b hb).1 e
  have mp5 := ((hmr.frame f3 fun h => h).frame hf4 (Ne.symm h2.ap.2.1)).frame f5 (Ne.symm h2.ap.1)
  have fT5 : Fr T H (hset H4 ⟨t, 1, none⟩ (.slice (some ⟨g', 0, none⟩) (len + 1) c')) := ((hfT.trans (f3.mono fun _ _ h => h.elim)).trans (hf4.mono fun b _ e => by rw [e]; exact hTg)).trans (f5.mono fun b _ e => by rw [e]; exact hTt)
  have s45 := hf4.size
  have s5 : (hset H4 ⟨t, 1, none⟩ (.slice (some ⟨g', 0, none⟩) (len + 1) c')).size = H4.size := hset_size _ _ _
  repeat' (first|(with_reducible first|refine jA ?_|(refine hK _ _ ?_;clear hK K)|refine jJ fun K hK=>?_|refine jK ?_|refine jL ?_|refine jM ?_|refine jN ?_|refine jO ?_|refine jP ?_|refine jQ ?_|(refine jB ?_;clear hK K)|(refine jC ?_;clear hK K)|refine jD ?_|refine jE ?_|refine jG ?_|refine jH ?_|refine jI ?_)|((with_reducible refine jR ?hq ?_);case hq=>rfl)|((first|(with_reducible first|refine jS fun K hK=>?_|refine jT ?_|refine jU ?_)|((with_reducible refine jV ?hy fun K hK=>?_);case hy=>rfl));simp only [go_sem, Nat.reduceEqDiff, Nat.reduceAdd, Nat.reduceMul, Nat.reduceLeDiff, Nat.reduceLT, Int.reduceLT, Int.reduceLE, Int.reduceEq, Int.reduceNeg, Int.reduceToNat, Nat.reducePow, reduceIte, reduceCtorEq, w1])|((with_reducible first|refine jW ?hy ?_|refine jY ?hy ?_);case hy=>rfl)|((with_reducible first|refine jX ?hy ?_|refine jZ ?hy ?_);case hy=>rfl)|((with_reducible refine jF ?hy ?_);case hy=>decide))
  have hd5' : Blk (hset H4 ⟨t, 1, none⟩ (.slice (some ⟨g', 0, none⟩) (len + 1) c')) t [.int .i64 S.n, .slice (some ⟨g', 0, none⟩) (len + 1) c', .map (some r), .slice fa ([] : List Nat).length fc] := hd5
  generalize hset H4 ⟨t, 1, none⟩ (.slice (some ⟨g', 0, none⟩) (len + 1) c') = H5 at hd5' hb5 f5 fri5 mp5 fT5 s5
  clear hd5
  have c1 := hd5'.cellOf (i := 1) rfl
  have c3 := hd5'.cellOf (i := 3) rfl
  have exl : IntKind.i64.wrap (((len + 1 : Nat) : Int) - 1) = (len : Nat) := by rw [wrap_i64] <;> omega
  simp only [go_sem, Nat.reduceEqDiff, Nat.reduceAdd, Nat.reduceMul, Nat.reduceLeDiff, Nat.reduceLT, Int.reduceLT, Int.reduceLE, Int.reduceEq, Int.reduceNeg, Int.reduceToNat, Nat.reducePow, reduceIte, reduceCtorEq, c3]
  repeat' (first|(with_reducible first|refine jA ?_|(refine hK _ _ ?_;clear hK K)|refine jJ fun K hK=>?_|refine jK ?_|refine jL ?_|refine jM ?_|refine jN ?_|refine jO ?_|refine jP ?_|refine jQ ?_|(refine jB ?_;clear hK K)|(refine jC ?_;clear hK K)|refine jD ?_|refine jE ?_|refine jG ?_|refine jH ?_|refine jI ?_)|((with_reducible refine jR ?hq ?_);case hq=>rfl)|((first|(with_reducible first|refine jS fun K hK=>?_|refine jT ?_|refine jU ?_)|((with_reducible refine jV ?hy fun K hK=>?_);case hy=>rfl));simp only [go_sem, Nat.reduceEqDiff, Nat.reduceAdd, Nat.reduceMul, Nat.reduceLeDiff, Nat.reduceLT, Int.reduceLT, Int.reduceLE, Int.reduceEq, Int.reduceNeg, Int.reduceToNat, Nat.reducePow, reduceIte, reduceCtorEq, c1, exl])|((with_reducible first|refine jW ?hy ?_|refine jY ?hy ?_);case hy=>rfl)|((with_reducible first|refine jX ?hy ?_|refine jZ ?hy ?_);case hy=>rfl)|((with_reducible refine jF ?hy ?_);case hy=>decide))
  refine append_ir elems22 tl3 fri5 rfl (by decide) (by simp [natsI]) rfl ?_
  intro v' H7 B' hv7 hf7 hB7
  have hd7 := hd5'.frame hf7 fun h => (hBt t h).1 rfl
  have w3 := hd7.okW (i := 3) (by simp)
  have hd8 := hd7.set_same 3 v'
  have f8 := hset_fr H7 t 3 v'
  have s7 := hf7.size
  have hg'lt : g' < H5.size := hb5.lt
  have hBg' : ∀ b, Bf = some b → b ≠ g' := fun b hb => by
   have := hBt b hb
   rcases hg4 with e | e <;> omega
  have hB't : ∀ b, B' = some b → b ≠ t ∧ b ≠ g' ∧ b ≠ r ∧ (Bf = some b ∨ H5.size ≤ b) := fun b hb => by
   rcases hB7 with e | ⟨x, e1, e2⟩
   ·rw [e] at hb
    have := hBt b hb
    exact ⟨this.1, hBg' b hb, this.2.2.1, .inl hb⟩
   ·rw [e1] at hb
    obtain rfl := Option.some.inj hb
    refine ⟨by omega, by omega, by omega, .inr e2⟩
  have hb8 := (hb5.frame hf7 fun h => hBg' g' h rfl).frame f8 (Ne.symm htg')
  have mp8 := (mp5.frame hf7 fun h => (hBt r h).2.2.1 rfl).frame f8 (Ne.symm h2.ap.1)
  have hv8 := hv7.frame f8 fun b hb (e : b = t) => (hB't b hb).1 e
  have hG := grown h2 (v' := v') (B' := B') (H' := hset H7 ⟨t, 3, none⟩ v') hd8 hb8 hl4 hc4 hv8 ⟨_, mp8⟩ ⟨htg', hgr'⟩ ⟨fun e => (hB't t e).1 rfl, fun e => (hB't g' e).2.1 rfl, fun e => (hB't r e).2.2.1 rfl⟩
  obtain ⟨va, vc, hvs⟩ := hv7.slice
  subst hvs
  repeat' (first|(with_reducible first|refine jA ?_|(refine hK _ _ ?_;clear hK K)|refine jJ fun K hK=>?_|refine jK ?_|refine jL ?_|refine jM ?_|refine jN ?_|refine jO ?_|refine jP ?_|refine jQ ?_|(refine jB ?_;clear hK K)|(refine jC ?_;clear hK K)|refine jD ?_|refine jE ?_|refine jG ?_|refine jH ?_|refine jI ?_)|((with_reducible refine jR ?hq ?_);case hq=>rfl)|((first|(with_reducible first|refine jS fun K hK=>?_|refine jT ?_|refine jU ?_)|((with_reducible refine jV ?hy fun K hK=>?_);case hy=>rfl));simp only [go_sem, Nat.reduceEqDiff, Nat.reduceAdd, Nat.reduceMul, Nat.reduceLeDiff, Nat.reduceLT, Int.reduceLT, Int.reduceLE, Int.reduceEq, Int.reduceNeg, Int.reduceToNat, Nat.reducePow, reduceIte, reduceCtorEq, w3])|((with_reducible first|refine jW ?hy ?_|refine jY ?hy ?_);case hy=>rfl)|((with_reducible first|refine jX ?hy ?_|refine jZ ?hy ?_);case hy=>rfl)|((with_reducible refine jF ?hy ?_);case hy=>decide))
  refine tail _ _ g' c' (len + 1) B' _ (upd N2 len Nd.zero) rows2 [] len hG ?_ (fun b hb => ?_) ?_ ?_ ?_ ?_ ?_
  ·refine (fT5.trans (hf7.mono fun b _ hb => (e b).2 (.inr (.inr (.inr hb))))).trans (f8.mono fun b _ eb => by rw [eb]; exact hTt)
  ·rcases hb with rfl | rfl | rfl | hb
   ·exact .inl hTt
   ·rcases hg4 with eg | eg
    ·rw [eg]; exact .inl hTg
    ·exact .inr (by omega)
   ·exact .inl ((e b).2 (.inr (.inr (.inl rfl))))
   ·rcases (hB't b hb).2.2.2 with h1 | h1
    ·exact .inl ((e b).2 (.inr (.inr (.inr h1))))
    ·exact .inr (by omega)
  all_goals rfl
 ·have tl0 : ((((fr0 ++ [k]).length : Nat) : Int) == 0) = false := by simp; omega
  simp only [go_sem, Nat.reduceEqDiff, Nat.reduceAdd, Nat.reduceMul, Nat.reduceLeDiff, Nat.reduceLT, Int.reduceLT, Int.reduceLE, Int.reduceEq, Int.reduceNeg, Int.reduceToNat, Nat.reducePow, reduceIte, reduceCtorEq, d3]
  repeat' (first|(with_reducible first|refine jA ?_|(refine hK _ _ ?_;clear hK K)|refine jJ fun K hK=>?_|refine jK ?_|refine jL ?_|refine jM ?_|refine jN ?_|refine jO ?_|refine jP ?_|refine jQ ?_|(refine jB ?_;clear hK K)|(refine jC ?_;clear hK K)|refine jD ?_|refine jE ?_|refine jG ?_|refine jH ?_|refine jI ?_)|((with_reducible refine jR ?hq ?_);case hq=>rfl)|((first|(with_reducible first|refine jS fun K hK=>?_|refine jT ?_|refine jU ?_)|((with_reducible refine jV ?hy fun K hK=>?_);case hy=>rfl));simp only [go_sem, Nat.reduceEqDiff, Nat.reduceAdd, Nat.reduceMul, Nat.reduceLeDiff, Nat.reduceLT, Int.reduceLT, Int.reduceLE, Int.reduceEq, Int.reduceNeg, Int.reduceToNat, Nat.reducePow, reduceIte, reduceCtorEq, tl0])|((with_reducible first|refine jW ?hy ?_|refine jY ?hy ?_);case hy=>rfl)|((with_reducible first|refine jX ?hy ?_|refine jZ ?hy ?_);case hy=>rfl)|((with_reducible refine jF ?hy ?_);case hy=>decide))
  refine hK1 _ _ ?_
  clear hK1 K1
  repeat' (first|(with_reducible first|refine jA ?_|(refine hK _ _ ?_;clear hK K)|refine jJ fun K hK=>?_|refine jK ?_|refine jL ?_|refine jM ?_|refine jN ?_|refine jO ?_|refine jP ?_|refine jQ ?_|(refine jB ?_;clear hK K)|(refine jC ?_;clear hK K)|refine jD ?_|refine jE ?_|refine jG ?_|refine jH ?_|refine jI ?_)|((with_reducible refine jR ?hq ?_);case hq=>rfl)|((first|(with_reducible first|refine jS fun K hK=>?_|refine jT ?_|refine jU ?_)|((with_reducible refine jV ?hy fun K hK=>?_);case hy=>rfl));simp only [go_sem, Nat.reduceEqDiff, Nat.reduceAdd, Nat.reduceMul, Nat.reduceLeDiff, Nat.reduceLT, Int.reduceLT, Int.reduceLE, Int.reduceEq, Int.reduceNeg, Int.reduceToNat, Nat.reducePow, reduceIte, reduceCtorEq])|((with_reducible first|refine jW ?hy ?_|refine jY ?hy ?_);case hy=>rfl)|((with_reducible first|refine jX ?hy ?_|refine jZ ?hy ?_);case hy=>rfl)|((with_reducible refine jF ?hy ?_);case hy=>decide))
  refine tail _ _ g c len Bf _ N2 rows2 fr0 k h2 hfT (fun b hb => .inl ((e b).2 hb)) ?_ ?_ ?_ ?_ ?_ <;> rfl
end
section
variable {H H' : Heap} {t g c len r : Nat} {Bf : Option Nat} {vf : Value} {S : Ls} {N N' : Nodes} {rows rows' : List (List Nat)} {ids : Int → Option Nat} {fr : List Nat} {T : Nat → Prop} {K : Value → Heap → Prop}
theorem cut_bad {id : Int} (h : LtM H t T S) (hid : ∀ k x, S.E k = some x → x.id ≠ id) (fin : ∀ H', LtM H' t T S → Fr T H H' → K (.int .i64 53) H') :
  CallsH Try.prog 22 #[.pointer (some ⟨t, 0, none⟩), .int .i64 id] H K := by
 have hM := h
 obtain ⟨g, c, len, r, Bf, vf, N, rows, ids, fr, h, e⟩ := h
 have hid' : ids id = none := by
  cases hi : ids id with
  | none => rfl
  | some k =>
   obtain ⟨x, h2, h3⟩ := (h.id id k).1 hi
   exact absurd h3 (hid k x h2)
 have d2 := h.hd.cellOf (i := 2) rfl
 refine call22 (by simp) ?_
 simp only [Try.f22, Option.getD_some]
 repeat' (first|(with_reducible first|refine jA ?_|(refine hK _ _ ?_;clear hK K)|refine jJ fun K hK=>?_|refine jK ?_|refine jL ?_|refine jM ?_|refine jN ?_|refine jO ?_|refine jP ?_|refine jQ ?_|(refine jB ?_;clear hK K)|(refine jC ?_;clear hK K)|refine jD ?_|refine jE ?_|refine jG ?_|refine jH ?_|refine jI ?_)|((with_reducible refine jR ?hq ?_);case hq=>rfl)|((first|(with_reducible first|refine jS fun K hK=>?_|refine jT ?_|refine jU ?_)|((with_reducible refine jV ?hy fun K hK=>?_);case hy=>rfl));simp only [go_sem, Nat.reduceEqDiff, Nat.reduceAdd, Nat.reduceMul, Nat.reduceLeDiff, Nat.reduceLT, Int.reduceLT, Int.reduceLE, Int.reduceEq, Int.reduceNeg, Int.reduceToNat, Nat.reducePow, reduceIte, reduceCtorEq, d2])|((with_reducible first|refine jW ?hy ?_|refine jY ?hy ?_);case hy=>rfl)|((with_reducible first|refine jX ?hy ?_|refine jZ ?hy ?_);case hy=>rfl)|((with_reducible refine jF ?hy ?_);case hy=>decide))
 refine rd_lookupQ (vf := natV) mapT_ids kInt h.mp.choose_spec id true ?_
 rw [hid']
 simp only [Option.map_none, gotV, if_true]
 repeat' (first|(with_reducible first|refine jA ?_|(refine hK _ _ ?_;clear hK K)|refine jJ fun K hK=>?_|refine jK ?_|refine jL ?_|refine jM ?_|refine jN ?_|refine jO ?_|refine jP ?_|refine jQ ?_|(refine jB ?_;clear hK K)|(refine jC ?_;clear hK K)|refine jD ?_|refine jE ?_|refine jG ?_|refine jH ?_|refine jI ?_)|((with_reducible refine jR ?hq ?_);case hq=>rfl)|((first|(with_reducible first|refine jS fun K hK=>?_|refine jT ?_|refine jU ?_)|((with_reducible refine jV ?hy fun K hK=>?_);case hy=>rfl));simp only [go_sem, Nat.reduceEqDiff, Nat.reduceAdd, Nat.reduceMul, Nat.reduceLeDiff, Nat.reduceLT, Int.reduceLT, Int.reduceLE, Int.reduceEq, Int.reduceNeg, Int.reduceToNat, Nat.reducePow, reduceIte, reduceCtorEq])|((with_reducible first|refine jW ?hy ?_|refine jY ?hy ?_);case hy=>rfl)|((with_reducible first|refine jX ?hy ?_|refine jZ ?hy ?_);case hy=>rfl)|((with_reducible refine jF ?hy ?_);case hy=>decide))
 exact fin _ hM (.refl _ _)
theorem cut_ok {id : Int} {h k : Nat} {x : Ed} (hM : LtM H t T S) (hh : S.E h = some x) (hx : x.id = id) (hk : S.par k = h) (fin : ∀ H' T', LtM H' t T' (S.cut h k) → Fr T H H' → (∀ b, T' b → T b ∨ H.size ≤ b) → K (.int .i64 0) H') :
  CallsH Try.prog 22 #[.pointer (some ⟨t, 0, none⟩), .int .i64 id] H K := by
 obtain ⟨g, c, len, r, Bf, vf, N, rows, ids, fr, h0, e⟩ := hM
 have hok := h0.ok
 have hn := hok.n64
 obtain ⟨q1, q2, q3, q4, q5⟩ := hok.en h x hh
 obtain ⟨k', p, c1, c2, c3, c4, c5⟩ := hok.kid hh
 obtain rfl := c5 k hk
 have hVh : S.V h := .inr (by rw [hh]; rfl)
 have hVk : S.V k := by rcases c4 with c4 | c4 <;> exact .inl ⟨by omega, by omega⟩
 have hVp : S.V p := by rcases c4 with c4 | c4 <;> exact .inl ⟨by omega, by omega⟩
 have hlt := h0.lt h hVh
 have hids : ids id = some h := (h0.id id h).2 ⟨x, hh, hx⟩
 have hkh : k ≠ h := by rcases c4 with c4 | c4 <;> omega
 have hph : p ≠ h := by rcases c4 with c4 | c4 <;> omega
 have hNe : (N h).e = x := h0.lc.eok.e h x hh
 have d1 := h0.hd.cellOf (i := 1) rfl
 have d2 := h0.hd.cellOf (i := 2) rfl
 have x5 := h0.na.cell (j := 5) hlt rfl
 have x6 := h0.na.cell (j := 6) hlt rfl
 have x7 := h0.na.cell (j := 7) hlt rfl
 have x8 := h0.na.cell (j := 8) hlt rfl
 rw [hNe] at x5 x6 x7 x8
 have hT0 := h0.na.lt
 have n1 : ¬ H.size = g := by omega
 have n2 : ¬ g = H.size := by omega
 have l1 : g < H.size := by omega
 have hTt : T t := (e t).2 (.inl rfl)
 have hTg : T g := (e g).2 (.inr (.inl rfl))
 have hTr : T r := (e r).2 (.inr (.inr (.inl rfl)))
 have pk : setP S.par h 0 k = h := by rw [setP_ne _ hkh]; exact hk
 have rk : RootOf (setP S.par h 0) k h := ⟨[k, h], .step (by rw [pk]; omega) (by rw [pk]; exact .root (setP_same _ _ _)), rfl⟩
 have rh : RootOf (setP S.par h 0) h h := RootOf.self (setP_same _ _ _)
 have rp : ∃ rp, RootOf (setP S.par h 0) p rp ∧ rp ≠ h := by
  obtain ⟨lp, hlp⟩ := hok.ac p hVp
  have hhp : h ∉ lp := fun hm => by
   obtain ⟨m, hm2⟩ := hok.ac h hVh
   have hnd := hm2.nodup
   cases hm2 with
   | root h1 => exact q5 h1
   | step h1 k1 =>
    rw [c2] at k1
    obtain rfl := k1.uniq hlp
    rw [List.nodup_cons] at hnd
    exact hnd.1 hm
  have h1 := hlp.congr (par' := setP S.par h 0) fun y hy => setP_ne _ fun e => hhp (e ▸ hy)
  obtain ⟨rp, hrp⟩ : ∃ rp, lp.getLast? = some rp := by
   cases hl : lp.getLast? with
   | none => rw [List.getLast?_eq_none_iff] at hl; exact absurd hl hlp.ne
   | some y => exact ⟨y, rfl⟩
  exact ⟨rp, ⟨lp, h1, hrp⟩, fun e => hhp (e ▸ List.mem_of_getLast? hrp)⟩
 refine call22 (by simp) ?_
 simp only [Try.f22, Option.getD_some]
 repeat' (first|(with_reducible first|refine jA ?_|(refine hK _ _ ?_;clear hK K)|refine jJ fun K hK=>?_|refine jK ?_|refine jL ?_|refine jM ?_|refine jN ?_|refine jO ?_|refine jP ?_|refine jQ ?_|(refine jB ?_;clear hK K)|(refine jC ?_;clear hK K)|refine jD ?_|refine jE ?_|refine jG ?_|refine jH ?_|refine jI ?_)|((with_reducible refine jR ?hq ?_);case hq=>rfl)|((first|(with_reducible first|refine jS fun K hK=>?_|refine jT ?_|refine jU ?_)|((with_reducible refine jV ?hy fun K hK=>?_);case hy=>rfl));simp only [go_sem, Nat.reduceEqDiff, Nat.reduceAdd, Nat.reduceMul, Nat.reduceLeDiff, Nat.reduceLT, Int.reduceLT, Int.reduceLE, Int.reduceEq, Int.reduceNeg, Int.reduceToNat, Nat.reducePow, reduceIte, reduceCtorEq, d2])|((with_reducible first|refine jW ?hy ?_|refine jY ?hy ?_);case hy=>rfl)|((with_reducible first|refine jX ?hy ?_|refine jZ ?hy ?_);case hy=>rfl)|((with_reducible refine jF ?hy ?_);case hy=>decide))
 refine rd_lookupQ (vf := natV) mapT_ids kInt h0.mp.choose_spec id true ?_
 rw [hids]
 simp only [Option.map_some, gotV, natV, if_true]
 repeat' (first|(with_reducible first|refine jA ?_|(refine hK _ _ ?_;clear hK K)|refine jJ fun K hK=>?_|refine jK ?_|refine jL ?_|refine jM ?_|refine jN ?_|refine jO ?_|refine jP ?_|refine jQ ?_|(refine jB ?_;clear hK K)|(refine jC ?_;clear hK K)|refine jD ?_|refine jE ?_|refine jG ?_|refine jH ?_|refine jI ?_)|((with_reducible refine jR ?hq ?_);case hq=>rfl)|((first|(with_reducible first|refine jS fun K hK=>?_|refine jT ?_|refine jU ?_)|((with_reducible refine jV ?hy fun K hK=>?_);case hy=>rfl));simp only [go_sem, Nat.reduceEqDiff, Nat.reduceAdd, Nat.reduceMul, Nat.reduceLeDiff, Nat.reduceLT, Int.reduceLT, Int.reduceLE, Int.reduceEq, Int.reduceNeg, Int.reduceToNat, Nat.reducePow, reduceIte, reduceCtorEq, d1, x5, x6, x7, x8, hlt, n1, n2, l1, hcell_push, hcell_top, okW_push, okW_top, hcell_hset_ne, hcell_hset_off, hcell_hset_eq, okW_hset, hset_size, Array.size_push, Nat.lt_add_one, ne_add_one, add_one_ne, Nat.add_assoc, add_same, add_lt_same, Nat.reduceEqDiff, lt_add_k, add_k_ne, ne_add_k])|((with_reducible first|refine jW ?hy ?_|refine jY ?hy ?_);case hy=>rfl)|((with_reducible first|refine jX ?hy ?_|refine jZ ?hy ?_);case hy=>rfl)|((with_reducible refine jF ?hy ?_);case hy=>decide))
 generalize eH1 : hset _ _ _ = H1
 have f1 : Fr (fun _ => False) H H1 := by rw [← eH1]; exact (by ((repeat (first | refine Fr.set ?_ (by simp) _ | refine Fr.push ?_ _)); exact Fr.refl _ _))
 have q1' : Cells [(H.size, 1, .int .i64 x.u), (H.size, 2, .int .i64 x.v)] H1 := by
  rw [← eH1]
  simp only [go_sem, Nat.reduceEqDiff, Nat.reduceAdd, Nat.reduceMul, Nat.reduceLeDiff, Nat.reduceLT, Int.reduceLT, Int.reduceLE, Int.reduceEq, Int.reduceNeg, Int.reduceToNat, Nat.reducePow, reduceIte, reduceCtorEq, Cells, and_true, hcell_push, hcell_top, okW_push, okW_top, hcell_hset_ne, hcell_hset_off, hcell_hset_eq, okW_hset, hset_size, Array.size_push, Nat.lt_add_one, ne_add_one, add_one_ne, Nat.add_assoc, add_same, add_lt_same, Nat.reduceEqDiff, lt_add_k, add_k_ne, ne_add_k]
 clear eH1
 have h1 := h0.grow f1
 have s1 := f1.size
 refine apart_ok h1.na h1.lc h1.lt hVh fun H2 N2 rows2 hN2 hL2 hf2 => ?_
 have hne2 : H.size ≠ g := n1
 have q2' := q1'.frame hf2 (fun y hy => by
  simp only [List.mem_cons, List.not_mem_nil, or_false] at hy
  rcases hy with rfl | rfl <;> exact hne2)
 simp only [Cells, and_true] at q2'
 obtain ⟨qu, qv⟩ := q2'
 obtain ⟨xu, hxu⟩ : ∃ xu : Nat, x.u = (xu : Nat) := ⟨x.u.toNat, by omega⟩
 obtain ⟨xv, hxv⟩ : ∃ xv : Nat, x.v = (xv : Nat) := ⟨x.v.toNat, by omega⟩
 rw [hxu] at qu q2 c4
 rw [hxv] at qv q3 c4
 simp only [Int.toNat_natCast] at c4
 have ewu : IntKind.i64.wrap ((xu : Int) + 1) = ((xu + 1 : Nat) : Int) := by rw [wrap_i64] <;> omega
 have ewv : IntKind.i64.wrap ((xv : Int) + 1) = ((xv + 1 : Nat) : Int) := by rw [wrap_i64] <;> omega
 have hVu : S.V (xu + 1) := .inl ⟨by omega, by omega⟩
 obtain ⟨rpv, hrp, hrpn⟩ := rp
 repeat' (first|(with_reducible first|refine jA ?_|(refine hK _ _ ?_;clear hK K)|refine jJ fun K hK=>?_|refine jK ?_|refine jL ?_|refine jM ?_|refine jN ?_|refine jO ?_|refine jP ?_|refine jQ ?_|(refine jB ?_;clear hK K)|(refine jC ?_;clear hK K)|refine jD ?_|refine jE ?_|refine jG ?_|refine jH ?_|refine jI ?_)|((with_reducible refine jR ?hq ?_);case hq=>rfl)|((first|(with_reducible first|refine jS fun K hK=>?_|refine jT ?_|refine jU ?_)|((with_reducible refine jV ?hy fun K hK=>?_);case hy=>rfl));simp only [go_sem, Nat.reduceEqDiff, Nat.reduceAdd, Nat.reduceMul, Nat.reduceLeDiff, Nat.reduceLT, Int.reduceLT, Int.reduceLE, Int.reduceEq, Int.reduceNeg, Int.reduceToNat, Nat.reducePow, reduceIte, reduceCtorEq, qu, ewu])|((with_reducible first|refine jW ?hy ?_|refine jY ?hy ?_);case hy=>rfl)|((with_reducible first|refine jX ?hy ?_|refine jZ ?hy ?_);case hy=>rfl)|((with_reducible refine jF ?hy ?_);case hy=>decide))
 rename_i KT hKT K1 hK1
 have tail : ∀ (e' : Env) (H3 : Heap) (N3 : Nodes) (rows3 : List (List Nat)) (low : Nat), e' 0 = .pointer (some ⟨t, 0, none⟩) → e' 1 = .int .i64 id → e' 5 = .int .i64 (h : Nat) → e' 8 = .int .i64 (low : Nat) → low + 1 = k → NA H3 t g c len N3 → LC N3 S.E (setP S.par h 0) rows3 S.V → Fr (· = g) H1 H3 → KT e' H3 := by
  clear hK1 hK K K1
  intro e' H3 N3 rows3 low i0 i1 i5 i8 hlow hN3 hL3 hf3
  refine hKT _ _ ?_
  clear hKT KT
  have ewl : IntKind.i64.wrap ((low : Int) + 1) = (k : Nat) := by
   have := h0.lt k hVk
   have := h0.ln
   rw [wrap_i64] <;> omega
  repeat' (first|(with_reducible first|refine jA ?_|(refine hK _ _ ?_;clear hK K)|refine jJ fun K hK=>?_|refine jK ?_|refine jL ?_|refine jM ?_|refine jN ?_|refine jO ?_|refine jP ?_|refine jQ ?_|(refine jB ?_;clear hK K)|(refine jC ?_;clear hK K)|refine jD ?_|refine jE ?_|refine jG ?_|refine jH ?_|refine jI ?_)|((with_reducible refine jR ?hq ?_);case hq=>rfl)|((first|(with_reducible first|refine jS fun K hK=>?_|refine jT ?_|refine jU ?_)|((with_reducible refine jV ?hy fun K hK=>?_);case hy=>rfl));simp only [go_sem, Nat.reduceEqDiff, Nat.reduceAdd, Nat.reduceMul, Nat.reduceLeDiff, Nat.reduceLT, Int.reduceLT, Int.reduceLE, Int.reduceEq, Int.reduceNeg, Int.reduceToNat, Nat.reducePow, reduceIte, reduceCtorEq, i0, i1, i5, i8, ewl])|((with_reducible first|refine jW ?hy ?_|refine jY ?hy ?_);case hy=>rfl)|((with_reducible first|refine jX ?hy ?_|refine jZ ?hy ?_);case hy=>rfl)|((with_reducible refine jF ?hy ?_);case hy=>decide))
  refine apart_ok hN3 hL3 h0.lt hVk fun H4 N4 rows4 hN4 hL4 hf4 => ?_
  have hf14 := hf3.trans hf4
  have hd4 := h1.hd.frame hf14 h1.na.ne
  have m4 := h1.mp.choose_spec.frame hf14 (Ne.symm h1.ap.2.1)
  have fr4 := h1.fri.frame hf14 fun b hb (eb : b = g) => h1.ap.2.2.2.1 (by rw [hb, eb])
  have d2 := hd4.cellOf (i := 2) rfl
  repeat' (first|(with_reducible first|refine jA ?_|(refine hK _ _ ?_;clear hK K)|refine jJ fun K hK=>?_|refine jK ?_|refine jL ?_|refine jM ?_|refine jN ?_|refine jO ?_|refine jP ?_|refine jQ ?_|(refine jB ?_;clear hK K)|(refine jC ?_;clear hK K)|refine jD ?_|refine jE ?_|refine jG ?_|refine jH ?_|refine jI ?_)|((with_reducible refine jR ?hq ?_);case hq=>rfl)|((first|(with_reducible first|refine jS fun K hK=>?_|refine jT ?_|refine jU ?_)|((with_reducible refine jV ?hy fun K hK=>?_);case hy=>rfl));simp only [go_sem, Nat.reduceEqDiff, Nat.reduceAdd, Nat.reduceMul, Nat.reduceLeDiff, Nat.reduceLT, Int.reduceLT, Int.reduceLE, Int.reduceEq, Int.reduceNeg, Int.reduceToNat, Nat.reducePow, reduceIte, reduceCtorEq, i0, i1, i5, i8, d2])|((with_reducible first|refine jW ?hy ?_|refine jY ?hy ?_);case hy=>rfl)|((with_reducible first|refine jX ?hy ?_|refine jZ ?hy ?_);case hy=>rfl)|((with_reducible refine jF ?hy ?_);case hy=>decide))
  refine hp_delF (ty := 0) (vf := natV) mapT_ids kInt m4 id fun H5 hM5 hf5 _ _ => ?_
  have na5 := hN4.frame hf5 h1.ap.1 h1.ap.2.1
  have hd5 := hd4.frame hf5 h1.ap.1
  have fr5 := fr4.frame hf5 fun b hb (eb : b = r) => h1.ap.2.2.2.2 (by rw [hb, eb])
  have d1 := na5.hd
  have hn6 := putNd na5 hlt (x := Nd.zero) na5.z.1 na5.z.1 na5.z.1 na5.z.1
  simp only [Nd.zero, Ed.zero, Int.cast_ofNat_Int] at hn6
  obtain ⟨na6, f6⟩ := hn6
  have o0 := na5.okw0 hlt
  have o1 := na5.okw hlt 1 (by omega)
  have o2 := na5.okw hlt 2 (by omega)
  have o3 := na5.okw hlt 3 (by omega)
  have o4 := na5.okw hlt 4 (by omega)
  have o5 := na5.okw hlt 5 (by omega)
  have o6 := na5.okw hlt 6 (by omega)
  have o7 := na5.okw hlt 7 (by omega)
  have o8 := na5.okw hlt 8 (by omega)
  have o9 := na5.okw hlt 9 (by omega)
  have hd6 := hd5.frame f6 h1.na.ne
  have fr6 := fr5.frame f6 fun b hb (eb : b = g) => h1.ap.2.2.2.1 (by rw [hb, eb])
  have m6 := hM5.frame f6 (Ne.symm h1.ap.2.1)
  have hpar : setP (setP S.par h 0) k 0 = (S.cut h k).par := rfl
  rw [hpar] at hL4
  have hokc := hok.cutOk hh hk
  have hch : (S.cut h k).par h = 0 := by
   show setP (setP S.par h 0) k 0 h = 0
   rw [setP_ne _ (Ne.symm hkh), setP_same]
  have hcn : ∀ y, (S.cut h k).par y ≠ h := fun y => by
   show setP (setP S.par h 0) k 0 y ≠ h
   by_cases e1 : y = k
   ·rw [e1, setP_same]; omega
   ·rw [setP_ne _ e1]
    by_cases e2 : y = h
    ·rw [e2, setP_same]; omega
    ·rw [setP_ne _ e2]
     exact fun e3 => e1 (c5 y e3)
  obtain ⟨R, hR⟩ := hL4.alone hVh hch hcn
  have hL6 := (hL4.perm hR).drop hcn
  have hVc : (S.cut h k).V = fun i => S.V i ∧ i ≠ h := funext fun i => propext (by
   show ((1 ≤ i ∧ i ≤ S.n) ∨ (setE S.E h none i).isSome = true) ↔ ((1 ≤ i ∧ i ≤ S.n) ∨ (S.E i).isSome = true) ∧ i ≠ h
   by_cases ex : i = h
   ·rw [ex, setE_same]; simp; omega
   ·rw [setE_ne _ _ ex]; simp [ex])
  have hfl : fr.length < 4096 := by
   have h1 := len_bound (n := len) h0.frn fun x hx => (h0.free x hx).2.1
   have := h0.ln
   omega
  obtain ⟨fa, fc, hfa⟩ := fr6.slice
  subst hfa
  have hsz6 : H.size ≤ (hset (hset (hset (hset (hset (hset (hset (hset (hset (hset H5 ⟨g, h * 10, none⟩ (.int .i64 0)) ⟨g, h * 10 + 1, none⟩ (.int .i64 0)) ⟨g, h * 10 + 2, none⟩ (.int .i64 0)) ⟨g, h * 10 + 3, none⟩ (.bool false)) ⟨g, h * 10 + 4, none⟩ (.bool false)) ⟨g, h * 10 + 5, none⟩ (.int .i64 0))
   ⟨g, h * 10 + 6, none⟩ (.int .i64 0)) ⟨g, h * 10 + 7, none⟩ (.int .i64 0)) ⟨g, h * 10 + 8, none⟩ (.int .i64 0)) ⟨g, h * 10 + 9, none⟩ (.int .i64 0)).size := by
   have := hf14.size
   have := hf5.size
   have := f6.size
   omega
  have d3 := hd6.cellOf (i := 3) rfl
  repeat' (first|(with_reducible first|refine jA ?_|(refine hK _ _ ?_;clear hK K)|refine jJ fun K hK=>?_|refine jK ?_|refine jL ?_|refine jM ?_|refine jN ?_|refine jO ?_|refine jP ?_|refine jQ ?_|(refine jB ?_;clear hK K)|(refine jC ?_;clear hK K)|refine jD ?_|refine jE ?_|refine jG ?_|refine jH ?_|refine jI ?_)|((with_reducible refine jR ?hq ?_);case hq=>rfl)|((first|(with_reducible first|refine jS fun K hK=>?_|refine jT ?_|refine jU ?_)|((with_reducible refine jV ?hy fun K hK=>?_);case hy=>rfl));simp only [go_sem, Nat.reduceEqDiff, Nat.reduceAdd, Nat.reduceMul, Nat.reduceLeDiff, Nat.reduceLT, Int.reduceLT, Int.reduceLE, Int.reduceEq, Int.reduceNeg, Int.reduceToNat, Nat.reducePow, reduceIte, reduceCtorEq, i0, i1, i5, i8, d1, hlt, o0, o1, o2, o3, o4, o5, o6, o7, o8, o9, okW_hset])|((with_reducible first|refine jW ?hy ?_|refine jY ?hy ?_);case hy=>rfl)|((with_reducible first|refine jX ?hy ?_|refine jZ ?hy ?_);case hy=>rfl)|((with_reducible refine jF ?hy ?_);case hy=>decide))
  generalize hset _ _ _ = H6 at na6 f6 hd6 fr6 m6 d3 hsz6
  simp only [go_sem, Nat.reduceEqDiff, Nat.reduceAdd, Nat.reduceMul, Nat.reduceLeDiff, Nat.reduceLT, Int.reduceLT, Int.reduceLE, Int.reduceEq, Int.reduceNeg, Int.reduceToNat, Nat.reducePow, reduceIte, reduceCtorEq, d3]
  repeat' (first|(with_reducible first|refine jA ?_|(refine hK _ _ ?_;clear hK K)|refine jJ fun K hK=>?_|refine jK ?_|refine jL ?_|refine jM ?_|refine jN ?_|refine jO ?_|refine jP ?_|refine jQ ?_|(refine jB ?_;clear hK K)|(refine jC ?_;clear hK K)|refine jD ?_|refine jE ?_|refine jG ?_|refine jH ?_|refine jI ?_)|((with_reducible refine jR ?hq ?_);case hq=>rfl)|((first|(with_reducible first|refine jS fun K hK=>?_|refine jT ?_|refine jU ?_)|((with_reducible refine jV ?hy fun K hK=>?_);case hy=>rfl));simp only [go_sem, Nat.reduceEqDiff, Nat.reduceAdd, Nat.reduceMul, Nat.reduceLeDiff, Nat.reduceLT, Int.reduceLT, Int.reduceLE, Int.reduceEq, Int.reduceNeg, Int.reduceToNat, Nat.reducePow, reduceIte, reduceCtorEq, i5])|((with_reducible first|refine jW ?hy ?_|refine jY ?hy ?_);case hy=>rfl)|((with_reducible first|refine jX ?hy ?_|refine jZ ?hy ?_);case hy=>rfl)|((with_reducible refine jF ?hy ?_);case hy=>decide))
  refine append_ir elems22 tl3 fr6 rfl (by decide) (by simp [natsI]; omega) rfl ?_
  intro v' H8 B' hv8 hf8 hB8
  have hBt : ∀ b, Bf = some b → b ≠ t ∧ b ≠ g ∧ b ≠ r := fun b hb => ⟨fun e => h1.ap.2.2.1 (by rw [hb, e]), fun e => h1.ap.2.2.2.1 (by rw [hb, e]), fun e => h1.ap.2.2.2.2 (by rw [hb, e])⟩
  have hd8 := hd6.frame hf8 fun h => (hBt t h).1 rfl
  have w3 := hd8.okW (i := 3) (by simp)
  have hd9 := hd8.set_same 3 v'
  have f9 := hset_fr H8 t 3 v'
  have hrlt := m6.lt
  have hglt := na6.lt.2
  have htlt := na6.lt.1
  have hB't : ∀ b, B' = some b → b ≠ t ∧ b ≠ g ∧ b ≠ r ∧ (Bf = some b ∨ H6.size ≤ b) := fun b hb => by
   rcases hB8 with e | ⟨y, e1, e2⟩
   ·rw [e] at hb
    have := hBt b hb
    exact ⟨this.1, this.2.1, this.2.2, .inl hb⟩
   ·rw [e1] at hb
    obtain rfl := Option.some.inj hb
    exact ⟨by omega, by omega, by omega, .inr e2⟩
  have na9 : NA (hset H8 ⟨t, 3, none⟩ v') t g c len (upd N4 h Nd.zero) := by
   obtain ⟨rest, k1, k2⟩ := na6.nd
   exact ⟨hd9.cellOf rfl, ⟨rest, (k1.frame hf8 fun h => (hBt g h).2.1 rfl).frame f9 (Ne.symm na6.ne), k2⟩, na6.ne, na6.cl, na6.z⟩
  have m9 := (m6.frame hf8 fun h => (hBt r h).2.2 rfl).frame f9 (Ne.symm h1.ap.1)
  have hv9 := hv8.frame f9 fun b hb (e : b = t) => (hB't b hb).1 e
  obtain ⟨va, vc, hvs⟩ := hv8.slice
  subst hvs
  repeat' (first|(with_reducible first|refine jA ?_|(refine hK _ _ ?_;clear hK K)|refine jJ fun K hK=>?_|refine jK ?_|refine jL ?_|refine jM ?_|refine jN ?_|refine jO ?_|refine jP ?_|refine jQ ?_|(refine jB ?_;clear hK K)|(refine jC ?_;clear hK K)|refine jD ?_|refine jE ?_|refine jG ?_|refine jH ?_|refine jI ?_)|((with_reducible refine jR ?hq ?_);case hq=>rfl)|((first|(with_reducible first|refine jS fun K hK=>?_|refine jT ?_|refine jU ?_)|((with_reducible refine jV ?hy fun K hK=>?_);case hy=>rfl));simp only [go_sem, Nat.reduceEqDiff, Nat.reduceAdd, Nat.reduceMul, Nat.reduceLeDiff, Nat.reduceLT, Int.reduceLT, Int.reduceLE, Int.reduceEq, Int.reduceNeg, Int.reduceToNat, Nat.reducePow, reduceIte, reduceCtorEq, w3])|((with_reducible first|refine jW ?hy ?_|refine jY ?hy ?_);case hy=>rfl)|((with_reducible first|refine jX ?hy ?_|refine jZ ?hy ?_);case hy=>rfl)|((with_reducible refine jF ?hy ?_);case hy=>decide))
  refine fin _ (fun b => b = t ∨ b = g ∨ b = r ∨ B' = some b) ⟨g, c, len, r, B', _, upd N4 h Nd.zero, R, fun j => if j = id then none else ids j, fr ++ [h], ⟨hd9, na9, ⟨_, m9⟩, (by rw [natsI_append]; exact hv9), ⟨h1.ap.1, h1.ap.2.1, fun e => (hB't t e).1 rfl, fun e => (hB't g e).2.1 rfl, fun e => (hB't r e).2.2.1 rfl⟩, hokc, by rw [hVc]; exact hL6, fun i h' => ?_, fun y hy => ?_, ?_, fun y a b => ?_, fun y hy => ?_, h0.ln⟩, fun b => Iff.rfl⟩ ?_ (fun b hb => ?_)
  ·show (if i = id then none else ids i) = some h' ↔ ∃ e, setE S.E h none h' = some e ∧ e.id = i
   by_cases ei : i = id
   ·rw [if_pos ei]
    constructor
    ·intro h; cases h
    ·rintro ⟨y, y1, y2⟩
     by_cases ek : h' = h
     ·rw [ek, setE_same] at y1; cases y1
     ·rw [setE_ne _ _ ek] at y1
      exact absurd (hok.uq h' h y x y1 hh (by rw [y2, ei, hx])) ek
   ·rw [if_neg ei, h0.id i h']
    by_cases ek : h' = h
    ·rw [ek, setE_same]
     constructor
     ·rintro ⟨y, y1, y2⟩
      rw [hh] at y1
      obtain rfl := Option.some.inj y1
      exact absurd (y2.symm.trans hx) ei
     ·rintro ⟨y, y1, _⟩; cases y1
    ·rw [setE_ne _ _ ek]
  ·rcases List.mem_append.1 hy with hy | hy
   ·obtain ⟨y1, y2, y3⟩ := h0.free y hy
    refine ⟨y1, y2, ?_⟩
    show setE S.E h none y = none
    by_cases ek : y = h
    ·rw [ek, setE_same]
    ·rw [setE_ne _ _ ek]; exact y3
   ·obtain rfl := List.mem_singleton.1 hy
    exact ⟨(show S.n < y by omega), hlt, setE_same _ _ _⟩
  ·rw [List.nodup_append]
   refine ⟨h0.frn, by simp, fun y hy z hz => ?_⟩
   obtain rfl := List.mem_singleton.1 hz
   rintro rfl
   have := (h0.free y hy).2.2
   rw [hh] at this; cases this
  ·show (setE S.E h none y).isSome = true ∨ y ∈ fr ++ [h]
   by_cases ek : y = h
   ·exact .inr (by simp [ek])
   ·rw [setE_ne _ _ ek]
    exact (h0.all y a b).imp (fun h => h) fun h => List.mem_append_left _ h
  ·rw [hVc] at hy
   exact h0.lt y hy.1
  ·refine (((((f1.mono (S' := T) fun _ _ h => h.elim).trans (hf14.mono fun b _ eb => by rw [eb]; exact hTg)).trans (hf5.mono fun b _ eb => by rw [eb]; exact hTr)).trans (f6.mono fun b _ eb => by rw [eb]; exact hTg)).trans (hf8.mono fun b _ hb => (e b).2 (.inr (.inr (.inr hb))))).trans (f9.mono fun b _ eb => by rw [eb]; exact hTt)
  ·rcases hb with rfl | rfl | rfl | hb
   ·exact .inl hTt
   ·exact .inl hTg
   ·exact .inl hTr
   ·rcases (hB't b hb).2.2.2 with y1 | y1
    ·exact .inl ((e b).2 (.inr (.inr (.inr y1))))
    ·exact .inr (by omega)
 clear hKT
 rcases c4 with ⟨e1, e2⟩ | ⟨e1, e2⟩
 ·subst e1
  refine same_ok hN2 hL2 h0.lt hVu hVh rk rh fun H3 N3 rows3 hN3 hL3 hf3 => ?_
  simp only [decide_true]
  repeat' (first|(with_reducible first|refine jA ?_|(refine hK _ _ ?_;clear hK K)|refine jJ fun K hK=>?_|refine jK ?_|refine jL ?_|refine jM ?_|refine jN ?_|refine jO ?_|refine jP ?_|refine jQ ?_|(refine jB ?_;clear hK K)|(refine jC ?_;clear hK K)|refine jD ?_|refine jE ?_|refine jG ?_|refine jH ?_|refine jI ?_)|((with_reducible refine jR ?hq ?_);case hq=>rfl)|((first|(with_reducible first|refine jS fun K hK=>?_|refine jT ?_|refine jU ?_)|((with_reducible refine jV ?hy fun K hK=>?_);case hy=>rfl));simp only [go_sem, Nat.reduceEqDiff, Nat.reduceAdd, Nat.reduceMul, Nat.reduceLeDiff, Nat.reduceLT, Int.reduceLT, Int.reduceLE, Int.reduceEq, Int.reduceNeg, Int.reduceToNat, Nat.reducePow, reduceIte, reduceCtorEq])|((with_reducible first|refine jW ?hy ?_|refine jY ?hy ?_);case hy=>rfl)|((with_reducible first|refine jX ?hy ?_|refine jZ ?hy ?_);case hy=>rfl)|((with_reducible refine jF ?hy ?_);case hy=>decide))
  refine hK1 _ _ ?_
  clear hK1 K1
  repeat' (first|(with_reducible first|refine jA ?_|(refine hK _ _ ?_;clear hK K)|refine jJ fun K hK=>?_|refine jK ?_|refine jL ?_|refine jM ?_|refine jN ?_|refine jO ?_|refine jP ?_|refine jQ ?_|(refine jB ?_;clear hK K)|(refine jC ?_;clear hK K)|refine jD ?_|refine jE ?_|refine jG ?_|refine jH ?_|refine jI ?_)|((with_reducible refine jR ?hq ?_);case hq=>rfl)|((first|(with_reducible first|refine jS fun K hK=>?_|refine jT ?_|refine jU ?_)|((with_reducible refine jV ?hy fun K hK=>?_);case hy=>rfl));simp only [go_sem, Nat.reduceEqDiff, Nat.reduceAdd, Nat.reduceMul, Nat.reduceLeDiff, Nat.reduceLT, Int.reduceLT, Int.reduceLE, Int.reduceEq, Int.reduceNeg, Int.reduceToNat, Nat.reducePow, reduceIte, reduceCtorEq])|((with_reducible first|refine jW ?hy ?_|refine jY ?hy ?_);case hy=>rfl)|((with_reducible first|refine jX ?hy ?_|refine jZ ?hy ?_);case hy=>rfl)|((with_reducible refine jF ?hy ?_);case hy=>decide))
  refine tail _ _ N3 rows3 xu ?_ ?_ ?_ ?_ rfl hN3 hL3 (hf2.trans hf3) <;> rfl
 ·subst e2
  refine same_ok hN2 hL2 h0.lt hVu hVh hrp rh fun H3 N3 rows3 hN3 hL3 hf3 => ?_
  rw [decide_eq_false hrpn]
  have qv3 := (hf3.cell (a := ⟨H.size, 2, none⟩) (hcell_lt qv) (by exact hne2)).trans qv
  repeat' (first|(with_reducible first|refine jA ?_|(refine hK _ _ ?_;clear hK K)|refine jJ fun K hK=>?_|refine jK ?_|refine jL ?_|refine jM ?_|refine jN ?_|refine jO ?_|refine jP ?_|refine jQ ?_|(refine jB ?_;clear hK K)|(refine jC ?_;clear hK K)|refine jD ?_|refine jE ?_|refine jG ?_|refine jH ?_|refine jI ?_)|((with_reducible refine jR ?hq ?_);case hq=>rfl)|((first|(with_reducible first|refine jS fun K hK=>?_|refine jT ?_|refine jU ?_)|((with_reducible refine jV ?hy fun K hK=>?_);case hy=>rfl));simp only [go_sem, Nat.reduceEqDiff, Nat.reduceAdd, Nat.reduceMul, Nat.reduceLeDiff, Nat.reduceLT, Int.reduceLT, Int.reduceLE, Int.reduceEq, Int.reduceNeg, Int.reduceToNat, Nat.reducePow, reduceIte, reduceCtorEq, qv3])|((with_reducible first|refine jW ?hy ?_|refine jY ?hy ?_);case hy=>rfl)|((with_reducible first|refine jX ?hy ?_|refine jZ ?hy ?_);case hy=>rfl)|((with_reducible refine jF ?hy ?_);case hy=>decide))
  refine hK1 _ _ ?_
  clear hK1 K1
  repeat' (first|(with_reducible first|refine jA ?_|(refine hK _ _ ?_;clear hK K)|refine jJ fun K hK=>?_|refine jK ?_|refine jL ?_|refine jM ?_|refine jN ?_|refine jO ?_|refine jP ?_|refine jQ ?_|(refine jB ?_;clear hK K)|(refine jC ?_;clear hK K)|refine jD ?_|refine jE ?_|refine jG ?_|refine jH ?_|refine jI ?_)|((with_reducible refine jR ?hq ?_);case hq=>rfl)|((first|(with_reducible first|refine jS fun K hK=>?_|refine jT ?_|refine jU ?_)|((with_reducible refine jV ?hy fun K hK=>?_);case hy=>rfl));simp only [go_sem, Nat.reduceEqDiff, Nat.reduceAdd, Nat.reduceMul, Nat.reduceLeDiff, Nat.reduceLT, Int.reduceLT, Int.reduceLE, Int.reduceEq, Int.reduceNeg, Int.reduceToNat, Nat.reducePow, reduceIte, reduceCtorEq])|((with_reducible first|refine jW ?hy ?_|refine jY ?hy ?_);case hy=>rfl)|((with_reducible first|refine jX ?hy ?_|refine jZ ?hy ?_);case hy=>rfl)|((with_reducible refine jF ?hy ?_);case hy=>decide))
  simp only [go_sem, Nat.reduceEqDiff, Nat.reduceAdd, Nat.reduceMul, Nat.reduceLeDiff, Nat.reduceLT, Int.reduceLT, Int.reduceLE, Int.reduceEq, Int.reduceNeg, Int.reduceToNat, Nat.reducePow, reduceIte, reduceCtorEq, qv3]
  repeat' (first|(with_reducible first|refine jA ?_|(refine hK _ _ ?_;clear hK K)|refine jJ fun K hK=>?_|refine jK ?_|refine jL ?_|refine jM ?_|refine jN ?_|refine jO ?_|refine jP ?_|refine jQ ?_|(refine jB ?_;clear hK K)|(refine jC ?_;clear hK K)|refine jD ?_|refine jE ?_|refine jG ?_|refine jH ?_|refine jI ?_)|((with_reducible refine jR ?hq ?_);case hq=>rfl)|((first|(with_reducible first|refine jS fun K hK=>?_|refine jT ?_|refine jU ?_)|((with_reducible refine jV ?hy fun K hK=>?_);case hy=>rfl));simp only [go_sem, Nat.reduceEqDiff, Nat.reduceAdd, Nat.reduceMul, Nat.reduceLeDiff, Nat.reduceLT, Int.reduceLT, Int.reduceLE, Int.reduceEq, Int.reduceNeg, Int.reduceToNat, Nat.reducePow, reduceIte, reduceCtorEq])|((with_reducible first|refine jW ?hy ?_|refine jY ?hy ?_);case hy=>rfl)|((with_reducible first|refine jX ?hy ?_|refine jZ ?hy ?_);case hy=>rfl)|((with_reducible refine jF ?hy ?_);case hy=>decide))
  refine tail _ _ N3 rows3 xv ?_ ?_ ?_ ?_ e1.symm hN3 hL3 (hf2.trans hf3) <;> rfl
end
end Go.Proofs.Ytoplhfhjokjbiaa
namespace Go.Li
open Go Go.Hp
theorem rep_zero : ∀ n : Nat, repL n Nd.zero.cells = rowsN (fun _ => Nd.zero) n
  | 0 => rfl
  | n + 1 => by
    have h := rep_zero n
    show Nd.zero.cells ++ repL n Nd.zero.cells = _
    rw [h]
    unfold rowsN
    rw [show List.range (n + 1) = 0 :: (List.range n).map (· + 1) from List.range_succ_eq_map ..]
    simp [List.flatMap_map]
def Ls.new (n : Nat) : Ls := ⟨n, fun _ => none, fun _ => 0⟩
theorem Ls.new_uq (n : Nat) : Uniq (Ls.new n).E := fun x y a b ha => by cases ha
theorem Ls.new_ok' {n : Nat} (h1 : 1 ≤ n) (h2 : n ≤ 64) : (Ls.new n).Ok where
  n1 := h1
  n64 := h2
  uq := Ls.new_uq n
  en := fun h e he => by cases he
  ad := fun h e y he => by cases he
  vx := fun a y _ _ h => by rcases h with ⟨e, h0⟩ | ⟨e, h0⟩
                            · exact absurd e.symm h0
                            · have : (0 : Nat) = a := e
                              omega
  ac := fun h _ => ⟨[h], .root rfl⟩
  cl := fun h _ => .inl rfl
  dd := fun h _ => rfl
theorem lone_V {n h : Nat} : (Ls.new n).V h ↔ 1 ≤ h ∧ h ≤ n := by
  show ((1 ≤ h ∧ h ≤ n) ∨ false = true) ↔ _
  simp
theorem lone_LC {n : Nat} : LC (fun _ => Nd.zero) (Ls.new n).E (Ls.new n).par ((List.range' 1 n).map fun i => [i]) (Ls.new n).V where
  eok := ⟨fun h => rfl, fun h x hx => (by cases hx), (Ls.new_uq n)⟩
  z := rfl
  v0 := fun h => by have := (lone_V.1 h).1; omega
  trees := fun xs hx => by
    obtain ⟨i, hi, rfl⟩ := List.mem_map.1 hx
    have := (List.mem_range'_1.1 hi).1
    exact ⟨.node .nil i .nil, ⟨by omega, rfl, rfl, rfl, .inl ⟨rfl, fun x hx => rfl⟩, trivial, trivial⟩, rfl⟩
  link := fun xs hx => by
    obtain ⟨i, hi, rfl⟩ := List.mem_map.1 hx
    trivial
  ne := fun xs hx => by
    obtain ⟨i, hi, rfl⟩ := List.mem_map.1 hx
    simp
  nd := by
    rw [← List.flatMap_def, List.flatMap_singleton']
    exact List.nodup_range'
  use := fun h => by
    rw [← List.flatMap_def, List.flatMap_singleton', List.mem_range'_1, lone_V]
    omega
  cl := fun h _ => .inl rfl
  ac := fun h _ => ⟨[h], .root rfl⟩
end Go.Li
namespace Go.Proofs.Ytoplhfhjokjbiaa
open Go Go.Hp Go.Li
set_option linter.all false
set_option maxRecDepth 100000
set_option maxHeartbeats 1600000
section
variable {H H' : Heap} {t g c len r : Nat} {Bf : Option Nat} {vf : Value} {S : Ls} {N N' : Nodes} {rows rows' : List (List Nat)} {ids : Int → Option Nat} {fr : List Nat} {T : Nat → Prop} {K : Value → Heap → Prop}
theorem lnew_no {n : Int} (hn : n < 1 ∨ 64 < n) (fin : K (.tuple #[.pointer none, .int .i64 1]) H) : CallsH Try.prog 8 #[.int .i64 n] H K := by
  refine call8 (by simp) ?_
  simp only [Try.f8, Option.getD_some]
  by_cases h0 : n < 1
  · have e1 : (n < 1) = True := by simp [h0]
    repeat' (first|(with_reducible first|refine jA ?_|(refine hK _ _ ?_;clear hK K)|refine jJ fun K hK=>?_|refine jK ?_|refine jL ?_|refine jM ?_|refine jN ?_|refine jO ?_|refine jP ?_|refine jQ ?_|(refine jB ?_;clear hK K)|(refine jC ?_;clear hK K)|refine jD ?_|refine jE ?_|refine jG ?_|refine jH ?_|refine jI ?_)|((with_reducible refine jR ?hq ?_);case hq=>rfl)|((first|(with_reducible first|refine jS fun K hK=>?_|refine jT ?_|refine jU ?_)|((with_reducible refine jV ?hy fun K hK=>?_);case hy=>rfl));simp only [go_sem, Nat.reduceEqDiff, Nat.reduceAdd, Nat.reduceMul, Nat.reduceLeDiff, Nat.reduceLT, Int.reduceLT, Int.reduceLE, Int.reduceEq, Int.reduceNeg, Int.reduceToNat, Nat.reducePow, reduceIte, reduceCtorEq, e1])|((with_reducible first|refine jW ?hy ?_|refine jY ?hy ?_);case hy=>rfl)|((with_reducible first|refine jX ?hy ?_|refine jZ ?hy ?_);case hy=>rfl)|((with_reducible refine jF ?hy ?_);case hy=>decide))
    exact fin
  · have e1 : (n < 1) = False := by simp [h0]
    have e2 : (64 < n) = True := by simp; omega
    repeat' (first|(with_reducible first|refine jA ?_|(refine hK _ _ ?_;clear hK K)|refine jJ fun K hK=>?_|refine jK ?_|refine jL ?_|refine jM ?_|refine jN ?_|refine jO ?_|refine jP ?_|refine jQ ?_|(refine jB ?_;clear hK K)|(refine jC ?_;clear hK K)|refine jD ?_|refine jE ?_|refine jG ?_|refine jH ?_|refine jI ?_)|((with_reducible refine jR ?hq ?_);case hq=>rfl)|((first|(with_reducible first|refine jS fun K hK=>?_|refine jT ?_|refine jU ?_)|((with_reducible refine jV ?hy fun K hK=>?_);case hy=>rfl));simp only [go_sem, Nat.reduceEqDiff, Nat.reduceAdd, Nat.reduceMul, Nat.reduceLeDiff, Nat.reduceLT, Int.reduceLT, Int.reduceLE, Int.reduceEq, Int.reduceNeg, Int.reduceToNat, Nat.reducePow, reduceIte, reduceCtorEq, e1, e2])|((with_reducible first|refine jW ?hy ?_|refine jY ?hy ?_);case hy=>rfl)|((with_reducible first|refine jX ?hy ?_|refine jZ ?hy ?_);case hy=>rfl)|((with_reducible refine jF ?hy ?_);case hy=>decide))
    exact fin
theorem opX_make {P : Program} {o : Oper} {ρ : Operand → Value} {H : Heap} {K : Value → Heap → Prop} {t e : TypeId} {l c : Operand} {n : Nat} {te : TL} {k1 k2 : IntKind} {ln cn : Int} (ho : o.op = .makeSlice t l c) (he : elems P t = some (none, e, n)) (ht : tl P e = some te) (hl : ρ l = .int k1 ln) (hc : ρ c = .int k2 cn)
    (h0 : 0 ≤ ln) (h1 : ln ≤ cn) (hb : 0 < te.bytes) (hs : cn.toNat * te.bytes ≤ 281474976710656) (hk : K (.slice (some ⟨H.size, 0, none⟩) ln.toNat cn.toNat) (H.push (.cells (repL cn.toNat te.zero.cells.toList).toArray e))) : opX P o ρ H K := by
  unfold opX
  rw [ho]
  simp only [isRdOp, he, ht, hl, hc, intX]
  exact ⟨h0, h1, hb, hs, hk⟩
theorem lnew_ok {n : Nat} (h1 : 1 ≤ n) (h2 : n ≤ 64) (fin : ∀ H' t T, LtM H' t T (Ls.new n) → Fr (fun _ => False) H H' → (∀ b, T b → H.size ≤ b) → K (.tuple #[.pointer (some ⟨t, 0, none⟩), .int .i64 0]) H') :
    CallsH Try.prog 8 #[.int .i64 (n : Nat)] H K := by
  have e1 : ((n : Int) < 1) = False := by simp; omega
  have e2 : (64 < (n : Int)) = False := by simp; omega
  have e1' : (n < 1) = False := by simp; omega
  have e2' : (64 < n) = False := by simp; omega
  have ew : IntKind.i64.wrap ((n : Int) + 1) = ((n + 1 : Nat) : Int) := by rw [wrap_i64] <;> omega
  refine call8 (by simp) ?_
  simp only [Try.f8, Option.getD_some]
  repeat' (first|(with_reducible first|refine jA ?_|(refine hK _ _ ?_;clear hK K)|refine jJ fun K hK=>?_|refine jK ?_|refine jL ?_|refine jM ?_|refine jN ?_|refine jO ?_|refine jP ?_|refine jQ ?_|(refine jB ?_;clear hK K)|(refine jC ?_;clear hK K)|refine jD ?_|refine jE ?_|refine jG ?_|refine jH ?_|refine jI ?_)|((with_reducible refine jR ?hq ?_);case hq=>rfl)|((first|(with_reducible first|refine jS fun K hK=>?_|refine jT ?_|refine jU ?_)|((with_reducible refine jV ?hy fun K hK=>?_);case hy=>rfl));simp only [go_sem, Nat.reduceEqDiff, Nat.reduceAdd, Nat.reduceMul, Nat.reduceLeDiff, Nat.reduceLT, Int.reduceLT, Int.reduceLE, Int.reduceEq, Int.reduceNeg, Int.reduceToNat, Nat.reducePow, reduceIte, reduceCtorEq, e1, e2, e1', e2', ew])|((with_reducible first|refine jW ?hy ?_|refine jY ?hy ?_);case hy=>rfl)|((with_reducible first|refine jX ?hy ?_|refine jZ ?hy ?_);case hy=>rfl)|((with_reducible refine jF ?hy ?_);case hy=>decide))
  refine ⟨Nat.le_refl _, by omega, ?_⟩
  have hrep := rep_zero (n + 1)
  have hb1 : Blk (H.push (.cells (repL (n + 1) Nd.zero.cells).toArray 74)) H.size (rowsN (fun _ => Nd.zero) (n + 1)) := by rw [hrep]; exact Blk.new H _ _
  change K _ (H.push (.cells (repL (n + 1) Nd.zero.cells).toArray 74))
  generalize hH1 : H.push _ = H1 at hb1 ⊢
  have f1 : Fr (fun _ => False) H H1 := by rw [← hH1]; exact (Fr.refl _ _).push _
  have z1 : H1.size = H.size + 1 := by rw [← hH1]; simp
  clear hH1
  repeat' (first|(with_reducible first|refine jA ?_|(refine hK _ _ ?_;clear hK K)|refine jJ fun K hK=>?_|refine jK ?_|refine jL ?_|refine jM ?_|refine jN ?_|refine jO ?_|refine jP ?_|refine jQ ?_|(refine jB ?_;clear hK K)|(refine jC ?_;clear hK K)|refine jD ?_|refine jE ?_|refine jG ?_|refine jH ?_|refine jI ?_)|((with_reducible refine jR ?hq ?_);case hq=>rfl)|((first|(with_reducible first|refine jS fun K hK=>?_|refine jT ?_|refine jU ?_)|((with_reducible refine jV ?hy fun K hK=>?_);case hy=>rfl));simp only [go_sem, Nat.reduceEqDiff, Nat.reduceAdd, Nat.reduceMul, Nat.reduceLeDiff, Nat.reduceLT, Int.reduceLT, Int.reduceLE, Int.reduceEq, Int.reduceNeg, Int.reduceToNat, Nat.reducePow, reduceIte, reduceCtorEq])|((with_reducible first|refine jW ?hy ?_|refine jY ?hy ?_);case hy=>rfl)|((with_reducible first|refine jX ?hy ?_|refine jZ ?hy ?_);case hy=>rfl)|((with_reducible refine jF ?hy ?_);case hy=>decide))
  generalize hH2 : H1.push (Obj.map #[] 0) = H2
  generalize hH3 : H2.push _ = H3
  have f12 : Fr (fun _ => False) H1 H2 := by rw [← hH2]; exact (Fr.refl _ _).push _
  have f23 : Fr (fun _ => False) H2 H3 := by rw [← hH3]; exact (Fr.refl _ _).push _
  have f13 := f12.trans f23
  have s2 : H2.size = H1.size + 1 := by rw [← hH2]; simp
  have s3 : H3.size = H2.size + 1 := by rw [← hH3]; simp
  have b3 : Blk H3 H2.size [.int .i64 n, .slice (some ⟨H.size, 0, none⟩) (n + 1) (n + 1), .map (some H1.size), .slice none 0 0] := by rw [← hH3]; exact Blk.new H2 [.int .i64 n, .slice (some ⟨H.size, 0, none⟩) (n + 1) (n + 1), .map (some H1.size), .slice none 0 0] _
  have m1 : MapF intK natV H3 H1.size (fun _ => none) 0 := by
    have : MapF intK natV H2 H1.size (fun _ => none) 0 := by rw [← hH2]; exact MapF.make _ _ _
    exact this.frame f23 fun h => h
  clear hH2 hH3
  refine fin _ _ (fun b => b = H2.size ∨ b = H.size ∨ b = H1.size ∨ (none : Option Nat) = some b) ⟨H.size, n + 1, n + 1, H1.size, none, _, fun _ => Nd.zero, _, fun _ => none, [], ⟨b3, ⟨b3.cellOf rfl, ⟨[], by rw [List.append_nil]; exact hb1.frame f13 fun h => h, by simp, Nat.le_refl _⟩, by omega, ⟨fun h _ => Nat.succ_pos n, fun h _ => Nat.succ_pos n, fun h _ => Nat.succ_pos n, fun h _ => Nat.succ_pos n⟩, by omega, by omega⟩, ⟨_, m1⟩, IR.nil _, ⟨by omega, by omega, nofun, nofun, nofun⟩, Ls.new_ok' h1 h2, lone_LC, fun i h => ?_, nofun, .nil, fun h a b => ?_, fun h hV => ?_, by omega⟩, fun b => Iff.rfl⟩ (f1.trans f13) fun b hb => ?_
  · constructor
    · intro h; cases h
    · rintro ⟨e, h, _⟩; cases h
  · exact absurd (show n < h from a) (by omega)
  · have := (lone_V.1 hV).2; omega
  · rcases hb with rfl | rfl | rfl | hb
    · omega
    · omega
    · omega
    · cases hb
end
end Go.Proofs.Ytoplhfhjokjbiaa
namespace Go.Li
open Go Go.Hp
theorem ev_turn {par : Par} {h0 r0 : Nat} {l : List Nat} (hl : Ch par h0 l) (hz : h0 ≠ 0) (hr : l.getLast? = some r0) : Ch (ev par 0 l) r0 l.reverse := by
 have hn := hl.nodup
 have hnz := hl.nz hz
 rcases List.eq_nil_or_concat l with e | ⟨q, z, e⟩
 ·exact absurd e hl.ne
 ·rw [List.concat_eq_append] at e
  subst e
  have e2 : z = r0 := by simpa using hr
  subst e2
  have := ev_chain (par := par) (r := []) (x := z) (p := q.reverse) (by simpa using hn) (fun h => by simp at h hnz; exact hnz.1 h)
  simpa using this
def IsMost (E : Es) (P : List Nat) (e : Ed) : Prop := ∃ b ∈ P, E b = some e ∧ ∀ x ∈ P, ∀ e', E x = some e' → x = b ∨ heavy e e' = true
theorem SP.edge {S : Ls} (hk : S.Ok) {u v : Nat} {P : List Nat} (hu : u < S.n) (huv : u ≠ v) (h : SP S.par (u + 1) (v + 1) P) : ∃ x ∈ P, (S.E x).isSome = true := by
 obtain ⟨h1, h2, h3, h4⟩ := h
 match P, h1, h2, h4 with
 | [x], h1, h2, _ =>
  simp at h1 h2
  omega
 | x :: y :: r, h1, _, h4 =>
  have e1 : x = u + 1 := by simpa using h1
  subst e1
  exact ⟨y, by simp, hk.vx (u + 1) y (by omega) (by omega) h4.1⟩
end Go.Li
namespace Go.Proofs.Ytoplhfhjokjbiaa
open Go Go.Hp Go.Li
set_option linter.all false
set_option maxRecDepth 100000
set_option maxHeartbeats 1600000
section
variable {H H' : Heap} {t g c len r : Nat} {Bf : Option Nat} {vf : Value} {S : Ls} {N N' : Nodes} {rows rows' : List (List Nat)} {ids : Int → Option Nat} {fr : List Nat} {T : Nat → Prop} {K : Value → Heap → Prop}
theorem way_ok {u v q d r0 fn : Nat} {Q : Nat → Prop} {PO : Heap → Prop} (h : LtAt H t g c len r Bf vf S N rows ids fr) (hu : u < S.n) (hv : v < S.n) (hru : RootOf S.par (u + 1) r0) (hrv : RootOf S.par (v + 1) r0)
  (hPO : ∀ H1 H2, PO H1 → Fr (· = g) H1 H2 → PO H2)
  (cb : ∀ H1 N1 par1 a R K', NA H1 t g c len N1 → Acc N1 S.E par1 ((a.list ++ [v + 1]) :: R) S.V (v + 1) a R → SP S.par (u + 1) (v + 1) (a.list ++ [v + 1]) → Fr (· = g) H H1 →
   (∀ H2 N2 rows2, NA H2 t g c len N2 → LC N2 S.E par1 rows2 S.V → Fr (fun b => b = g ∨ Q b) H1 H2 → PO H2 → K' (.tuple #[]) H2) →
   CallsH Try.prog fn #[.int .i64 ((v + 1 : Nat) : Int), .pointer (some ⟨q, 0, none⟩), .pointer (some ⟨d, 0, none⟩)] H1 K')
  (fin : ∀ H' N' rows', NA H' t g c len N' → LC N' S.E S.par rows' S.V → Fr (fun b => b = g ∨ Q b) H H' → PO H' → K (.tuple #[]) H') :
  CallsH Try.prog 28 #[.pointer (some ⟨t, 0, none⟩), .int .i64 (u : Nat), .int .i64 (v : Nat), .func (.func fn) #[] #[.pointer (some ⟨q, 0, none⟩), .pointer (some ⟨d, 0, none⟩)]] H K := by
 have hn := h.ok.n64
 have ew : IntKind.i64.wrap ((u : Int) + 1) = ((u + 1 : Nat) : Int) := by rw [wrap_i64] <;> omega
 have ew2 : IntKind.i64.wrap ((v : Int) + 1) = ((v + 1 : Nat) : Int) := by rw [wrap_i64] <;> omega
 obtain ⟨P, hP, m, hm, hc⟩ := SP.exists (by omega) hru hrv
 have hmr : m.getLast? = some r0 := by
  obtain ⟨l, h1, h2⟩ := hru
  rw [hm.uniq h1]; exact h2
 have hVr : S.V r0 := h.ok.live hm (Ls.vtx hu) _ (List.mem_of_getLast? hmr)
 have hback := ev_turn hm (by omega) hmr
 have e3 := ev_back hm (by omega)
 refine call28 (by simp) ?_
 simp only [Try.f28, Option.getD_some]
 repeat' (first|(with_reducible first|refine jA ?_|(refine hK _ _ ?_;clear hK K)|refine jJ fun K hK=>?_|refine jK ?_|refine jL ?_|refine jM ?_|refine jN ?_|refine jO ?_|refine jP ?_|refine jQ ?_|(refine jB ?_;clear hK K)|(refine jC ?_;clear hK K)|refine jD ?_|refine jE ?_|refine jG ?_|refine jH ?_|refine jI ?_)|((with_reducible refine jR ?hq ?_);case hq=>rfl)|((first|(with_reducible first|refine jS fun K hK=>?_|refine jT ?_|refine jU ?_)|((with_reducible refine jV ?hy fun K hK=>?_);case hy=>rfl));simp only [go_sem, Nat.reduceEqDiff, Nat.reduceAdd, Nat.reduceMul, Nat.reduceLeDiff, Nat.reduceLT, Int.reduceLT, Int.reduceLE, Int.reduceEq, Int.reduceNeg, Int.reduceToNat, Nat.reducePow, reduceIte, reduceCtorEq, ew])|((with_reducible first|refine jW ?hy ?_|refine jY ?hy ?_);case hy=>rfl)|((with_reducible first|refine jX ?hy ?_|refine jZ ?hy ?_);case hy=>rfl)|((with_reducible refine jF ?hy ?_);case hy=>decide))
 refine root_ok h.na h.lc h.lt (Ls.vtx hu) hru fun H1 N1 rows1 hN1 hL1 hf1 => ?_
 repeat' (first|(with_reducible first|refine jA ?_|(refine hK _ _ ?_;clear hK K)|refine jJ fun K hK=>?_|refine jK ?_|refine jL ?_|refine jM ?_|refine jN ?_|refine jO ?_|refine jP ?_|refine jQ ?_|(refine jB ?_;clear hK K)|(refine jC ?_;clear hK K)|refine jD ?_|refine jE ?_|refine jG ?_|refine jH ?_|refine jI ?_)|((with_reducible refine jR ?hq ?_);case hq=>rfl)|((first|(with_reducible first|refine jS fun K hK=>?_|refine jT ?_|refine jU ?_)|((with_reducible refine jV ?hy fun K hK=>?_);case hy=>rfl));simp only [go_sem, Nat.reduceEqDiff, Nat.reduceAdd, Nat.reduceMul, Nat.reduceLeDiff, Nat.reduceLT, Int.reduceLT, Int.reduceLE, Int.reduceEq, Int.reduceNeg, Int.reduceToNat, Nat.reducePow, reduceIte, reduceCtorEq, ew])|((with_reducible first|refine jW ?hy ?_|refine jY ?hy ?_);case hy=>rfl)|((with_reducible first|refine jX ?hy ?_|refine jZ ?hy ?_);case hy=>rfl)|((with_reducible refine jF ?hy ?_);case hy=>decide))
 refine evert_ok hN1 hL1 h.lt (Ls.vtx hu) hm fun H2 N2 R2 b2 hN2 hL2 _ _ hf2 => ?_
 repeat' (first|(with_reducible first|refine jA ?_|(refine hK _ _ ?_;clear hK K)|refine jJ fun K hK=>?_|refine jK ?_|refine jL ?_|refine jM ?_|refine jN ?_|refine jO ?_|refine jP ?_|refine jQ ?_|(refine jB ?_;clear hK K)|(refine jC ?_;clear hK K)|refine jD ?_|refine jE ?_|refine jG ?_|refine jH ?_|refine jI ?_)|((with_reducible refine jR ?hq ?_);case hq=>rfl)|((first|(with_reducible first|refine jS fun K hK=>?_|refine jT ?_|refine jU ?_)|((with_reducible refine jV ?hy fun K hK=>?_);case hy=>rfl));simp only [go_sem, Nat.reduceEqDiff, Nat.reduceAdd, Nat.reduceMul, Nat.reduceLeDiff, Nat.reduceLT, Int.reduceLT, Int.reduceLE, Int.reduceEq, Int.reduceNeg, Int.reduceToNat, Nat.reducePow, reduceIte, reduceCtorEq, ew2])|((with_reducible first|refine jW ?hy ?_|refine jY ?hy ?_);case hy=>rfl)|((with_reducible first|refine jX ?hy ?_|refine jZ ?hy ?_);case hy=>rfl)|((with_reducible refine jF ?hy ?_);case hy=>decide))
 refine access_ok hN2 hL2 h.lt (Ls.vtx hv) fun H3 N3 a R hN3 hA hf3 => ?_
 have eP : P = a.list ++ [v + 1] := by
  have := hc.uniq hA.ch
  have := congrArg List.reverse this
  simpa using this
 subst eP
 repeat' (first|(with_reducible first|refine jA ?_|(refine hK _ _ ?_;clear hK K)|refine jJ fun K hK=>?_|refine jK ?_|refine jL ?_|refine jM ?_|refine jN ?_|refine jO ?_|refine jP ?_|refine jQ ?_|(refine jB ?_;clear hK K)|(refine jC ?_;clear hK K)|refine jD ?_|refine jE ?_|refine jG ?_|refine jH ?_|refine jI ?_)|((with_reducible refine jR ?hq ?_);case hq=>rfl)|((first|(with_reducible first|refine jS fun K hK=>?_|refine jT ?_|refine jU ?_)|((with_reducible refine jV ?hy fun K hK=>?_);case hy=>rfl));simp only [go_sem, Nat.reduceEqDiff, Nat.reduceAdd, Nat.reduceMul, Nat.reduceLeDiff, Nat.reduceLT, Int.reduceLT, Int.reduceLE, Int.reduceEq, Int.reduceNeg, Int.reduceToNat, Nat.reducePow, reduceIte, reduceCtorEq, ew2])|((with_reducible first|refine jW ?hy ?_|refine jY ?hy ?_);case hy=>rfl)|((with_reducible first|refine jX ?hy ?_|refine jZ ?hy ?_);case hy=>rfl)|((with_reducible refine jF ?hy ?_);case hy=>decide))
 have hf13 := (hf1.trans hf2).trans hf3
 refine cb H3 N3 _ a R _ hN3 hA hP hf13 fun H4 N4 rows4 hN4 hL4 hf4 hp4 => ?_
 repeat' (first|(with_reducible first|refine jA ?_|(refine hK _ _ ?_;clear hK K)|refine jJ fun K hK=>?_|refine jK ?_|refine jL ?_|refine jM ?_|refine jN ?_|refine jO ?_|refine jP ?_|refine jQ ?_|(refine jB ?_;clear hK K)|(refine jC ?_;clear hK K)|refine jD ?_|refine jE ?_|refine jG ?_|refine jH ?_|refine jI ?_)|((with_reducible refine jR ?hq ?_);case hq=>rfl)|((first|(with_reducible first|refine jS fun K hK=>?_|refine jT ?_|refine jU ?_)|((with_reducible refine jV ?hy fun K hK=>?_);case hy=>rfl));simp only [go_sem, Nat.reduceEqDiff, Nat.reduceAdd, Nat.reduceMul, Nat.reduceLeDiff, Nat.reduceLT, Int.reduceLT, Int.reduceLE, Int.reduceEq, Int.reduceNeg, Int.reduceToNat, Nat.reducePow, reduceIte, reduceCtorEq])|((with_reducible first|refine jW ?hy ?_|refine jY ?hy ?_);case hy=>rfl)|((with_reducible first|refine jX ?hy ?_|refine jZ ?hy ?_);case hy=>rfl)|((with_reducible refine jF ?hy ?_);case hy=>decide))
 refine evert_ok hN4 hL4 h.lt hVr hback fun H5 N5 R5 b5 hN5 hL5 _ _ hf5 => ?_
 rw [e3] at hL5
 repeat' (first|(with_reducible first|refine jA ?_|(refine hK _ _ ?_;clear hK K)|refine jJ fun K hK=>?_|refine jK ?_|refine jL ?_|refine jM ?_|refine jN ?_|refine jO ?_|refine jP ?_|refine jQ ?_|(refine jB ?_;clear hK K)|(refine jC ?_;clear hK K)|refine jD ?_|refine jE ?_|refine jG ?_|refine jH ?_|refine jI ?_)|((with_reducible refine jR ?hq ?_);case hq=>rfl)|((first|(with_reducible first|refine jS fun K hK=>?_|refine jT ?_|refine jU ?_)|((with_reducible refine jV ?hy fun K hK=>?_);case hy=>rfl));simp only [go_sem, Nat.reduceEqDiff, Nat.reduceAdd, Nat.reduceMul, Nat.reduceLeDiff, Nat.reduceLT, Int.reduceLT, Int.reduceLE, Int.reduceEq, Int.reduceNeg, Int.reduceToNat, Nat.reducePow, reduceIte, reduceCtorEq])|((with_reducible first|refine jW ?hy ?_|refine jY ?hy ?_);case hy=>rfl)|((with_reducible first|refine jX ?hy ?_|refine jZ ?hy ?_);case hy=>rfl)|((with_reducible refine jF ?hy ?_);case hy=>decide))
 exact fin _ _ _ hN5 hL5 (((hf13.mono fun b _ e => .inl e).trans hf4).trans (hf5.mono fun b _ e => .inl e)) (hPO _ _ hp4 hf5)
theorem LtAt.keepQ {T0 : Nat → Prop} (h : LtAt H t g c len r Bf vf S N rows ids fr) (hN : NA H' t g c len N') (hL : LC N' S.E S.par rows' S.V) (hf : Fr T0 H H') (hT : ∀ b, (b = t ∨ b = r ∨ Bf = some b) → ¬ T0 b) : LtAt H' t g c len r Bf vf S N' rows' ids fr where
 hd := h.hd.frame hf (hT _ (.inl rfl))
 na := hN
 mp := ⟨_, h.mp.choose_spec.frame hf (hT _ (.inr (.inl rfl)))⟩
 fri := IR.frame h.fri hf fun b hb => hT _ (.inr (.inr hb))
 ap := h.ap
 ok := h.ok
 lc := hL
 id := h.id
 free := h.free
 frn := h.frn
 all := h.all
 lt := h.lt
 ln := h.ln
theorem store4 {H : Heap} {b : Nat} {x0 x1 x2 x3 : Value} (hb : Blk H b [x0, x1, x2, x3]) (v0 v1 v2 v3 : Value) :
  Blk (hset (hset (hset (hset H ⟨b, 0, none⟩ v0) ⟨b, 1, none⟩ v1) ⟨b, 2, none⟩ v2) ⟨b, 3, none⟩ v3) b [v0, v1, v2, v3] ∧ Fr (· = b) H (hset (hset (hset (hset H ⟨b, 0, none⟩ v0) ⟨b, 1, none⟩ v1) ⟨b, 2, none⟩ v2) ⟨b, 3, none⟩ v3) :=
 ⟨(((hb.set_same 0 v0).set_same 1 v1).set_same 2 v2).set_same 3 v3, (((hset_fr H b 0 v0).trans (hset_fr _ b 1 v1)).trans (hset_fr _ b 2 v2)).trans (hset_fr _ b 3 v3)⟩
theorem most1_ok {h q d : Nat} {a : Tr} {R : List (List Nat)} {par : Par} {E : Es} {V : Nat → Prop} {v0 v1 v2 v3 : Value} (hN : NA H t g c len N) (hA : Acc N E par ((a.list ++ [h]) :: R) V h a R) (hV : ∀ h, V h → h < len) (hd : Blk H d [v0, v1, v2, v3]) (hdg : d ≠ g) (hdt : d ≠ t)
  (hq : hcell H ⟨q, 0, none⟩ = some (.pointer (some ⟨t, 0, none⟩))) (he : ∃ x ∈ a.list ++ [h], (E x).isSome = true)
  (fin : ∀ H' e, IsMost E (a.list ++ [h]) e → NA H' t g c len N → Blk H' d e.cells → Fr (· = d) H H' → K (.tuple #[]) H') :
  CallsH Try.prog 31 #[.int .i64 (h : Nat), .pointer (some ⟨q, 0, none⟩), .pointer (some ⟨d, 0, none⟩)] H K := by
 have hlt := hV h (hA.lc.live (by simp))
 obtain ⟨b, hb⟩ : ∃ b, (N h).best = b := ⟨_, rfl⟩
 have hB : Best E b (a.list ++ [h]) := by have := hA.tree.2.2.2.2.1; rw [hb] at this; simpa [Tr.list] using this
 obtain ⟨x, hx, hxe⟩ := he
 rcases hB with ⟨_, h2⟩ | ⟨h1, e, h2, h3⟩
 ·rw [h2 x hx] at hxe; cases hxe
 have hblt := hV b (hA.lc.live h1)
 have hbe : (N b).e = e := hA.lc.eok.e b e h2
 have hd1 := hN.hd
 have c9 := hN.cell (j := 9) hlt rfl
 have x5 := hN.cell (j := 5) hblt rfl
 have x6 := hN.cell (j := 6) hblt rfl
 have x7 := hN.cell (j := 7) hblt rfl
 have x8 := hN.cell (j := 8) hblt rfl
 rw [hbe] at x5 x6 x7 x8
 rw [hb] at c9
 have o0 := hd.okW (i := 0) (by simp)
 have o1 := hd.okW (i := 1) (by simp)
 have o2 := hd.okW (i := 2) (by simp)
 have o3 := hd.okW (i := 3) (by simp)
 refine call31 (by simp) ?_
 simp only [Try.f31, Option.getD_some]
 repeat' (first|(with_reducible first|refine jA ?_|(refine hK _ _ ?_;clear hK K)|refine jJ fun K hK=>?_|refine jK ?_|refine jL ?_|refine jM ?_|refine jN ?_|refine jO ?_|refine jP ?_|refine jQ ?_|(refine jB ?_;clear hK K)|(refine jC ?_;clear hK K)|refine jD ?_|refine jE ?_|refine jG ?_|refine jH ?_|refine jI ?_)|((with_reducible refine jR ?hq ?_);case hq=>rfl)|((first|(with_reducible first|refine jS fun K hK=>?_|refine jT ?_|refine jU ?_)|((with_reducible refine jV ?hy fun K hK=>?_);case hy=>rfl));simp only [go_sem, Nat.reduceEqDiff, Nat.reduceAdd, Nat.reduceMul, Nat.reduceLeDiff, Nat.reduceLT, Int.reduceLT, Int.reduceLE, Int.reduceEq, Int.reduceNeg, Int.reduceToNat, Nat.reducePow, reduceIte, reduceCtorEq, hq, hd1, c9, x5, x6, x7, x8, hlt, hblt, o0, o1, o2, o3, okW_hset])|((with_reducible first|refine jW ?hy ?_|refine jY ?hy ?_);case hy=>rfl)|((with_reducible first|refine jX ?hy ?_|refine jZ ?hy ?_);case hy=>rfl)|((with_reducible refine jF ?hy ?_);case hy=>decide))
 refine fin _ e ⟨b, h1, h2, h3⟩ ?_ ?_ ?_
 ·have f := store4 hd (.int .i64 e.id) (.int .i64 e.u) (.int .i64 e.v) (.int .i64 e.w)
  exact hN.frame f.2 (Ne.symm hdt) (Ne.symm hdg)
 ·exact (store4 hd (.int .i64 e.id) (.int .i64 e.u) (.int .i64 e.v) (.int .i64 e.w)).1
 ·exact (store4 hd (.int .i64 e.id) (.int .i64 e.u) (.int .i64 e.v) (.int .i64 e.w)).2
theorem m_most {u v r0 : Nat} (h : LtM H t T S) (hu : u < S.n) (hv : v < S.n) (huv : u ≠ v) (hru : RootOf S.par (u + 1) r0) (hrv : RootOf S.par (v + 1) r0)
  (fin : ∀ H' P e, SP S.par (u + 1) (v + 1) P → IsMost S.E P e → LtM H' t T S → Fr T H H' → K (.tuple #[e.val, .int .i64 0]) H') :
  CallsH Try.prog 12 #[.pointer (some ⟨t, 0, none⟩), .int .i64 (u : Nat), .int .i64 (v : Nat)] H K := by
 obtain ⟨g, c, len, r, Bf, vf, N, rows, ids, fr, h, e⟩ := h
 have hn := h.ok.n64
 have ew : IntKind.i64.wrap ((u : Int) + 1) = ((u + 1 : Nat) : Int) := by rw [wrap_i64] <;> omega
 have ew2 : IntKind.i64.wrap ((v : Int) + 1) = ((v + 1 : Nat) : Int) := by rw [wrap_i64] <;> omega
 refine call12 (by simp) ?_
 simp only [Try.f12, Option.getD_some]
 repeat' (first|(with_reducible first|refine jA ?_|(refine hK _ _ ?_;clear hK K)|refine jJ fun K hK=>?_|refine jK ?_|refine jL ?_|refine jM ?_|refine jN ?_|refine jO ?_|refine jP ?_|refine jQ ?_|(refine jB ?_;clear hK K)|(refine jC ?_;clear hK K)|refine jD ?_|refine jE ?_|refine jG ?_|refine jH ?_|refine jI ?_)|((with_reducible refine jR ?hq ?_);case hq=>rfl)|((first|(with_reducible first|refine jS fun K hK=>?_|refine jT ?_|refine jU ?_)|((with_reducible refine jV ?hy fun K hK=>?_);case hy=>rfl));simp only [go_sem, Nat.reduceEqDiff, Nat.reduceAdd, Nat.reduceMul, Nat.reduceLeDiff, Nat.reduceLT, Int.reduceLT, Int.reduceLE, Int.reduceEq, Int.reduceNeg, Int.reduceToNat, Nat.reducePow, reduceIte, reduceCtorEq, Array.size_push])|((with_reducible first|refine jW ?hy ?_|refine jY ?hy ?_);case hy=>rfl)|((with_reducible first|refine jX ?hy ?_|refine jZ ?hy ?_);case hy=>rfl)|((with_reducible refine jF ?hy ?_);case hy=>decide))
 generalize eH1 : H.push (.cells #[.pointer (some ⟨t, 0, none⟩)] _) = H1
 generalize eH2 : H1.push _ = H2
 have f1 : Fr (fun _ => False) H H1 := by rw [← eH1]; exact (Fr.refl _ _).push _
 have f2 : Fr (fun _ => False) H1 H2 := by rw [← eH2]; exact (Fr.refl _ _).push _
 have s1 : H1.size = H.size + 1 := by rw [← eH1]; simp
 have s2 : H2.size = H1.size + 1 := by rw [← eH2]; simp
 have q1 : Blk H1 H.size [.pointer (some ⟨t, 0, none⟩)] := by rw [← eH1]; exact Blk.new H [.pointer (some ⟨t, 0, none⟩)] _
 have q2 : Blk H2 (H.size + 1) [.int .i64 0, .int .i64 0, .int .i64 0, .int .i64 0] := by rw [← s1, ← eH2]; exact Blk.new H1 [.int .i64 0, .int .i64 0, .int .i64 0, .int .i64 0] _
 have q12 := q1.frame f2 fun h => h
 have h2 := h.grow (f1.trans f2)
 have c1 := q12.cellOf (i := 0) rfl
 simp only [go_sem, Nat.reduceEqDiff, Nat.reduceAdd, Nat.reduceMul, Nat.reduceLeDiff, Nat.reduceLT, Int.reduceLT, Int.reduceLE, Int.reduceEq, Int.reduceNeg, Int.reduceToNat, Nat.reducePow, reduceIte, reduceCtorEq, c1]
 repeat' (first|(with_reducible first|refine jA ?_|(refine hK _ _ ?_;clear hK K)|refine jJ fun K hK=>?_|refine jK ?_|refine jL ?_|refine jM ?_|refine jN ?_|refine jO ?_|refine jP ?_|refine jQ ?_|(refine jB ?_;clear hK K)|(refine jC ?_;clear hK K)|refine jD ?_|refine jE ?_|refine jG ?_|refine jH ?_|refine jI ?_)|((with_reducible refine jR ?hq ?_);case hq=>rfl)|((first|(with_reducible first|refine jS fun K hK=>?_|refine jT ?_|refine jU ?_)|((with_reducible refine jV ?hy fun K hK=>?_);case hy=>rfl));simp only [go_sem, Nat.reduceEqDiff, Nat.reduceAdd, Nat.reduceMul, Nat.reduceLeDiff, Nat.reduceLT, Int.reduceLT, Int.reduceLE, Int.reduceEq, Int.reduceNeg, Int.reduceToNat, Nat.reducePow, reduceIte, reduceCtorEq])|((with_reducible first|refine jW ?hy ?_|refine jY ?hy ?_);case hy=>rfl)|((with_reducible first|refine jX ?hy ?_|refine jZ ?hy ?_);case hy=>rfl)|((with_reducible refine jF ?hy ?_);case hy=>decide))
 clear eH1 eH2
 have f12 := f1.trans f2
 refine hasA2 h2 fun H3 h3 hf3 => ?_
 rw [inB_of hu, inB_of hv]
 have c3 := (hf3.cell (a := ⟨H.size, 0, none⟩) (hcell_lt c1) id).trans c1
 have q23 := q2.frame hf3 id
 have huv' : ((u : Int) == (v : Int)) = false := by simp; omega
 repeat' (first|(with_reducible first|refine jA ?_|(refine hK _ _ ?_;clear hK K)|refine jJ fun K hK=>?_|refine jK ?_|refine jL ?_|refine jM ?_|refine jN ?_|refine jO ?_|refine jP ?_|refine jQ ?_|(refine jB ?_;clear hK K)|(refine jC ?_;clear hK K)|refine jD ?_|refine jE ?_|refine jG ?_|refine jH ?_|refine jI ?_)|((with_reducible refine jR ?hq ?_);case hq=>rfl)|((first|(with_reducible first|refine jS fun K hK=>?_|refine jT ?_|refine jU ?_)|((with_reducible refine jV ?hy fun K hK=>?_);case hy=>rfl));simp only [go_sem, Nat.reduceEqDiff, Nat.reduceAdd, Nat.reduceMul, Nat.reduceLeDiff, Nat.reduceLT, Int.reduceLT, Int.reduceLE, Int.reduceEq, Int.reduceNeg, Int.reduceToNat, Nat.reducePow, reduceIte, reduceCtorEq, Bool.and_self, c3, huv', ew, ew2])|((with_reducible first|refine jW ?hy ?_|refine jY ?hy ?_);case hy=>rfl)|((with_reducible first|refine jX ?hy ?_|refine jZ ?hy ?_);case hy=>rfl)|((with_reducible refine jF ?hy ?_);case hy=>decide))
 refine same_ok h3.na h3.lc h3.lt (Ls.vtx hu) (Ls.vtx hv) hru hrv fun H4 N4 rows4 hN4 hL4 hf4 => ?_
 rw [decide_eq_true rfl]
 have hg := h3.na.lt
 have hlH := h.na.lt
 have h4 := h3.keep hN4 hL4 hf4
 have c4 := (hf4.cell (a := ⟨H.size, 0, none⟩) (hcell_lt c3) (by show ¬ H.size = g; omega)).trans c3
 have q24 := q23.frame hf4 (show ¬ H.size + 1 = g by omega)
 repeat' (first|(with_reducible first|refine jA ?_|(refine hK _ _ ?_;clear hK K)|refine jJ fun K hK=>?_|refine jK ?_|refine jL ?_|refine jM ?_|refine jN ?_|refine jO ?_|refine jP ?_|refine jQ ?_|(refine jB ?_;clear hK K)|(refine jC ?_;clear hK K)|refine jD ?_|refine jE ?_|refine jG ?_|refine jH ?_|refine jI ?_)|((with_reducible refine jR ?hq ?_);case hq=>rfl)|((first|(with_reducible first|refine jS fun K hK=>?_|refine jT ?_|refine jU ?_)|((with_reducible refine jV ?hy fun K hK=>?_);case hy=>rfl));simp only [go_sem, Nat.reduceEqDiff, Nat.reduceAdd, Nat.reduceMul, Nat.reduceLeDiff, Nat.reduceLT, Int.reduceLT, Int.reduceLE, Int.reduceEq, Int.reduceNeg, Int.reduceToNat, Nat.reducePow, reduceIte, reduceCtorEq])|((with_reducible first|refine jW ?hy ?_|refine jY ?hy ?_);case hy=>rfl)|((with_reducible first|refine jX ?hy ?_|refine jZ ?hy ?_);case hy=>rfl)|((with_reducible refine jF ?hy ?_);case hy=>decide))
 generalize eH5 : H4.push _ = H5
 have f5 : Fr (fun _ => False) H4 H5 := by rw [← eH5]; exact (Fr.refl _ _).push _
 have s5 : H5.size = H4.size + 1 := by rw [← eH5]; simp
 have d5 : Blk H5 H4.size [.int .i64 0, .int .i64 0, .int .i64 0, .int .i64 0] := by rw [← eH5]; exact Blk.new H4 [.int .i64 0, .int .i64 0, .int .i64 0, .int .i64 0] _
 clear eH5
 have h5 := h4.grow f5
 have c5 := (f5.cell (a := ⟨H.size, 0, none⟩) (hcell_lt c4) id).trans c4
 have q25 := q24.frame f5 id
 have l4 := hcell_lt c4
 have l4' := q24.lt
 have hg4 := h4.na.lt
 simp only [] at l4
 simp only [go_sem, Nat.reduceEqDiff, Nat.reduceAdd, Nat.reduceMul, Nat.reduceLeDiff, Nat.reduceLT, Int.reduceLT, Int.reduceLE, Int.reduceEq, Int.reduceNeg, Int.reduceToNat, Nat.reducePow, reduceIte, reduceCtorEq, c5]
 repeat' (first|(with_reducible first|refine jA ?_|(refine hK _ _ ?_;clear hK K)|refine jJ fun K hK=>?_|refine jK ?_|refine jL ?_|refine jM ?_|refine jN ?_|refine jO ?_|refine jP ?_|refine jQ ?_|(refine jB ?_;clear hK K)|(refine jC ?_;clear hK K)|refine jD ?_|refine jE ?_|refine jG ?_|refine jH ?_|refine jI ?_)|((with_reducible refine jR ?hq ?_);case hq=>rfl)|((first|(with_reducible first|refine jS fun K hK=>?_|refine jT ?_|refine jU ?_)|((with_reducible refine jV ?hy fun K hK=>?_);case hy=>rfl));simp only [go_sem, Nat.reduceEqDiff, Nat.reduceAdd, Nat.reduceMul, Nat.reduceLeDiff, Nat.reduceLT, Int.reduceLT, Int.reduceLE, Int.reduceEq, Int.reduceNeg, Int.reduceToNat, Nat.reducePow, reduceIte, reduceCtorEq])|((with_reducible first|refine jW ?hy ?_|refine jY ?hy ?_);case hy=>rfl)|((with_reducible first|refine jX ?hy ?_|refine jZ ?hy ?_);case hy=>rfl)|((with_reducible refine jF ?hy ?_);case hy=>decide))
 refine way_ok (Q := (· = H4.size)) (PO := fun X => ∃ P e, SP S.par (u + 1) (v + 1) P ∧ IsMost S.E P e ∧ Blk X H4.size e.cells) h5 hu hv hru hrv ?_ ?_ ?_
 ·rintro X1 X2 ⟨P, e, p1, p2, p3⟩ hf
  exact ⟨P, e, p1, p2, p3.frame hf (by omega)⟩
 ·intro H6 N6 par1 a R K' hN6 hA6 hP hf6 hk
  refine most1_ok hN6 hA6 h5.lt (d5.frame hf6 (by omega)) (by omega) (by omega) ((hf6.cell (a := ⟨H.size, 0, none⟩) (hcell_lt c5) (by show ¬ H.size = g; omega)).trans c5) (hP.edge h.ok hu huv) fun H7 e he hN7 hd7 hf7 => ?_
  exact hk _ _ _ hN7 hA6.lc (hf7.mono fun b _ e => .inr e) ⟨_, e, hP, he, hd7⟩
 ·rintro H6 N6 rows6 hN6 hL6 hf6 ⟨P, ed, hP, he, hd6⟩
  have q26 := q25.frame hf6 (by omega)
  have hbel := h4.below
  have h6 : LtAt H6 t g c len r Bf vf S N6 rows6 ids fr := h5.keepQ hN6 hL6 hf6 fun b hb hx => by
   rcases hx with e1 | e1
   ·rcases hb with e2 | e2 | e2
    ·exact h.na.ne (e2.symm.trans e1)
    ·exact h.ap.2.1 (e1.symm.trans e2)
    ·exact h.ap.2.2.2.1 (by rw [e2, e1])
   ·have := hbel b (hb.imp id fun h => .inr h)
    omega
  have r0 := hd6.cellOf (i := 0) rfl
  have r1 := hd6.cellOf (i := 1) rfl
  have r2 := hd6.cellOf (i := 2) rfl
  have r3 := hd6.cellOf (i := 3) rfl
  have o0 := q26.okW (i := 0) (by simp)
  have o1 := q26.okW (i := 1) (by simp)
  have o2 := q26.okW (i := 2) (by simp)
  have o3 := q26.okW (i := 3) (by simp)
  repeat' (first|(with_reducible first|refine jA ?_|(refine hK _ _ ?_;clear hK K)|refine jJ fun K hK=>?_|refine jK ?_|refine jL ?_|refine jM ?_|refine jN ?_|refine jO ?_|refine jP ?_|refine jQ ?_|(refine jB ?_;clear hK K)|(refine jC ?_;clear hK K)|refine jD ?_|refine jE ?_|refine jG ?_|refine jH ?_|refine jI ?_)|((with_reducible refine jR ?hq ?_);case hq=>rfl)|((first|(with_reducible first|refine jS fun K hK=>?_|refine jT ?_|refine jU ?_)|((with_reducible refine jV ?hy fun K hK=>?_);case hy=>rfl));simp only [go_sem, Nat.reduceEqDiff, Nat.reduceAdd, Nat.reduceMul, Nat.reduceLeDiff, Nat.reduceLT, Int.reduceLT, Int.reduceLE, Int.reduceEq, Int.reduceNeg, Int.reduceToNat, Nat.reducePow, reduceIte, reduceCtorEq, r0, r1, r2, r3, o0, o1, o2, o3, okW_hset, hcell_push, hcell_top, okW_push, okW_top, hcell_hset_ne, hcell_hset_off, hcell_hset_eq, okW_hset, hset_size, Array.size_push, Nat.lt_add_one, ne_add_one, add_one_ne, Nat.add_assoc, add_same, add_lt_same, Nat.reduceEqDiff, lt_add_k, add_k_ne, ne_add_k])|((with_reducible first|refine jW ?hy ?_|refine jY ?hy ?_);case hy=>rfl)|((with_reducible first|refine jX ?hy ?_|refine jZ ?hy ?_);case hy=>rfl)|((with_reducible refine jF ?hy ?_);case hy=>decide))
  obtain ⟨b7, f7⟩ := store4 q26 (.int .i64 ed.id) (.int .i64 ed.u) (.int .i64 ed.v) (.int .i64 ed.w)
  have hb0 := h.below
  refine fin _ P ed hP he ((h6.frame f7 fun b hb (e1 : b = H.size + 1) => ?_).mT e) ?_
  ·have := hb0 b hb
   omega
  ·have g04 : Fr (· = g) H H4 := ((f12.trans hf3).mono fun _ _ h => h.elim).trans hf4
   refine fr_g ((e g).2 (.inr (.inl rfl))) (((g04.trans (f5.mono fun _ _ h => h.elim)).trans' hf6 fun b hb hx => ?_).trans' f7 fun b hb (hx : b = H.size + 1) => (by omega))
   rcases hx with hx | hx
   ·exact hx
   ·omega
end
end Go.Proofs.Ytoplhfhjokjbiaa
namespace Go.Li
open Go Go.Hp
set_option linter.unusedVariables false
def pre : List Fm → List Nat
 | [] => []
 | f :: ps => pre ps ++ (if f.side then f.sib.list ++ [f.h] else [])
def post : List Fm → List Nat
 | [] => []
 | f :: ps => (if f.side then [] else f.h :: f.sib.list) ++ post ps
def pend : List Fm → List Nat
 | [] => []
 | f :: ps => pend ps ++ (if f.side then [] else [f.h])
theorem plug_split : ∀ (ps : List Fm) (t : Tr), (plug t ps).list = pre ps ++ t.list ++ post ps
 | [], t => by simp [plug, pre, post]
 | f :: ps, t => by
  show (plug (sn f.side t f.h f.sib) ps).list = _
  rw [plug_split ps, sn_list]
  cases hs : f.side <;> simp [pre, post, sl, hs]
theorem pend_pop : ∀ (ps : List Fm) (t : Tr), (pend ps = [] ∧ post ps = []) ∨ ∃ a h b ps', plug t ps = plug (.node a h b) ps' ∧ pend ps = pend ps' ++ [h] ∧ h ∈ ps.map (·.h) ∧ (∀ f ∈ ps', f ∈ ps) ∧ pre ps ++ t.list = pre ps' ++ a.list ∧ post ps = h :: b.list ++ post ps'
 | [], t => .inl ⟨rfl, rfl⟩
 | f :: ps, t => by
  obtain ⟨s, x, c⟩ := f
  cases s with
  | false => exact .inr ⟨t, x, c, ps, rfl, rfl, by simp, fun f hf => .tail _ hf, by simp [pre], rfl⟩
  | true =>
   rcases pend_pop ps (.node c x t) with ⟨h1, h2⟩ | ⟨a, h, b, ps', h1, h2, h3, h4, h5, h6⟩
   ·exact .inl ⟨by simp [pend, h1], by simp [post, h2]⟩
   ·refine .inr ⟨a, h, b, ps', h1, by simp [pend, h2], by simp at h3 ⊢; exact .inr h3, fun f hf => .tail _ (h4 f hf), ?_, by simp [post, h6]⟩
    rw [← h5]
    simp [pre, Tr.list]
theorem pend_sub : ∀ (ps : List Fm), (pend ps).length ≤ (post ps).length
 | [] => Nat.le_refl _
 | ⟨s, x, c⟩ :: ps => by
  have := pend_sub ps
  cases s <;> simp [pend, post] <;> omega
def outI (E : Es) (Z : List Nat) : List Int := Z.filterMap fun h => (E h).map (·.id)
theorem outI_append (E : Es) (a b : List Nat) : outI E (a ++ b) = outI E a ++ outI E b := by unfold outI; rw [List.filterMap_append]
theorem outI_len (E : Es) (Z : List Nat) : (outI E Z).length ≤ Z.length := List.length_filterMap_le ..
structure Wy (N : Nodes) (E : Es) (P : List Nat) (t : Tr) (ps : List Fm) : Prop where
 tr : TrAt N E false 0 (plug t ps)
 list : (plug t ps).list = P
 flag : ∀ f ∈ ps, (N f.h).turned = false
section
variable {N N' : Nodes} {E : Es} {par : Par} {rows R : List (List Nat)} {V : Nat → Prop} {P : List Nat} {t a b : Tr} {x h : Nat} {ps ps' : List Fm}
theorem Wy.push (k : Wy N E P (.node a x b) ps) (hd : P.Nodup) : Wy (pushN N x) E P (.node a x b) ps ∧ Wy (pushN N x) E P a (⟨false, x, b⟩ :: ps) ∧ (pushN N x x).l = a.root ∧ (∀ i, i ∉ P → pushN N x i = N i) := by
 obtain ⟨k1, k2, k3⟩ := k
 obtain ⟨p1, p2, p3, p4⟩ := push_plug k1 k3 (by rw [k2]; exact hd)
 obtain ⟨⟨x0, xu, xl, xr, xb, xta, xtb⟩, _⟩ := (trAt_plug _ _).1 ⟨p1, p3⟩
 refine ⟨⟨p1, k2, p3⟩, ⟨p1, k2, fun f hf => ?_⟩, xl, fun i hi => p4 i (by rw [k2]; exact hi)⟩
 rcases List.mem_cons.1 hf with rfl | hf
 ·exact p2
 ·exact p3 f hf
theorem Wy.pop (k : Wy N E P .nil ps) (h1 : plug .nil ps = plug (.node a h b) ps') (h3 : h ∈ ps.map (·.h)) (h4 : ∀ f ∈ ps', f ∈ ps) : Wy N E P b (⟨true, h, a⟩ :: ps') ∧ (N h).r = b.root := by
 obtain ⟨k1, k2, k3⟩ := k
 have hf : ∀ f ∈ ps', (N f.h).turned = false := fun f hf => k3 f (h4 f hf)
 obtain ⟨f0, hf0, rfl⟩ := List.mem_map.1 h3
 rw [h1] at k1 k2
 obtain ⟨⟨x0, xu, xl, xr, xb, xta, xtb⟩, _⟩ := (trAt_plug _ _).1 ⟨k1, hf⟩
 refine ⟨⟨k1, k2, fun f hm => ?_⟩, xr⟩
 rcases List.mem_cons.1 hm with rfl | hm
 ·exact k3 f0 hf0
 ·exact hf f hm
theorem Wy.mem (k : Wy N E P (.node a x b) ps) : x ∈ P := by
 rw [← k.list, plug_split]; simp [Tr.list]
end
end Go.Li
namespace Go.Proofs.Ytoplhfhjokjbiaa
open Go Go.Hp Go.Li
set_option linter.all false
set_option maxRecDepth 100000
set_option maxHeartbeats 1600000
section
variable {H H' : Heap} {t g c len r : Nat} {Bf : Option Nat} {vf : Value} {S : Ls} {N N' : Nodes} {rows rows' : List (List Nat)} {ids : Int → Option Nat} {fr : List Nat} {T : Nat → Prop} {K : Value → Heap → Prop}
theorem natsI_len (l : List Nat) : (natsI l).length = l.length := by unfold natsI; simp
theorem path1_ok {h q d : Nat} {a : Tr} {R : List (List Nat)} {par : Par} {E : Es} {V : Nat → Prop} (hN : NA H t g c len N) (hA : Acc N E par ((a.list ++ [h]) :: R) V h a R) (hV : ∀ h, V h → h < len) (hd : Blk H d [.slice none 0 0]) (hdg : d ≠ g) (hdt : d ≠ t)
  (hq : hcell H ⟨q, 0, none⟩ = some (.pointer (some ⟨t, 0, none⟩))) (hqg : q ≠ g) (hqd : q ≠ d)
  (fin : ∀ H' N' B v, NA H' t g c len N' → LC N' E par ((a.list ++ [h]) :: R) V → Blk H' d [v] → IR H' B v (outI E (a.list ++ [h])) → (∀ b, B = some b → H.size ≤ b) → Fr (fun b => b = g ∨ b = d) H H' → K (.tuple #[]) H') :
  CallsH Try.prog 29 #[.int .i64 (h : Nat), .pointer (some ⟨q, 0, none⟩), .pointer (some ⟨d, 0, none⟩)] H K := by
 obtain ⟨P, hP⟩ : ∃ P, P = a.list ++ [h] := ⟨_, rfl⟩
 have htree : Wy N E P (.node a h .nil) [] := ⟨hA.tree, by rw [hP]; rfl, by simp⟩
 have hL := hA.lc
 have htop := hA.top
 rw [← hP] at hL htop fin
 have hnd : P.Nodup := hL.row.nd
 have hPV : ∀ x ∈ P, x < len := fun x hx => hV x (hL.live hx)
 have hPl := len_bound hnd hPV
 have hlen := hN.z.2
 have hglt := hN.lt
 have hdlt := hd.lt
 have hqlt := hcell_lt hq
 simp only [] at hqlt
 refine call29 (by simp) ?_
 simp only [Try.f29, Option.getD_some]
 repeat' (first|(with_reducible first|refine jA ?_|(refine hK _ _ ?_;clear hK K)|refine jJ fun K hK=>?_|refine jK ?_|refine jL ?_|refine jM ?_|refine jN ?_|refine jO ?_|refine jP ?_|refine jQ ?_|(refine jB ?_;clear hK K)|(refine jC ?_;clear hK K)|refine jD ?_|refine jE ?_|refine jG ?_|refine jH ?_|refine jI ?_)|((with_reducible refine jR ?hq ?_);case hq=>rfl)|((first|(with_reducible first|refine jS fun K hK=>?_|refine jT ?_|refine jU ?_)|((with_reducible refine jV ?hy fun K hK=>?_);case hy=>rfl));simp only [go_sem, Nat.reduceEqDiff, Nat.reduceAdd, Nat.reduceMul, Nat.reduceLeDiff, Nat.reduceLT, Int.reduceLT, Int.reduceLE, Int.reduceEq, Int.reduceNeg, Int.reduceToNat, Nat.reducePow, reduceIte, reduceCtorEq])|((with_reducible first|refine jW ?hy ?_|refine jY ?hy ?_);case hy=>rfl)|((with_reducible first|refine jX ?hy ?_|refine jZ ?hy ?_);case hy=>rfl)|((with_reducible refine jF ?hy ?_);case hy=>decide))
 refine x_loop (fun m e' H' => ∃ N1 t0 ps B1 v1 B2 v2, NA H' t g c len N1 ∧ LC N1 E par (P :: R) V ∧ Wy N1 E P t0 ps ∧ e' 0 = .int .i64 (t0.root : Nat) ∧ e' 4 = v1 ∧ IR H' B1 v1 (natsI (pend ps)) ∧ Blk H' d [v2] ∧ IR H' B2 v2 (outI E (pre ps)) ∧
  (∀ b, B1 = some b → H.size ≤ b) ∧ (∀ b, B2 = some b → H.size ≤ b) ∧ (∀ b, B1 = some b → B2 ≠ some b) ∧ Fr (fun b => b = g ∨ b = d) H H' ∧ m = (t0.list ++ post ps).length) (a.list ++ [h]).length
  ⟨N, .node a h .nil, [], none, _, none, _, hN, hL, htree, rfl, rfl, IR.nil _, hd, IR.nil _, nofun, nofun, nofun, .refl _ _, by simp [Tr.list, post]⟩ ?_
 rintro m e1 H1 ⟨N1, t0, ps, B1, v1, B2, v2, hN1, hL1, hW1, i0, i4, hs1, hd1, ho1, hb1, hb2, hb12, hf1, rfl⟩ hoff
 have i1 : e1 1 = .pointer (some ⟨q, 0, none⟩) := (hoff 1 rfl).trans rfl
 have i2 : e1 2 = .pointer (some ⟨d, 0, none⟩) := (hoff 2 rfl).trans rfl
 clear hoff
 obtain ⟨sa, sc, hsv⟩ := hs1.slice
 subst hsv
 have hsl : (natsI (pend ps)).length = (pend ps).length := by unfold natsI; simp
 rw [hsl] at i4 hs1
 have hgo : t0.root = 0 → pend ps = [] → t0.list ++ post ps = [] := fun e1 e2 => by
  have : TrAt N1 E false (upOf 0 ps) t0 := ((trAt_plug _ _).1 ⟨hW1.tr, hW1.flag⟩).1
  rw [root_nil this e1]
  have := pend_pop ps .nil
  rcases this with ⟨_, h2⟩ | ⟨_, _, _, _, _, h2, _⟩
  ·simp [Tr.list, h2]
  ·rw [e2] at h2; simp at h2
 by_cases hend : t0.root = 0 ∧ pend ps = []
 ·have t1 : ((t0.root : Int) != 0) = false := by simp [hend.1]
  have t2 : ((0 : Int) < ((pend ps).length : Nat)) = False := by simp [hend.2]
  have t2' : (0 < (pend ps).length) = False := by simp [hend.2]
  repeat' (first|(with_reducible first|refine jA ?_|(refine hK _ _ ?_;clear hK K)|refine jJ fun K hK=>?_|refine jK ?_|refine jL ?_|refine jM ?_|refine jN ?_|refine jO ?_|refine jP ?_|refine jQ ?_|(refine jB ?_;clear hK K)|(refine jC ?_;clear hK K)|refine jD ?_|refine jE ?_|refine jG ?_|refine jH ?_|refine jI ?_)|((with_reducible refine jR ?hq ?_);case hq=>rfl)|((first|(with_reducible first|refine jS fun K hK=>?_|refine jT ?_|refine jU ?_)|((with_reducible refine jV ?hy fun K hK=>?_);case hy=>rfl));simp only [go_sem, Nat.reduceEqDiff, Nat.reduceAdd, Nat.reduceMul, Nat.reduceLeDiff, Nat.reduceLT, Int.reduceLT, Int.reduceLE, Int.reduceEq, Int.reduceNeg, Int.reduceToNat, Nat.reducePow, reduceIte, reduceCtorEq, i0, i4, t1, t2, t2'])|((with_reducible first|refine jW ?hy ?_|refine jY ?hy ?_);case hy=>rfl)|((with_reducible first|refine jX ?hy ?_|refine jZ ?hy ?_);case hy=>rfl)|((with_reducible refine jF ?hy ?_);case hy=>decide))
  have hemp := hgo hend.1 hend.2
  have hpre : pre ps = P := by
   have := hW1.list
   rw [plug_split, List.append_assoc, hemp, List.append_nil] at this
   exact this
  rw [hpre] at ho1
  exact fin _ _ _ _ hN1 hL1 hd1 ho1 hb2 hf1
 have hor : t0.root ≠ 0 ∨ (t0.root = 0 ∧ pend ps ≠ []) := by
  by_cases h0 : t0.root = 0
  ·exact .inr ⟨h0, fun h => hend ⟨h0, h⟩⟩
  ·exact .inl h0
 have hnp : t0.root = 0 → pend ps ≠ [] := fun h0 h => hend ⟨h0, h⟩
 rcases hor with h0 | ⟨h0, h02⟩
 case' inl =>
  have t1 : ((t0.root : Int) != 0) = true := by simp [h0]
  repeat' (first|(with_reducible first|refine jA ?_|(refine hK _ _ ?_;clear hK K)|refine jJ fun K hK=>?_|refine jK ?_|refine jL ?_|refine jM ?_|refine jN ?_|refine jO ?_|refine jP ?_|refine jQ ?_|(refine jB ?_;clear hK K)|(refine jC ?_;clear hK K)|refine jD ?_|refine jE ?_|refine jG ?_|refine jH ?_|refine jI ?_)|((with_reducible refine jR ?hq ?_);case hq=>rfl)|((first|(with_reducible first|refine jS fun K hK=>?_|refine jT ?_|refine jU ?_)|((with_reducible refine jV ?hy fun K hK=>?_);case hy=>rfl));simp only [go_sem, Nat.reduceEqDiff, Nat.reduceAdd, Nat.reduceMul, Nat.reduceLeDiff, Nat.reduceLT, Int.reduceLT, Int.reduceLE, Int.reduceEq, Int.reduceNeg, Int.reduceToNat, Nat.reducePow, reduceIte, reduceCtorEq, i0, i4, t1])|((with_reducible first|refine jW ?hy ?_|refine jY ?hy ?_);case hy=>rfl)|((with_reducible first|refine jX ?hy ?_|refine jZ ?hy ?_);case hy=>rfl)|((with_reducible refine jF ?hy ?_);case hy=>decide))
 case' inr =>
  have t1 : ((t0.root : Int) != 0) = false := by simp [h0]
  have hpos := List.length_pos_iff.2 h02
  have t2 : ((0 : Int) < ((pend ps).length : Nat)) = True := by simp; omega
  have t2' : (0 < (pend ps).length) = True := by simp [hpos]
  repeat' (first|(with_reducible first|refine jA ?_|(refine hK _ _ ?_;clear hK K)|refine jJ fun K hK=>?_|refine jK ?_|refine jL ?_|refine jM ?_|refine jN ?_|refine jO ?_|refine jP ?_|refine jQ ?_|(refine jB ?_;clear hK K)|(refine jC ?_;clear hK K)|refine jD ?_|refine jE ?_|refine jG ?_|refine jH ?_|refine jI ?_)|((with_reducible refine jR ?hq ?_);case hq=>rfl)|((first|(with_reducible first|refine jS fun K hK=>?_|refine jT ?_|refine jU ?_)|((with_reducible refine jV ?hy fun K hK=>?_);case hy=>rfl));simp only [go_sem, Nat.reduceEqDiff, Nat.reduceAdd, Nat.reduceMul, Nat.reduceLeDiff, Nat.reduceLT, Int.reduceLT, Int.reduceLE, Int.reduceEq, Int.reduceNeg, Int.reduceToNat, Nat.reducePow, reduceIte, reduceCtorEq, i0, i4, t1, t2, t2'])|((with_reducible first|refine jW ?hy ?_|refine jY ?hy ?_);case hy=>rfl)|((with_reducible first|refine jX ?hy ?_|refine jZ ?hy ?_);case hy=>rfl)|((with_reducible refine jF ?hy ?_);case hy=>decide))
 all_goals
  clear h0
  refine x_loop (fun m e' H' => ∃ N2 t2 ps2 B1 v1, NA H' t g c len N2 ∧ LC N2 E par (P :: R) V ∧ Wy N2 E P t2 ps2 ∧ e' 0 = .int .i64 (t2.root : Nat) ∧ e' 4 = v1 ∧ IR H' B1 v1 (natsI (pend ps2)) ∧ Blk H' d [v2] ∧ IR H' B2 v2 (outI E (pre ps2)) ∧
   (∀ b, B1 = some b → H.size ≤ b) ∧ (∀ b, B1 = some b → B2 ≠ some b) ∧ Fr (fun b => b = g ∨ b = d) H H' ∧ (t2.root = 0 → pend ps2 ≠ []) ∧ (t2.list ++ post ps2).length = (t0.list ++ post ps).length ∧ m = t2.list.length) t0.list.length
   ⟨N1, t0, ps, B1, _, hN1, hL1, hW1, i0, i4, hs1, hd1, ho1, hb1, hb12, hf1, hnp, rfl, rfl⟩ ?_
  clear i0 i4 hs1 hd1 ho1 hb1 hb12 hf1 hnp hgo hend hW1 hL1 hN1
  rintro m e2 H2 ⟨N2, t2, ps2, B1, v1, hN2, hL2, hW2, i0, i4, hs2, hd2, ho2, hb1, hb12, hf2, hnp, hlt, rfl⟩ hoff
  have j1 : e2 1 = .pointer (some ⟨q, 0, none⟩) := (hoff 1 rfl).trans i1
  have j2 : e2 2 = .pointer (some ⟨d, 0, none⟩) := (hoff 2 rfl).trans i2
  clear hoff
  obtain ⟨sa, sc, hsv⟩ := hs2.slice
  subst hsv
  rw [natsI_len] at i4 hs2
  have hq2 := (hf2.cell (a := ⟨q, 0, none⟩) (by exact hqlt) (fun h => h.elim hqg hqd)).trans hq
  have hpl2 : (pend ps2).length ≤ P.length := by
   have h1 := pend_sub ps2
   have h2 := congrArg List.length hW2.list
   rw [plug_split] at h2
   simp only [List.length_append] at h2
   omega
  have hq2l := hcell_lt hq2
  have hd2l := hd2.lt
  have hg2 := hN2.lt
  simp only [] at hq2l
  by_cases hr : t2.root = 0
  case' neg =>
   cases t2 with
   | nil => exact absurd rfl hr
   | node a2 x b2 =>
    have i0' : e2 0 = .int .i64 (x : Nat) := i0
    have hx0 : x ≠ 0 := hr
    have t1 : ((x : Int) != 0) = true := by simp [hx0]
    have hx : x < len := hPV _ hW2.mem
    obtain ⟨w1, w2, w3, w4⟩ := hW2.push hnd
    repeat' (first|(with_reducible first|refine jA ?_|(refine hK _ _ ?_;clear hK K)|refine jJ fun K hK=>?_|refine jK ?_|refine jL ?_|refine jM ?_|refine jN ?_|refine jO ?_|refine jP ?_|refine jQ ?_|(refine jB ?_;clear hK K)|(refine jC ?_;clear hK K)|refine jD ?_|refine jE ?_|refine jG ?_|refine jH ?_|refine jI ?_)|((with_reducible refine jR ?hq ?_);case hq=>rfl)|((first|(with_reducible first|refine jS fun K hK=>?_|refine jT ?_|refine jU ?_)|((with_reducible refine jV ?hy fun K hK=>?_);case hy=>rfl));simp only [go_sem, Nat.reduceEqDiff, Nat.reduceAdd, Nat.reduceMul, Nat.reduceLeDiff, Nat.reduceLT, Int.reduceLT, Int.reduceLE, Int.reduceEq, Int.reduceNeg, Int.reduceToNat, Nat.reducePow, reduceIte, reduceCtorEq, i0', i4, j1, t1, hq2])|((with_reducible first|refine jW ?hy ?_|refine jY ?hy ?_);case hy=>rfl)|((with_reducible first|refine jX ?hy ?_|refine jZ ?hy ?_);case hy=>rfl)|((with_reducible refine jF ?hy ?_);case hy=>decide))
    refine push_ok hN2 hx fun H3 hN3 hf3 => ?_
    have hs3 := hs2.frame hf3 fun b hb (eb : b = g) => by have := hb1 b hb; omega
    have hbs : 2 * ((natsI (pend ps2)).length + 1) * 8 ≤ 2 ^ 48 := by rw [natsI_len]; omega
    repeat' (first|(with_reducible first|refine jA ?_|(refine hK _ _ ?_;clear hK K)|refine jJ fun K hK=>?_|refine jK ?_|refine jL ?_|refine jM ?_|refine jN ?_|refine jO ?_|refine jP ?_|refine jQ ?_|(refine jB ?_;clear hK K)|(refine jC ?_;clear hK K)|refine jD ?_|refine jE ?_|refine jG ?_|refine jH ?_|refine jI ?_)|((with_reducible refine jR ?hq ?_);case hq=>rfl)|((first|(with_reducible first|refine jS fun K hK=>?_|refine jT ?_|refine jU ?_)|((with_reducible refine jV ?hy fun K hK=>?_);case hy=>rfl));simp only [go_sem, Nat.reduceEqDiff, Nat.reduceAdd, Nat.reduceMul, Nat.reduceLeDiff, Nat.reduceLT, Int.reduceLT, Int.reduceLE, Int.reduceEq, Int.reduceNeg, Int.reduceToNat, Nat.reducePow, reduceIte, reduceCtorEq, i0', i4])|((with_reducible first|refine jW ?hy ?_|refine jY ?hy ?_);case hy=>rfl)|((with_reducible first|refine jX ?hy ?_|refine jZ ?hy ?_);case hy=>rfl)|((with_reducible refine jF ?hy ?_);case hy=>decide))
    refine append_ir elems22 tl3 hs3 rfl (by decide) hbs rfl ?_
    intro v' H4 B' hv4 hf4 hB4
    have na4 := hN3.frame hf4 (fun hb => by have := hb1 _ hb; omega) (fun hb => by have := hb1 _ hb; omega)
    have hd4 := na4.hd
    have c1 := na4.cell (j := 1) hx rfl
    rw [w3] at c1
    have f24 : Fr (fun b => b = g ∨ b = d) H H4 := (hf2.trans (hf3.mono fun b _ eb => .inl eb)).trans' hf4 fun b hb hx => by have := hb1 b hx; omega
    have hq4 := (f24.cell (a := ⟨q, 0, none⟩) (by exact hqlt) (fun h => h.elim hqg hqd)).trans hq
    have hd4' := (hd2.frame hf3 hdg).frame hf4 (fun hb => by have := hb1 _ hb; omega)
    have s3 := hf3.size
    have hfz := hf2.size
    have hL4 := hL2.off (T := plug (.node a2 x b2) ps2) (by rw [htop]; exact w1.tr) w1.list (fun i hi => w4 i hi) (hL2.eok.congr fun i => ⟨(pushN_up i).2.1, (pushN_up i).2.2.1⟩)
    have ho4 := (ho2.frame hf3 fun b hb (eb : b = g) => by have := hb2 b hb; omega).frame hf4 fun b hb hx => hb12 b hx hb
    repeat' (first|(with_reducible first|refine jA ?_|(refine hK _ _ ?_;clear hK K)|refine jJ fun K hK=>?_|refine jK ?_|refine jL ?_|refine jM ?_|refine jN ?_|refine jO ?_|refine jP ?_|refine jQ ?_|(refine jB ?_;clear hK K)|(refine jC ?_;clear hK K)|refine jD ?_|refine jE ?_|refine jG ?_|refine jH ?_|refine jI ?_)|((with_reducible refine jR ?hq ?_);case hq=>rfl)|((first|(with_reducible first|refine jS fun K hK=>?_|refine jT ?_|refine jU ?_)|((with_reducible refine jV ?hy fun K hK=>?_);case hy=>rfl));simp only [go_sem, Nat.reduceEqDiff, Nat.reduceAdd, Nat.reduceMul, Nat.reduceLeDiff, Nat.reduceLT, Int.reduceLT, Int.reduceLE, Int.reduceEq, Int.reduceNeg, Int.reduceToNat, Nat.reducePow, reduceIte, reduceCtorEq, i0', j1, hq4, hd4, hx, c1])|((with_reducible first|refine jW ?hy ?_|refine jY ?hy ?_);case hy=>rfl)|((with_reducible first|refine jX ?hy ?_|refine jZ ?hy ?_);case hy=>rfl)|((with_reducible refine jF ?hy ?_);case hy=>decide))
    refine loop_normal (m' := a2.list.length) (by simp [Tr.list]) ⟨_, a2, ⟨false, x, b2⟩ :: ps2, B', v', na4, hL4, w2, rfl, rfl, by rw [show pend (⟨false, x, b2⟩ :: ps2) = pend ps2 ++ [x] from rfl, natsI_append]; exact hv4, hd4', by simpa [pre] using ho4, fun b hb => ?_, fun b hb hb' => ?_, f24, fun _ => by simp [pend], ?_, rfl⟩
    ·rcases hB4 with h | ⟨y, h1, h2⟩
     ·exact hb1 b (by rw [← h]; exact hb)
     ·rw [h1] at hb
      obtain rfl := Option.some.inj hb
      omega
    ·rcases hB4 with h | ⟨y, h1, h2⟩
     ·exact hb12 b (by rw [← h]; exact hb) hb'
     ·rw [h1] at hb
      obtain rfl := Option.some.inj hb
      have := ho2.lt hb'
      omega
    ·rw [← hlt]
     simp [Tr.list, post]
  have et : t2 = .nil := root_nil ((trAt_plug _ _).1 ⟨hW2.tr, hW2.flag⟩).1 hr
  subst et
  rcases pend_pop ps2 .nil with ⟨z1, _⟩ | ⟨a3, k, b3, ps3, z1, z2, z3, z4, z5, z6⟩
  ·exact absurd z1 (hnp hr)
  obtain ⟨w1, w2⟩ := hW2.pop z1 z3 z4
  have hkl : k < len := hPV k (by rw [← hW2.list, z1, plug_split]; simp [Tr.list])
  rw [z2, natsI_append] at hs2
  obtain ⟨gf, cf, rfl, es, ck, hcf, hs3⟩ := ir_drop hs2
  rw [z2] at i4
  have i4 : e2 4 = .slice (some ⟨gf, 0, none⟩) ((pend ps3).length + 1) cf := by
   rw [i4]
   have e9 := es
   simp only [natsI_len] at e9
   simpa using e9
  rw [natsI_len] at ck hcf hs3
  rw [z2] at hpl2
  simp only [List.length_append, List.length_cons, List.length_nil] at hpl2
  have ex : IntKind.i64.wrap ((((pend ps3).length + 1 : Nat) : Int) - 1) = ((pend ps3).length : Nat) := by rw [wrap_i64] <;> omega
  have tx1 : (((pend ps3).length : Int) < (((pend ps3).length + 1 : Nat) : Int)) = True := by simp; omega
  have tx2 : ((pend ps3).length < (pend ps3).length + 1) = True := by simp
  have tx3 : ((pend ps3).length ≤ cf) = True := by simp [hcf]
  have t1 : ((0 : Int) != 0) = false := rfl
  have c0 := hN2.cell0 hkl
  have c1 := hN2.cell (j := 1) hkl rfl
  have c2 := hN2.cell (j := 2) hkl rfl
  have c3 := hN2.cell (j := 3) hkl rfl
  have c4 := hN2.cell (j := 4) hkl rfl
  have c5 := hN2.cell (j := 5) hkl rfl
  have c6 := hN2.cell (j := 6) hkl rfl
  have c7 := hN2.cell (j := 7) hkl rfl
  have c8 := hN2.cell (j := 8) hkl rfl
  have c9 := hN2.cell (j := 9) hkl rfl
  rw [w2] at c2
  have hdN := hN2.hd
  have g1 := hb1 gf rfl
  have g2 := hs3.lt (g := gf) rfl
  have m1 : ¬ H2.size = g := by omega
  have m2 : ¬ g = H2.size := by omega
  have m3 : ¬ H2.size = q := by omega
  have m4 : ¬ q = H2.size := by omega
  have m5 : ¬ H2.size = t := by omega
  have m6 : ¬ t = H2.size := by omega
  have m7 : ¬ H2.size = d := by omega
  have m8 : ¬ d = H2.size := by omega
  have i0' : e2 0 = .int .i64 0 := by rw [i0]; rfl
  have ise := hL2.eok.is k
  cases hE : E k with
  | none =>
   rw [hE] at ise
   have ise' : (N2 k).isEdge = false := ise
   rw [ise'] at c4
   repeat' (first|(with_reducible first|refine jA ?_|(refine hK _ _ ?_;clear hK K)|refine jJ fun K hK=>?_|refine jK ?_|refine jL ?_|refine jM ?_|refine jN ?_|refine jO ?_|refine jP ?_|refine jQ ?_|(refine jB ?_;clear hK K)|(refine jC ?_;clear hK K)|refine jD ?_|refine jE ?_|refine jG ?_|refine jH ?_|refine jI ?_)|((with_reducible refine jR ?hq ?_);case hq=>rfl)|((first|(with_reducible first|refine jS fun K hK=>?_|refine jT ?_|refine jU ?_)|((with_reducible refine jV ?hy fun K hK=>?_);case hy=>rfl));simp only [go_sem, Nat.reduceEqDiff, Nat.reduceAdd, Nat.reduceMul, Nat.reduceLeDiff, Nat.reduceLT, Int.reduceLT, Int.reduceLE, Int.reduceEq, Int.reduceNeg, Int.reduceToNat, Nat.reducePow, reduceIte, reduceCtorEq, i0', i4, j1, j2, hq2, hdN, hkl, c0, c1, c2, c3, c4, c5, c6, c7, c8, c9, ck, ex, ite_self, Nat.sub_zero, tx1, tx2, tx3, t1, hg2.1, hg2.2, m1, m2, m3, m4, m5, m6, m7, m8, hq2l, hcell_push, hcell_top, okW_push, okW_top, hcell_hset_ne, hcell_hset_off, hcell_hset_eq, okW_hset, hset_size, Array.size_push, Nat.lt_add_one, ne_add_one, add_one_ne, Nat.add_assoc, add_same, add_lt_same, Nat.reduceEqDiff, lt_add_k, add_k_ne, ne_add_k])|((with_reducible first|refine jW ?hy ?_|refine jY ?hy ?_);case hy=>rfl)|((with_reducible first|refine jX ?hy ?_|refine jZ ?hy ?_);case hy=>rfl)|((with_reducible refine jF ?hy ?_);case hy=>decide))
   generalize eH3 : hset _ _ _ = H3
   have f3 : Fr (fun _ => False) H2 H3 := by rw [← eH3]; exact (by ((repeat (first | refine Fr.set ?_ (by simp) _ | refine Fr.push ?_ _)); exact Fr.refl _ _))
   clear eH3
   have f23 := hf2.trans (f3.mono (S' := fun b => b = g ∨ b = d) fun _ _ h => h.elim)
   refine loop_normal (m' := (b3.list ++ post (⟨true, k, a3⟩ :: ps3)).length) ?_ ⟨N2, b3, ⟨true, k, a3⟩ :: ps3, some gf, .slice (some ⟨gf, 0, none⟩) (pend ps3).length cf, B2, v2, hN2.grow f3, hL2, w1, rfl, ?e4, by rw [show pend (⟨true, k, a3⟩ :: ps3) = pend ps3 ++ [] from rfl, List.append_nil]; exact hs3.frame f3 fun _ _ h => h, hd2.frame f3 id, ?_, hb1, hb2, hb12, f23, rfl⟩
   case e4 => rfl
   ·rw [← hlt, z6]
    simp [Tr.list, post]
   ·have e9 : outI E (pre (⟨true, k, a3⟩ :: ps3)) = outI E (pre ps2) := by
     have : pre (⟨true, k, a3⟩ :: ps3) = pre ps2 ++ [k] := by
      simp only [Tr.list, List.append_nil] at z5
      rw [z5]; simp [pre]
     rw [this, outI_append]
     simp [outI, hE]
    rw [e9]
    exact ho2.frame f3 fun _ _ h => h
  | some x =>
   rw [hE] at ise
   have ise' : (N2 k).isEdge = true := ise
   rw [ise'] at c4
   rw [hL2.eok.e k x hE] at c5 c6 c7 c8
   obtain ⟨oa, oc, hov⟩ := ho2.slice
   subst hov
   have cd2 := hd2.cellOf (i := 0) rfl
   repeat' (first|(with_reducible first|refine jA ?_|(refine hK _ _ ?_;clear hK K)|refine jJ fun K hK=>?_|refine jK ?_|refine jL ?_|refine jM ?_|refine jN ?_|refine jO ?_|refine jP ?_|refine jQ ?_|(refine jB ?_;clear hK K)|(refine jC ?_;clear hK K)|refine jD ?_|refine jE ?_|refine jG ?_|refine jH ?_|refine jI ?_)|((with_reducible refine jR ?hq ?_);case hq=>rfl)|((first|(with_reducible first|refine jS fun K hK=>?_|refine jT ?_|refine jU ?_)|((with_reducible refine jV ?hy fun K hK=>?_);case hy=>rfl));simp only [go_sem, Nat.reduceEqDiff, Nat.reduceAdd, Nat.reduceMul, Nat.reduceLeDiff, Nat.reduceLT, Int.reduceLT, Int.reduceLE, Int.reduceEq, Int.reduceNeg, Int.reduceToNat, Nat.reducePow, reduceIte, reduceCtorEq, i0', i4, j1, j2, hq2, cd2, hdN, hkl, c0, c1, c2, c3, c4, c5, c6, c7, c8, c9, ck, ex, ite_self, Nat.sub_zero, tx1, tx2, tx3, t1, hg2.1, hg2.2, m1, m2, m3, m4, m5, m6, m7, m8, hq2l, hd2l, hcell_push, hcell_top, okW_push, okW_top, hcell_hset_ne, hcell_hset_off, hcell_hset_eq, okW_hset, hset_size, Array.size_push, Nat.lt_add_one, ne_add_one, add_one_ne, Nat.add_assoc, add_same, add_lt_same, Nat.reduceEqDiff, lt_add_k, add_k_ne, ne_add_k])|((with_reducible first|refine jW ?hy ?_|refine jY ?hy ?_);case hy=>rfl)|((with_reducible first|refine jX ?hy ?_|refine jZ ?hy ?_);case hy=>rfl)|((with_reducible refine jF ?hy ?_);case hy=>decide))
   generalize eH3 : hset _ _ _ = H3
   have f3 : Fr (fun _ => False) H2 H3 := by rw [← eH3]; exact (by ((repeat (first | refine Fr.set ?_ (by simp) _ | refine Fr.push ?_ _)); exact Fr.refl _ _))
   have z3 : H2.size + 1 = H3.size := by rw [← eH3]; simp only [hset_size, Array.size_push]
   clear eH3
   rw [z3]
   have ho3 := ho2.frame f3 fun _ _ h => h
   have hol : (outI E (pre ps2)).length ≤ 4096 := by
    have h1 := outI_len E (pre ps2)
    have h2 := congrArg List.length hW2.list
    rw [plug_split] at h2
    simp only [List.length_append] at h2
    omega
   have hbs : 2 * ((outI E (pre ps2)).length + 1) * 8 ≤ 2 ^ 48 := by omega
   refine append_ir elems22 tl3 ho3 rfl (by decide) hbs rfl ?_
   intro v' H4 B' hv4 hf4 hB4
   have o2 : ∀ b, B2 = some b → H.size ≤ b := hb2
   have na4 := (hN2.grow f3).frame hf4 (fun hb => by have := hb2 _ hb; omega) (fun hb => by have := hb2 _ hb; omega)
   have hz3 := f3.size
   have f24 : Fr (fun b => b = g ∨ b = d) H H4 := (hf2.trans (f3.mono fun b _ h => h.elim)).trans' hf4 fun b hb hx => by have := hb2 b hx; omega
   have f34 : Fr (fun b => B2 = some b) H2 H4 := (f3.mono fun b _ h => h.elim).trans hf4
   have hq4 := (f24.cell (a := ⟨q, 0, none⟩) (by exact hqlt) (fun h => h.elim hqg hqd)).trans hq
   have hs4 := hs3.frame f34 fun b hb hx => hb12 b hb hx
   have hd4 := hd2.frame f34 (fun hb => by have := hb2 _ hb; omega)
   have od := hd4.okW (i := 0) (by simp)
   have f45 := hset_fr H4 d 0 v'
   have na5 := na4.frame f45 (Ne.symm hdt) (Ne.symm hdg)
   have hs5 := hs4.frame f45 fun b hb (e : b = d) => by have := hb1 b hb; omega
   have hz2 := hf2.size
   have hB' : ∀ b, B' = some b → H.size ≤ b := fun b hb => by
    rcases hB4 with h | ⟨y, h1, h2⟩
    ·exact hb2 b (by rw [← h]; exact hb)
    ·rw [h1] at hb
     obtain rfl := Option.some.inj hb
     omega
   have hv5 := hv4.frame f45 fun b hb (e : b = d) => by have := hB' b hb; omega
   have hq5 := (f45.cell (a := ⟨q, 0, none⟩) (hcell_lt hq4) hqd).trans hq4
   have hd5 : Blk (hset H4 ⟨d, 0, none⟩ v') d [v'] := hd4.set_same 0 v'
   have hdN5 := na5.hd
   have k2 := na5.cell (j := 2) hkl rfl
   rw [w2] at k2
   have f25 : Fr (fun b => b = g ∨ b = d) H (hset H4 ⟨d, 0, none⟩ v') := f24.trans (f45.mono fun b _ e => .inr e)
   obtain ⟨va, vc, hvs⟩ := hv4.slice
   subst hvs
   repeat' (first|(with_reducible first|refine jA ?_|(refine hK _ _ ?_;clear hK K)|refine jJ fun K hK=>?_|refine jK ?_|refine jL ?_|refine jM ?_|refine jN ?_|refine jO ?_|refine jP ?_|refine jQ ?_|(refine jB ?_;clear hK K)|(refine jC ?_;clear hK K)|refine jD ?_|refine jE ?_|refine jG ?_|refine jH ?_|refine jI ?_)|((with_reducible refine jR ?hq ?_);case hq=>rfl)|((first|(with_reducible first|refine jS fun K hK=>?_|refine jT ?_|refine jU ?_)|((with_reducible refine jV ?hy fun K hK=>?_);case hy=>rfl));simp only [go_sem, Nat.reduceEqDiff, Nat.reduceAdd, Nat.reduceMul, Nat.reduceLeDiff, Nat.reduceLT, Int.reduceLT, Int.reduceLE, Int.reduceEq, Int.reduceNeg, Int.reduceToNat, Nat.reducePow, reduceIte, reduceCtorEq, j2, od])|((with_reducible first|refine jW ?hy ?_|refine jY ?hy ?_);case hy=>rfl)|((with_reducible first|refine jX ?hy ?_|refine jZ ?hy ?_);case hy=>rfl)|((with_reducible refine jF ?hy ?_);case hy=>decide))
   generalize hset H4 _ _ = H5 at na5 hs5 hv5 hq5 hd5 hdN5 k2 f25 ⊢
   simp only [go_sem, Nat.reduceEqDiff, Nat.reduceAdd, Nat.reduceMul, Nat.reduceLeDiff, Nat.reduceLT, Int.reduceLT, Int.reduceLE, Int.reduceEq, Int.reduceNeg, Int.reduceToNat, Nat.reducePow, reduceIte, reduceCtorEq, j1, hq5]
   repeat' (first|(with_reducible first|refine jA ?_|(refine hK _ _ ?_;clear hK K)|refine jJ fun K hK=>?_|refine jK ?_|refine jL ?_|refine jM ?_|refine jN ?_|refine jO ?_|refine jP ?_|refine jQ ?_|(refine jB ?_;clear hK K)|(refine jC ?_;clear hK K)|refine jD ?_|refine jE ?_|refine jG ?_|refine jH ?_|refine jI ?_)|((with_reducible refine jR ?hq ?_);case hq=>rfl)|((first|(with_reducible first|refine jS fun K hK=>?_|refine jT ?_|refine jU ?_)|((with_reducible refine jV ?hy fun K hK=>?_);case hy=>rfl));simp only [go_sem, Nat.reduceEqDiff, Nat.reduceAdd, Nat.reduceMul, Nat.reduceLeDiff, Nat.reduceLT, Int.reduceLT, Int.reduceLE, Int.reduceEq, Int.reduceNeg, Int.reduceToNat, Nat.reducePow, reduceIte, reduceCtorEq, i0', j1, hq5, hdN5, hkl, k2])|((with_reducible first|refine jW ?hy ?_|refine jY ?hy ?_);case hy=>rfl)|((with_reducible first|refine jX ?hy ?_|refine jZ ?hy ?_);case hy=>rfl)|((with_reducible refine jF ?hy ?_);case hy=>decide))
   refine loop_normal (m' := (b3.list ++ post (⟨true, k, a3⟩ :: ps3)).length) ?_ ⟨N2, b3, ⟨true, k, a3⟩ :: ps3, some gf, .slice (some ⟨gf, 0, none⟩) (pend ps3).length cf, B', _, na5, hL2, w1, rfl, ?e4, by rw [show pend (⟨true, k, a3⟩ :: ps3) = pend ps3 ++ [] from rfl, List.append_nil]; exact hs5, hd5, ?e5, hb1, hB', fun b hb hb' => ?_, f25, rfl⟩
   case e4 => rfl
   case e5 =>
    have e9 : outI E (pre (⟨true, k, a3⟩ :: ps3)) = outI E (pre ps2) ++ [x.id] := by
     have : pre (⟨true, k, a3⟩ :: ps3) = pre ps2 ++ [k] := by
      simp only [Tr.list, List.append_nil] at z5
      rw [z5]; simp [pre]
     rw [this, outI_append]
     simp [outI, hE]
    rw [e9]
    exact hv5
   ·rw [← hlt, z6]
    simp [Tr.list, post]
   ·rcases hB4 with h | ⟨y, h1, h2⟩
    ·exact hb12 b hb (by rw [← h]; exact hb')
    ·rw [h1] at hb'
     have e9 := Option.some.inj hb'
     have e8 := Option.some.inj hb
     omega
end
end Go.Proofs.Ytoplhfhjokjbiaa
