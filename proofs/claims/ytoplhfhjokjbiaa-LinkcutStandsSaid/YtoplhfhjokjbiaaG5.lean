/-
  LinkcutEverts returns true, whatever it is given, and writes nothing that was there.
  LinkcutOnTheWay: the trees that it builds, beside their list of edges; what holds at each vertex of a way.
  LinkcutOnTheWay: along the way, vertex by vertex.
  Linked trees beside their list of edges: who is joined with whom is who has the same root; names along a way.
  Stands and Plays: what is told of the way between two vertices is right by the list of edges.
  Stands and Plays: between, whole.
  Linked trees beside their list of edges: a cut; a link; names that differ.
  Calls of a script of law05, as they came in.
  LinkcutStands: trees beside their list of edges in memory; what each call of the script does to both.
-/
import Derived.Test.YtoplhfhjokjbiaaG4
namespace Go.Li
open Go Go.Hp
theorem Ls.Ok.root_vtx {S : Ls} (k : S.Ok) {a r : Nat} (ha : S.V a) (h : RootOf S.par a r) : ∃ r0, r = r0 + 1 ∧ r0 < S.n := by
  have h0 := h.zero
  obtain ⟨l, h1, h2⟩ := h
  have hV := k.live h1 ha r (List.mem_of_getLast? h2)
  rcases hV with ⟨h3, h4⟩ | h3
  · exact ⟨r - 1, by omega, by omega⟩
  · obtain ⟨e, he⟩ := Option.isSome_iff_exists.1 h3
    exact absurd h0 (k.en r e he).2.2.2.2
theorem outI_reverse (E : Es) (P : List Nat) : outI E P.reverse = (outI E P).reverse := by unfold outI; rw [List.filterMap_reverse]
theorem Ls.Ok.outI_nil {S : Ls} (k : S.Ok) {u v : Nat} {P : List Nat} (hu : u < S.n) (h : SP S.par (u + 1) (v + 1) P) : ((outI S.E P).length = 0) = (u = v) := by
  by_cases e : u = v
  · subst e
    have h2 : SP S.par (u + 1) (u + 1) [u + 1] := ⟨rfl, rfl, by simp, trivial⟩
    rw [k.sp (Ls.vtx hu) h h2]
    have : S.E (u + 1) = none := k.eno (by omega)
    simp [outI, this]
  · obtain ⟨x, hx, hxe⟩ := h.edge k hu e
    obtain ⟨ed, he⟩ := Option.isSome_iff_exists.1 hxe
    have : ed.id ∈ outI S.E P := List.mem_filterMap.2 ⟨x, hx, by rw [he]; rfl⟩
    have := List.length_pos_of_mem this
    simp [e]; intro h0; rw [h0] at this; simp at this
theorem Ls.Ok.wk_live {S : Ls} (k : S.Ok) : ∀ {l : List Nat} {x : Nat}, S.V x → Wk S.par (x :: l) → ∀ y ∈ l, S.V y
  | [], _, _, _ => by simp
  | z :: r, x, hx, h => by
    have hz : S.V z := by
      rcases h.1 with ⟨h1, h2⟩ | ⟨h1, h2⟩
      · exact (k.cl x hx).elim (fun h0 => absurd (h1.symm.trans h0) h2) fun h3 => by rw [← h1]; exact h3
      · by_cases hV : S.V z
        · exact hV
        · rw [k.dd z hV] at h1; exact absurd h1.symm h2
    intro y hy
    rcases List.mem_cons.1 hy with rfl | hy
    · exact hz
    · exact k.wk_live hz h.2 y hy
theorem Ls.Ok.sp_live {S : Ls} (k : S.Ok) {a b : Nat} {P : List Nat} (ha : S.V a) (h : SP S.par a b P) : ∀ y ∈ P, S.V y := by
  obtain ⟨h1, h2, h3, h4⟩ := h
  cases P with
  | nil => cases h1
  | cons x r =>
    have e : x = a := by simpa using h1
    subst e
    intro y hy
    rcases List.mem_cons.1 hy with rfl | hy
    · exact ha
    · exact k.wk_live ha h4 y hy
def MostC (S : Ls) (u v : Nat) (e : Ed) (c : Int) : Prop := (u = v ∧ c = 54 ∧ e = Ed.zero) ∨ (u ≠ v ∧ c = 0 ∧ ∃ P, SP S.par (u + 1) (v + 1) P ∧ IsMost S.E P e)
end Go.Li
namespace Go.Proofs.Ytoplhfhjokjbiaa
open Go Go.Hp Go.Li
set_option linter.all false
set_option maxRecDepth 100000
set_option maxHeartbeats 3200000
section
variable {H H' : Heap} {t : Nat} {S : Ls} {T : Nat → Prop} {K : Value → Heap → Prop}
theorem LtM.sp_len {a b : Nat} {P : List Nat} (h : LtM H t T S) (ha : S.V a) (hP : SP S.par a b P) : P.length ≤ 130 := by
  obtain ⟨g, c, len, r, Bf, vf, N, rows, ids, fr, h, e⟩ := h
  have h1 := len_bound (n := len) hP.nd fun x hx => h.lt x (h.ok.sp_live ha hP x hx)
  have := h.ln
  omega
theorem m_mostC {u v r0 : Nat} (h : LtM H t T S) (hu : u < S.n) (hv : v < S.n) (hru : RootOf S.par (u + 1) r0) (hrv : RootOf S.par (v + 1) r0)
    (fin : ∀ H' e c, MostC S u v e c → LtM H' t T S → Fr T H H' → K (.tuple #[e.val, .int .i64 c]) H') :
    CallsH Try.prog 12 #[.pointer (some ⟨t, 0, none⟩), .int .i64 (u : Nat), .int .i64 (v : Nat)] H K := by
  by_cases e : u = v
  · exact m_most_self h hu hv e fun H' hM hf => fin H' _ _ (.inl ⟨e, rfl, rfl⟩) hM hf
  · exact m_most h hu hv e hru hrv fun H' P ed hP hMo hM hf => fin H' _ _ (.inr ⟨e, rfl, P, hP, hMo⟩) hM hf
theorem most_box {H : Heap} (e : Ed) {T0 : TypeId} : Blk (hset (hset (hset (hset (H.push (.cells #[.int .i64 0, .int .i64 0, .int .i64 0, .int .i64 0] T0)) ⟨H.size, 0, none⟩ (.int .i64 e.id)) ⟨H.size, 1, none⟩ (.int .i64 e.u)) ⟨H.size, 2, none⟩ (.int .i64 e.v)) ⟨H.size, 3, none⟩ (.int .i64 e.w)) H.size e.cells ∧
    Fr (fun _ => False) H (hset (hset (hset (hset (H.push (.cells #[.int .i64 0, .int .i64 0, .int .i64 0, .int .i64 0] T0)) ⟨H.size, 0, none⟩ (.int .i64 e.id)) ⟨H.size, 1, none⟩ (.int .i64 e.u)) ⟨H.size, 2, none⟩ (.int .i64 e.v)) ⟨H.size, 3, none⟩ (.int .i64 e.w)) := by
  have bn := Blk.new H [.int .i64 0, .int .i64 0, .int .i64 0, .int .i64 0] T0
  have fn : Fr (fun _ => False) H (H.push (.cells #[.int .i64 0, .int .i64 0, .int .i64 0, .int .i64 0] T0)) := (Fr.refl _ H).push _
  obtain ⟨b7, f7⟩ := store4 bn (.int .i64 e.id) (.int .i64 e.u) (.int .i64 e.v) (.int .i64 e.w)
  exact ⟨b7, fn.trans' f7 fun b hb (e : b = H.size) => by omega⟩
end
theorem linkcutEverts {H : Heap} {a : Option Addr} {len cap : Nat} {zs : Nat → Int} {u v w : Int} {L : Value → Heap → Prop} (hin : InInts H a len zs) (hl : len ≤ 9223372036854775807) (u0 : -9223372036854775808 ≤ u) (u1 : u ≤ 9223372036854775807) (v0 : -9223372036854775808 ≤ v) (v1 : v ≤ 9223372036854775807) (w0 : -9223372036854775808 ≤ w) (w1 : w ≤ 9223372036854775807)
    (fin : ∀ H', Fr (fun _ => False) H H' → L (.bool true) H') : CallsH Try.prog 4 #[.slice a len cap, .int .i64 u, .int .i64 v, .int .i64 w] H L := by
  obtain ⟨n, hn⟩ : ∃ n, n = 2 + min len 62 := ⟨_, rfl⟩
  have hn64 : n ≤ 64 := by omega
  have hn1 : 1 ≤ n := by omega
  have emin : (if (62 : Int) < (len : Int) then (62 : Int) else (len : Int)) = ((min len 62 : Nat) : Int) := by
    split <;> omega
  have ew : IntKind.i64.wrap (2 + ((min len 62 : Nat) : Int)) = (n : Int) := by rw [wrap_i64] <;> omega
  have z0 : ((0 : Int) != 0) = false := rfl
  refine call4 (by simp) ?_
  simp only [Try.f4, Option.getD_some]
  repeat' (first|(with_reducible first|refine jA ?_|(refine hK _ _ ?_;clear hK K)|refine jJ fun K hK=>?_|refine jK ?_|refine jL ?_|refine jM ?_|refine jN ?_|refine jO ?_|refine jP ?_|refine jQ ?_|(refine jB ?_;clear hK K)|(refine jC ?_;clear hK K)|refine jD ?_|refine jE ?_|refine jG ?_|refine jH ?_|refine jI ?_)|((with_reducible refine jR ?hq ?_);case hq=>rfl)|((first|(with_reducible first|refine jS fun K hK=>?_|refine jT ?_|refine jU ?_)|((with_reducible refine jV ?hy fun K hK=>?_);case hy=>rfl));simp only [go_sem, Nat.reduceEqDiff, Nat.reduceAdd, Nat.reduceMul, Nat.reduceLeDiff, Nat.reduceLT, Int.reduceLT, Int.reduceLE, Int.reduceEq, Int.reduceNeg, Int.reduceToNat, Nat.reducePow, reduceIte, reduceCtorEq])|((with_reducible first|refine jW ?hy ?_|refine jY ?hy ?_);case hy=>rfl)|((with_reducible first|refine jX ?hy ?_|refine jZ ?hy ?_);case hy=>rfl)|((with_reducible refine jF ?hy ?_);case hy=>decide))
  refine awake_ok fun H1 hf1 => ?_
  repeat' (first|(with_reducible first|refine jA ?_|(refine hK _ _ ?_;clear hK K)|refine jJ fun K hK=>?_|refine jK ?_|refine jL ?_|refine jM ?_|refine jN ?_|refine jO ?_|refine jP ?_|refine jQ ?_|(refine jB ?_;clear hK K)|(refine jC ?_;clear hK K)|refine jD ?_|refine jE ?_|refine jG ?_|refine jH ?_|refine jI ?_)|((with_reducible refine jR ?hq ?_);case hq=>rfl)|((first|(with_reducible first|refine jS fun K hK=>?_|refine jT ?_|refine jU ?_)|((with_reducible refine jV ?hy fun K hK=>?_);case hy=>rfl));simp only [go_sem, Nat.reduceEqDiff, Nat.reduceAdd, Nat.reduceMul, Nat.reduceLeDiff, Nat.reduceLT, Int.reduceLT, Int.reduceLE, Int.reduceEq, Int.reduceNeg, Int.reduceToNat, Nat.reducePow, reduceIte, reduceCtorEq, emin, ew])|((with_reducible first|refine jW ?hy ?_|refine jY ?hy ?_);case hy=>rfl)|((with_reducible first|refine jX ?hy ?_|refine jZ ?hy ?_);case hy=>rfl)|((with_reducible refine jF ?hy ?_);case hy=>decide))
  refine lnew_ok hn1 hn64 fun H2 t T2 hM2 hf2 hT2 => ?_
  have hS2 : LS H H2 t T2 (Ls.new n) := ⟨hM2, hf1.trans hf2, fun b hb => Nat.le_trans hf1.size (hT2 b hb)⟩
  repeat' (first|(with_reducible first|refine jA ?_|(refine hK _ _ ?_;clear hK K)|refine jJ fun K hK=>?_|refine jK ?_|refine jL ?_|refine jM ?_|refine jN ?_|refine jO ?_|refine jP ?_|refine jQ ?_|(refine jB ?_;clear hK K)|(refine jC ?_;clear hK K)|refine jD ?_|refine jE ?_|refine jG ?_|refine jH ?_|refine jI ?_)|((with_reducible refine jR ?hq ?_);case hq=>rfl)|((first|(with_reducible first|refine jS fun K hK=>?_|refine jT ?_|refine jU ?_)|((with_reducible refine jV ?hy fun K hK=>?_);case hy=>rfl));simp only [go_sem, Nat.reduceEqDiff, Nat.reduceAdd, Nat.reduceMul, Nat.reduceLeDiff, Nat.reduceLT, Int.reduceLT, Int.reduceLE, Int.reduceEq, Int.reduceNeg, Int.reduceToNat, Nat.reducePow, reduceIte, reduceCtorEq, z0])|((with_reducible first|refine jW ?hy ?_|refine jY ?hy ?_);case hy=>rfl)|((with_reducible first|refine jX ?hy ?_|refine jZ ?hy ?_);case hy=>rfl)|((with_reducible refine jF ?hy ?_);case hy=>decide))
  refine evA hin hn hS2 rfl rfl rfl rfl ?_
  intro e' H3 T S i1 i2 i3 i10 i11 hS3 hG hSn
  have i1 : e' 1 = .int .i64 u := i1.trans rfl
  have i2 : e' 2 = .int .i64 v := i2.trans rfl
  have i3 : e' 3 = .int .i64 w := i3.trans rfl
  repeat' (first|(with_reducible first|refine jA ?_|(refine hK _ _ ?_;clear hK K)|refine jJ fun K hK=>?_|refine jK ?_|refine jL ?_|refine jM ?_|refine jN ?_|refine jO ?_|refine jP ?_|refine jQ ?_|(refine jB ?_;clear hK K)|(refine jC ?_;clear hK K)|refine jD ?_|refine jE ?_|refine jG ?_|refine jH ?_|refine jI ?_)|((with_reducible refine jR ?hq ?_);case hq=>rfl)|((first|(with_reducible first|refine jS fun K hK=>?_|refine jT ?_|refine jU ?_)|((with_reducible refine jV ?hy fun K hK=>?_);case hy=>rfl));simp only [go_sem, Nat.reduceEqDiff, Nat.reduceAdd, Nat.reduceMul, Nat.reduceLeDiff, Nat.reduceLT, Int.reduceLT, Int.reduceLE, Int.reduceEq, Int.reduceNeg, Int.reduceToNat, Nat.reducePow, reduceIte, reduceCtorEq, i1, i2, i3, i10])|((with_reducible first|refine jW ?hy ?_|refine jY ?hy ?_);case hy=>rfl)|((with_reducible first|refine jX ?hy ?_|refine jZ ?hy ?_);case hy=>rfl)|((with_reducible refine jF ?hy ?_);case hy=>decide))
  refine pick_nat ⟨u0, u1⟩ (by omega) fun p _ hp => ?_
  repeat' (first|(with_reducible first|refine jA ?_|(refine hK _ _ ?_;clear hK K)|refine jJ fun K hK=>?_|refine jK ?_|refine jL ?_|refine jM ?_|refine jN ?_|refine jO ?_|refine jP ?_|refine jQ ?_|(refine jB ?_;clear hK K)|(refine jC ?_;clear hK K)|refine jD ?_|refine jE ?_|refine jG ?_|refine jH ?_|refine jI ?_)|((with_reducible refine jR ?hq ?_);case hq=>rfl)|((first|(with_reducible first|refine jS fun K hK=>?_|refine jT ?_|refine jU ?_)|((with_reducible refine jV ?hy fun K hK=>?_);case hy=>rfl));simp only [go_sem, Nat.reduceEqDiff, Nat.reduceAdd, Nat.reduceMul, Nat.reduceLeDiff, Nat.reduceLT, Int.reduceLT, Int.reduceLE, Int.reduceEq, Int.reduceNeg, Int.reduceToNat, Nat.reducePow, reduceIte, reduceCtorEq, i2, i3, i10])|((with_reducible first|refine jW ?hy ?_|refine jY ?hy ?_);case hy=>rfl)|((with_reducible first|refine jX ?hy ?_|refine jZ ?hy ?_);case hy=>rfl)|((with_reducible refine jF ?hy ?_);case hy=>decide))
  refine pick_nat ⟨v0, v1⟩ (by omega) fun q _ hq => ?_
  repeat' (first|(with_reducible first|refine jA ?_|(refine hK _ _ ?_;clear hK K)|refine jJ fun K hK=>?_|refine jK ?_|refine jL ?_|refine jM ?_|refine jN ?_|refine jO ?_|refine jP ?_|refine jQ ?_|(refine jB ?_;clear hK K)|(refine jC ?_;clear hK K)|refine jD ?_|refine jE ?_|refine jG ?_|refine jH ?_|refine jI ?_)|((with_reducible refine jR ?hq ?_);case hq=>rfl)|((first|(with_reducible first|refine jS fun K hK=>?_|refine jT ?_|refine jU ?_)|((with_reducible refine jV ?hy fun K hK=>?_);case hy=>rfl));simp only [go_sem, Nat.reduceEqDiff, Nat.reduceAdd, Nat.reduceMul, Nat.reduceLeDiff, Nat.reduceLT, Int.reduceLT, Int.reduceLE, Int.reduceEq, Int.reduceNeg, Int.reduceToNat, Nat.reducePow, reduceIte, reduceCtorEq, i3, i10])|((with_reducible first|refine jW ?hy ?_|refine jY ?hy ?_);case hy=>rfl)|((with_reducible first|refine jX ?hy ?_|refine jZ ?hy ?_);case hy=>rfl)|((with_reducible refine jF ?hy ?_);case hy=>decide))
  refine pick_nat ⟨w0, w1⟩ (by omega) fun x _ hx => ?_
  obtain ⟨r, hr⟩ := hG.one
  have ok := hS3.m.ok
  obtain ⟨r0, rfl, hr0⟩ := ok.root_vtx (Ls.vtx (v := p) (by omega)) (hr p hp)
  repeat' (first|(with_reducible first|refine jA ?_|(refine hK _ _ ?_;clear hK K)|refine jJ fun K hK=>?_|refine jK ?_|refine jL ?_|refine jM ?_|refine jN ?_|refine jO ?_|refine jP ?_|refine jQ ?_|(refine jB ?_;clear hK K)|(refine jC ?_;clear hK K)|refine jD ?_|refine jE ?_|refine jG ?_|refine jH ?_|refine jI ?_)|((with_reducible refine jR ?hq ?_);case hq=>rfl)|((first|(with_reducible first|refine jS fun K hK=>?_|refine jT ?_|refine jU ?_)|((with_reducible refine jV ?hy fun K hK=>?_);case hy=>rfl));simp only [go_sem, Nat.reduceEqDiff, Nat.reduceAdd, Nat.reduceMul, Nat.reduceLeDiff, Nat.reduceLT, Int.reduceLT, Int.reduceLE, Int.reduceEq, Int.reduceNeg, Int.reduceToNat, Nat.reducePow, reduceIte, reduceCtorEq, i11])|((with_reducible first|refine jW ?hy ?_|refine jY ?hy ?_);case hy=>rfl)|((with_reducible first|refine jX ?hy ?_|refine jZ ?hy ?_);case hy=>rfl)|((with_reducible refine jF ?hy ?_);case hy=>decide))
  refine m_root hS3.m (by omega) (hr p hp) fun H4 hM4 hf4 => ?_
  have hS4 := hS3.keep hM4 hf4
  repeat' (first|(with_reducible first|refine jA ?_|(refine hK _ _ ?_;clear hK K)|refine jJ fun K hK=>?_|refine jK ?_|refine jL ?_|refine jM ?_|refine jN ?_|refine jO ?_|refine jP ?_|refine jQ ?_|(refine jB ?_;clear hK K)|(refine jC ?_;clear hK K)|refine jD ?_|refine jE ?_|refine jG ?_|refine jH ?_|refine jI ?_)|((with_reducible refine jR ?hq ?_);case hq=>rfl)|((first|(with_reducible first|refine jS fun K hK=>?_|refine jT ?_|refine jU ?_)|((with_reducible refine jV ?hy fun K hK=>?_);case hy=>rfl));simp only [go_sem, Nat.reduceEqDiff, Nat.reduceAdd, Nat.reduceMul, Nat.reduceLeDiff, Nat.reduceLT, Int.reduceLT, Int.reduceLE, Int.reduceEq, Int.reduceNeg, Int.reduceToNat, Nat.reducePow, reduceIte, reduceCtorEq, i11])|((with_reducible first|refine jW ?hy ?_|refine jY ?hy ?_);case hy=>rfl)|((with_reducible first|refine jX ?hy ?_|refine jZ ?hy ?_);case hy=>rfl)|((with_reducible refine jF ?hy ?_);case hy=>decide))
  refine m_path hS4.m (by omega) (by omega) (hr p hp) (hr q hq) fun H5 P B5 w5 hP hi5 hB5 hM5 hf5 => ?_
  have hS5 := hS4.keep hM5 hf5
  have nB5 : ∀ b, B5 = some b → ¬ T b ∧ b < H5.size := fun b hb => ⟨fun hx => by have := hS4.m.below b hx; have := hB5 b hb; omega, hi5.lt hb⟩
  repeat' (first|(with_reducible first|refine jA ?_|(refine hK _ _ ?_;clear hK K)|refine jJ fun K hK=>?_|refine jK ?_|refine jL ?_|refine jM ?_|refine jN ?_|refine jO ?_|refine jP ?_|refine jQ ?_|(refine jB ?_;clear hK K)|(refine jC ?_;clear hK K)|refine jD ?_|refine jE ?_|refine jG ?_|refine jH ?_|refine jI ?_)|((with_reducible refine jR ?hq ?_);case hq=>rfl)|((first|(with_reducible first|refine jS fun K hK=>?_|refine jT ?_|refine jU ?_)|((with_reducible refine jV ?hy fun K hK=>?_);case hy=>rfl));simp only [go_sem, Nat.reduceEqDiff, Nat.reduceAdd, Nat.reduceMul, Nat.reduceLeDiff, Nat.reduceLT, Int.reduceLT, Int.reduceLE, Int.reduceEq, Int.reduceNeg, Int.reduceToNat, Nat.reducePow, reduceIte, reduceCtorEq, i11])|((with_reducible first|refine jW ?hy ?_|refine jY ?hy ?_);case hy=>rfl)|((with_reducible first|refine jX ?hy ?_|refine jZ ?hy ?_);case hy=>rfl)|((with_reducible refine jF ?hy ?_);case hy=>decide))
  refine m_mostC hS5.m (by omega) (by omega) (hr p hp) (hr q hq) fun H6 ea ca hca hM6 hf6 => ?_
  have hS6 := hS5.keep hM6 hf6
  have hi6 := hi5.frame hf6 fun b hb => (nB5 b hb).1
  simp only [Ed.val]
  repeat' (first|(with_reducible first|refine jA ?_|(refine hK _ _ ?_;clear hK K)|refine jJ fun K hK=>?_|refine jK ?_|refine jL ?_|refine jM ?_|refine jN ?_|refine jO ?_|refine jP ?_|refine jQ ?_|(refine jB ?_;clear hK K)|(refine jC ?_;clear hK K)|refine jD ?_|refine jE ?_|refine jG ?_|refine jH ?_|refine jI ?_)|((with_reducible refine jR ?hq ?_);case hq=>rfl)|((first|(with_reducible first|refine jS fun K hK=>?_|refine jT ?_|refine jU ?_)|((with_reducible refine jV ?hy fun K hK=>?_);case hy=>rfl));simp only [go_sem, Nat.reduceEqDiff, Nat.reduceAdd, Nat.reduceMul, Nat.reduceLeDiff, Nat.reduceLT, Int.reduceLT, Int.reduceLE, Int.reduceEq, Int.reduceNeg, Int.reduceToNat, Nat.reducePow, reduceIte, reduceCtorEq, i11, hcell_push, hcell_top, okW_push, okW_top, hcell_hset_ne, hcell_hset_off, hcell_hset_eq, okW_hset, hset_size, Array.size_push, Nat.lt_add_one, ne_add_one, add_one_ne, Nat.add_assoc, add_same, add_lt_same, Nat.reduceEqDiff, lt_add_k, add_k_ne, ne_add_k])|((with_reducible first|refine jW ?hy ?_|refine jY ?hy ?_);case hy=>rfl)|((with_reducible first|refine jX ?hy ?_|refine jZ ?hy ?_);case hy=>rfl)|((with_reducible refine jF ?hy ?_);case hy=>decide))
  obtain ⟨b7, f67⟩ := most_box (H := H6) ea (T0 := 31)
  generalize hset _ _ _ = H7 at b7 f67 ⊢
  have hS7 := hS6.grow f67
  have hi7 := hi6.frame f67 fun _ _ h => h
  have nb7 : ¬ T H6.size := fun hx => by have := hS6.m.below _ hx; omega
  refine m_root hS7.m (by omega) (hr q hq) fun H8 hM8 hf8 => ?_
  have hS8 := hS7.keep hM8 hf8
  have hi8 := hi7.frame hf8 fun b hb => (nB5 b hb).1
  have b8 := b7.frame hf8 nb7
  obtain ⟨l, hl0, hlast⟩ := hr x hx
  repeat' (first|(with_reducible first|refine jA ?_|(refine hK _ _ ?_;clear hK K)|refine jJ fun K hK=>?_|refine jK ?_|refine jL ?_|refine jM ?_|refine jN ?_|refine jO ?_|refine jP ?_|refine jQ ?_|(refine jB ?_;clear hK K)|(refine jC ?_;clear hK K)|refine jD ?_|refine jE ?_|refine jG ?_|refine jH ?_|refine jI ?_)|((with_reducible refine jR ?hq ?_);case hq=>rfl)|((first|(with_reducible first|refine jS fun K hK=>?_|refine jT ?_|refine jU ?_)|((with_reducible refine jV ?hy fun K hK=>?_);case hy=>rfl));simp only [go_sem, Nat.reduceEqDiff, Nat.reduceAdd, Nat.reduceMul, Nat.reduceLeDiff, Nat.reduceLT, Int.reduceLT, Int.reduceLE, Int.reduceEq, Int.reduceNeg, Int.reduceToNat, Nat.reducePow, reduceIte, reduceCtorEq, i11])|((with_reducible first|refine jW ?hy ?_|refine jY ?hy ?_);case hy=>rfl)|((with_reducible first|refine jX ?hy ?_|refine jZ ?hy ?_);case hy=>rfl)|((with_reducible refine jF ?hy ?_);case hy=>decide))
  refine m_evert hS8.m (by omega) hl0 fun H9 hM9 hf9 => ?_
  have hS9 := hS8.keep hM9 hf9
  have hi9 := hi8.frame hf9 fun b hb => (nB5 b hb).1
  have b9 := b8.frame hf9 nb7
  have hr' : ∀ a, a < n → RootOf (S.ev l).par (a + 1) (x + 1) := fun a ha => by
    have := ev_root hl0 (by omega) hlast (hr a ha)
    rwa [if_pos rfl] at this
  have ok9 := hS9.m.ok
  have hn9 : (S.ev l).n = n := hSn
  repeat' (first|(with_reducible first|refine jA ?_|(refine hK _ _ ?_;clear hK K)|refine jJ fun K hK=>?_|refine jK ?_|refine jL ?_|refine jM ?_|refine jN ?_|refine jO ?_|refine jP ?_|refine jQ ?_|(refine jB ?_;clear hK K)|(refine jC ?_;clear hK K)|refine jD ?_|refine jE ?_|refine jG ?_|refine jH ?_|refine jI ?_)|((with_reducible refine jR ?hq ?_);case hq=>rfl)|((first|(with_reducible first|refine jS fun K hK=>?_|refine jT ?_|refine jU ?_)|((with_reducible refine jV ?hy fun K hK=>?_);case hy=>rfl));simp only [go_sem, Nat.reduceEqDiff, Nat.reduceAdd, Nat.reduceMul, Nat.reduceLeDiff, Nat.reduceLT, Int.reduceLT, Int.reduceLE, Int.reduceEq, Int.reduceNeg, Int.reduceToNat, Nat.reducePow, reduceIte, reduceCtorEq, i11])|((with_reducible first|refine jW ?hy ?_|refine jY ?hy ?_);case hy=>rfl)|((with_reducible first|refine jX ?hy ?_|refine jZ ?hy ?_);case hy=>rfl)|((with_reducible refine jF ?hy ?_);case hy=>decide))
  refine m_path hS9.m (by omega) (by omega) (hr' q hq) (hr' p hp) fun H10 P' B10 w10 hP' hi10 hB10 hM10 hf10 => ?_
  have hS10 := hS9.keep hM10 hf10
  have hi5a := hi9.frame hf10 fun b hb => (nB5 b hb).1
  have b10 := b9.frame hf10 nb7
  have nB10 : ∀ b, B10 = some b → ¬ T b := fun b hb hx => by have := hS9.m.below b hx; have := hB10 b hb; omega
  repeat' (first|(with_reducible first|refine jA ?_|(refine hK _ _ ?_;clear hK K)|refine jJ fun K hK=>?_|refine jK ?_|refine jL ?_|refine jM ?_|refine jN ?_|refine jO ?_|refine jP ?_|refine jQ ?_|(refine jB ?_;clear hK K)|(refine jC ?_;clear hK K)|refine jD ?_|refine jE ?_|refine jG ?_|refine jH ?_|refine jI ?_)|((with_reducible refine jR ?hq ?_);case hq=>rfl)|((first|(with_reducible first|refine jS fun K hK=>?_|refine jT ?_|refine jU ?_)|((with_reducible refine jV ?hy fun K hK=>?_);case hy=>rfl));simp only [go_sem, Nat.reduceEqDiff, Nat.reduceAdd, Nat.reduceMul, Nat.reduceLeDiff, Nat.reduceLT, Int.reduceLT, Int.reduceLE, Int.reduceEq, Int.reduceNeg, Int.reduceToNat, Nat.reducePow, reduceIte, reduceCtorEq, i11])|((with_reducible first|refine jW ?hy ?_|refine jY ?hy ?_);case hy=>rfl)|((with_reducible first|refine jX ?hy ?_|refine jZ ?hy ?_);case hy=>rfl)|((with_reducible refine jF ?hy ?_);case hy=>decide))
  refine m_mostC hS10.m (by omega) (by omega) (hr' q hq) (hr' p hp) fun H11 eb cb hcb hM11 hf11 => ?_
  have hS11 := hS10.keep hM11 hf11
  have hi5b := hi5a.frame hf11 fun b hb => (nB5 b hb).1
  have hi11 := hi10.frame hf11 fun b hb => nB10 b hb
  have b11 := b10.frame hf11 nb7
  simp only [Ed.val]
  repeat' (first|(with_reducible first|refine jA ?_|(refine hK _ _ ?_;clear hK K)|refine jJ fun K hK=>?_|refine jK ?_|refine jL ?_|refine jM ?_|refine jN ?_|refine jO ?_|refine jP ?_|refine jQ ?_|(refine jB ?_;clear hK K)|(refine jC ?_;clear hK K)|refine jD ?_|refine jE ?_|refine jG ?_|refine jH ?_|refine jI ?_)|((with_reducible refine jR ?hq ?_);case hq=>rfl)|((first|(with_reducible first|refine jS fun K hK=>?_|refine jT ?_|refine jU ?_)|((with_reducible refine jV ?hy fun K hK=>?_);case hy=>rfl));simp only [go_sem, Nat.reduceEqDiff, Nat.reduceAdd, Nat.reduceMul, Nat.reduceLeDiff, Nat.reduceLT, Int.reduceLT, Int.reduceLE, Int.reduceEq, Int.reduceNeg, Int.reduceToNat, Nat.reducePow, reduceIte, reduceCtorEq, i11, hcell_push, hcell_top, okW_push, okW_top, hcell_hset_ne, hcell_hset_off, hcell_hset_eq, okW_hset, hset_size, Array.size_push, Nat.lt_add_one, ne_add_one, add_one_ne, Nat.add_assoc, add_same, add_lt_same, Nat.reduceEqDiff, lt_add_k, add_k_ne, ne_add_k])|((with_reducible first|refine jW ?hy ?_|refine jY ?hy ?_);case hy=>rfl)|((with_reducible first|refine jX ?hy ?_|refine jZ ?hy ?_);case hy=>rfl)|((with_reducible refine jF ?hy ?_);case hy=>decide))
  obtain ⟨b12, f1112⟩ := most_box (H := H11) eb (T0 := 31)
  generalize hset _ _ _ = H12 at b12 f1112 ⊢
  have hS12 := hS11.grow f1112
  have hi5c := hi5b.frame f1112 fun _ _ h => h
  have hi12 := hi11.frame f1112 fun _ _ h => h
  have b7c := b11.frame f1112 fun h => h
  have nb12 : ¬ T H11.size := fun hx => by have := hS11.m.below _ hx; omega
  refine m_root (v := 0) (r0 := x) hS12.m (by omega) (hr' 0 (by omega)) fun H13 hM13 hf13 => ?_
  have hS13 := hS12.keep hM13 hf13
  have hi5d := hi5c.frame hf13 fun b hb => (nB5 b hb).1
  have hi13 := hi12.frame hf13 fun b hb => nB10 b hb
  have b7d := b7c.frame hf13 nb7
  have b13 := b12.frame hf13 nb12
  have hadj : ∀ y z, Adj S.par y z ↔ Adj (S.ev l).par y z := fun y z => (ev_adj hl0 (by omega)).symm
  have hPr : P' = P.reverse := by
    have h1 : SP (S.ev l).par (q + 1) (p + 1) P.reverse := (hP.congr fun y z => (hadj y z).symm).rev
    exact ok9.sp (Ls.vtx (S := S.ev l) (v := q) (by omega)) hP' h1
  have hEE : (S.ev l).E = S.E := rfl
  rw [hEE, hPr, outI_reverse] at hi13
  have hmm : ea = eb ∧ ca = cb ∧ (ca = 0) = (p ≠ q) := by
    rcases hca with ⟨h1, h2, h3⟩ | ⟨h1, h2, Pa, h3, h4⟩
    · rcases hcb with ⟨g1, g2, g3⟩ | ⟨g1, _⟩
      · exact ⟨h3.trans g3.symm, h2.trans g2.symm, by simp [h1, h2]⟩
      · exact absurd h1.symm g1
    · rcases hcb with ⟨g1, _⟩ | ⟨g1, g2, Pb, g3, g4⟩
      · exact absurd g1.symm h1
      · refine ⟨?_, h2.trans g2.symm, by simp [h1, h2]⟩
        have h5 : SP (S.ev l).par (q + 1) (p + 1) Pa.reverse := (h3.congr fun y z => (hadj y z).symm).rev
        have h6 := ok9.sp (Ls.vtx (S := S.ev l) (v := q) (by omega)) g3 h5
        exact h4.uniq (fun y => by rw [h6, List.mem_reverse]) g4
  obtain ⟨rfl, rfl, hca0⟩ := hmm
  have hnil := ok.outI_nil (v := q) (by omega) hP
  have hol : (outI S.E P).length ≤ 200 := by
    have h1 := hS3.m.sp_len (Ls.vtx (v := p) (by omega)) hP
    have h2 := outI_len S.E P
    omega
  generalize hxs : outI S.E P = xs at hi5d hi13 hnil hol
  obtain ⟨sa, sc, hsa⟩ := hi5d.slice
  obtain ⟨sb, sd, hsb⟩ := hi13.slice
  rw [List.length_reverse] at hsb
  subst hsa hsb
  have c0 := b7d.cellOf (i := 0) rfl
  have c1 := b7d.cellOf (i := 1) rfl
  have c2 := b7d.cellOf (i := 2) rfl
  have c3 := b7d.cellOf (i := 3) rfl
  have s0 := b13.cellOf (i := 0) rfl
  have s1 := b13.cellOf (i := 1) rfl
  have s2 := b13.cellOf (i := 2) rfl
  have s3 := b13.cellOf (i := 3) rfl
  have tc : (ca != ca) = false := by simp
  have tr : (((r0 : Nat) : Int) != ((r0 : Nat) : Int)) = false := by simp
  have tx : ((x : Int) != (x : Int)) = false := by simp
  have tl : ((xs.length : Int) != (xs.length : Int)) = false := by simp
  repeat' (first|(with_reducible first|refine jA ?_|(refine hK _ _ ?_;clear hK K)|refine jJ fun K hK=>?_|refine jK ?_|refine jL ?_|refine jM ?_|refine jN ?_|refine jO ?_|refine jP ?_|refine jQ ?_|(refine jB ?_;clear hK K)|(refine jC ?_;clear hK K)|refine jD ?_|refine jE ?_|refine jG ?_|refine jH ?_|refine jI ?_)|((with_reducible refine jR ?hq ?_);case hq=>rfl)|((first|(with_reducible first|refine jS fun K hK=>?_|refine jT ?_|refine jU ?_)|((with_reducible refine jV ?hy fun K hK=>?_);case hy=>rfl));simp only [go_sem, Nat.reduceEqDiff, Nat.reduceAdd, Nat.reduceMul, Nat.reduceLeDiff, Nat.reduceLT, Int.reduceLT, Int.reduceLE, Int.reduceEq, Int.reduceNeg, Int.reduceToNat, Nat.reducePow, reduceIte, reduceCtorEq, z0, tc, c0, c1, c2, c3, s0, s1, s2, s3])|((with_reducible first|refine jW ?hy ?_|refine jY ?hy ?_);case hy=>rfl)|((with_reducible first|refine jX ?hy ?_|refine jZ ?hy ?_);case hy=>rfl)|((with_reducible refine jF ?hy ?_);case hy=>decide))
  refine edge_eq (op := .neq) (ox := .tmp 172) (oy := .tmp 173) (a := ea) (b := ea) ?_
  simp only [decide_true, Bool.not_true]
  repeat' (first|(with_reducible first|refine jA ?_|(refine hK _ _ ?_;clear hK K)|refine jJ fun K hK=>?_|refine jK ?_|refine jL ?_|refine jM ?_|refine jN ?_|refine jO ?_|refine jP ?_|refine jQ ?_|(refine jB ?_;clear hK K)|(refine jC ?_;clear hK K)|refine jD ?_|refine jE ?_|refine jG ?_|refine jH ?_|refine jI ?_)|((with_reducible refine jR ?hq ?_);case hq=>rfl)|((first|(with_reducible first|refine jS fun K hK=>?_|refine jT ?_|refine jU ?_)|((with_reducible refine jV ?hy fun K hK=>?_);case hy=>rfl));simp only [go_sem, Nat.reduceEqDiff, Nat.reduceAdd, Nat.reduceMul, Nat.reduceLeDiff, Nat.reduceLT, Int.reduceLT, Int.reduceLE, Int.reduceEq, Int.reduceNeg, Int.reduceToNat, Nat.reducePow, reduceIte, reduceCtorEq, z0, tr, tx, tl])|((with_reducible first|refine jW ?hy ?_|refine jY ?hy ?_);case hy=>rfl)|((with_reducible first|refine jX ?hy ?_|refine jZ ?hy ?_);case hy=>rfl)|((with_reducible refine jF ?hy ?_);case hy=>decide))
  refine evC hi5d hi13 hol rfl rfl rfl fun e2 k1 k2 k19 k22 => ?_
  have k1 : e2 1 = .int .i64 (p : Nat) := k1.trans rfl
  have k2 : e2 2 = .int .i64 (q : Nat) := k2.trans rfl
  have k19 : e2 19 = .slice sa xs.length sc := k19.trans rfl
  have k22 : e2 22 = .int .i64 ca := k22.trans rfl
  by_cases hpq : p = q
  · have y1 : ((xs.length : Int) == 0) = true := by have : xs.length = 0 := by rw [hnil]; exact hpq
                                                    simp [this]
    have y2 : ((p : Int) == (q : Int)) = true := by simp [hpq]
    have y3 : (ca == 0) = false := by
      have : ¬ ca = 0 := by rw [hca0]; exact fun h => h hpq
      simp [this]
    have y4 : ((p : Int) != (q : Int)) = false := by simp [hpq]
    have y5 : (true == true) = true := rfl
    have y6 : (false == false) = true := rfl
    repeat' (first|(with_reducible first|refine jA ?_|(refine hK _ _ ?_;clear hK K)|refine jJ fun K hK=>?_|refine jK ?_|refine jL ?_|refine jM ?_|refine jN ?_|refine jO ?_|refine jP ?_|refine jQ ?_|(refine jB ?_;clear hK K)|(refine jC ?_;clear hK K)|refine jD ?_|refine jE ?_|refine jG ?_|refine jH ?_|refine jI ?_)|((with_reducible refine jR ?hq ?_);case hq=>rfl)|((first|(with_reducible first|refine jS fun K hK=>?_|refine jT ?_|refine jU ?_)|((with_reducible refine jV ?hy fun K hK=>?_);case hy=>rfl));simp only [go_sem, Nat.reduceEqDiff, Nat.reduceAdd, Nat.reduceMul, Nat.reduceLeDiff, Nat.reduceLT, Int.reduceLT, Int.reduceLE, Int.reduceEq, Int.reduceNeg, Int.reduceToNat, Nat.reducePow, reduceIte, reduceCtorEq, k1, k2, k19, k22, y1, y2, y3, y4, y5, y6])|((with_reducible first|refine jW ?hy ?_|refine jY ?hy ?_);case hy=>rfl)|((with_reducible first|refine jX ?hy ?_|refine jZ ?hy ?_);case hy=>rfl)|((with_reducible refine jF ?hy ?_);case hy=>decide))
    exact fin _ hS13.fr
  · have y1 : ((xs.length : Int) == 0) = false := by have : ¬ xs.length = 0 := by rw [hnil]; exact hpq
                                                     simp; intro h; exact this (by rw [h]; rfl)
    have y2 : ((p : Int) == (q : Int)) = false := by simp; omega
    have y3 : (ca == 0) = true := by
      have : ca = 0 := by rw [hca0]; exact hpq
      simp [this]
    have y4 : ((p : Int) != (q : Int)) = true := by simp; omega
    have y5 : (true == true) = true := rfl
    have y6 : (false == false) = true := rfl
    repeat' (first|(with_reducible first|refine jA ?_|(refine hK _ _ ?_;clear hK K)|refine jJ fun K hK=>?_|refine jK ?_|refine jL ?_|refine jM ?_|refine jN ?_|refine jO ?_|refine jP ?_|refine jQ ?_|(refine jB ?_;clear hK K)|(refine jC ?_;clear hK K)|refine jD ?_|refine jE ?_|refine jG ?_|refine jH ?_|refine jI ?_)|((with_reducible refine jR ?hq ?_);case hq=>rfl)|((first|(with_reducible first|refine jS fun K hK=>?_|refine jT ?_|refine jU ?_)|((with_reducible refine jV ?hy fun K hK=>?_);case hy=>rfl));simp only [go_sem, Nat.reduceEqDiff, Nat.reduceAdd, Nat.reduceMul, Nat.reduceLeDiff, Nat.reduceLT, Int.reduceLT, Int.reduceLE, Int.reduceEq, Int.reduceNeg, Int.reduceToNat, Nat.reducePow, reduceIte, reduceCtorEq, k1, k2, k19, k22, y1, y2, y3, y4, y5, y6])|((with_reducible first|refine jW ?hy ?_|refine jY ?hy ?_);case hy=>rfl)|((with_reducible first|refine jX ?hy ?_|refine jZ ?hy ?_);case hy=>rfl)|((with_reducible refine jF ?hy ?_);case hy=>decide))
    exact fin _ hS13.fr
end Go.Proofs.Ytoplhfhjokjbiaa
namespace Go.Li
open Go Go.Hp
section
variable {S : Ls}
theorem IsMost.join {E : Es} {P Q : List Nat} {a b : Ed} (hu : Uniq E) (ha : IsMost E P a) (hb : IsMost E Q b) : IsMost E (P ++ Q) (if heavy b a = true then b else a) := by
 obtain ⟨x, h1, h2, h3⟩ := ha
 obtain ⟨y, h4, h5, h6⟩ := hb
 by_cases h : heavy b a = true
 ·rw [if_pos h]
  refine ⟨y, List.mem_append_right _ h4, h5, fun z hz e he => ?_⟩
  rcases List.mem_append.1 hz with hz | hz
  ·rcases h3 z hz e he with rfl | h7
   ·rw [h2] at he
    obtain rfl := Option.some.inj he
    exact .inr h
   ·exact .inr (heavy_trans h h7)
  ·exact h6 z hz e he
 ·rw [if_neg h]
  refine ⟨x, List.mem_append_left _ h1, h2, fun z hz e he => ?_⟩
  rcases List.mem_append.1 hz with hz | hz
  ·exact h3 z hz e he
  ·have key : y = x ∨ heavy a b = true := by
    by_cases hab : a.id = b.id
    ·exact .inl (hu y x b a h5 h2 hab.symm)
    ·exact .inr (heavy_total (fun e => hab e.symm) h)
   rcases h6 z hz e he with rfl | h7
   ·rw [h5] at he
    obtain rfl := Option.some.inj he
    exact key
   ·rcases key with rfl | h8
    ·rw [h2] at h5
     obtain rfl := Option.some.inj h5
     exact .inr h7
    ·exact .inr (heavy_trans h8 h7)
theorem Ls.Ok.next (k : S.Ok) {u v w : Nat} {P1 P2 : List Nat} (hv : v < S.n) (h : SP S.par (u + 1) (v + 1) (P1 ++ (w + 1) :: P2)) (hw : w < S.n) (h2 : P2 ≠ []) :
  ∃ g e w' P3, P2 = g :: (w' + 1) :: P3 ∧ S.E g = some e ∧ w' < S.n ∧ ((e.u = (w : Nat) ∧ e.v = (w' : Nat)) ∨ (e.u = (w' : Nat) ∧ e.v = (w : Nat))) := by
 obtain ⟨k1, k2, k3, k4⟩ := h
 have hwk := k4.right
 cases P2 with
 | nil => exact absurd rfl h2
 | cons g P3 =>
  have hE := k.vx (w + 1) g (by omega) (by omega) hwk.1
  obtain ⟨e, he⟩ := Option.isSome_iff_exists.1 hE
  obtain ⟨q1, q2, q3, q4, q5⟩ := k.en g e he
  have hw1 := (k.ad g e (w + 1) he).1 hwk.1.symm
  cases P3 with
  | nil =>
   simp at k2
   omega
  | cons y P4 =>
   have hy := (k.ad g e y he).1 hwk.2.1
   have hne : y ≠ w + 1 := fun e => by
    subst e
    rw [List.nodup_append] at k3
    have := k3.2.1
    simp at this
   refine ⟨g, e, y - 1, P4, ?_, he, by omega, by omega⟩
   rw [show y - 1 + 1 = y by omega]
theorem SP.left {par : Par} {a b x : Nat} {P1 P2 : List Nat} (h : SP par a b (P1 ++ x :: P2)) : SP par a x (P1 ++ [x]) := by
 obtain ⟨k1, k2, k3, k4⟩ := h
 have e : P1 ++ x :: P2 = (P1 ++ [x]) ++ P2 := by simp
 rw [e] at k1 k3 k4
 refine ⟨?_, by simp, (List.nodup_append.1 k3).1, k4.left⟩
 cases P1 with
 | nil => simpa using k1
 | cons z r => simpa using k1
theorem SP.right {par : Par} {a b x : Nat} {P1 P2 : List Nat} (h : SP par a b (P1 ++ x :: P2)) : SP par x b (x :: P2) := by
 obtain ⟨k1, k2, k3, k4⟩ := h
 refine ⟨rfl, ?_, (List.nodup_append.1 k3).2.1, k4.right⟩
 rw [List.getLast?_append] at k2
 cases h : (x :: P2).getLast? with
 | none => simp at h
 | some z => rw [h] at k2; simpa using k2
end
end Go.Li
namespace Go.Proofs.Ytoplhfhjokjbiaa
open Go Go.Hp Go.Li
set_option linter.all false
set_option maxRecDepth 100000
set_option maxHeartbeats 1600000
section
variable {H0 H : Heap} {e : Env} {Z : HX → Env → Heap → Prop} {t : Nat} {T : Nat → Prop} {S : Ls}
theorem owA {a : Option Addr} {len cap n : Nat} {zs : Nat → Int} (hin : InInts H0 a len zs) (hn : n = 2 + min len 62) (hS : LS H0 H t T (Ls.new n))
  (e0 : e 0 = .slice a len cap) (e8 : e 8 = .int .i64 (n : Nat)) (e9 : e 9 = .pointer (some ⟨t, 0, none⟩)) (e11 : e 11 = .slice none 0 0) (e12 : e 12 = .int .i64 1)
  (hQ : ∀ e' H' T' S' B v es, e' 1 = e 1 → e' 2 = e 2 → e' 8 = .int .i64 (n : Nat) → e' 9 = .pointer (some ⟨t, 0, none⟩) → e' 11 = v → LS H0 H' t T' S' → Grow S' n → S'.n = n → Has S' es → SR Ed.cells 4 H' B v es → es.length < n → (∀ b, B = some b → ¬ T' b ∧ H0.size ≤ b) → Z .normal e' H') :
  codeX Try.prog [46] (loopAt Try.f3.body 0) (blockQ 0 Z) e H := by
 refine x_loop (fun m e' H' => ∃ (i : Nat) (T' : Nat → Prop) (S' : Ls) (B : Option Nat) (v : Value) (es : List Ed), e' 12 = .int .i64 (i : Nat) ∧ e' 11 = v ∧ 1 ≤ i ∧ i ≤ n ∧ LS H0 H' t T' S' ∧ Grow S' i ∧ S'.n = n ∧ Has S' es ∧ SR Ed.cells 4 H' B v es ∧ es.length + 1 = i ∧ (∀ b, B = some b → ¬ T' b ∧ H0.size ≤ b) ∧ (∀ x ∈ es, x.id < i) ∧ m = n - i) (n - 1)
  ⟨1, T, Ls.new n, none, _, [], e12, e11, Nat.le_refl _, by omega, hS, Grow.new n, rfl, Has.new n, SR.nil _ _ _, rfl, nofun, nofun, rfl⟩ ?_
 rintro m e1 H1 ⟨i, T1, S1, B, vl, es, i12, i11, hi1, hi, hS1, hG, hn1, hes, hl1, hel, hB1, hid, rfl⟩ hoff
 have i0 := (hoff 0 rfl).trans e0
 have i8 := (hoff 8 rfl).trans e8
 have i9 := (hoff 9 rfl).trans e9
 have keep : e1 1 = e 1 ∧ e1 2 = e 2 := ⟨hoff 1 rfl, hoff 2 rfl⟩
 clear hoff e0 e8 e9 e11 e12
 obtain ⟨sa, sc, rfl⟩ := hl1.slice
 by_cases hlt : i < n
 ·have ew : IntKind.i64.wrap ((i : Int) - 1) = ((i - 1 : Nat) : Int) := by rw [wrap_i64] <;> omega
  have ew2 : IntKind.i64.wrap ((i : Int) + 1) = ((i + 1 : Nat) : Int) := by rw [wrap_i64] <;> omega
  repeat' (first|(with_reducible first|refine jA ?_|(refine hK _ _ ?_;clear hK K)|refine jJ fun K hK=>?_|refine jK ?_|refine jL ?_|refine jM ?_|refine jN ?_|refine jO ?_|refine jP ?_|refine jQ ?_|(refine jB ?_;clear hK K)|(refine jC ?_;clear hK K)|refine jD ?_|refine jE ?_|refine jG ?_|refine jH ?_|refine jI ?_)|((with_reducible refine jR ?hq ?_);case hq=>rfl)|((first|(with_reducible first|refine jS fun K hK=>?_|refine jT ?_|refine jU ?_)|((with_reducible refine jV ?hy fun K hK=>?_);case hy=>rfl));simp only [go_sem, Nat.reduceEqDiff, Nat.reduceAdd, Nat.reduceMul, Nat.reduceLeDiff, Nat.reduceLT, Int.reduceLT, Int.reduceLE, Int.reduceEq, Int.reduceNeg, Int.reduceToNat, Nat.reducePow, reduceIte, reduceCtorEq, i0, i8, i9, i12, hlt, ew])|((with_reducible first|refine jW ?hy ?_|refine jY ?hy ?_);case hy=>rfl)|((with_reducible first|refine jX ?hy ?_|refine jZ ?hy ?_);case hy=>rfl)|((with_reducible refine jF ?hy ?_);case hy=>decide))
  obtain ⟨rt, hrt⟩ := hG.one
  have hself := hG.self (by omega)
  have z0 : ((0 : Int) != 0) = false := rfl
  have tail : ∀ (e' : Env) (z : Int), e' 8 = .int .i64 (n : Nat) → e' 9 = .pointer (some ⟨t, 0, none⟩) → e' 11 = .slice sa es.length sc → e' 12 = .int .i64 (i : Nat) → e' 13 = .int .i64 z → -9223372036854775808 ≤ z ∧ z ≤ 9223372036854775807 → K e' H1 := by
   intro e' z j8 j9 j11 j12 j13 hz
   refine hK _ _ ?_
   clear hK K
   have d8 := tdivB z 8 (by omega) hz.1 hz.2
   have ewd8 : IntKind.i64.wrap (z.tdiv 8) = z.tdiv 8 := by rw [wrap_i64] <;> omega
   have z8 : ((8 : Int) = 0) = False := by simp
   repeat' (first|(with_reducible first|refine jA ?_|(refine hK _ _ ?_;clear hK K)|refine jJ fun K hK=>?_|refine jK ?_|refine jL ?_|refine jM ?_|refine jN ?_|refine jO ?_|refine jP ?_|refine jQ ?_|(refine jB ?_;clear hK K)|(refine jC ?_;clear hK K)|refine jD ?_|refine jE ?_|refine jG ?_|refine jH ?_|refine jI ?_)|((with_reducible refine jR ?hq ?_);case hq=>rfl)|((first|(with_reducible first|refine jS fun K hK=>?_|refine jT ?_|refine jU ?_)|((with_reducible refine jV ?hy fun K hK=>?_);case hy=>rfl));simp only [go_sem, Nat.reduceEqDiff, Nat.reduceAdd, Nat.reduceMul, Nat.reduceLeDiff, Nat.reduceLT, Int.reduceLT, Int.reduceLE, Int.reduceEq, Int.reduceNeg, Int.reduceToNat, Nat.reducePow, reduceIte, reduceCtorEq, j12, j13, ewd8, z8])|((with_reducible first|refine jW ?hy ?_|refine jY ?hy ?_);case hy=>rfl)|((with_reducible first|refine jX ?hy ?_|refine jZ ?hy ?_);case hy=>rfl)|((with_reducible refine jF ?hy ?_);case hy=>decide))
   refine pick_nat d8 (by omega) fun k hk1 hk => ?_
   have hne := hG.apart (by omega) hk (hrt k hk)
   repeat' (first|(with_reducible first|refine jA ?_|(refine hK _ _ ?_;clear hK K)|refine jJ fun K hK=>?_|refine jK ?_|refine jL ?_|refine jM ?_|refine jN ?_|refine jO ?_|refine jP ?_|refine jQ ?_|(refine jB ?_;clear hK K)|(refine jC ?_;clear hK K)|refine jD ?_|refine jE ?_|refine jG ?_|refine jH ?_|refine jI ?_)|((with_reducible refine jR ?hq ?_);case hq=>rfl)|((first|(with_reducible first|refine jS fun K hK=>?_|refine jT ?_|refine jU ?_)|((with_reducible refine jV ?hy fun K hK=>?_);case hy=>rfl));simp only [go_sem, Nat.reduceEqDiff, Nat.reduceAdd, Nat.reduceMul, Nat.reduceLeDiff, Nat.reduceLT, Int.reduceLT, Int.reduceLE, Int.reduceEq, Int.reduceNeg, Int.reduceToNat, Nat.reducePow, reduceIte, reduceCtorEq, j12, j13])|((with_reducible first|refine jW ?hy ?_|refine jY ?hy ?_);case hy=>rfl)|((with_reducible first|refine jX ?hy ?_|refine jZ ?hy ?_);case hy=>rfl)|((with_reducible refine jF ?hy ?_);case hy=>decide))
   refine pick_nat (n := 8) hz (by omega) fun w hw1 hw2 => ?_
   obtain ⟨ed, hed⟩ : ∃ ed : Ed, ed = ⟨(i : Int), (i : Int), (k : Int), (w : Int)⟩ := ⟨_, rfl⟩
   repeat' (first|(with_reducible first|refine jA ?_|(refine hK _ _ ?_;clear hK K)|refine jJ fun K hK=>?_|refine jK ?_|refine jL ?_|refine jM ?_|refine jN ?_|refine jO ?_|refine jP ?_|refine jQ ?_|(refine jB ?_;clear hK K)|(refine jC ?_;clear hK K)|refine jD ?_|refine jE ?_|refine jG ?_|refine jH ?_|refine jI ?_)|((with_reducible refine jR ?hq ?_);case hq=>rfl)|((first|(with_reducible first|refine jS fun K hK=>?_|refine jT ?_|refine jU ?_)|((with_reducible refine jV ?hy fun K hK=>?_);case hy=>rfl));simp only [go_sem, Nat.reduceEqDiff, Nat.reduceAdd, Nat.reduceMul, Nat.reduceLeDiff, Nat.reduceLT, Int.reduceLT, Int.reduceLE, Int.reduceEq, Int.reduceNeg, Int.reduceToNat, Nat.reducePow, reduceIte, reduceCtorEq, j9, hcell_push, hcell_top, okW_push, okW_top, hcell_hset_ne, hcell_hset_off, hcell_hset_eq, okW_hset, hset_size, Array.size_push, Nat.lt_add_one, ne_add_one, add_one_ne, Nat.add_assoc, add_same, add_lt_same, Nat.reduceEqDiff, lt_add_k, add_k_ne, ne_add_k])|((with_reducible first|refine jW ?hy ?_|refine jY ?hy ?_);case hy=>rfl)|((with_reducible first|refine jX ?hy ?_|refine jZ ?hy ?_);case hy=>rfl)|((with_reducible refine jF ?hy ?_);case hy=>decide))
   obtain ⟨b2, f12⟩ := most_box (H := H1) (⟨(i : Int), (i : Int), (k : Int), (w : Int)⟩ : Ed) (T0 := 31)
   generalize hset _ _ _ = H2 at b2 f12 ⊢
   have hS2 := hS1.grow f12
   have hl2 := hl1.frame f12 fun _ _ h => h
   have nb2 : ¬ T1 H1.size := fun hx => by have := hS1.m.below _ hx; omega
   have bl2 := b2.lt
   refine m_link (u := i) (v := k) (id := (i : Int)) (w := (w : Int)) hS2.m (by omega) (by omega) (okArg_of (by omega) (by omega) (by omega) (by omega)) (hes.id fun x hx => by have := hid x hx; omega) hself (hrt k hk) (Ne.symm hne) fun H3 T3 S3 hM3 hK3 hf3 hT3 => ?_
   have hS3 := hS2.op hM3 hf3 hT3
   have hl3 := hl2.frame hf3 fun b hb => (hB1 b hb).1
   have b3 := b2.frame hf3 nb2
   have c0 := b3.cellOf (i := 0) rfl
   have c1 := b3.cellOf (i := 1) rfl
   have c2 := b3.cellOf (i := 2) rfl
   have c3 := b3.cellOf (i := 3) rfl
   have s12 := f12.size
   have nB3 : ∀ b, B = some b → ¬ T3 b ∧ H0.size ≤ b := fun b hb => ⟨fun hx => by
    rcases hT3 b hx with h | h
    ·exact (hB1 b hb).1 h
    ·have := hl1.lt hb; omega, (hB1 b hb).2⟩
   have hbs : 2 * (es.length + 1) * 32 ≤ 2 ^ 48 := by omega
   repeat' (first|(with_reducible first|refine jA ?_|(refine hK _ _ ?_;clear hK K)|refine jJ fun K hK=>?_|refine jK ?_|refine jL ?_|refine jM ?_|refine jN ?_|refine jO ?_|refine jP ?_|refine jQ ?_|(refine jB ?_;clear hK K)|(refine jC ?_;clear hK K)|refine jD ?_|refine jE ?_|refine jG ?_|refine jH ?_|refine jI ?_)|((with_reducible refine jR ?hq ?_);case hq=>rfl)|((first|(with_reducible first|refine jS fun K hK=>?_|refine jT ?_|refine jU ?_)|((with_reducible refine jV ?hy fun K hK=>?_);case hy=>rfl));simp only [go_sem, Nat.reduceEqDiff, Nat.reduceAdd, Nat.reduceMul, Nat.reduceLeDiff, Nat.reduceLT, Int.reduceLT, Int.reduceLE, Int.reduceEq, Int.reduceNeg, Int.reduceToNat, Nat.reducePow, reduceIte, reduceCtorEq, z0, j11, c0, c1, c2, c3])|((with_reducible first|refine jW ?hy ?_|refine jY ?hy ?_);case hy=>rfl)|((with_reducible first|refine jX ?hy ?_|refine jZ ?hy ?_);case hy=>rfl)|((with_reducible refine jF ?hy ?_);case hy=>decide))
   refine append_sr (x := (⟨(i : Int), (i : Int), (k : Int), (w : Int)⟩ : Ed)) edC_len edC_plain elems28 tl31 hl3 rfl (by decide) hbs rfl ?_
   intro v' H4 B' hl4 hf4 hB4
   have f34 : Fr (fun b => B = some b) H3 H4 := hf4
   have hS4 : LS H0 H4 t T3 S3 := ⟨hS3.m.frame hf4 fun b hb hx => (nB3 b hx).1 hb, hS3.fr.trans' hf4 fun b hb hx => by have := (nB3 b hx).2; omega, hS3.new⟩
   have hfz := hS3.fr.size
   repeat' (first|(with_reducible first|refine jA ?_|(refine hK _ _ ?_;clear hK K)|refine jJ fun K hK=>?_|refine jK ?_|refine jL ?_|refine jM ?_|refine jN ?_|refine jO ?_|refine jP ?_|refine jQ ?_|(refine jB ?_;clear hK K)|(refine jC ?_;clear hK K)|refine jD ?_|refine jE ?_|refine jG ?_|refine jH ?_|refine jI ?_)|((with_reducible refine jR ?hq ?_);case hq=>rfl)|((first|(with_reducible first|refine jS fun K hK=>?_|refine jT ?_|refine jU ?_)|((with_reducible refine jV ?hy fun K hK=>?_);case hy=>rfl));simp only [go_sem, Nat.reduceEqDiff, Nat.reduceAdd, Nat.reduceMul, Nat.reduceLeDiff, Nat.reduceLT, Int.reduceLT, Int.reduceLE, Int.reduceEq, Int.reduceNeg, Int.reduceToNat, Nat.reducePow, reduceIte, reduceCtorEq, j12, ew2])|((with_reducible first|refine jW ?hy ?_|refine jY ?hy ?_);case hy=>rfl)|((with_reducible first|refine jX ?hy ?_|refine jZ ?hy ?_);case hy=>rfl)|((with_reducible refine jF ?hy ?_);case hy=>decide))
   refine loop_normal (m' := n - (i + 1)) (by omega) ⟨i + 1, T3, S3, B', v', es ++ [⟨(i : Int), (i : Int), (k : Int), (w : Int)⟩], rfl, rfl, by omega, hlt, hS4, hG.up (by omega) hK3 (.inl ⟨rfl, hk⟩), hK3.n.trans hn1, hK3.has hes, hl4, by simp; omega, fun b hb => ?_, fun x hx => ?_, rfl⟩
   ·rcases hB4 with h | ⟨y, h1, h2⟩
    ·exact nB3 b (by rw [← h]; exact hb)
    ·rw [h1] at hb
     obtain rfl := Option.some.inj hb
     exact ⟨fun hx => by have := hS3.m.below _ hx; omega, by omega⟩
   ·rcases List.mem_append.1 hx with hx | hx
    ·have := hid x hx; omega
    ·obtain rfl := List.mem_singleton.1 hx
     simp only []; omega
  by_cases hl1 : i - 1 < len
  ·obtain ⟨p, rfl, cz, hz1, hz2⟩ := (hin.frame hS1.fr) (i - 1) (by omega)
   simp only [hl1, decide_true]
   repeat' (first|(with_reducible first|refine jA ?_|(refine hK _ _ ?_;clear hK K)|refine jJ fun K hK=>?_|refine jK ?_|refine jL ?_|refine jM ?_|refine jN ?_|refine jO ?_|refine jP ?_|refine jQ ?_|(refine jB ?_;clear hK K)|(refine jC ?_;clear hK K)|refine jD ?_|refine jE ?_|refine jG ?_|refine jH ?_|refine jI ?_)|((with_reducible refine jR ?hq ?_);case hq=>rfl)|((first|(with_reducible first|refine jS fun K hK=>?_|refine jT ?_|refine jU ?_)|((with_reducible refine jV ?hy fun K hK=>?_);case hy=>rfl));simp only [go_sem, Nat.reduceEqDiff, Nat.reduceAdd, Nat.reduceMul, Nat.reduceLeDiff, Nat.reduceLT, Int.reduceLT, Int.reduceLE, Int.reduceEq, Int.reduceNeg, Int.reduceToNat, Nat.reducePow, reduceIte, reduceCtorEq, i0, i12, ew, hl1, cz])|((with_reducible first|refine jW ?hy ?_|refine jY ?hy ?_);case hy=>rfl)|((with_reducible first|refine jX ?hy ?_|refine jZ ?hy ?_);case hy=>rfl)|((with_reducible refine jF ?hy ?_);case hy=>decide))
   refine tail _ _ ?_ ?_ ?_ ?_ rfl ⟨hz1, hz2⟩
   ·exact i8
   ·exact i9
   ·exact i11
   ·exact i12
  ·simp only [hl1, decide_false]
   repeat' (first|(with_reducible first|refine jA ?_|(refine hK _ _ ?_;clear hK K)|refine jJ fun K hK=>?_|refine jK ?_|refine jL ?_|refine jM ?_|refine jN ?_|refine jO ?_|refine jP ?_|refine jQ ?_|(refine jB ?_;clear hK K)|(refine jC ?_;clear hK K)|refine jD ?_|refine jE ?_|refine jG ?_|refine jH ?_|refine jI ?_)|((with_reducible refine jR ?hq ?_);case hq=>rfl)|((first|(with_reducible first|refine jS fun K hK=>?_|refine jT ?_|refine jU ?_)|((with_reducible refine jV ?hy fun K hK=>?_);case hy=>rfl));simp only [go_sem, Nat.reduceEqDiff, Nat.reduceAdd, Nat.reduceMul, Nat.reduceLeDiff, Nat.reduceLT, Int.reduceLT, Int.reduceLE, Int.reduceEq, Int.reduceNeg, Int.reduceToNat, Nat.reducePow, reduceIte, reduceCtorEq])|((with_reducible first|refine jW ?hy ?_|refine jY ?hy ?_);case hy=>rfl)|((with_reducible first|refine jX ?hy ?_|refine jZ ?hy ?_);case hy=>rfl)|((with_reducible refine jF ?hy ?_);case hy=>decide))
   refine tail _ 0 ?_ ?_ ?_ ?_ rfl ⟨by decide, by decide⟩
   ·exact i8
   ·exact i9
   ·exact i11
   ·exact i12
 ·obtain rfl : i = n := by omega
  have t1 : (i < i) = False := by simp
  repeat' (first|(with_reducible first|refine jA ?_|(refine hK _ _ ?_;clear hK K)|refine jJ fun K hK=>?_|refine jK ?_|refine jL ?_|refine jM ?_|refine jN ?_|refine jO ?_|refine jP ?_|refine jQ ?_|(refine jB ?_;clear hK K)|(refine jC ?_;clear hK K)|refine jD ?_|refine jE ?_|refine jG ?_|refine jH ?_|refine jI ?_)|((with_reducible refine jR ?hq ?_);case hq=>rfl)|((first|(with_reducible first|refine jS fun K hK=>?_|refine jT ?_|refine jU ?_)|((with_reducible refine jV ?hy fun K hK=>?_);case hy=>rfl));simp only [go_sem, Nat.reduceEqDiff, Nat.reduceAdd, Nat.reduceMul, Nat.reduceLeDiff, Nat.reduceLT, Int.reduceLT, Int.reduceLE, Int.reduceEq, Int.reduceNeg, Int.reduceToNat, Nat.reducePow, reduceIte, reduceCtorEq, i8, i12, t1])|((with_reducible first|refine jW ?hy ?_|refine jY ?hy ?_);case hy=>rfl)|((with_reducible first|refine jX ?hy ?_|refine jZ ?hy ?_);case hy=>rfl)|((with_reducible refine jF ?hy ?_);case hy=>decide))
  exact hQ _ _ _ _ _ _ _ keep.1 keep.2 i8 i9 i11 hS1 hG hn1 hes hl1 (by omega) hB1
end
end Go.Proofs.Ytoplhfhjokjbiaa
namespace Go.Proofs.Ytoplhfhjokjbiaa
open Go Go.Hp Go.Li
set_option linter.all false
set_option maxRecDepth 100000
set_option maxHeartbeats 1600000
theorem IR.sub {H : Heap} {g n c a m : Nat} {xs : List Int} (h : IR H (some g) (.slice (some ⟨g, 0, none⟩) n c) xs) (hm : a + m ≤ xs.length) : Rds H (some g) (.slice (some ⟨g, a, none⟩) m (c - a)) ((xs.drop a).take m) := by
 refine ⟨_, c - a, by rw [List.length_take, List.length_drop, Nat.min_eq_left (by omega)], fun i x hi => ?_⟩
 have hi' : i < m := by
  have := (List.getElem?_eq_some_iff.1 hi).1
  rw [List.length_take] at this
  omega
 rw [List.getElem?_take_of_lt hi', List.getElem?_drop] at hi
 exact ⟨g, a, rfl, rfl, h.cell hi⟩
section
variable {H0 H : Heap} {e : Env} {Z : HX → Env → Heap → Prop} {t : Nat} {T : Nat → Prop} {S : Ls}
structure Ow (H0 H : Heap) (t : Nat) (T : Nat → Prop) (S : Ls) (B : Option Nat) (vp : Value) (xs : List Int) (bm : Nat) (em : Ed) (Be : Option Nat) (ve : Value) (es : List Ed) : Prop where
 s : LS H0 H t T S
 p : IR H B vp xs
 m : Blk H bm em.cells
 e : SR Ed.cells 4 H Be ve es
 np : ∀ b, B = some b → ¬ T b
 nm : ¬ T bm
 ne : ∀ b, Be = some b → ¬ T b
theorem Ow.keep {H' : Heap} {B : Option Nat} {vp : Value} {xs : List Int} {bm : Nat} {em : Ed} {Be : Option Nat} {ve : Value} {es : List Ed} (h : Ow H0 H t T S B vp xs bm em Be ve es) (hm : LtM H' t T S) (hf : Fr T H H') : Ow H0 H' t T S B vp xs bm em Be ve es :=
 ⟨h.s.keep hm hf, h.p.frame hf h.np, h.m.frame hf h.nm, h.e.frame hf h.ne, h.np, h.nm, h.ne⟩
theorem Ow.grow {H' : Heap} {B : Option Nat} {vp : Value} {xs : List Int} {bm : Nat} {em : Ed} {Be : Option Nat} {ve : Value} {es : List Ed} (h : Ow H0 H t T S B vp xs bm em Be ve es) (hf : Fr (fun _ => False) H H') : Ow H0 H' t T S B vp xs bm em Be ve es :=
 ⟨h.s.grow hf, h.p.frame hf fun _ _ h => h, h.m.frame hf fun h => h, h.e.frame hf fun _ _ h => h, h.np, h.nm, h.ne⟩
theorem Ow.frameB {H' : Heap} {B : Option Nat} {vp : Value} {xs : List Int} {bm b0 : Nat} {em : Ed} {Be : Option Nat} {ve : Value} {es : List Ed} (h : Ow H0 H t T S B vp xs bm em Be ve es) (hf : Fr (· = b0) H H') (h0 : H0.size ≤ b0) (hT : ¬ T b0) (hB : B ≠ some b0) (hm : bm ≠ b0) (hE : Be ≠ some b0) : Ow H0 H' t T S B vp xs bm em Be ve es :=
 ⟨⟨h.s.m.frame hf fun b hb (e : b = b0) => hT (e ▸ hb), h.s.fr.trans' hf fun b hb (e : b = b0) => by omega, h.s.new⟩, h.p.frame hf fun b hb (e : b = b0) => hB (by rw [hb, e]), h.m.frame hf hm, h.e.frame hf fun b hb (e : b = b0) => hE (by rw [hb, e]), h.np, h.nm, h.ne⟩
theorem owB {n u v w0 r : Nat} {P : List Nat} {B Be : Option Nat} {vp ve : Value} {bm : Nat} {em : Ed} {es : List Ed} (hO : Ow H0 H t T S B vp (outI S.E P) bm em Be ve es) (hn : S.n = n) (hr : ∀ a, a < n → RootOf S.par (a + 1) r) (hP : SP S.par (u + 1) (v + 1) P) (hu : u < n) (hv : v < n) (hmo : IsMost S.E P em) (hes : Has S es) (hel : es.length < n)
  (e1 : e 1 = .int .i64 (u : Nat)) (e2 : e 2 = .int .i64 (v : Nat)) (e8 : e 8 = .int .i64 (n : Nat)) (e9 : e 9 = .pointer (some ⟨t, 0, none⟩)) (e11 : e 11 = ve) (e15 : e 15 = vp) (e17 : e 17 = .pointer (some ⟨bm, 0, none⟩)) (e19 : e 19 = .int .i64 (u : Nat)) (e20 : e 20 = .int .i64 0)
  (hQ : ∀ e' H', e' 2 = e 2 → e' 19 = .int .i64 (v : Nat) → LS H0 H' t T S → Z .normal e' H') :
  codeX Try.prog [46] (loopAt Try.f3.body 1) (blockQ 2 Z) e H := by
 have ok := hO.s.m.ok
 have hn64 := ok.n64
 obtain ⟨P0, hP0⟩ : ∃ P0, P = (u + 1) :: P0 := by
  cases P with
  | nil => cases hP.head
  | cons x q =>
   have e : x = u + 1 := by simpa using hP.head
   exact ⟨q, by rw [e]⟩
 have hPl := hO.s.m.sp_len (Ls.vtx (v := u) (by omega)) hP
 refine x_loop (fun m e' H' => ∃ (w : Nat) (P1 P2 : List Nat), P = P1 ++ (w + 1) :: P2 ∧ w < n ∧ e' 19 = .int .i64 (w : Nat) ∧ e' 20 = .int .i64 ((outI S.E P1).length : Nat) ∧ Ow H0 H' t T S B vp (outI S.E P) bm em Be ve es ∧ m = P2.length) P0.length
  ⟨u, [], P0, hP0, hu, e19, e20, hO, rfl⟩ ?_
 rintro m e1' H1 ⟨w, P1, P2, hPe, hw, i19, i20, hO1, rfl⟩ hoff
 have i1 := (hoff 1 rfl).trans e1
 have i2 := (hoff 2 rfl).trans e2
 have i8 := (hoff 8 rfl).trans e8
 have i9 := (hoff 9 rfl).trans e9
 have i11 := (hoff 11 rfl).trans e11
 have i15 := (hoff 15 rfl).trans e15
 have i17 := (hoff 17 rfl).trans e17
 have k2 : e1' 2 = e 2 := hoff 2 rfl
 clear hoff e1 e2 e8 e9 e11 e15 e17 e19 e20 hP0 hO
 have ew1 : S.E (w + 1) = none := ok.eno (by omega)
 have hxs : outI S.E P = outI S.E P1 ++ outI S.E P2 := by
  rw [hPe, outI_append]
  congr 1
  simp [outI, ew1]
 have hx1 : outI S.E (P1 ++ [w + 1]) = outI S.E P1 := by
  rw [outI_append]
  simp [outI, ew1]
 have hx2 : outI S.E ((w + 1) :: P2) = outI S.E P2 := by simp [outI, ew1]
 have hol : (outI S.E P).length ≤ 130 := Nat.le_trans (outI_len _ _) hPl
 obtain ⟨sp, cp, rfl⟩ := hO1.p.slice
 by_cases hnil : P2 = []
 ·subst hnil
  have hle : (outI S.E P1).length = (outI S.E P).length := by rw [hxs]; simp [outI]
  have hwv : w = v := by
   have := hP.last
   rw [hPe] at this
   simpa using this
  subst hwv
  rw [hle] at i20
  have t1 : ((outI S.E P).length < (outI S.E P).length) = False := by simp
  repeat' (first|(with_reducible first|refine jA ?_|(refine hK _ _ ?_;clear hK K)|refine jJ fun K hK=>?_|refine jK ?_|refine jL ?_|refine jM ?_|refine jN ?_|refine jO ?_|refine jP ?_|refine jQ ?_|(refine jB ?_;clear hK K)|(refine jC ?_;clear hK K)|refine jD ?_|refine jE ?_|refine jG ?_|refine jH ?_|refine jI ?_)|((with_reducible refine jR ?hq ?_);case hq=>rfl)|((first|(with_reducible first|refine jS fun K hK=>?_|refine jT ?_|refine jU ?_)|((with_reducible refine jV ?hy fun K hK=>?_);case hy=>rfl));simp only [go_sem, Nat.reduceEqDiff, Nat.reduceAdd, Nat.reduceMul, Nat.reduceLeDiff, Nat.reduceLT, Int.reduceLT, Int.reduceLE, Int.reduceEq, Int.reduceNeg, Int.reduceToNat, Nat.reducePow, reduceIte, reduceCtorEq, i15, i20, t1])|((with_reducible first|refine jW ?hy ?_|refine jY ?hy ?_);case hy=>rfl)|((with_reducible first|refine jX ?hy ?_|refine jZ ?hy ?_);case hy=>rfl)|((with_reducible refine jF ?hy ?_);case hy=>decide))
  exact hQ _ _ k2 i19 hO1.s
 ·rw [hPe] at hP
  obtain ⟨g, ed, w', P3, hP2, hge, hw', hends⟩ := ok.next (by omega) hP (by omega) hnil
  have hxg : outI S.E P2 = ed.id :: outI S.E P3 := by
   have : S.E (w' + 1) = none := ok.eno (by omega)
   rw [hP2]
   simp [outI, hge, this]
  obtain ⟨i, hi⟩ : ∃ i, i = (outI S.E P1).length := ⟨_, rfl⟩
  have hil : i < (outI S.E P).length := by rw [hxs, hxg, hi]; simp
  rw [← hi] at i20
  have tk : (outI S.E P).take i = outI S.E P1 := by rw [hxs, hi]; simp
  have td : (outI S.E P).drop i = outI S.E P2 := by rw [hxs, hi]; simp
  have hgi : (outI S.E P)[i]? = some ed.id := by rw [hxs, hi, hxg]; simp
  repeat' (first|(with_reducible first|refine jA ?_|(refine hK _ _ ?_;clear hK K)|refine jJ fun K hK=>?_|refine jK ?_|refine jL ?_|refine jM ?_|refine jN ?_|refine jO ?_|refine jP ?_|refine jQ ?_|(refine jB ?_;clear hK K)|(refine jC ?_;clear hK K)|refine jD ?_|refine jE ?_|refine jG ?_|refine jH ?_|refine jI ?_)|((with_reducible refine jR ?hq ?_);case hq=>rfl)|((first|(with_reducible first|refine jS fun K hK=>?_|refine jT ?_|refine jU ?_)|((with_reducible refine jV ?hy fun K hK=>?_);case hy=>rfl));simp only [go_sem, Nat.reduceEqDiff, Nat.reduceAdd, Nat.reduceMul, Nat.reduceLeDiff, Nat.reduceLT, Int.reduceLT, Int.reduceLE, Int.reduceEq, Int.reduceNeg, Int.reduceToNat, Nat.reducePow, reduceIte, reduceCtorEq, i1, i9, i15, i19, i20, hil])|((with_reducible first|refine jW ?hy ?_|refine jY ?hy ?_);case hy=>rfl)|((with_reducible first|refine jX ?hy ?_|refine jZ ?hy ?_);case hy=>rfl)|((with_reducible refine jF ?hy ?_);case hy=>decide))
  refine m_path hO1.s.m (by omega) (by omega) (hr u hu) (hr w hw) fun H2 Pa Ba wa hPa hia hBa hM2 hf2 => ?_
  have hO2 := hO1.keep hM2 hf2
  obtain rfl := ok.sp (Ls.vtx (v := u) (by omega)) hPa hP.left
  rw [hx1] at hia
  have nBa : ∀ b, Ba = some b → ¬ T b := fun b hb hx => by have := hO1.s.m.below b hx; have := hBa b hb; omega
  repeat' (first|(with_reducible first|refine jA ?_|(refine hK _ _ ?_;clear hK K)|refine jJ fun K hK=>?_|refine jK ?_|refine jL ?_|refine jM ?_|refine jN ?_|refine jO ?_|refine jP ?_|refine jQ ?_|(refine jB ?_;clear hK K)|(refine jC ?_;clear hK K)|refine jD ?_|refine jE ?_|refine jG ?_|refine jH ?_|refine jI ?_)|((with_reducible refine jR ?hq ?_);case hq=>rfl)|((first|(with_reducible first|refine jS fun K hK=>?_|refine jT ?_|refine jU ?_)|((with_reducible refine jV ?hy fun K hK=>?_);case hy=>rfl));simp only [go_sem, Nat.reduceEqDiff, Nat.reduceAdd, Nat.reduceMul, Nat.reduceLeDiff, Nat.reduceLT, Int.reduceLT, Int.reduceLE, Int.reduceEq, Int.reduceNeg, Int.reduceToNat, Nat.reducePow, reduceIte, reduceCtorEq, i2, i9, i19])|((with_reducible first|refine jW ?hy ?_|refine jY ?hy ?_);case hy=>rfl)|((with_reducible first|refine jX ?hy ?_|refine jZ ?hy ?_);case hy=>rfl)|((with_reducible refine jF ?hy ?_);case hy=>decide))
  refine m_path hO2.s.m (by omega) (by omega) (hr w hw) (hr v hv) fun H3 Pb Bb wb hPb hib hBb hM3 hf3 => ?_
  have hO3 := hO2.keep hM3 hf3
  obtain rfl := ok.sp (Ls.vtx (v := w) (by omega)) hPb hP.right
  rw [hx2] at hib
  have hia3 := hia.frame hf3 nBa
  have nBb : ∀ b, Bb = some b → ¬ T b := fun b hb hx => by have := hO2.s.m.below b hx; have := hBb b hb; omega
  obtain ⟨gp, cp', _, rfl, hv', _, _, hcp⟩ := hO3.p.row (by intro h; rw [h] at hil; simp at hil)
  simp only [Value.slice.injEq] at hv'
  obtain ⟨rfl, _, rfl⟩ := hv'
  have z0 : ((0 : Int) != 0) = false := rfl
  have d1 := IR.sub hO3.p (a := 0) (m := i) (by omega)
  have d2 := IR.sub hO3.p (a := i) (m := (outI S.E P).length - i) (by omega)
  rw [List.drop_zero, tk] at d1
  rw [td, List.take_of_length_le (by rw [← td]; simp)] at d2
  have y1 : (i ≤ cp) = True := by simp; omega
  have y2 : (i ≤ (outI S.E P).length) = True := by simp; omega
  have y3 : ((outI S.E P).length ≤ cp) = True := by simp; omega
  have y4 : (cp = i) = False := by simp; omega
  have y5 : (i = cp) = False := by simp; omega
  have y6 : (cp - i = 0) = False := by simp; omega
  repeat' (first|(with_reducible first|refine jA ?_|(refine hK _ _ ?_;clear hK K)|refine jJ fun K hK=>?_|refine jK ?_|refine jL ?_|refine jM ?_|refine jN ?_|refine jO ?_|refine jP ?_|refine jQ ?_|(refine jB ?_;clear hK K)|(refine jC ?_;clear hK K)|refine jD ?_|refine jE ?_|refine jG ?_|refine jH ?_|refine jI ?_)|((with_reducible refine jR ?hq ?_);case hq=>rfl)|((first|(with_reducible first|refine jS fun K hK=>?_|refine jT ?_|refine jU ?_)|((with_reducible refine jV ?hy fun K hK=>?_);case hy=>rfl));simp only [go_sem, Nat.reduceEqDiff, Nat.reduceAdd, Nat.reduceMul, Nat.reduceLeDiff, Nat.reduceLT, Int.reduceLT, Int.reduceLE, Int.reduceEq, Int.reduceNeg, Int.reduceToNat, Nat.reducePow, reduceIte, reduceCtorEq, i15, i20, ite_self, Nat.sub_zero, Nat.zero_add, y1, y2, y3, y4, y5, y6, Nat.le_refl])|((with_reducible first|refine jW ?hy ?_|refine jY ?hy ?_);case hy=>rfl)|((with_reducible first|refine jX ?hy ?_|refine jZ ?hy ?_);case hy=>rfl)|((with_reducible refine jF ?hy ?_);case hy=>decide))
  have hl1 : (outI S.E P1).length ≤ 130 := by omega
  have hl2 : (outI S.E P2).length ≤ 130 := by rw [← td]; simp; omega
  refine Pkisthmuslaw05.same_ok hia3.rds d1 (by omega) ?_
  rw [decide_eq_true rfl]
  repeat' (first|(with_reducible first|refine jA ?_|(refine hK _ _ ?_;clear hK K)|refine jJ fun K hK=>?_|refine jK ?_|refine jL ?_|refine jM ?_|refine jN ?_|refine jO ?_|refine jP ?_|refine jQ ?_|(refine jB ?_;clear hK K)|(refine jC ?_;clear hK K)|refine jD ?_|refine jE ?_|refine jG ?_|refine jH ?_|refine jI ?_)|((with_reducible refine jR ?hq ?_);case hq=>rfl)|((first|(with_reducible first|refine jS fun K hK=>?_|refine jT ?_|refine jU ?_)|((with_reducible refine jV ?hy fun K hK=>?_);case hy=>rfl));simp only [go_sem, Nat.reduceEqDiff, Nat.reduceAdd, Nat.reduceMul, Nat.reduceLeDiff, Nat.reduceLT, Int.reduceLT, Int.reduceLE, Int.reduceEq, Int.reduceNeg, Int.reduceToNat, Nat.reducePow, reduceIte, reduceCtorEq, i15, i20, ite_self, Nat.sub_zero, Nat.zero_add, y1, y2, y3, y4, y5, y6, Nat.le_refl])|((with_reducible first|refine jW ?hy ?_|refine jY ?hy ?_);case hy=>rfl)|((with_reducible first|refine jX ?hy ?_|refine jZ ?hy ?_);case hy=>rfl)|((with_reducible refine jF ?hy ?_);case hy=>decide))
  refine Pkisthmuslaw05.same_ok hib.rds d2 (by omega) ?_
  rw [decide_eq_true rfl]
  obtain ⟨k0, hk0, hk1⟩ := idL_of ((hes ed).1 ⟨g, hge⟩) fun y hy hyi => by
   obtain ⟨g', hg'⟩ := (hes y).2 hy
   have := ok.uq g' g y ed hg' hge hyi
   rw [this, hge] at hg'
   exact (Option.some.inj hg').symm
  have hkl := (List.getElem?_eq_some_iff.1 hk1).1
  have hOe := hO3.e
  obtain ⟨se, ce, rfl⟩ := hOe.slice
  repeat' (first|(with_reducible first|refine jA ?_|(refine hK _ _ ?_;clear hK K)|refine jJ fun K hK=>?_|refine jK ?_|refine jL ?_|refine jM ?_|refine jN ?_|refine jO ?_|refine jP ?_|refine jQ ?_|(refine jB ?_;clear hK K)|(refine jC ?_;clear hK K)|refine jD ?_|refine jE ?_|refine jG ?_|refine jH ?_|refine jI ?_)|((with_reducible refine jR ?hq ?_);case hq=>rfl)|((first|(with_reducible first|refine jS fun K hK=>?_|refine jT ?_|refine jU ?_)|((with_reducible refine jV ?hy fun K hK=>?_);case hy=>rfl));simp only [go_sem, Nat.reduceEqDiff, Nat.reduceAdd, Nat.reduceMul, Nat.reduceLeDiff, Nat.reduceLT, Int.reduceLT, Int.reduceLE, Int.reduceEq, Int.reduceNeg, Int.reduceToNat, Nat.reducePow, reduceIte, reduceCtorEq, z0, i20])|((with_reducible first|refine jW ?hy ?_|refine jY ?hy ?_);case hy=>rfl)|((with_reducible first|refine jX ?hy ?_|refine jZ ?hy ?_);case hy=>rfl)|((with_reducible refine jF ?hy ?_);case hy=>decide))
  have tail : ∀ (e' : Env) (H4 : Heap), e' 8 = .int .i64 (n : Nat) → e' 11 = .slice se es.length ce → e' 15 = .slice (some ⟨gp, 0, none⟩) (outI S.E P).length cp → e' 19 = .int .i64 (w : Nat) → e' 20 = .int .i64 (i : Nat) → Ow H0 H4 t T S (some gp) (.slice (some ⟨gp, 0, none⟩) (outI S.E P).length cp) (outI S.E P) bm em Be (.slice se es.length ce) es → K e' H4 := by
   intro e' H4 j8 j11 j15 j19 j20 hO4
   refine hK _ _ ?_
   clear hK K
   have cp4 := hO4.p.cell hgi
   repeat' (first|(with_reducible first|refine jA ?_|(refine hK _ _ ?_;clear hK K)|refine jJ fun K hK=>?_|refine jK ?_|refine jL ?_|refine jM ?_|refine jN ?_|refine jO ?_|refine jP ?_|refine jQ ?_|(refine jB ?_;clear hK K)|(refine jC ?_;clear hK K)|refine jD ?_|refine jE ?_|refine jG ?_|refine jH ?_|refine jI ?_)|((with_reducible refine jR ?hq ?_);case hq=>rfl)|((first|(with_reducible first|refine jS fun K hK=>?_|refine jT ?_|refine jU ?_)|((with_reducible refine jV ?hy fun K hK=>?_);case hy=>rfl));simp only [go_sem, Nat.reduceEqDiff, Nat.reduceAdd, Nat.reduceMul, Nat.reduceLeDiff, Nat.reduceLT, Int.reduceLT, Int.reduceLE, Int.reduceEq, Int.reduceNeg, Int.reduceToNat, Nat.reducePow, reduceIte, reduceCtorEq, j11, j15, j20, hil, cp4])|((with_reducible first|refine jW ?hy ?_|refine jY ?hy ?_);case hy=>rfl)|((with_reducible first|refine jX ?hy ?_|refine jZ ?hy ?_);case hy=>rfl)|((with_reducible refine jF ?hy ?_);case hy=>decide))
   refine id_ok hO4.e (by omega) ?_
   rw [hk0]
   simp only [idI]
   obtain ⟨ge, ce', rfl, hv, _, hc⟩ := hO4.e.at edC_len hk1
   simp only [Value.slice.injEq] at hv
   obtain ⟨rfl, _, rfl⟩ := hv
   have c1 := hc 1 (.int .i64 ed.u) rfl
   have c2 := hc 2 (.int .i64 ed.v) rfl
   have t1 : ((k0 : Int) < 0) = False := by simp
   have ea : IntKind.i64.wrap (ed.u + ed.v) = ed.u + ed.v := by rw [wrap_i64] <;> omega
   have eb : IntKind.i64.wrap (ed.u + ed.v - (w : Int)) = (w' : Nat) := by
    have : ed.u + ed.v - (w : Int) = (w' : Nat) := by omega
    rw [this, wrap_i64] <;> omega
   have t2 : ((w' : Int) < 0) = False := by simp
   have t3 : ((n : Int) ≤ (w' : Int)) = False := by simp; omega
   have t3' : (n ≤ w') = False := by simp; omega
   have ew : IntKind.i64.wrap ((i : Int) + 1) = ((i + 1 : Nat) : Int) := by rw [wrap_i64] <;> omega
   repeat' (first|(with_reducible first|refine jA ?_|(refine hK _ _ ?_;clear hK K)|refine jJ fun K hK=>?_|refine jK ?_|refine jL ?_|refine jM ?_|refine jN ?_|refine jO ?_|refine jP ?_|refine jQ ?_|(refine jB ?_;clear hK K)|(refine jC ?_;clear hK K)|refine jD ?_|refine jE ?_|refine jG ?_|refine jH ?_|refine jI ?_)|((with_reducible refine jR ?hq ?_);case hq=>rfl)|((first|(with_reducible first|refine jS fun K hK=>?_|refine jT ?_|refine jU ?_)|((with_reducible refine jV ?hy fun K hK=>?_);case hy=>rfl));simp only [go_sem, Nat.reduceEqDiff, Nat.reduceAdd, Nat.reduceMul, Nat.reduceLeDiff, Nat.reduceLT, Int.reduceLT, Int.reduceLE, Int.reduceEq, Int.reduceNeg, Int.reduceToNat, Nat.reducePow, reduceIte, reduceCtorEq, j8, j11, j19, j20, hkl, c1, c2, t1, ea, eb, t2, t3, t3', ew])|((with_reducible first|refine jW ?hy ?_|refine jY ?hy ?_);case hy=>rfl)|((with_reducible first|refine jX ?hy ?_|refine jZ ?hy ?_);case hy=>rfl)|((with_reducible refine jF ?hy ?_);case hy=>decide))
   refine loop_normal (m' := P3.length) (by rw [hP2]; simp; omega) ⟨w', P1 ++ [w + 1, g], P3, by rw [hPe, hP2]; simp, by omega, rfl, ?_, hO4, rfl⟩
   show Value.int .i64 ((i + 1 : Nat) : Int) = _
   have : outI S.E (P1 ++ [w + 1, g]) = outI S.E P1 ++ [ed.id] := by
    rw [outI_append]
    simp [outI, ew1, hge]
   rw [this, List.length_append, ← hi]
   rfl
  have hfin : ∀ b, Be = some b → True := fun _ _ => trivial
  by_cases hi0 : i = 0
  ·have q1 : ((0 : Int) < (i : Nat)) = False := by simp; omega
   have q1' : (0 < i) = False := by simp; omega
   simp only [q1, q1', decide_false]
   repeat' (first|(with_reducible first|refine jA ?_|(refine hK _ _ ?_;clear hK K)|refine jJ fun K hK=>?_|refine jK ?_|refine jL ?_|refine jM ?_|refine jN ?_|refine jO ?_|refine jP ?_|refine jQ ?_|(refine jB ?_;clear hK K)|(refine jC ?_;clear hK K)|refine jD ?_|refine jE ?_|refine jG ?_|refine jH ?_|refine jI ?_)|((with_reducible refine jR ?hq ?_);case hq=>rfl)|((first|(with_reducible first|refine jS fun K hK=>?_|refine jT ?_|refine jU ?_)|((with_reducible refine jV ?hy fun K hK=>?_);case hy=>rfl));simp only [go_sem, Nat.reduceEqDiff, Nat.reduceAdd, Nat.reduceMul, Nat.reduceLeDiff, Nat.reduceLT, Int.reduceLT, Int.reduceLE, Int.reduceEq, Int.reduceNeg, Int.reduceToNat, Nat.reducePow, reduceIte, reduceCtorEq])|((with_reducible first|refine jW ?hy ?_|refine jY ?hy ?_);case hy=>rfl)|((with_reducible first|refine jX ?hy ?_|refine jZ ?hy ?_);case hy=>rfl)|((with_reducible refine jF ?hy ?_);case hy=>decide))
   refine tail _ _ ?_ ?_ ?_ ?_ ?_ hO3
   ·exact i8
   ·exact i11
   ·exact i15
   ·exact i19
   ·exact i20
  ·have q1 : ((0 : Int) < (i : Nat)) = True := by simp; omega
   have q1' : (0 < i) = True := by simp; omega
   simp only [q1, q1', decide_true]
   have huw : u ≠ w := fun e => by
    subst e
    have h1 := hP.head
    have h2 := hP.nd
    cases P1 with
    | nil => simp [outI] at hi; exact hi0 hi
    | cons x q =>
     have : x = u + 1 := by simpa using h1
     subst this
     simp at h2
   have hwv : w ≠ v := fun e => by
    subst e
    have h1 := hP.right.last
    have h2 := hP.right.nd
    rw [List.nodup_cons] at h2
    cases P2 with
    | nil => exact hnil rfl
    | cons x q =>
     rw [List.getLast?_cons_cons] at h1
     exact h2.1 (List.mem_of_getLast? h1)
   repeat' (first|(with_reducible first|refine jA ?_|(refine hK _ _ ?_;clear hK K)|refine jJ fun K hK=>?_|refine jK ?_|refine jL ?_|refine jM ?_|refine jN ?_|refine jO ?_|refine jP ?_|refine jQ ?_|(refine jB ?_;clear hK K)|(refine jC ?_;clear hK K)|refine jD ?_|refine jE ?_|refine jG ?_|refine jH ?_|refine jI ?_)|((with_reducible refine jR ?hq ?_);case hq=>rfl)|((first|(with_reducible first|refine jS fun K hK=>?_|refine jT ?_|refine jU ?_)|((with_reducible refine jV ?hy fun K hK=>?_);case hy=>rfl));simp only [go_sem, Nat.reduceEqDiff, Nat.reduceAdd, Nat.reduceMul, Nat.reduceLeDiff, Nat.reduceLT, Int.reduceLT, Int.reduceLE, Int.reduceEq, Int.reduceNeg, Int.reduceToNat, Nat.reducePow, reduceIte, reduceCtorEq, i1, i9, i19])|((with_reducible first|refine jW ?hy ?_|refine jY ?hy ?_);case hy=>rfl)|((with_reducible first|refine jX ?hy ?_|refine jZ ?hy ?_);case hy=>rfl)|((with_reducible refine jF ?hy ?_);case hy=>decide))
   refine m_most hO3.s.m (by omega) (by omega) huw (hr u hu) (hr w hw) fun H4 Pc ea hPc hma hM4 hf4 => ?_
   have hO4 := hO3.keep hM4 hf4
   obtain rfl := ok.sp (Ls.vtx (v := u) (by omega)) hPc hP.left
   simp only [Ed.val]
   repeat' (first|(with_reducible first|refine jA ?_|(refine hK _ _ ?_;clear hK K)|refine jJ fun K hK=>?_|refine jK ?_|refine jL ?_|refine jM ?_|refine jN ?_|refine jO ?_|refine jP ?_|refine jQ ?_|(refine jB ?_;clear hK K)|(refine jC ?_;clear hK K)|refine jD ?_|refine jE ?_|refine jG ?_|refine jH ?_|refine jI ?_)|((with_reducible refine jR ?hq ?_);case hq=>rfl)|((first|(with_reducible first|refine jS fun K hK=>?_|refine jT ?_|refine jU ?_)|((with_reducible refine jV ?hy fun K hK=>?_);case hy=>rfl));simp only [go_sem, Nat.reduceEqDiff, Nat.reduceAdd, Nat.reduceMul, Nat.reduceLeDiff, Nat.reduceLT, Int.reduceLT, Int.reduceLE, Int.reduceEq, Int.reduceNeg, Int.reduceToNat, Nat.reducePow, reduceIte, reduceCtorEq, i2, i9, i19, hcell_push, hcell_top, okW_push, okW_top, hcell_hset_ne, hcell_hset_off, hcell_hset_eq, okW_hset, hset_size, Array.size_push, Nat.lt_add_one, ne_add_one, add_one_ne, Nat.add_assoc, add_same, add_lt_same, Nat.reduceEqDiff, lt_add_k, add_k_ne, ne_add_k])|((with_reducible first|refine jW ?hy ?_|refine jY ?hy ?_);case hy=>rfl)|((with_reducible first|refine jX ?hy ?_|refine jZ ?hy ?_);case hy=>rfl)|((with_reducible refine jF ?hy ?_);case hy=>decide))
   obtain ⟨b5, f45⟩ := most_box (H := H4) ea (T0 := 31)
   generalize hset _ _ _ = H5 at b5 f45 ⊢
   have hO5 := hO4.grow f45
   have nb5 : ¬ T H4.size := fun hx => by have := hO4.s.m.below _ hx; omega
   refine m_most hO5.s.m (by omega) (by omega) hwv (hr w hw) (hr v hv) fun H6 Pd eb hPd hmb hM6 hf6 => ?_
   have hO6 := hO5.keep hM6 hf6
   obtain rfl := ok.sp (Ls.vtx (v := w) (by omega)) hPd hP.right
   have b6 := b5.frame hf6 nb5
   have hz6 := hf6.size
   have l5 := b5.lt
   simp only [Ed.val]
   have n1 : ¬ H4.size = H6.size := by omega
   have n2 : ¬ H6.size = H4.size := by omega
   have d0 := b6.cellOf (i := 0) rfl
   have d1' := b6.cellOf (i := 1) rfl
   have d2' := b6.cellOf (i := 2) rfl
   have d3 := b6.cellOf (i := 3) rfl
   have l6 : H4.size < H6.size := by omega
   have hhm := IsMost.join ok.uq hma hmb
   have hmem : ∀ y, y ∈ (P1 ++ [w + 1]) ++ (w + 1) :: P2 ↔ y ∈ P := fun y => by
    rw [hPe]; simp only [List.mem_append, List.mem_cons, List.not_mem_nil, or_false]
    constructor
    ·rintro ((h | h) | h | h)
     ·exact .inl h
     ·exact .inr (.inl h)
     ·exact .inr (.inl h)
     ·exact .inr (.inr h)
    ·rintro (h | h | h)
     ·exact .inl (.inl h)
     ·exact .inl (.inr h)
     ·exact .inr (.inr h)
   have hem := hhm.uniq hmem hmo
   repeat' (first|(with_reducible first|refine jA ?_|(refine hK _ _ ?_;clear hK K)|refine jJ fun K hK=>?_|refine jK ?_|refine jL ?_|refine jM ?_|refine jN ?_|refine jO ?_|refine jP ?_|refine jQ ?_|(refine jB ?_;clear hK K)|(refine jC ?_;clear hK K)|refine jD ?_|refine jE ?_|refine jG ?_|refine jH ?_|refine jI ?_)|((with_reducible refine jR ?hq ?_);case hq=>rfl)|((first|(with_reducible first|refine jS fun K hK=>?_|refine jT ?_|refine jU ?_)|((with_reducible refine jV ?hy fun K hK=>?_);case hy=>rfl));simp only [go_sem, Nat.reduceEqDiff, Nat.reduceAdd, Nat.reduceMul, Nat.reduceLeDiff, Nat.reduceLT, Int.reduceLT, Int.reduceLE, Int.reduceEq, Int.reduceNeg, Int.reduceToNat, Nat.reducePow, reduceIte, reduceCtorEq, n1, n2, l6, d0, d1', d2', d3, hcell_push, hcell_top, okW_push, okW_top, hcell_hset_ne, hcell_hset_off, hcell_hset_eq, okW_hset, hset_size, Array.size_push, Nat.lt_add_one, ne_add_one, add_one_ne, Nat.add_assoc, add_same, add_lt_same, Nat.reduceEqDiff, lt_add_k, add_k_ne, ne_add_k])|((with_reducible first|refine jW ?hy ?_|refine jY ?hy ?_);case hy=>rfl)|((with_reducible first|refine jX ?hy ?_|refine jZ ?hy ?_);case hy=>rfl)|((with_reducible refine jF ?hy ?_);case hy=>decide))
   obtain ⟨b7, f67⟩ := most_box (H := H6) eb (T0 := 31)
   generalize hset _ _ _ = H7 at b7 f67 ⊢
   have hO7 := hO6.grow f67
   have b67 := b6.frame f67 fun h => h
   refine lheavier_ok (a := eb) (b := ea) fun H8 f78 => ?_
   have hO8 := hO7.grow f78
   have b8 := b67.frame f78 fun h => h
   have bb8 := b7.frame f78 fun h => h
   have g0 := bb8.cellOf (i := 0) rfl
   have g1 := bb8.cellOf (i := 1) rfl
   have g2 := bb8.cellOf (i := 2) rfl
   have g3 := bb8.cellOf (i := 3) rfl
   have u0 := b8.okW (i := 0) (by simp [Ed.cells])
   have u1 := b8.okW (i := 1) (by simp [Ed.cells])
   have u2 := b8.okW (i := 2) (by simp [Ed.cells])
   have u3 := b8.okW (i := 3) (by simp [Ed.cells])
   have m0 := hO8.m.cellOf (i := 0) rfl
   have m1 := hO8.m.cellOf (i := 1) rfl
   have m2 := hO8.m.cellOf (i := 2) rfl
   have m3 := hO8.m.cellOf (i := 3) rfl
   have lm := hO4.m.lt
   have n3 : ¬ H4.size = bm := by omega
   have n4 : ¬ bm = H4.size := by omega
   have lp := hO4.p.lt rfl
   have h04 := hO4.s.fr.size
   have hBe : Be ≠ some H4.size := fun e => by have := hO4.e.lt e; omega
   have a0 := b8.cellOf (i := 0) rfl
   have a1 := b8.cellOf (i := 1) rfl
   have a2 := b8.cellOf (i := 2) rfl
   have a3 := b8.cellOf (i := 3) rfl
   by_cases hh : heavy eb ea = true
   ·rw [if_pos hh] at hem
    rw [hh]
    subst hem
    obtain ⟨b9, f9⟩ := store4 b8 (.int .i64 eb.id) (.int .i64 eb.u) (.int .i64 eb.v) (.int .i64 eb.w)
    have hO9 := hO8.frameB f9 h04 nb5 (fun e => by have := Option.some.inj e; omega) (by omega) hBe
    repeat' (first|(with_reducible first|refine jA ?_|(refine hK _ _ ?_;clear hK K)|refine jJ fun K hK=>?_|refine jK ?_|refine jL ?_|refine jM ?_|refine jN ?_|refine jO ?_|refine jP ?_|refine jQ ?_|(refine jB ?_;clear hK K)|(refine jC ?_;clear hK K)|refine jD ?_|refine jE ?_|refine jG ?_|refine jH ?_|refine jI ?_)|((with_reducible refine jR ?hq ?_);case hq=>rfl)|((first|(with_reducible first|refine jS fun K hK=>?_|refine jT ?_|refine jU ?_)|((with_reducible refine jV ?hy fun K hK=>?_);case hy=>rfl));simp only [go_sem, Nat.reduceEqDiff, Nat.reduceAdd, Nat.reduceMul, Nat.reduceLeDiff, Nat.reduceLT, Int.reduceLT, Int.reduceLE, Int.reduceEq, Int.reduceNeg, Int.reduceToNat, Nat.reducePow, reduceIte, reduceCtorEq, z0, i17, g0, g1, g2, g3, u0, u1, u2, u3, okW_hset, n3, n4, m0, m1, m2, m3, hcell_push, hcell_top, okW_push, okW_top, hcell_hset_ne, hcell_hset_off, hcell_hset_eq, okW_hset, hset_size, Array.size_push, Nat.lt_add_one, ne_add_one, add_one_ne, Nat.add_assoc, add_same, add_lt_same, Nat.reduceEqDiff, lt_add_k, add_k_ne, ne_add_k])|((with_reducible first|refine jW ?hy ?_|refine jY ?hy ?_);case hy=>rfl)|((with_reducible first|refine jX ?hy ?_|refine jZ ?hy ?_);case hy=>rfl)|((with_reducible refine jF ?hy ?_);case hy=>decide))
    refine edge_eq (op := .neq) (ox := .tmp 199) (oy := .tmp 200) (a := eb) (b := eb) ?_
    simp only [decide_true, Bool.not_true]
    repeat' (first|(with_reducible first|refine jA ?_|(refine hK _ _ ?_;clear hK K)|refine jJ fun K hK=>?_|refine jK ?_|refine jL ?_|refine jM ?_|refine jN ?_|refine jO ?_|refine jP ?_|refine jQ ?_|(refine jB ?_;clear hK K)|(refine jC ?_;clear hK K)|refine jD ?_|refine jE ?_|refine jG ?_|refine jH ?_|refine jI ?_)|((with_reducible refine jR ?hq ?_);case hq=>rfl)|((first|(with_reducible first|refine jS fun K hK=>?_|refine jT ?_|refine jU ?_)|((with_reducible refine jV ?hy fun K hK=>?_);case hy=>rfl));simp only [go_sem, Nat.reduceEqDiff, Nat.reduceAdd, Nat.reduceMul, Nat.reduceLeDiff, Nat.reduceLT, Int.reduceLT, Int.reduceLE, Int.reduceEq, Int.reduceNeg, Int.reduceToNat, Nat.reducePow, reduceIte, reduceCtorEq])|((with_reducible first|refine jW ?hy ?_|refine jY ?hy ?_);case hy=>rfl)|((with_reducible first|refine jX ?hy ?_|refine jZ ?hy ?_);case hy=>rfl)|((with_reducible refine jF ?hy ?_);case hy=>decide))
    refine tail _ _ ?_ ?_ ?_ ?_ ?_ hO9
    ·exact i8
    ·exact i11
    ·exact i15
    ·exact i19
    ·exact i20
   ·rw [if_neg hh] at hem
    rw [Bool.eq_false_iff.2 hh]
    subst hem
    repeat' (first|(with_reducible first|refine jA ?_|(refine hK _ _ ?_;clear hK K)|refine jJ fun K hK=>?_|refine jK ?_|refine jL ?_|refine jM ?_|refine jN ?_|refine jO ?_|refine jP ?_|refine jQ ?_|(refine jB ?_;clear hK K)|(refine jC ?_;clear hK K)|refine jD ?_|refine jE ?_|refine jG ?_|refine jH ?_|refine jI ?_)|((with_reducible refine jR ?hq ?_);case hq=>rfl)|((first|(with_reducible first|refine jS fun K hK=>?_|refine jT ?_|refine jU ?_)|((with_reducible refine jV ?hy fun K hK=>?_);case hy=>rfl));simp only [go_sem, Nat.reduceEqDiff, Nat.reduceAdd, Nat.reduceMul, Nat.reduceLeDiff, Nat.reduceLT, Int.reduceLT, Int.reduceLE, Int.reduceEq, Int.reduceNeg, Int.reduceToNat, Nat.reducePow, reduceIte, reduceCtorEq, z0, i17, a0, a1, a2, a3, m0, m1, m2, m3])|((with_reducible first|refine jW ?hy ?_|refine jY ?hy ?_);case hy=>rfl)|((with_reducible first|refine jX ?hy ?_|refine jZ ?hy ?_);case hy=>rfl)|((with_reducible refine jF ?hy ?_);case hy=>decide))
    refine edge_eq (op := .neq) (ox := .tmp 199) (oy := .tmp 200) (a := ea) (b := ea) ?_
    simp only [decide_true, Bool.not_true]
    repeat' (first|(with_reducible first|refine jA ?_|(refine hK _ _ ?_;clear hK K)|refine jJ fun K hK=>?_|refine jK ?_|refine jL ?_|refine jM ?_|refine jN ?_|refine jO ?_|refine jP ?_|refine jQ ?_|(refine jB ?_;clear hK K)|(refine jC ?_;clear hK K)|refine jD ?_|refine jE ?_|refine jG ?_|refine jH ?_|refine jI ?_)|((with_reducible refine jR ?hq ?_);case hq=>rfl)|((first|(with_reducible first|refine jS fun K hK=>?_|refine jT ?_|refine jU ?_)|((with_reducible refine jV ?hy fun K hK=>?_);case hy=>rfl));simp only [go_sem, Nat.reduceEqDiff, Nat.reduceAdd, Nat.reduceMul, Nat.reduceLeDiff, Nat.reduceLT, Int.reduceLT, Int.reduceLE, Int.reduceEq, Int.reduceNeg, Int.reduceToNat, Nat.reducePow, reduceIte, reduceCtorEq])|((with_reducible first|refine jW ?hy ?_|refine jY ?hy ?_);case hy=>rfl)|((with_reducible first|refine jX ?hy ?_|refine jZ ?hy ?_);case hy=>rfl)|((with_reducible refine jF ?hy ?_);case hy=>decide))
    refine tail _ _ ?_ ?_ ?_ ?_ ?_ hO8
    ·exact i8
    ·exact i11
    ·exact i15
    ·exact i19
    ·exact i20
end
end Go.Proofs.Ytoplhfhjokjbiaa
namespace Go.Li
open Go Go.Hp
set_option linter.unusedVariables false
theorem Adj.root {par : Par} {x y r : Nat} (h : Adj par x y) (hr : RootOf par x r) : RootOf par y r := by
 rcases h with ⟨h1, h2⟩ | ⟨h1, h2⟩
 ·have := (RootOf.up (par := par) (h := x) (r := r) (by rw [h1]; exact h2)).1 hr
  rw [h1] at this; exact this
 ·exact (RootOf.up (par := par) (h := y) (r := r) (by rw [h1]; exact h2)).2 (by rw [h1]; exact hr)
section
variable {S : Ls} {es : List Ed}
theorem Ls.Ok.ends (k : S.Ok) (hs : Has S es) : ∀ x ∈ es, ∃ p q : Nat, x.u = p ∧ x.v = q ∧ p < S.n ∧ q < S.n := fun x hx => by
 obtain ⟨g, hg⟩ := (hs x).2 hx
 obtain ⟨q1, q2, q3, q4, q5⟩ := k.en g x hg
 exact ⟨x.u.toNat, x.v.toNat, by omega, by omega, by omega, by omega⟩
theorem Ls.Ok.rch_root (k : S.Ok) (hs : Has S es) {a b r : Nat} (h : RchL (endsL es) a b) (hr : RootOf S.par (a + 1) r) : RootOf S.par (b + 1) r := by
 induction h with
 | refl => exact hr
 | @step x y _ e ih =>
  have key : ∀ p q, (p, q) ∈ endsL es → ∃ g, Adj S.par (p + 1) g ∧ Adj S.par g (q + 1) ∧ Adj S.par (q + 1) g ∧ Adj S.par g (p + 1) := fun p q hm => by
   obtain ⟨x, hx, he⟩ := List.mem_map.1 hm
   obtain ⟨g, hg⟩ := (hs x).2 hx
   simp only [Prod.mk.injEq] at he
   have h1 := k.over (a := p + 1) hg (.inl (by omega))
   have h2 := k.over (a := q + 1) hg (.inr (by omega))
   exact ⟨g, h1.1, h2.2, h2.1, h1.2⟩
  rcases e with e | e
  ·obtain ⟨g, h1, h2, _, _⟩ := key _ _ e
   exact h2.root (h1.root ih)
  ·obtain ⟨g, _, _, h1, h2⟩ := key _ _ e
   exact h2.root (h1.root ih)
theorem Ls.Ok.wk_rch (k : S.Ok) (hs : Has S es) : ∀ (m : Nat) (P : List Nat) (a b : Nat), P.length ≤ m → Wk S.par ((a + 1) :: P) → ((a + 1) :: P).getLast? = some (b + 1) → a < S.n → b < S.n → RchL (endsL es) a b
 | m, [], a, b, _, _, h, _, _ => by
  have : a = b := by simpa using h
  subst this
  exact .refl _
 | m, [g], a, b, hm, hw, h, ha, hb => by
  have hE := k.vx (a + 1) g (by omega) (by omega) hw.1
  have : g = b + 1 := by simpa using h
  rw [this, k.eno (by omega)] at hE
  cases hE
 | m + 1, g :: y :: P, a, b, hm, hw, h, ha, hb => by
  have hE := k.vx (a + 1) g (by omega) (by omega) hw.1
  obtain ⟨e, he⟩ := Option.isSome_iff_exists.1 hE
  obtain ⟨q1, q2, q3, q4, q5⟩ := k.en g e he
  have ha1 := (k.ad g e (a + 1) he).1 hw.1.symm
  have hy := (k.ad g e y he).1 hw.2.1
  obtain ⟨z, hz⟩ : ∃ z, y = z + 1 := ⟨y - 1, by omega⟩
  subst hz
  have ih := k.wk_rch hs m P z b (by simp at hm; omega) hw.2.2 (by rw [List.getLast?_cons_cons, List.getLast?_cons_cons] at h; exact h) (by omega) hb
  have hmem : (e.u.toNat, e.v.toNat) ∈ endsL es := List.mem_map.2 ⟨e, (hs e).1 ⟨g, he⟩, rfl⟩
  by_cases haz : a = z
  ·rw [haz]; exact ih
  ·refine Rw.trans (.step (.refl a) ?_) ih
   rcases ha1 with ha1 | ha1
   ·rcases hy with hy | hy
    ·omega
    ·exact .inl (by rw [show a = e.u.toNat by omega, show z = e.v.toNat by omega]; exact hmem)
   ·rcases hy with hy | hy
    ·exact .inr (by rw [show a = e.v.toNat by omega, show z = e.u.toNat by omega]; exact hmem)
    ·omega
theorem Ls.Ok.root_rch (k : S.Ok) (hs : Has S es) {a b r : Nat} (ha : a < S.n) (hb : b < S.n) (hra : RootOf S.par (a + 1) r) (hrb : RootOf S.par (b + 1) r) : RchL (endsL es) a b := by
 obtain ⟨P, hP, _⟩ := SP.exists (by omega) hra hrb
 obtain ⟨h1, h2, h3, h4⟩ := hP
 cases P with
 | nil => cases h1
 | cons x q =>
  have e : x = a + 1 := by simpa using h1
  subst e
  exact k.wk_rch hs _ q a b (Nat.le_refl _) h4 h2 ha hb
theorem Ls.Ok.rooted (k : S.Ok) {a : Nat} (ha : a < S.n) : ∃ r0, RootOf S.par (a + 1) (r0 + 1) ∧ r0 < S.n := by
 obtain ⟨l, hl⟩ := k.ac (a + 1) (Ls.vtx ha)
 obtain ⟨r, hr⟩ : ∃ r, l.getLast? = some r := by
  cases h : l.getLast? with
  | none => rw [List.getLast?_eq_none_iff] at h; exact absurd h hl.ne
  | some y => exact ⟨y, rfl⟩
 obtain ⟨r0, rfl, h0⟩ := k.root_vtx (Ls.vtx ha) ⟨l, hl, hr⟩
 exact ⟨r0, ⟨l, hl, hr⟩, h0⟩
theorem outI_nodup {E : Es} (hu : Uniq E) : ∀ {P : List Nat}, P.Nodup → (outI E P).Nodup
 | [], _ => .nil
 | x :: P, h => by
  rw [List.nodup_cons] at h
  have ih := outI_nodup hu h.2
  cases hx : E x with
  | none => simpa [outI, hx] using ih
  | some e =>
   have : outI E (x :: P) = e.id :: outI E P := by simp [outI, hx]
   rw [this, List.nodup_cons]
   refine ⟨fun hm => ?_, ih⟩
   obtain ⟨y, hy, he⟩ := List.mem_filterMap.1 hm
   cases hE : E y with
   | none => rw [hE] at he; cases he
   | some e' =>
    rw [hE] at he
    have : e'.id = e.id := by simpa using he
    have := hu y x e' e hE hx this
    exact h.1 (this ▸ hy)
end
end Go.Li
namespace Go.Proofs.Ytoplhfhjokjbiaa
open Go Go.Hp Go.Li
set_option linter.all false
set_option maxRecDepth 100000
set_option maxHeartbeats 3200000
section
variable {H0 H : Heap} {e : Env} {Z : HX → Env → Heap → Prop} {t : Nat} {T : Nat → Prop} {S : Ls}
theorem bwA {n u v : Nat} {P : List Nat} {B Be : Option Nat} {vp ve : Value} {bm : Nat} {em : Ed} {es : List Ed} (hO : Ow H0 H t T S B vp (outI S.E P) bm em Be ve es) (hn : S.n = n) (hP : SP S.par (u + 1) (v + 1) P) (hu : u < n) (hv : v < n) (hmo : ∀ g ∈ P, ∀ ed, S.E g = some ed → heavy ed em = false) (hes : Has S es) (hel : es.length ≤ 1000)
  (e1 : e 1 = ve) (e9 : e 9 = vp) (e11 : e 11 = .pointer (some ⟨bm, 0, none⟩)) (e13 : e 13 = .int .i64 (u : Nat)) (e14 : e 14 = .int .i64 0)
  (hQ : ∀ e' H', e' 1 = e 1 → e' 2 = e 2 → e' 3 = e 3 → e' 9 = e 9 → e' 11 = e 11 → e' 13 = .int .i64 (v : Nat) → Ow H0 H' t T S B vp (outI S.E P) bm em Be ve es → Fr (fun _ => False) H H' → Z .normal e' H') :
  codeX Try.prog [15, 17, 18, 28, 29] (loopAt Try.f24.body 0) (blockQ 0 Z) e H := by
 have ok := hO.s.m.ok
 have hn64 := ok.n64
 obtain ⟨P0, hP0⟩ : ∃ P0, P = (u + 1) :: P0 := by
  cases P with
  | nil => cases hP.head
  | cons x q =>
   have e : x = u + 1 := by simpa using hP.head
   exact ⟨q, by rw [e]⟩
 have hPl := hO.s.m.sp_len (Ls.vtx (v := u) (by omega)) hP
 have hnd := outI_nodup ok.uq hP.nd
 refine x_loop (fun m e' H' => ∃ (w : Nat) (P1 P2 : List Nat), P = P1 ++ (w + 1) :: P2 ∧ w < n ∧ e' 13 = .int .i64 (w : Nat) ∧ e' 14 = .int .i64 ((outI S.E P1).length : Nat) ∧ Ow H0 H' t T S B vp (outI S.E P) bm em Be ve es ∧ Fr (fun _ => False) H H' ∧ m = P2.length) P0.length
  ⟨u, [], P0, hP0, hu, e13, e14, hO, .refl _ _, rfl⟩ ?_
 rintro m e1' H1 ⟨w, P1, P2, hPe, hw, i13, i14, hO1, hf1, rfl⟩ hoff
 have i1 := (hoff 1 rfl).trans e1
 have i9 := (hoff 9 rfl).trans e9
 have i11 := (hoff 11 rfl).trans e11
 have keep : e1' 1 = e 1 ∧ e1' 2 = e 2 ∧ e1' 3 = e 3 ∧ e1' 9 = e 9 ∧ e1' 11 = e 11 := ⟨hoff 1 rfl, hoff 2 rfl, hoff 3 rfl, hoff 9 rfl, hoff 11 rfl⟩
 clear hoff e1 e9 e11 e13 e14 hP0 hO
 have ew1 : S.E (w + 1) = none := ok.eno (by omega)
 have hxs : outI S.E P = outI S.E P1 ++ outI S.E P2 := by
  rw [hPe, outI_append]
  congr 1
  simp [outI, ew1]
 have hol : (outI S.E P).length ≤ 130 := Nat.le_trans (outI_len _ _) hPl
 obtain ⟨sp, cp, rfl⟩ := hO1.p.slice
 by_cases hnil : P2 = []
 ·subst hnil
  have hle : (outI S.E P1).length = (outI S.E P).length := by rw [hxs]; simp [outI]
  have hwv : w = v := by
   have := hP.last
   rw [hPe] at this
   simpa using this
  subst hwv
  rw [hle] at i14
  have t1 : ((outI S.E P).length < (outI S.E P).length) = False := by simp
  repeat' (first|(with_reducible first|refine jA ?_|(refine hK _ _ ?_;clear hK K)|refine jJ fun K hK=>?_|refine jK ?_|refine jL ?_|refine jM ?_|refine jN ?_|refine jO ?_|refine jP ?_|refine jQ ?_|(refine jB ?_;clear hK K)|(refine jC ?_;clear hK K)|refine jD ?_|refine jE ?_|refine jG ?_|refine jH ?_|refine jI ?_)|((with_reducible refine jR ?hq ?_);case hq=>rfl)|((first|(with_reducible first|refine jS fun K hK=>?_|refine jT ?_|refine jU ?_)|((with_reducible refine jV ?hy fun K hK=>?_);case hy=>rfl));simp only [go_sem, Nat.reduceEqDiff, Nat.reduceAdd, Nat.reduceMul, Nat.reduceLeDiff, Nat.reduceLT, Int.reduceLT, Int.reduceLE, Int.reduceEq, Int.reduceNeg, Int.reduceToNat, Nat.reducePow, reduceIte, reduceCtorEq, i9, i14, t1])|((with_reducible first|refine jW ?hy ?_|refine jY ?hy ?_);case hy=>rfl)|((with_reducible first|refine jX ?hy ?_|refine jZ ?hy ?_);case hy=>rfl)|((with_reducible refine jF ?hy ?_);case hy=>decide))
  exact hQ _ _ keep.1 keep.2.1 keep.2.2.1 keep.2.2.2.1 keep.2.2.2.2 i13 hO1 hf1
 ·rw [hPe] at hP
  obtain ⟨g, ed, w', P3, hP2, hge, hw', hends⟩ := ok.next (by omega) hP (by omega) hnil
  have hxg : outI S.E P2 = ed.id :: outI S.E P3 := by
   have : S.E (w' + 1) = none := ok.eno (by omega)
   rw [hP2]
   simp [outI, hge, this]
  obtain ⟨i, hi⟩ : ∃ i, i = (outI S.E P1).length := ⟨_, rfl⟩
  have hil : i < (outI S.E P).length := by rw [hxs, hxg, hi]; simp
  rw [← hi] at i14
  have hgi : (outI S.E P)[i]? = some ed.id := by rw [hxs, hi, hxg]; simp
  obtain ⟨gp, cp', _, rfl, hv', _, _, hcp⟩ := hO1.p.row (by intro h; rw [h] at hil; simp at hil)
  simp only [Value.slice.injEq] at hv'
  obtain ⟨rfl, _, rfl⟩ := hv'
  have cpi := hO1.p.cell hgi
  obtain ⟨k0, hk0, hk1⟩ := idL_of ((hes ed).1 ⟨g, hge⟩) fun y hy hyi => by
   obtain ⟨g', hg'⟩ := (hes y).2 hy
   have := ok.uq g' g y ed hg' hge hyi
   rw [this, hge] at hg'
   exact (Option.some.inj hg').symm
  have hkl := (List.getElem?_eq_some_iff.1 hk1).1
  repeat' (first|(with_reducible first|refine jA ?_|(refine hK _ _ ?_;clear hK K)|refine jJ fun K hK=>?_|refine jK ?_|refine jL ?_|refine jM ?_|refine jN ?_|refine jO ?_|refine jP ?_|refine jQ ?_|(refine jB ?_;clear hK K)|(refine jC ?_;clear hK K)|refine jD ?_|refine jE ?_|refine jG ?_|refine jH ?_|refine jI ?_)|((with_reducible refine jR ?hq ?_);case hq=>rfl)|((first|(with_reducible first|refine jS fun K hK=>?_|refine jT ?_|refine jU ?_)|((with_reducible refine jV ?hy fun K hK=>?_);case hy=>rfl));simp only [go_sem, Nat.reduceEqDiff, Nat.reduceAdd, Nat.reduceMul, Nat.reduceLeDiff, Nat.reduceLT, Int.reduceLT, Int.reduceLE, Int.reduceEq, Int.reduceNeg, Int.reduceToNat, Nat.reducePow, reduceIte, reduceCtorEq, i1, i9, i14, hil, cpi])|((with_reducible first|refine jW ?hy ?_|refine jY ?hy ?_);case hy=>rfl)|((with_reducible first|refine jX ?hy ?_|refine jZ ?hy ?_);case hy=>rfl)|((with_reducible refine jF ?hy ?_);case hy=>decide))
  refine id_ok hO1.e (by omega) ?_
  rw [hk0]
  simp only [idI]
  obtain ⟨ge, ce', rfl, hv, _, hc⟩ := hO1.e.at edC_len hk1
  subst hv
  have c0 := hc 0 (.int .i64 ed.id) rfl
  rw [Nat.add_zero] at c0
  have c1 := hc 1 (.int .i64 ed.u) rfl
  have c2 := hc 2 (.int .i64 ed.v) rfl
  have c3 := hc 3 (.int .i64 ed.w) rfl
  have t1 : ((k0 : Int) < 0) = False := by simp
  have ea : IntKind.i64.wrap (ed.u + ed.v) = ed.u + ed.v := by rw [wrap_i64] <;> omega
  have eb : IntKind.i64.wrap (ed.u + ed.v - (w : Int)) = (w' : Nat) := by
   have : ed.u + ed.v - (w : Int) = (w' : Nat) := by omega
   rw [this, wrap_i64] <;> omega
  have ew : IntKind.i64.wrap ((i : Int) + 1) = ((i + 1 : Nat) : Int) := by rw [wrap_i64] <;> omega
  have hgP : g ∈ P := by rw [hPe, hP2]; simp
  have hhv := hmo g hgP ed hge
  have m0 := hO1.m.cellOf (i := 0) rfl
  have m1 := hO1.m.cellOf (i := 1) rfl
  have m2 := hO1.m.cellOf (i := 2) rfl
  have m3 := hO1.m.cellOf (i := 3) rfl
  have hww : w ≠ w' := fun e => by
   have := hP.right.nd
   rw [hP2, e] at this
   simp at this
  rcases hends with ⟨h1, h2⟩ | ⟨h1, h2⟩
  case' inl => have q1 : (ed.u != (w : Int)) = false := by rw [h1]; simp
  case' inr =>
   have q1 : (ed.u != (w : Int)) = true := by rw [h1]; simp; omega
   have q2 : (ed.v != (w : Int)) = false := by rw [h2]; simp
  case' inl => repeat' (first|(with_reducible first|refine jA ?_|(refine hK _ _ ?_;clear hK K)|refine jJ fun K hK=>?_|refine jK ?_|refine jL ?_|refine jM ?_|refine jN ?_|refine jO ?_|refine jP ?_|refine jQ ?_|(refine jB ?_;clear hK K)|(refine jC ?_;clear hK K)|refine jD ?_|refine jE ?_|refine jG ?_|refine jH ?_|refine jI ?_)|((with_reducible refine jR ?hq ?_);case hq=>rfl)|((first|(with_reducible first|refine jS fun K hK=>?_|refine jT ?_|refine jU ?_)|((with_reducible refine jV ?hy fun K hK=>?_);case hy=>rfl));simp only [go_sem, Nat.reduceEqDiff, Nat.reduceAdd, Nat.reduceMul, Nat.reduceLeDiff, Nat.reduceLT, Int.reduceLT, Int.reduceLE, Int.reduceEq, Int.reduceNeg, Int.reduceToNat, Nat.reducePow, reduceIte, reduceCtorEq, i1, i9, i13, i14, hkl, c1, c2, t1, q1])|((with_reducible first|refine jW ?hy ?_|refine jY ?hy ?_);case hy=>rfl)|((with_reducible first|refine jX ?hy ?_|refine jZ ?hy ?_);case hy=>rfl)|((with_reducible refine jF ?hy ?_);case hy=>decide))
  case' inr => repeat' (first|(with_reducible first|refine jA ?_|(refine hK _ _ ?_;clear hK K)|refine jJ fun K hK=>?_|refine jK ?_|refine jL ?_|refine jM ?_|refine jN ?_|refine jO ?_|refine jP ?_|refine jQ ?_|(refine jB ?_;clear hK K)|(refine jC ?_;clear hK K)|refine jD ?_|refine jE ?_|refine jG ?_|refine jH ?_|refine jI ?_)|((with_reducible refine jR ?hq ?_);case hq=>rfl)|((first|(with_reducible first|refine jS fun K hK=>?_|refine jT ?_|refine jU ?_)|((with_reducible refine jV ?hy fun K hK=>?_);case hy=>rfl));simp only [go_sem, Nat.reduceEqDiff, Nat.reduceAdd, Nat.reduceMul, Nat.reduceLeDiff, Nat.reduceLT, Int.reduceLT, Int.reduceLE, Int.reduceEq, Int.reduceNeg, Int.reduceToNat, Nat.reducePow, reduceIte, reduceCtorEq, i1, i9, i13, i14, hkl, c1, c2, t1, q1, q2])|((with_reducible first|refine jW ?hy ?_|refine jY ?hy ?_);case hy=>rfl)|((with_reducible first|refine jX ?hy ?_|refine jZ ?hy ?_);case hy=>rfl)|((with_reducible refine jF ?hy ?_);case hy=>decide))
  all_goals
   refine x_loop (fun m e' H' => ∃ j : Nat, H' = H1 ∧ e' 16 = .int .i64 (j : Nat) ∧ j ≤ i ∧ m = i - j) i ⟨0, rfl, rfl, Nat.zero_le _, rfl⟩ ?_
   rintro m e2 H2 ⟨j, rfl, j16, hj, rfl⟩ hoff
   have j1 := (hoff 1 rfl).trans i1
   have j9 := (hoff 9 rfl).trans i9
   have j11 := (hoff 11 rfl).trans i11
   have j13 := (hoff 13 rfl).trans i13
   have j14 := (hoff 14 rfl).trans i14
   have j15 : e2 15 = .int .i64 (k0 : Nat) := (hoff 15 rfl).trans rfl
   clear hoff
   by_cases hlt : j < i
   ·obtain ⟨y, hy⟩ : ∃ y, (outI S.E P)[j]? = some y := ⟨_, List.getElem?_eq_getElem (by omega)⟩
    have cpj := hO1.p.cell hy
    have hne : ¬ y = ed.id := fun e => by
     have h1 := (List.getElem?_eq_some_iff.1 hy)
     have h2 := (List.getElem?_eq_some_iff.1 hgi)
     obtain ⟨a1, a2⟩ := h1
     obtain ⟨b1, b2⟩ := h2
     have := (List.getElem_inj hnd).1 (a2.trans (e.trans b2.symm))
     omega
    have q5 : (y == ed.id) = false := by simp [hne]
    have ej : IntKind.i64.wrap ((j : Int) + 1) = ((j + 1 : Nat) : Int) := by rw [wrap_i64] <;> omega
    have hjl : j < (outI S.E P).length := by omega
    repeat' (first|(with_reducible first|refine jA ?_|(refine hK _ _ ?_;clear hK K)|refine jJ fun K hK=>?_|refine jK ?_|refine jL ?_|refine jM ?_|refine jN ?_|refine jO ?_|refine jP ?_|refine jQ ?_|(refine jB ?_;clear hK K)|(refine jC ?_;clear hK K)|refine jD ?_|refine jE ?_|refine jG ?_|refine jH ?_|refine jI ?_)|((with_reducible refine jR ?hq ?_);case hq=>rfl)|((first|(with_reducible first|refine jS fun K hK=>?_|refine jT ?_|refine jU ?_)|((with_reducible refine jV ?hy fun K hK=>?_);case hy=>rfl));simp only [go_sem, Nat.reduceEqDiff, Nat.reduceAdd, Nat.reduceMul, Nat.reduceLeDiff, Nat.reduceLT, Int.reduceLT, Int.reduceLE, Int.reduceEq, Int.reduceNeg, Int.reduceToNat, Nat.reducePow, reduceIte, reduceCtorEq, j9, j14, j16, hlt, hjl, hil, cpj, cpi, q5, ej])|((with_reducible first|refine jW ?hy ?_|refine jY ?hy ?_);case hy=>rfl)|((with_reducible first|refine jX ?hy ?_|refine jZ ?hy ?_);case hy=>rfl)|((with_reducible refine jF ?hy ?_);case hy=>decide))
    exact loop_normal (m' := i - (j + 1)) (by omega) ⟨j + 1, rfl, rfl, hlt, rfl⟩
   ·have hlt' : (j < i) = False := by simp [hlt]
    repeat' (first|(with_reducible first|refine jA ?_|(refine hK _ _ ?_;clear hK K)|refine jJ fun K hK=>?_|refine jK ?_|refine jL ?_|refine jM ?_|refine jN ?_|refine jO ?_|refine jP ?_|refine jQ ?_|(refine jB ?_;clear hK K)|(refine jC ?_;clear hK K)|refine jD ?_|refine jE ?_|refine jG ?_|refine jH ?_|refine jI ?_)|((with_reducible refine jR ?hq ?_);case hq=>rfl)|((first|(with_reducible first|refine jS fun K hK=>?_|refine jT ?_|refine jU ?_)|((with_reducible refine jV ?hy fun K hK=>?_);case hy=>rfl));simp only [go_sem, Nat.reduceEqDiff, Nat.reduceAdd, Nat.reduceMul, Nat.reduceLeDiff, Nat.reduceLT, Int.reduceLT, Int.reduceLE, Int.reduceEq, Int.reduceNeg, Int.reduceToNat, Nat.reducePow, reduceIte, reduceCtorEq, j1, j11, j13, j14, j15, j16, hlt', hkl, c0, c1, c2, c3, ea, eb, m0, m1, m2, m3])|((with_reducible first|refine jW ?hy ?_|refine jY ?hy ?_);case hy=>rfl)|((with_reducible first|refine jX ?hy ?_|refine jZ ?hy ?_);case hy=>rfl)|((with_reducible refine jF ?hy ?_);case hy=>decide))
    refine lheavier_ok (a := ed) (b := em) fun H3 f3 => ?_
    rw [hhv]
    have hO3 := hO1.grow f3
    repeat' (first|(with_reducible first|refine jA ?_|(refine hK _ _ ?_;clear hK K)|refine jJ fun K hK=>?_|refine jK ?_|refine jL ?_|refine jM ?_|refine jN ?_|refine jO ?_|refine jP ?_|refine jQ ?_|(refine jB ?_;clear hK K)|(refine jC ?_;clear hK K)|refine jD ?_|refine jE ?_|refine jG ?_|refine jH ?_|refine jI ?_)|((with_reducible refine jR ?hq ?_);case hq=>rfl)|((first|(with_reducible first|refine jS fun K hK=>?_|refine jT ?_|refine jU ?_)|((with_reducible refine jV ?hy fun K hK=>?_);case hy=>rfl));simp only [go_sem, Nat.reduceEqDiff, Nat.reduceAdd, Nat.reduceMul, Nat.reduceLeDiff, Nat.reduceLT, Int.reduceLT, Int.reduceLE, Int.reduceEq, Int.reduceNeg, Int.reduceToNat, Nat.reducePow, reduceIte, reduceCtorEq, j14, ew])|((with_reducible first|refine jW ?hy ?_|refine jY ?hy ?_);case hy=>rfl)|((with_reducible first|refine jX ?hy ?_|refine jZ ?hy ?_);case hy=>rfl)|((with_reducible refine jF ?hy ?_);case hy=>decide))
    refine loop_normal (m' := P3.length) (by rw [hP2]; simp; omega) ⟨w', P1 ++ [w + 1, g], P3, by rw [hPe, hP2]; simp, by omega, rfl, ?_, hO3, hf1.trans f3, rfl⟩
    show Value.int .i64 ((i + 1 : Nat) : Int) = _
    have : outI S.E (P1 ++ [w + 1, g]) = outI S.E P1 ++ [ed.id] := by
     rw [outI_append]
     simp [outI, ew1, hge]
    rw [this, List.length_append, ← hi]
    rfl
theorem bwC {B : Option Nat} {vp : Value} {xs : List Int} {bm : Nat} {em : Ed} (hp : IR H B vp xs) (hm : Blk H bm em.cells) (hx : em.id ∈ xs) (hl : xs.length ≤ 200)
  (e9 : e 9 = vp) (e11 : e 11 = .pointer (some ⟨bm, 0, none⟩)) (e19 : e 19 = .bool false) (e20 : e 20 = .int .i64 0)
  (hQ : ∀ e', e' 1 = e 1 → e' 3 = e 3 → e' 11 = e 11 → e' 13 = e 13 → e' 18 = e 18 → e' 19 = .bool true → Z .normal e' H) :
  codeX Try.prog [15, 17, 18, 28, 29] (loopAt Try.f24.body 2) (blockQ 4 Z) e H := by
 refine x_loop (fun m e' H' => ∃ (i : Nat) (b : Bool), H' = H ∧ e' 20 = .int .i64 (i : Nat) ∧ i ≤ xs.length ∧ e' 19 = .bool b ∧ (b = false → ∀ j, j < i → xs[j]? ≠ some em.id) ∧ m = xs.length - i) xs.length ⟨0, false, rfl, e20, Nat.zero_le _, e19, fun _ j h => by omega, rfl⟩ ?_
 rintro m e1 H1 ⟨i, b, rfl, i20, hi, i19, hb, rfl⟩ hoff
 have i9 := (hoff 9 rfl).trans e9
 have i11 := (hoff 11 rfl).trans e11
 have keep : e1 1 = e 1 ∧ e1 3 = e 3 ∧ e1 11 = e 11 ∧ e1 13 = e 13 ∧ e1 18 = e 18 := ⟨hoff 1 rfl, hoff 3 rfl, hoff 11 rfl, hoff 13 rfl, hoff 18 rfl⟩
 clear hoff
 obtain ⟨sp, cp, rfl⟩ := hp.slice
 have m0 := hm.cellOf (i := 0) rfl
 by_cases hlt : i < xs.length
 ·have ew : IntKind.i64.wrap ((i : Int) + 1) = ((i + 1 : Nat) : Int) := by rw [wrap_i64] <;> omega
  obtain ⟨y, hy⟩ : ∃ y, xs[i]? = some y := ⟨_, List.getElem?_eq_getElem hlt⟩
  obtain ⟨g, c, rfl, hv, cy⟩ := hp.read hy
  simp only [Value.slice.injEq] at hv
  obtain ⟨rfl, _, rfl⟩ := hv
  cases b with
  | true =>
   repeat' (first|(with_reducible first|refine jA ?_|(refine hK _ _ ?_;clear hK K)|refine jJ fun K hK=>?_|refine jK ?_|refine jL ?_|refine jM ?_|refine jN ?_|refine jO ?_|refine jP ?_|refine jQ ?_|(refine jB ?_;clear hK K)|(refine jC ?_;clear hK K)|refine jD ?_|refine jE ?_|refine jG ?_|refine jH ?_|refine jI ?_)|((with_reducible refine jR ?hq ?_);case hq=>rfl)|((first|(with_reducible first|refine jS fun K hK=>?_|refine jT ?_|refine jU ?_)|((with_reducible refine jV ?hy fun K hK=>?_);case hy=>rfl));simp only [go_sem, Nat.reduceEqDiff, Nat.reduceAdd, Nat.reduceMul, Nat.reduceLeDiff, Nat.reduceLT, Int.reduceLT, Int.reduceLE, Int.reduceEq, Int.reduceNeg, Int.reduceToNat, Nat.reducePow, reduceIte, reduceCtorEq, i9, i11, i19, i20, hlt, ew])|((with_reducible first|refine jW ?hy ?_|refine jY ?hy ?_);case hy=>rfl)|((with_reducible first|refine jX ?hy ?_|refine jZ ?hy ?_);case hy=>rfl)|((with_reducible refine jF ?hy ?_);case hy=>decide))
   exact loop_normal (m' := xs.length - (i + 1)) (by omega) ⟨i + 1, true, rfl, rfl, hlt, rfl, fun h => (by cases h), rfl⟩
  | false =>
   obtain ⟨q, hq⟩ : ∃ q, (y == em.id) = q := ⟨_, rfl⟩
   repeat' (first|(with_reducible first|refine jA ?_|(refine hK _ _ ?_;clear hK K)|refine jJ fun K hK=>?_|refine jK ?_|refine jL ?_|refine jM ?_|refine jN ?_|refine jO ?_|refine jP ?_|refine jQ ?_|(refine jB ?_;clear hK K)|(refine jC ?_;clear hK K)|refine jD ?_|refine jE ?_|refine jG ?_|refine jH ?_|refine jI ?_)|((with_reducible refine jR ?hq ?_);case hq=>rfl)|((first|(with_reducible first|refine jS fun K hK=>?_|refine jT ?_|refine jU ?_)|((with_reducible refine jV ?hy fun K hK=>?_);case hy=>rfl));simp only [go_sem, Nat.reduceEqDiff, Nat.reduceAdd, Nat.reduceMul, Nat.reduceLeDiff, Nat.reduceLT, Int.reduceLT, Int.reduceLE, Int.reduceEq, Int.reduceNeg, Int.reduceToNat, Nat.reducePow, reduceIte, reduceCtorEq, i9, i11, i19, i20, hlt, cy, m0, hq, ew])|((with_reducible first|refine jW ?hy ?_|refine jY ?hy ?_);case hy=>rfl)|((with_reducible first|refine jX ?hy ?_|refine jZ ?hy ?_);case hy=>rfl)|((with_reducible refine jF ?hy ?_);case hy=>decide))
   refine loop_normal (m' := xs.length - (i + 1)) (by omega) ⟨i + 1, q, rfl, rfl, hlt, rfl, fun h j hj hjx => ?_, rfl⟩
   subst h
   rcases Nat.lt_succ_iff_lt_or_eq.1 hj with h | rfl
   ·exact hb rfl j h hjx
   ·rw [hy] at hjx
    have := Option.some.inj hjx
    simp [this] at hq
 ·obtain rfl : i = xs.length := by omega
  have t1 : (xs.length < xs.length) = False := by simp
  have hbt : b = true := by
   cases b with
   | true => rfl
   | false =>
    obtain ⟨j, hj, hjx⟩ := List.mem_iff_getElem.1 hx
    exact absurd (by rw [List.getElem?_eq_getElem hj, hjx]) (hb rfl j hj)
  subst hbt
  repeat' (first|(with_reducible first|refine jA ?_|(refine hK _ _ ?_;clear hK K)|refine jJ fun K hK=>?_|refine jK ?_|refine jL ?_|refine jM ?_|refine jN ?_|refine jO ?_|refine jP ?_|refine jQ ?_|(refine jB ?_;clear hK K)|(refine jC ?_;clear hK K)|refine jD ?_|refine jE ?_|refine jG ?_|refine jH ?_|refine jI ?_)|((with_reducible refine jR ?hq ?_);case hq=>rfl)|((first|(with_reducible first|refine jS fun K hK=>?_|refine jT ?_|refine jU ?_)|((with_reducible refine jV ?hy fun K hK=>?_);case hy=>rfl));simp only [go_sem, Nat.reduceEqDiff, Nat.reduceAdd, Nat.reduceMul, Nat.reduceLeDiff, Nat.reduceLT, Int.reduceLT, Int.reduceLE, Int.reduceEq, Int.reduceNeg, Int.reduceToNat, Nat.reducePow, reduceIte, reduceCtorEq, i9, i20, t1])|((with_reducible first|refine jW ?hy ?_|refine jY ?hy ?_);case hy=>rfl)|((with_reducible first|refine jX ?hy ?_|refine jZ ?hy ?_);case hy=>rfl)|((with_reducible refine jF ?hy ?_);case hy=>decide))
  exact hQ _ keep.1 keep.2.1 keep.2.2.1 keep.2.2.2.1 keep.2.2.2.2 i19
end
theorem lbetween_ok {H0 H : Heap} {t : Nat} {T : Nat → Prop} {S : Ls} {es : List Ed} {u v r : Nat} {Be : Option Nat} {ve : Value} {L : Value → Heap → Prop} (hS : LS H0 H t T S) (hes : Has S es) (hl : SR Ed.cells 4 H Be ve es) (hBe : ∀ b, Be = some b → ¬ T b) (hel : es.length ≤ 1000) (hu : u < S.n) (hv : v < S.n) (hru : RootOf S.par (u + 1) r) (hrv : RootOf S.par (v + 1) r)
  (fin : ∀ H', LtM H' t T S → Fr T H H' → L (.bool true) H') :
  CallsH Try.prog 24 #[.pointer (some ⟨t, 0, none⟩), ve, .int .i64 (u : Nat), .int .i64 (v : Nat)] H L := by
 have ok := hS.m.ok
 have z0 : ((0 : Int) != 0) = false := rfl
 refine call24 (by simp) ?_
 simp only [Try.f24, Option.getD_some]
 repeat' (first|(with_reducible first|refine jA ?_|(refine hK _ _ ?_;clear hK K)|refine jJ fun K hK=>?_|refine jK ?_|refine jL ?_|refine jM ?_|refine jN ?_|refine jO ?_|refine jP ?_|refine jQ ?_|(refine jB ?_;clear hK K)|(refine jC ?_;clear hK K)|refine jD ?_|refine jE ?_|refine jG ?_|refine jH ?_|refine jI ?_)|((with_reducible refine jR ?hq ?_);case hq=>rfl)|((first|(with_reducible first|refine jS fun K hK=>?_|refine jT ?_|refine jU ?_)|((with_reducible refine jV ?hy fun K hK=>?_);case hy=>rfl));simp only [go_sem, Nat.reduceEqDiff, Nat.reduceAdd, Nat.reduceMul, Nat.reduceLeDiff, Nat.reduceLT, Int.reduceLT, Int.reduceLE, Int.reduceEq, Int.reduceNeg, Int.reduceToNat, Nat.reducePow, reduceIte, reduceCtorEq])|((with_reducible first|refine jW ?hy ?_|refine jY ?hy ?_);case hy=>rfl)|((with_reducible first|refine jX ?hy ?_|refine jZ ?hy ?_);case hy=>rfl)|((with_reducible refine jF ?hy ?_);case hy=>decide))
 refine m_path hS.m hu hv hru hrv fun H1 P B1 w1 hP hi1 hB1 hM1 hf1 => ?_
 have hS1 := hS.keep hM1 hf1
 have hl1 := hl.frame hf1 hBe
 have nB1 : ∀ b, B1 = some b → ¬ T b := fun b hb hx => by have := hS.m.below b hx; have := hB1 b hb; omega
 repeat' (first|(with_reducible first|refine jA ?_|(refine hK _ _ ?_;clear hK K)|refine jJ fun K hK=>?_|refine jK ?_|refine jL ?_|refine jM ?_|refine jN ?_|refine jO ?_|refine jP ?_|refine jQ ?_|(refine jB ?_;clear hK K)|(refine jC ?_;clear hK K)|refine jD ?_|refine jE ?_|refine jG ?_|refine jH ?_|refine jI ?_)|((with_reducible refine jR ?hq ?_);case hq=>rfl)|((first|(with_reducible first|refine jS fun K hK=>?_|refine jT ?_|refine jU ?_)|((with_reducible refine jV ?hy fun K hK=>?_);case hy=>rfl));simp only [go_sem, Nat.reduceEqDiff, Nat.reduceAdd, Nat.reduceMul, Nat.reduceLeDiff, Nat.reduceLT, Int.reduceLT, Int.reduceLE, Int.reduceEq, Int.reduceNeg, Int.reduceToNat, Nat.reducePow, reduceIte, reduceCtorEq])|((with_reducible first|refine jW ?hy ?_|refine jY ?hy ?_);case hy=>rfl)|((with_reducible first|refine jX ?hy ?_|refine jZ ?hy ?_);case hy=>rfl)|((with_reducible refine jF ?hy ?_);case hy=>decide))
 refine m_mostC hS1.m hu hv hru hrv fun H2 em ca hca hM2 hf2 => ?_
 have hS2 := hS1.keep hM2 hf2
 have hl2 := hl1.frame hf2 hBe
 have hi2 := hi1.frame hf2 nB1
 simp only [Ed.val]
 obtain ⟨sa, sc, hsa⟩ := hi2.slice
 subst hsa
 have hol : (outI S.E P).length ≤ 200 := by
  have h1 := hS.m.sp_len (Ls.vtx hu) hP
  have h2 := outI_len S.E P
  omega
 have hmo : ∀ g ∈ P, ∀ ed, S.E g = some ed → heavy ed em = false := by
  rcases hca with ⟨h1, h2, h3⟩ | ⟨h1, h2, Pa, h3, b, h4, h5, h6⟩
  ·subst h1
   have hP2 : SP S.par (u + 1) (u + 1) [u + 1] := ⟨rfl, rfl, by simp, trivial⟩
   rw [ok.sp (Ls.vtx hu) hP hP2]
   intro g hg ed he
   rw [List.mem_singleton.1 hg, ok.eno (by omega)] at he
   cases he
  ·rw [ok.sp (Ls.vtx hu) hP h3]
   intro g hg ed he
   rcases h6 g hg ed he with rfl | h7
   ·rw [h5] at he
    obtain rfl := Option.some.inj he
    exact heavy_irrefl _
   ·exact heavy_asymm h7
 have hnil := ok.outI_nil (v := v) hu hP
 by_cases huv : u = v
 ·have hc : ca = 54 := by
   rcases hca with ⟨_, h2, _⟩ | ⟨h1, _⟩
   ·exact h2
   ·exact absurd huv h1
  subst hc
  have y1 : ((54 : Int) == 0) = false := rfl
  have y2 : ((u : Int) != (v : Int)) = false := by simp [huv]
  have y3 : (false != false) = false := rfl
  have y4 : ((54 : Int) != 0) = true := rfl
  have y5 : ((54 : Int) != 54) = false := rfl
  repeat' (first|(with_reducible first|refine jA ?_|(refine hK _ _ ?_;clear hK K)|refine jJ fun K hK=>?_|refine jK ?_|refine jL ?_|refine jM ?_|refine jN ?_|refine jO ?_|refine jP ?_|refine jQ ?_|(refine jB ?_;clear hK K)|(refine jC ?_;clear hK K)|refine jD ?_|refine jE ?_|refine jG ?_|refine jH ?_|refine jI ?_)|((with_reducible refine jR ?hq ?_);case hq=>rfl)|((first|(with_reducible first|refine jS fun K hK=>?_|refine jT ?_|refine jU ?_)|((with_reducible refine jV ?hy fun K hK=>?_);case hy=>rfl));simp only [go_sem, Nat.reduceEqDiff, Nat.reduceAdd, Nat.reduceMul, Nat.reduceLeDiff, Nat.reduceLT, Int.reduceLT, Int.reduceLE, Int.reduceEq, Int.reduceNeg, Int.reduceToNat, Nat.reducePow, reduceIte, reduceCtorEq, z0, y1, y2, y3, y4, y5, hcell_push, hcell_top, okW_push, okW_top, hcell_hset_ne, hcell_hset_off, hcell_hset_eq, okW_hset, hset_size, Array.size_push, Nat.lt_add_one, ne_add_one, add_one_ne, Nat.add_assoc, add_same, add_lt_same, Nat.reduceEqDiff, lt_add_k, add_k_ne, ne_add_k])|((with_reducible first|refine jW ?hy ?_|refine jY ?hy ?_);case hy=>rfl)|((with_reducible first|refine jX ?hy ?_|refine jZ ?hy ?_);case hy=>rfl)|((with_reducible refine jF ?hy ?_);case hy=>decide))
  obtain ⟨b3, f23⟩ := most_box (H := H2) em (T0 := 31)
  generalize hset _ _ _ = H3 at b3 f23 ⊢
  have hO : Ow H0 H3 t T S B1 _ (outI S.E P) H2.size em Be ve es := ⟨hS2.grow f23, hi2.frame f23 fun _ _ h => h, b3, hl2.frame f23 fun _ _ h => h, nB1, fun hx => by have := hS2.m.below _ hx; omega, hBe⟩
  refine bwA hO rfl hP hu hv hmo hes hel ?_ ?_ ?_ ?_ ?_ ?_
  ·rfl
  ·rfl
  ·rfl
  ·rfl
  ·rfl
  intro e' H4 k1 k2 k3 k9 k11 k13 hO4 f34
  have k1 : e' 1 = ve := k1.trans rfl
  have k2 : e' 2 = .int .i64 (u : Nat) := k2.trans rfl
  have k3 : e' 3 = .int .i64 (v : Nat) := k3.trans rfl
  have k9 : e' 9 = .slice sa (outI S.E P).length sc := k9.trans rfl
  have k11 : e' 11 = .pointer (some ⟨H2.size, 0, none⟩) := k11.trans rfl
  have hfr : Fr T H H4 := ((hf1.trans hf2).trans (f23.mono fun _ _ h => h.elim)).trans (f34.mono fun _ _ h => h.elim)
  have x1 : ((u : Int) == (v : Int)) = true := by simp [huv]
  have x2 : (((outI S.E P).length : Int) == 0) = true := by
   have : (outI S.E P).length = 0 := by rw [hnil]; exact huv
   simp [this]
  repeat' (first|(with_reducible first|refine jA ?_|(refine hK _ _ ?_;clear hK K)|refine jJ fun K hK=>?_|refine jK ?_|refine jL ?_|refine jM ?_|refine jN ?_|refine jO ?_|refine jP ?_|refine jQ ?_|(refine jB ?_;clear hK K)|(refine jC ?_;clear hK K)|refine jD ?_|refine jE ?_|refine jG ?_|refine jH ?_|refine jI ?_)|((with_reducible refine jR ?hq ?_);case hq=>rfl)|((first|(with_reducible first|refine jS fun K hK=>?_|refine jT ?_|refine jU ?_)|((with_reducible refine jV ?hy fun K hK=>?_);case hy=>rfl));simp only [go_sem, Nat.reduceEqDiff, Nat.reduceAdd, Nat.reduceMul, Nat.reduceLeDiff, Nat.reduceLT, Int.reduceLT, Int.reduceLE, Int.reduceEq, Int.reduceNeg, Int.reduceToNat, Nat.reducePow, reduceIte, reduceCtorEq, k2, k3, k9, x1, x2])|((with_reducible first|refine jW ?hy ?_|refine jY ?hy ?_);case hy=>rfl)|((with_reducible first|refine jX ?hy ?_|refine jZ ?hy ?_);case hy=>rfl)|((with_reducible refine jF ?hy ?_);case hy=>decide))
  exact fin _ hO4.s.m hfr
 ·obtain ⟨hc, Pa, hPa, hMo⟩ : ca = 0 ∧ ∃ P, SP S.par (u + 1) (v + 1) P ∧ IsMost S.E P em := by
   rcases hca with ⟨h1, _⟩ | ⟨_, h2, h3⟩
   ·exact absurd h1 huv
   ·exact ⟨h2, h3⟩
  subst hc
  obtain rfl := ok.sp (Ls.vtx hu) hPa hP
  obtain ⟨b, hbP, hbE, _⟩ := hMo
  have hmem : em.id ∈ outI S.E Pa := List.mem_filterMap.2 ⟨b, hbP, by rw [hbE]; rfl⟩
  have y1 : ((0 : Int) == 0) = true := rfl
  have y2 : ((u : Int) != (v : Int)) = true := by simp; omega
  have y3 : (true != true) = false := rfl
  repeat' (first|(with_reducible first|refine jA ?_|(refine hK _ _ ?_;clear hK K)|refine jJ fun K hK=>?_|refine jK ?_|refine jL ?_|refine jM ?_|refine jN ?_|refine jO ?_|refine jP ?_|refine jQ ?_|(refine jB ?_;clear hK K)|(refine jC ?_;clear hK K)|refine jD ?_|refine jE ?_|refine jG ?_|refine jH ?_|refine jI ?_)|((with_reducible refine jR ?hq ?_);case hq=>rfl)|((first|(with_reducible first|refine jS fun K hK=>?_|refine jT ?_|refine jU ?_)|((with_reducible refine jV ?hy fun K hK=>?_);case hy=>rfl));simp only [go_sem, Nat.reduceEqDiff, Nat.reduceAdd, Nat.reduceMul, Nat.reduceLeDiff, Nat.reduceLT, Int.reduceLT, Int.reduceLE, Int.reduceEq, Int.reduceNeg, Int.reduceToNat, Nat.reducePow, reduceIte, reduceCtorEq, z0, y1, y2, y3, hcell_push, hcell_top, okW_push, okW_top, hcell_hset_ne, hcell_hset_off, hcell_hset_eq, okW_hset, hset_size, Array.size_push, Nat.lt_add_one, ne_add_one, add_one_ne, Nat.add_assoc, add_same, add_lt_same, Nat.reduceEqDiff, lt_add_k, add_k_ne, ne_add_k])|((with_reducible first|refine jW ?hy ?_|refine jY ?hy ?_);case hy=>rfl)|((with_reducible first|refine jX ?hy ?_|refine jZ ?hy ?_);case hy=>rfl)|((with_reducible refine jF ?hy ?_);case hy=>decide))
  obtain ⟨b3, f23⟩ := most_box (H := H2) em (T0 := 31)
  generalize hset _ _ _ = H3 at b3 f23 ⊢
  have hO : Ow H0 H3 t T S B1 _ (outI S.E Pa) H2.size em Be ve es := ⟨hS2.grow f23, hi2.frame f23 fun _ _ h => h, b3, hl2.frame f23 fun _ _ h => h, nB1, fun hx => by have := hS2.m.below _ hx; omega, hBe⟩
  refine bwA hO rfl hP hu hv hmo hes hel ?_ ?_ ?_ ?_ ?_ ?_
  ·rfl
  ·rfl
  ·rfl
  ·rfl
  ·rfl
  intro e' H4 k1 k2 k3 k9 k11 k13 hO4 f34
  have k1 : e' 1 = ve := k1.trans rfl
  have k2 : e' 2 = .int .i64 (u : Nat) := k2.trans rfl
  have k3 : e' 3 = .int .i64 (v : Nat) := k3.trans rfl
  have k9 : e' 9 = .slice sa (outI S.E Pa).length sc := k9.trans rfl
  have k11 : e' 11 = .pointer (some ⟨H2.size, 0, none⟩) := k11.trans rfl
  have hfr : Fr T H H4 := ((hf1.trans hf2).trans (f23.mono fun _ _ h => h.elim)).trans (f34.mono fun _ _ h => h.elim)
  have x1 : ((u : Int) == (v : Int)) = false := by simp; omega
  have x3 : ((v : Int) == (v : Int)) = true := by simp
  have m0 := hO4.m.cellOf (i := 0) rfl
  have m1 := hO4.m.cellOf (i := 1) rfl
  have m2 := hO4.m.cellOf (i := 2) rfl
  have m3 := hO4.m.cellOf (i := 3) rfl
  repeat' (first|(with_reducible first|refine jA ?_|(refine hK _ _ ?_;clear hK K)|refine jJ fun K hK=>?_|refine jK ?_|refine jL ?_|refine jM ?_|refine jN ?_|refine jO ?_|refine jP ?_|refine jQ ?_|(refine jB ?_;clear hK K)|(refine jC ?_;clear hK K)|refine jD ?_|refine jE ?_|refine jG ?_|refine jH ?_|refine jI ?_)|((with_reducible refine jR ?hq ?_);case hq=>rfl)|((first|(with_reducible first|refine jS fun K hK=>?_|refine jT ?_|refine jU ?_)|((with_reducible refine jV ?hy fun K hK=>?_);case hy=>rfl));simp only [go_sem, Nat.reduceEqDiff, Nat.reduceAdd, Nat.reduceMul, Nat.reduceLeDiff, Nat.reduceLT, Int.reduceLT, Int.reduceLE, Int.reduceEq, Int.reduceNeg, Int.reduceToNat, Nat.reducePow, reduceIte, reduceCtorEq, k1, k2, k3, k11, x1, m0])|((with_reducible first|refine jW ?hy ?_|refine jY ?hy ?_);case hy=>rfl)|((with_reducible first|refine jX ?hy ?_|refine jZ ?hy ?_);case hy=>rfl)|((with_reducible refine jF ?hy ?_);case hy=>decide))
  refine id_ok hO4.e (by omega) ?_
  obtain ⟨k0, hk0, hk1⟩ := idL_of ((hes em).1 ⟨b, hbE⟩) fun y hy hyi => by
   obtain ⟨g', hg'⟩ := (hes y).2 hy
   have := ok.uq g' b y em hg' hbE hyi
   rw [this, hbE] at hg'
   exact (Option.some.inj hg').symm
  have hkl := (List.getElem?_eq_some_iff.1 hk1).1
  rw [hk0]
  simp only [idI]
  repeat' (first|(with_reducible first|refine jA ?_|(refine hK _ _ ?_;clear hK K)|refine jJ fun K hK=>?_|refine jK ?_|refine jL ?_|refine jM ?_|refine jN ?_|refine jO ?_|refine jP ?_|refine jQ ?_|(refine jB ?_;clear hK K)|(refine jC ?_;clear hK K)|refine jD ?_|refine jE ?_|refine jG ?_|refine jH ?_|refine jI ?_)|((with_reducible refine jR ?hq ?_);case hq=>rfl)|((first|(with_reducible first|refine jS fun K hK=>?_|refine jT ?_|refine jU ?_)|((with_reducible refine jV ?hy fun K hK=>?_);case hy=>rfl));simp only [go_sem, Nat.reduceEqDiff, Nat.reduceAdd, Nat.reduceMul, Nat.reduceLeDiff, Nat.reduceLT, Int.reduceLT, Int.reduceLE, Int.reduceEq, Int.reduceNeg, Int.reduceToNat, Nat.reducePow, reduceIte, reduceCtorEq])|((with_reducible first|refine jW ?hy ?_|refine jY ?hy ?_);case hy=>rfl)|((with_reducible first|refine jX ?hy ?_|refine jZ ?hy ?_);case hy=>rfl)|((with_reducible refine jF ?hy ?_);case hy=>decide))
  refine bwC hO4.p hO4.m hmem hol ?_ ?_ ?_ ?_ ?_
  ·exact k9
  ·exact k11
  ·rfl
  ·rfl
  intro e2 j1 j3 j11 j13 j18 j19
  have j1 : e2 1 = ve := j1.trans k1
  have j3 : e2 3 = .int .i64 (v : Nat) := j3.trans k3
  have j11 : e2 11 = .pointer (some ⟨H2.size, 0, none⟩) := j11.trans k11
  have j13 : e2 13 = .int .i64 (v : Nat) := j13.trans k13
  have j18 : e2 18 = .int .i64 (k0 : Nat) := j18.trans rfl
  obtain ⟨ge, ce', hge, hv', _, hc⟩ := hO4.e.at edC_len hk1
  rw [hv'] at j1
  have c0 := hc 0 (.int .i64 em.id) rfl
  rw [Nat.add_zero] at c0
  have c1 := hc 1 (.int .i64 em.u) rfl
  have c2 := hc 2 (.int .i64 em.v) rfl
  have c3 := hc 3 (.int .i64 em.w) rfl
  have x5 : ((0 : Int) ≤ (k0 : Int)) = True := by simp
  repeat' (first|(with_reducible first|refine jA ?_|(refine hK _ _ ?_;clear hK K)|refine jJ fun K hK=>?_|refine jK ?_|refine jL ?_|refine jM ?_|refine jN ?_|refine jO ?_|refine jP ?_|refine jQ ?_|(refine jB ?_;clear hK K)|(refine jC ?_;clear hK K)|refine jD ?_|refine jE ?_|refine jG ?_|refine jH ?_|refine jI ?_)|((with_reducible refine jR ?hq ?_);case hq=>rfl)|((first|(with_reducible first|refine jS fun K hK=>?_|refine jT ?_|refine jU ?_)|((with_reducible refine jV ?hy fun K hK=>?_);case hy=>rfl));simp only [go_sem, Nat.reduceEqDiff, Nat.reduceAdd, Nat.reduceMul, Nat.reduceLeDiff, Nat.reduceLT, Int.reduceLT, Int.reduceLE, Int.reduceEq, Int.reduceNeg, Int.reduceToNat, Nat.reducePow, reduceIte, reduceCtorEq, j1, j3, j11, j13, j18, j19, x3, x5, hkl, c0, c1, c2, c3, m0, m1, m2, m3])|((with_reducible first|refine jW ?hy ?_|refine jY ?hy ?_);case hy=>rfl)|((with_reducible first|refine jX ?hy ?_|refine jZ ?hy ?_);case hy=>rfl)|((with_reducible refine jF ?hy ?_);case hy=>decide))
  refine edge_eq (op := .eql) (ox := .tmp 160) (oy := .tmp 161) (a := em) (b := em) ?_
  simp only [decide_true]
  repeat' (first|(with_reducible first|refine jA ?_|(refine hK _ _ ?_;clear hK K)|refine jJ fun K hK=>?_|refine jK ?_|refine jL ?_|refine jM ?_|refine jN ?_|refine jO ?_|refine jP ?_|refine jQ ?_|(refine jB ?_;clear hK K)|(refine jC ?_;clear hK K)|refine jD ?_|refine jE ?_|refine jG ?_|refine jH ?_|refine jI ?_)|((with_reducible refine jR ?hq ?_);case hq=>rfl)|((first|(with_reducible first|refine jS fun K hK=>?_|refine jT ?_|refine jU ?_)|((with_reducible refine jV ?hy fun K hK=>?_);case hy=>rfl));simp only [go_sem, Nat.reduceEqDiff, Nat.reduceAdd, Nat.reduceMul, Nat.reduceLeDiff, Nat.reduceLT, Int.reduceLT, Int.reduceLE, Int.reduceEq, Int.reduceNeg, Int.reduceToNat, Nat.reducePow, reduceIte, reduceCtorEq])|((with_reducible first|refine jW ?hy ?_|refine jY ?hy ?_);case hy=>rfl)|((with_reducible first|refine jX ?hy ?_|refine jZ ?hy ?_);case hy=>rfl)|((with_reducible refine jF ?hy ?_);case hy=>decide))
  exact fin _ hO4.s.m hfr
end Go.Proofs.Ytoplhfhjokjbiaa
namespace Go.Li
open Go Go.Hp
set_option linter.unusedVariables false
def woL (es : List Ed) (i : Nat) : List Ed := es.take i ++ es.drop (i + 1)
theorem woL_split {es : List Ed} {i : Nat} {x : Ed} (hi : es[i]? = some x) : es = es.take i ++ x :: es.drop (i + 1) := by
 obtain ⟨h1, h2⟩ := List.getElem?_eq_some_iff.1 hi
 rw [← h2, List.getElem_cons_drop, List.take_append_drop]
theorem woL_len {es : List Ed} {i : Nat} {x : Ed} (hi : es[i]? = some x) : (woL es i).length + 1 = es.length := by
 have := congrArg List.length (woL_split hi)
 unfold woL
 simp only [List.length_append, List.length_cons] at this ⊢
 omega
theorem woL_nodup {es : List Ed} {i : Nat} {x : Ed} (hi : es[i]? = some x) (hn : (es.map (·.id)).Nodup) : ((woL es i).map (·.id)).Nodup ∧ (∀ y ∈ woL es i, y.id ≠ x.id) := by
 rw [woL_split hi, List.map_append, List.map_cons, List.nodup_append, List.nodup_cons] at hn
 obtain ⟨h1, ⟨h2, h3⟩, h4⟩ := hn
 unfold woL
 refine ⟨?_, fun y hy e => ?_⟩
 ·rw [List.map_append, List.nodup_append]
  exact ⟨h1, h3, fun a ha b hb => h4 a ha b (.tail _ hb)⟩
 ·rcases List.mem_append.1 hy with hy | hy
  ·exact h4 y.id (List.mem_map_of_mem hy) x.id (.head _) e
  ·exact h2 (e ▸ List.mem_map_of_mem hy)
section
variable {S : Ls} {es : List Ed}
theorem Ls.Ok.cut_has (k : S.Ok) (hs : Has S es) (hn : (es.map (·.id)).Nodup) {h c i : Nat} {x : Ed} (hh : S.E h = some x) (hi : es[i]? = some x) : Has (S.cut h c) (woL es i) := fun y => by
 have hsp := woL_split hi
 have hnn := (woL_nodup hi hn).2
 show (∃ g, setE S.E h none g = some y) ↔ _
 constructor
 ·rintro ⟨g, hg⟩
  by_cases e : g = h
  ·rw [e, setE_same] at hg; cases hg
  ·rw [setE_ne _ _ e] at hg
   have hy := (hs y).1 ⟨g, hg⟩
   rw [hsp] at hy
   rcases List.mem_append.1 hy with hy | hy
   ·exact List.mem_append_left _ hy
   ·rcases List.mem_cons.1 hy with rfl | hy
    ·exact absurd (k.uq g h y y hg hh rfl) e
    ·exact List.mem_append_right _ hy
 ·intro hy
  have hm : y ∈ es := by
   rw [hsp]
   rcases List.mem_append.1 hy with hy | hy
   ·exact List.mem_append_left _ hy
   ·exact List.mem_append_right _ (.tail _ hy)
  obtain ⟨g, hg⟩ := (hs y).2 hm
  refine ⟨g, ?_⟩
  rw [setE_ne _ _ fun e => ?_]
  ·exact hg
  ·subst e
   rw [hh] at hg
   obtain rfl := Option.some.inj hg
   exact hnn _ hy rfl
end
end Go.Li
namespace Go.Proofs.Ytoplhfhjokjbiaa
open Go Go.Hp Go.Li
set_option linter.all false
set_option maxRecDepth 100000
set_option maxHeartbeats 1600000
structure LOp where
 kind : Int
 u : Int
 v : Int
 id : Int
 w : Int
 other : Bool
structure LOp.Fit (o : LOp) : Prop where
 k : -9223372036854775808 ≤ o.kind ∧ o.kind ≤ 9223372036854775807
 u : -9223372036854775808 ≤ o.u ∧ o.u ≤ 9223372036854775807
 v : -9223372036854775808 ≤ o.v ∧ o.v ≤ 9223372036854775807
 id : -9223372036854775808 ≤ o.id ∧ o.id ≤ 9223372036854775807
 w : -9223372036854775808 ≤ o.w ∧ o.w ≤ 9223372036854775807
def LOp.cells (o : LOp) : List Value := [.int .i64 o.kind, .int .i64 o.u, .int .i64 o.v, .int .i64 o.id, .int .i64 o.w, .bool o.other]
def InLOps (H : Heap) (a : Option Addr) (len : Nat) (zs : Nat → LOp) : Prop :=
 ∀ i, i < len → ∃ p : Addr, a = some p ∧ (hcell H (p.add (i * 6)) = some (.int .i64 (zs i).kind) ∧ hcell H ⟨(p.add (i * 6)).block, (p.add (i * 6)).off + 1, none⟩ = some (.int .i64 (zs i).u) ∧ hcell H ⟨(p.add (i * 6)).block, (p.add (i * 6)).off + 2, none⟩ = some (.int .i64 (zs i).v) ∧
  hcell H ⟨(p.add (i * 6)).block, (p.add (i * 6)).off + 3, none⟩ = some (.int .i64 (zs i).id) ∧ hcell H ⟨(p.add (i * 6)).block, (p.add (i * 6)).off + 4, none⟩ = some (.int .i64 (zs i).w) ∧ hcell H ⟨(p.add (i * 6)).block, (p.add (i * 6)).off + 5, none⟩ = some (.bool (zs i).other)) ∧ (zs i).Fit
theorem InLOps.frame {H H' : Heap} {a : Option Addr} {len : Nat} {zs : Nat → LOp} (h : InLOps H a len zs) (hf : Fr (fun _ => False) H H') : InLOps H' a len zs := fun i hi => by
 obtain ⟨p, h1, ⟨c0, c1, c2, c3, c4, c5⟩, h5⟩ := h i hi
 have mv : ∀ {a : Addr} {v : Value}, hcell H a = some v → hcell H' a = some v := fun h => by rw [hf.cell (hcell_lt h) (fun h => h)]; exact h
 exact ⟨p, h1, ⟨mv c0, mv c1, mv c2, mv c3, mv c4, mv c5⟩, h5⟩
theorem store6 {H : Heap} {b : Nat} {x0 x1 x2 x3 x4 x5 : Value} (hb : Blk H b [x0, x1, x2, x3, x4, x5]) (v0 v1 v2 v3 v4 v5 : Value) :
  Blk (hset (hset (hset (hset (hset (hset H ⟨b, 0, none⟩ v0) ⟨b, 1, none⟩ v1) ⟨b, 2, none⟩ v2) ⟨b, 3, none⟩ v3) ⟨b, 4, none⟩ v4) ⟨b, 5, none⟩ v5) b [v0, v1, v2, v3, v4, v5] ∧
   Fr (· = b) H (hset (hset (hset (hset (hset (hset H ⟨b, 0, none⟩ v0) ⟨b, 1, none⟩ v1) ⟨b, 2, none⟩ v2) ⟨b, 3, none⟩ v3) ⟨b, 4, none⟩ v4) ⟨b, 5, none⟩ v5) :=
 ⟨(((((hb.set_same 0 _).set_same 1 _).set_same 2 _).set_same 3 _).set_same 4 _).set_same 5 _,
  Fr.set (S := (· = b)) (Fr.set (S := (· = b)) (Fr.set (S := (· = b)) (Fr.set (S := (· = b)) (Fr.set (S := (· = b)) (Fr.set (S := (· = b)) (Fr.refl _ H) (.inl rfl) _) (.inl rfl) _) (.inl rfl) _) (.inl rfl) _) (.inl rfl) _) (.inl rfl) _⟩
structure Sk (H0 H : Heap) (t : Nat) (T : Nat → Prop) (S : Ls) (Be : Option Nat) (ve : Value) (es : List Ed) : Prop where
 s : LS H0 H t T S
 has : Has S es
 e : SR Ed.cells 4 H Be ve es
 ne : ∀ b, Be = some b → ¬ T b ∧ H0.size ≤ b
 nd : (es.map (·.id)).Nodup
section
variable {H0 H H' : Heap} {t : Nat} {T T' : Nat → Prop} {S S' : Ls} {Be Be' : Option Nat} {ve ve' : Value} {es es' : List Ed}
theorem Sk.op (h : Sk H0 H t T S Be ve es) (hM : LtM H' t T' S') (hf : Fr T H H') (hT : ∀ b, T' b → T b ∨ H.size ≤ b) (hs : Has S' es) : Sk H0 H' t T' S' Be ve es :=
 ⟨h.s.op hM hf hT, hs, h.e.frame hf fun b hb => (h.ne b hb).1, fun b hb => ⟨fun hx => (hT b hx).elim (h.ne b hb).1 fun h1 => by have := h.e.lt hb; omega, (h.ne b hb).2⟩, h.nd⟩
theorem Sk.keep (h : Sk H0 H t T S Be ve es) (hM : LtM H' t T S) (hf : Fr T H H') : Sk H0 H' t T S Be ve es := h.op hM hf (fun _ h => .inl h) h.has
theorem Sk.grow (h : Sk H0 H t T S Be ve es) (hf : Fr (fun _ => False) H H') : Sk H0 H' t T S Be ve es :=
 ⟨h.s.grow hf, h.has, h.e.frame hf fun _ _ h => h, h.ne, h.nd⟩
theorem Sk.setE (hs : LS H0 H t T S) (hB : ∀ b, Be = some b → ¬ T b ∧ H0.size ≤ b) (hh : Has S es') (hn : (es'.map (·.id)).Nodup) (he : SR Ed.cells 4 H' Be' ve' es') (hf : Fr (fun b => Be = some b) H H') (hb : Be' = Be ∨ ∃ g, Be' = some g ∧ H.size ≤ g) : Sk H0 H' t T S Be' ve' es' := by
 have hz := hs.fr.size
 refine ⟨⟨hs.m.frame hf fun b hb hx => (hB b hx).1 hb, hs.fr.trans' hf fun b hb hx => by have := (hB b hx).2; omega, hs.new⟩, hh, he, fun b hb' => ?_, hn⟩
 rcases hb with h | ⟨g, h1, h2⟩
 ·exact hB b (by rw [← h]; exact hb')
 ·rw [h1] at hb'
  obtain rfl := Option.some.inj hb'
  exact ⟨fun hx => by have := hs.m.below _ hx; omega, by omega⟩
end
end Go.Proofs.Ytoplhfhjokjbiaa
