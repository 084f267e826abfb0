/-
  A forest: an edge is taken in.
  A forest: made, asked.
  maps.Values and maps.Keys: each entry once, in whatever order.
  slices.Collect of a map's keys.
  slices.Sort of integers, over heaps.
  A forest's names, rising.
-/
import Derived.Test.YtafehbegoanajaaG4
import Derived.Test.YtafehbegoanajaaG0
import Derived.Sort.EveryDepth
import Derived.Shelf.Slices.In.SortNone
import Derived.Sort.OwnSortedInts
namespace Go.Ms
open Go Go.Hp Go.Li Go.Br
set_option linter.unusedVariables false
theorem store4 {H : Heap} {b : Nat} {x0 x1 x2 x3 : Value} (hb : Blk H b [x0, x1, x2, x3]) (v0 v1 v2 v3 : Value) :
  Blk (hset (hset (hset (hset H ⟨b, 0, none⟩ v0) ⟨b, 1, none⟩ v1) ⟨b, 2, none⟩ v2) ⟨b, 3, none⟩ v3) b [v0, v1, v2, v3] ∧ Fr (· = b) H (hset (hset (hset (hset H ⟨b, 0, none⟩ v0) ⟨b, 1, none⟩ v1) ⟨b, 2, none⟩ v2) ⟨b, 3, none⟩ v3) :=
 ⟨(((hb.set_same 0 _).set_same 1 _).set_same 2 _).set_same 3 _, Fr.set (S := (· = b)) (a := ⟨b, 3, none⟩) (Fr.set (S := (· = b)) (a := ⟨b, 2, none⟩) (Fr.set (S := (· = b)) (a := ⟨b, 1, none⟩) (Fr.set (S := (· = b)) (a := ⟨b, 0, none⟩) (Fr.refl _ _) (.inl rfl) _) (.inl rfl) _) (.inl rfl) _) (.inl rfl) _⟩
theorem edge_box {H : Heap} (e : Ed) {T0 : TypeId} : Blk (hset (hset (hset (hset (H.push (.cells #[.int .i64 0, .int .i64 0, .int .i64 0, .int .i64 0] T0)) ⟨H.size, 0, none⟩ (.int .i64 e.id)) ⟨H.size, 1, none⟩ (.int .i64 e.u)) ⟨H.size, 2, none⟩ (.int .i64 e.v)) ⟨H.size, 3, none⟩ (.int .i64 e.w)) H.size e.cells ∧
  Fr (fun _ => False) H (hset (hset (hset (hset (H.push (.cells #[.int .i64 0, .int .i64 0, .int .i64 0, .int .i64 0] T0)) ⟨H.size, 0, none⟩ (.int .i64 e.id)) ⟨H.size, 1, none⟩ (.int .i64 e.u)) ⟨H.size, 2, none⟩ (.int .i64 e.v)) ⟨H.size, 3, none⟩ (.int .i64 e.w)) := by
 have bn := Blk.new H [.int .i64 0, .int .i64 0, .int .i64 0, .int .i64 0] T0
 have fn : Fr (fun _ => False) H (H.push (.cells #[.int .i64 0, .int .i64 0, .int .i64 0, .int .i64 0] T0)) := (Fr.refl _ H).push _
 obtain ⟨b7, f7⟩ := store4 bn (.int .i64 e.id) (.int .i64 e.u) (.int .i64 e.v) (.int .i64 e.w)
 exact ⟨b7, fn.trans' f7 fun b hb (e : b = H.size) => by omega⟩
theorem got_edge (z : Option Ed) : gotV Ed.zero.val true (z.map Ed.val) = .tuple #[(z.getD Ed.zero).val, .bool z.isSome] := by cases z <;> rfl
theorem Msf.congr {l l' : List Ed} {F F' : Ed → Prop} (h : Msf l F) (hl : ∀ e, e ∈ l ↔ e ∈ l') (hF : ∀ e, F e ↔ F' e) : Msf l' F' := fun e => by
 rw [← hF, h e, hl e]
 have : ∀ {p q : Nat}, Cn (Lo (In l) e) p q ↔ Cn (Lo (In l') e) p q := ⟨fun k => k.sub fun z hz => ⟨(hl z).1 hz.1, hz.2⟩, fun k => k.sub fun z hz => ⟨(hl z).2 hz.1, hz.2⟩⟩
 rw [this]
def insC (n : Nat) (l : List Ed) (id u v w : Int) : Int :=
 if (Proofs.Ytafehbegoanajaa.inB n u && Proofs.Ytafehbegoanajaa.inB n v) = false then 70 else if Proofs.Ytafehbegoanajaa.okArg id w = false then 1 else if (byId l id).isSome then 71 else if u = v then 72 else if l.length = 192 then 73 else 0
section
variable {n : Nat} {l F : List Ed} {x y : Ed}
theorem Fp.out (h : Fp n l F) (hx : OkE n x) (hid : byId l x.id = none) (hlen : l.length ≠ 192) (hc : ¬ Cn (In F) x.u.toNat x.v.toNat) : Fp n (l ++ [x]) (F ++ [x]) := by
 have hno := byId_none.1 hid
 have hxl : x ∉ l := fun hm => hno x hm rfl
 have := h.len
 refine ⟨h.n1, h.n64, ?_, fun e he => ?_, by simp; omega, ?_, ?_⟩
 ·rw [List.map_append, List.nodup_append]
  exact ⟨h.uq, by simp, fun a ha b hb e => by
   obtain ⟨z, hz, rfl⟩ := List.mem_map.1 ha
   simp at hb
   exact hno z hz (e.trans hb)⟩
 ·rcases List.mem_append.1 he with he | he
  ·exact h.ok e he
  ·rw [List.mem_singleton.1 he]; exact hx
 ·refine (h.msf.more_out (l' := l ++ [x]) (x := x) (by simp) (fun k => hc (h.msf.all.1 k)) hxl).congr (fun _ => Iff.rfl) fun e => ?_
  simp [In]
 ·rw [List.map_append, List.nodup_append]
  exact ⟨h.fn, by simp, fun a ha b hb e => by
   obtain ⟨z, hz, rfl⟩ := List.mem_map.1 ha
   simp at hb
   exact hno z (h.sub z hz) (e.trans hb)⟩
theorem Fp.keep (h : Fp n l F) (hx : OkE n x) (hid : byId l x.id = none) (hlen : l.length ≠ 192) (hy : Mx (In F) x.u.toNat x.v.toNat y) (hxy : heavy x y = true) : Fp n (l ++ [x]) F := by
 have hno := byId_none.1 hid
 have hxl : x ∉ l := fun hm => hno x hm rfl
 have := h.len
 refine ⟨h.n1, h.n64, ?_, fun e he => ?_, by simp; omega, h.msf.more_keep (by simp) hy hxy hxl, h.fn⟩
 ·rw [List.map_append, List.nodup_append]
  exact ⟨h.uq, by simp, fun a ha b hb e => by
   obtain ⟨z, hz, rfl⟩ := List.mem_map.1 ha
   simp at hb
   exact hno z hz (e.trans hb)⟩
 ·rcases List.mem_append.1 he with he | he
  ·exact h.ok e he
  ·rw [List.mem_singleton.1 he]; exact hx
theorem Fp.swap (h : Fp n l F) (hx : OkE n x) (hid : byId l x.id = none) (hlen : l.length ≠ 192) {i : Nat} (hi : F[i]? = some y) (hy : Mx (In F) x.u.toNat x.v.toNat y) (hxy : heavy y x = true) : Fp n (l ++ [x]) (woL F i ++ [x]) := by
 have hno := byId_none.1 hid
 have hxl : x ∉ l := fun hm => hno x hm rfl
 have := h.len
 have huq : ((l ++ [x]).map (·.id)).Nodup := by
  rw [List.map_append, List.nodup_append]
  exact ⟨h.uq, by simp, fun a ha b hb e => by
   obtain ⟨z, hz, rfl⟩ := List.mem_map.1 ha
   simp at hb
   exact hno z hz (e.trans hb)⟩
 refine ⟨h.n1, h.n64, huq, fun e he => ?_, by simp; omega, ?_, ?_⟩
 ·rcases List.mem_append.1 he with he | he
  ·exact h.ok e he
  ·rw [List.mem_singleton.1 he]; exact hx
 ·refine (h.msf.more_swap (l' := l ++ [x]) (x := x) (uq_of huq) (by simp) hy hxy hxl).congr (fun _ => Iff.rfl) fun e => ?_
  unfold In
  rw [List.mem_append, mem_wo h.fn hi, List.mem_singleton]
 ·rw [List.map_append, List.nodup_append]
  exact ⟨(woL_nodup hi h.fn).1, by simp, fun a ha b hb e => by
   obtain ⟨z, hz, rfl⟩ := List.mem_map.1 ha
   simp at hb
   exact hno z (h.sub z ((mem_wo h.fn hi).1 hz).1) (e.trans hb)⟩
end
def Stp (F F' : List Ed) : Prop := F' = F ∨ (∃ x, F' = F ++ [x]) ∨ (∃ i y, F[i]? = some y ∧ F' = woL F i) ∨ ∃ i y x, F[i]? = some y ∧ F' = woL F i ++ [x]
end Go.Ms
namespace Go.Proofs.Ytafehbegoanajaa
open Go Go.Hp Go.Li Go.Br Go.Ms
set_option linter.all false
set_option maxRecDepth 100000
set_option maxHeartbeats 3200000
section
variable {H H' : Heap} {f n k1 : Nat} {T T0 : Nat → Prop} {g : Int → Option Ed} {l F : List Ed} {L : Value → Heap → Prop}
theorem m_insert {k0 u v w : Int} (hM : MsM H f T n l F)
  (bad0 : ∀ c, insC n l k0 u v w = c → c ≠ 0 → ∀ H', MsM H' f T n l F → Fr (fun _ => False) H H' → L (.int .i64 c) H')
  (fin : insC n l k0 u v w = 0 → ∀ H' T' F', MsM H' f T' n (l ++ [⟨k0, u, v, w⟩]) F' → Stp F F' → Fr T H H' → (∀ b, T' b → T b ∨ H.size ≤ b) → L (.int .i64 0) H') :
  CallsH Try.prog 12 #[.pointer (some ⟨f, 0, none⟩), .int .i64 k0, .int .i64 u, .int .i64 v, .int .i64 w] H L := by
 obtain ⟨hm, hp⟩ := id hM
 obtain ⟨r1, r2, t, Tt, k2, hb, hm1, hB1, hm2, hB2, hT, ⟨d1, d2, d3⟩, ⟨d4, d5, d6⟩, he⟩ := id hm
 have c1 := hb.cellOf (i := 1) rfl
 refine call12 (by simp) ?_
 simp only [Try.f12, Option.getD_some]
 repeat' (first|(with_reducible first|refine jA ?_|(refine hK _ _ ?_;clear hK K)|refine jJ fun K hK=>?_|refine jK ?_|refine jL ?_|refine jM ?_|refine jN ?_|refine jO ?_|refine jP ?_|refine jQ ?_|(refine jB ?_;clear hK K)|(refine jC ?_;clear hK K)|refine jD ?_|refine jE ?_|refine jG ?_|refine jH ?_|refine jI ?_)|((with_reducible refine jR ?hq ?_);case hq=>rfl)|((first|(with_reducible first|refine jS fun K hK=>?_|refine jT ?_|refine jU ?_)|((with_reducible refine jV ?hy fun K hK=>?_);case hy=>rfl));simp only [go_sem, Nat.reduceEqDiff, Nat.reduceAdd, Nat.reduceMul, Nat.reduceLeDiff, Nat.reduceLT, Int.reduceLT, Int.reduceLE, Int.reduceEq, Int.reduceNeg, Int.reduceToNat, Nat.reducePow, reduceIte, reduceCtorEq, c1])|((with_reducible first|refine jW ?hy ?_|refine jY ?hy ?_);case hy=>rfl)|((with_reducible first|refine jX ?hy ?_|refine jZ ?hy ?_);case hy=>rfl)|((with_reducible refine jF ?hy ?_);case hy=>decide))
 refine rd_lookupQ (vf := Ed.val) mapT_edges kInt hm1 k0 true ?_
 rw [got_edge]
 obtain ⟨z, hz⟩ : ∃ z, z = (byId l k0).getD Ed.zero := ⟨_, rfl⟩
 obtain ⟨bs, hbs⟩ : ∃ bs, bs = (byId l k0).isSome := ⟨_, rfl⟩
 rw [← hz, ← hbs]
 simp only [Ed.val]
 repeat' (first|(with_reducible first|refine jA ?_|(refine hK _ _ ?_;clear hK K)|refine jJ fun K hK=>?_|refine jK ?_|refine jL ?_|refine jM ?_|refine jN ?_|refine jO ?_|refine jP ?_|refine jQ ?_|(refine jB ?_;clear hK K)|(refine jC ?_;clear hK K)|refine jD ?_|refine jE ?_|refine jG ?_|refine jH ?_|refine jI ?_)|((with_reducible refine jR ?hq ?_);case hq=>rfl)|((first|(with_reducible first|refine jS fun K hK=>?_|refine jT ?_|refine jU ?_)|((with_reducible refine jV ?hy fun K hK=>?_);case hy=>rfl));simp only [go_sem, Nat.reduceEqDiff, Nat.reduceAdd, Nat.reduceMul, Nat.reduceLeDiff, Nat.reduceLT, Int.reduceLT, Int.reduceLE, Int.reduceEq, Int.reduceNeg, Int.reduceToNat, Nat.reducePow, reduceIte, reduceCtorEq, hcell_push, hcell_top, okW_push, okW_top, hcell_hset_ne, hcell_hset_off, hcell_hset_eq, okW_hset, hset_size, Array.size_push, Nat.lt_add_one, ne_add_one, add_one_ne, Nat.add_assoc, add_same, add_lt_same, Nat.reduceEqDiff, lt_add_k, add_k_ne, ne_add_k])|((with_reducible first|refine jW ?hy ?_|refine jY ?hy ?_);case hy=>rfl)|((with_reducible first|refine jX ?hy ?_|refine jZ ?hy ?_);case hy=>rfl)|((with_reducible refine jF ?hy ?_);case hy=>decide))
 obtain ⟨b3, f3⟩ := edge_box (H := H) z (T0 := 30)
 generalize hset _ _ _ = H3 at b3 f3 ⊢
 have hM3 := hM.frame f3 fun _ _ h => h
 have hb3 := hb.frame f3 fun h => h
 have c0 := hb3.cellOf (i := 0) rfl
 clear b3 c1
 unfold insC at bad0 fin
 refine fhas_ok c0 ?_
 cases hu : inB n u with
 | false =>
  repeat' (first|(with_reducible first|refine jA ?_|(refine hK _ _ ?_;clear hK K)|refine jJ fun K hK=>?_|refine jK ?_|refine jL ?_|refine jM ?_|refine jN ?_|refine jO ?_|refine jP ?_|refine jQ ?_|(refine jB ?_;clear hK K)|(refine jC ?_;clear hK K)|refine jD ?_|refine jE ?_|refine jG ?_|refine jH ?_|refine jI ?_)|((with_reducible refine jR ?hq ?_);case hq=>rfl)|((first|(with_reducible first|refine jS fun K hK=>?_|refine jT ?_|refine jU ?_)|((with_reducible refine jV ?hy fun K hK=>?_);case hy=>rfl));simp only [go_sem, Nat.reduceEqDiff, Nat.reduceAdd, Nat.reduceMul, Nat.reduceLeDiff, Nat.reduceLT, Int.reduceLT, Int.reduceLE, Int.reduceEq, Int.reduceNeg, Int.reduceToNat, Nat.reducePow, reduceIte, reduceCtorEq, Bool.not_false])|((with_reducible first|refine jW ?hy ?_|refine jY ?hy ?_);case hy=>rfl)|((with_reducible first|refine jX ?hy ?_|refine jZ ?hy ?_);case hy=>rfl)|((with_reducible refine jF ?hy ?_);case hy=>decide))
  exact bad0 70 (by rw [hu]; rfl) (by decide) H3 hM3 f3
 | true =>
 repeat' (first|(with_reducible first|refine jA ?_|(refine hK _ _ ?_;clear hK K)|refine jJ fun K hK=>?_|refine jK ?_|refine jL ?_|refine jM ?_|refine jN ?_|refine jO ?_|refine jP ?_|refine jQ ?_|(refine jB ?_;clear hK K)|(refine jC ?_;clear hK K)|refine jD ?_|refine jE ?_|refine jG ?_|refine jH ?_|refine jI ?_)|((with_reducible refine jR ?hq ?_);case hq=>rfl)|((first|(with_reducible first|refine jS fun K hK=>?_|refine jT ?_|refine jU ?_)|((with_reducible refine jV ?hy fun K hK=>?_);case hy=>rfl));simp only [go_sem, Nat.reduceEqDiff, Nat.reduceAdd, Nat.reduceMul, Nat.reduceLeDiff, Nat.reduceLT, Int.reduceLT, Int.reduceLE, Int.reduceEq, Int.reduceNeg, Int.reduceToNat, Nat.reducePow, reduceIte, reduceCtorEq, Bool.not_true])|((with_reducible first|refine jW ?hy ?_|refine jY ?hy ?_);case hy=>rfl)|((with_reducible first|refine jX ?hy ?_|refine jZ ?hy ?_);case hy=>rfl)|((with_reducible refine jF ?hy ?_);case hy=>decide))
 refine fhas_ok c0 ?_
 cases hv : inB n v with
 | false =>
  repeat' (first|(with_reducible first|refine jA ?_|(refine hK _ _ ?_;clear hK K)|refine jJ fun K hK=>?_|refine jK ?_|refine jL ?_|refine jM ?_|refine jN ?_|refine jO ?_|refine jP ?_|refine jQ ?_|(refine jB ?_;clear hK K)|(refine jC ?_;clear hK K)|refine jD ?_|refine jE ?_|refine jG ?_|refine jH ?_|refine jI ?_)|((with_reducible refine jR ?hq ?_);case hq=>rfl)|((first|(with_reducible first|refine jS fun K hK=>?_|refine jT ?_|refine jU ?_)|((with_reducible refine jV ?hy fun K hK=>?_);case hy=>rfl));simp only [go_sem, Nat.reduceEqDiff, Nat.reduceAdd, Nat.reduceMul, Nat.reduceLeDiff, Nat.reduceLT, Int.reduceLT, Int.reduceLE, Int.reduceEq, Int.reduceNeg, Int.reduceToNat, Nat.reducePow, reduceIte, reduceCtorEq, Bool.not_false])|((with_reducible first|refine jW ?hy ?_|refine jY ?hy ?_);case hy=>rfl)|((with_reducible first|refine jX ?hy ?_|refine jZ ?hy ?_);case hy=>rfl)|((with_reducible refine jF ?hy ?_);case hy=>decide))
  exact bad0 70 (by rw [hu, hv]; rfl) (by decide) H3 hM3 f3
 | true =>
 have hin : ¬ ((inB n u && inB n v) = false) := by rw [hu, hv]; decide
 rw [if_neg hin] at fin
 have bad : ∀ c, (if okArg k0 w = false then 1 else if (byId l k0).isSome then 71 else if u = v then 72 else if l.length = 192 then 73 else 0) = c → c ≠ 0 → L (.int .i64 c) H3 := fun c h1 h2 => bad0 c (by rw [if_neg hin]; exact h1) h2 H3 hM3 f3
 clear bad0
 repeat' (first|(with_reducible first|refine jA ?_|(refine hK _ _ ?_;clear hK K)|refine jJ fun K hK=>?_|refine jK ?_|refine jL ?_|refine jM ?_|refine jN ?_|refine jO ?_|refine jP ?_|refine jQ ?_|(refine jB ?_;clear hK K)|(refine jC ?_;clear hK K)|refine jD ?_|refine jE ?_|refine jG ?_|refine jH ?_|refine jI ?_)|((with_reducible refine jR ?hq ?_);case hq=>rfl)|((first|(with_reducible first|refine jS fun K hK=>?_|refine jT ?_|refine jU ?_)|((with_reducible refine jV ?hy fun K hK=>?_);case hy=>rfl));simp only [go_sem, Nat.reduceEqDiff, Nat.reduceAdd, Nat.reduceMul, Nat.reduceLeDiff, Nat.reduceLT, Int.reduceLT, Int.reduceLE, Int.reduceEq, Int.reduceNeg, Int.reduceToNat, Nat.reducePow, reduceIte, reduceCtorEq, Bool.not_true])|((with_reducible first|refine jW ?hy ?_|refine jY ?hy ?_);case hy=>rfl)|((with_reducible first|refine jX ?hy ?_|refine jZ ?hy ?_);case hy=>rfl)|((with_reducible refine jF ?hy ?_);case hy=>decide))
 cases ha : okArg k0 w with
 | false =>
  rw [if_pos ha] at bad
  have bad := bad 1 rfl (by decide)
  unfold okArg at ha
  simp only [Bool.and_eq_false_iff, decide_eq_false_iff_not] at ha
  by_cases q1 : k0 < 0
  ·have t1 : (k0 < 0) = True := eq_true q1
   simp only [t1, decide_true]
   repeat' (first|(with_reducible first|refine jA ?_|(refine hK _ _ ?_;clear hK K)|refine jJ fun K hK=>?_|refine jK ?_|refine jL ?_|refine jM ?_|refine jN ?_|refine jO ?_|refine jP ?_|refine jQ ?_|(refine jB ?_;clear hK K)|(refine jC ?_;clear hK K)|refine jD ?_|refine jE ?_|refine jG ?_|refine jH ?_|refine jI ?_)|((with_reducible refine jR ?hq ?_);case hq=>rfl)|((first|(with_reducible first|refine jS fun K hK=>?_|refine jT ?_|refine jU ?_)|((with_reducible refine jV ?hy fun K hK=>?_);case hy=>rfl));simp only [go_sem, Nat.reduceEqDiff, Nat.reduceAdd, Nat.reduceMul, Nat.reduceLeDiff, Nat.reduceLT, Int.reduceLT, Int.reduceLE, Int.reduceEq, Int.reduceNeg, Int.reduceToNat, Nat.reducePow, reduceIte, reduceCtorEq, t1])|((with_reducible first|refine jW ?hy ?_|refine jY ?hy ?_);case hy=>rfl)|((with_reducible first|refine jX ?hy ?_|refine jZ ?hy ?_);case hy=>rfl)|((with_reducible refine jF ?hy ?_);case hy=>decide))
   exact bad
  have t1 : (k0 < 0) = False := eq_false q1
  simp only [t1, decide_false]
  by_cases q2 : 1099511627776 < k0
  ·have t2 : (1099511627776 < k0) = True := eq_true q2
   repeat' (first|(with_reducible first|refine jA ?_|(refine hK _ _ ?_;clear hK K)|refine jJ fun K hK=>?_|refine jK ?_|refine jL ?_|refine jM ?_|refine jN ?_|refine jO ?_|refine jP ?_|refine jQ ?_|(refine jB ?_;clear hK K)|(refine jC ?_;clear hK K)|refine jD ?_|refine jE ?_|refine jG ?_|refine jH ?_|refine jI ?_)|((with_reducible refine jR ?hq ?_);case hq=>rfl)|((first|(with_reducible first|refine jS fun K hK=>?_|refine jT ?_|refine jU ?_)|((with_reducible refine jV ?hy fun K hK=>?_);case hy=>rfl));simp only [go_sem, Nat.reduceEqDiff, Nat.reduceAdd, Nat.reduceMul, Nat.reduceLeDiff, Nat.reduceLT, Int.reduceLT, Int.reduceLE, Int.reduceEq, Int.reduceNeg, Int.reduceToNat, Nat.reducePow, reduceIte, reduceCtorEq, t1, t2])|((with_reducible first|refine jW ?hy ?_|refine jY ?hy ?_);case hy=>rfl)|((with_reducible first|refine jX ?hy ?_|refine jZ ?hy ?_);case hy=>rfl)|((with_reducible refine jF ?hy ?_);case hy=>decide))
   exact bad
  have t2 : (1099511627776 < k0) = False := eq_false q2
  by_cases q3 : w < -1099511627776
  ·have t3 : (w < -1099511627776) = True := eq_true q3
   repeat' (first|(with_reducible first|refine jA ?_|(refine hK _ _ ?_;clear hK K)|refine jJ fun K hK=>?_|refine jK ?_|refine jL ?_|refine jM ?_|refine jN ?_|refine jO ?_|refine jP ?_|refine jQ ?_|(refine jB ?_;clear hK K)|(refine jC ?_;clear hK K)|refine jD ?_|refine jE ?_|refine jG ?_|refine jH ?_|refine jI ?_)|((with_reducible refine jR ?hq ?_);case hq=>rfl)|((first|(with_reducible first|refine jS fun K hK=>?_|refine jT ?_|refine jU ?_)|((with_reducible refine jV ?hy fun K hK=>?_);case hy=>rfl));simp only [go_sem, Nat.reduceEqDiff, Nat.reduceAdd, Nat.reduceMul, Nat.reduceLeDiff, Nat.reduceLT, Int.reduceLT, Int.reduceLE, Int.reduceEq, Int.reduceNeg, Int.reduceToNat, Nat.reducePow, reduceIte, reduceCtorEq, t1, t2, t3])|((with_reducible first|refine jW ?hy ?_|refine jY ?hy ?_);case hy=>rfl)|((with_reducible first|refine jX ?hy ?_|refine jZ ?hy ?_);case hy=>rfl)|((with_reducible refine jF ?hy ?_);case hy=>decide))
   exact bad
  have t3 : (w < -1099511627776) = False := eq_false q3
  have t4 : (1099511627776 < w) = True := eq_true (by omega)
  repeat' (first|(with_reducible first|refine jA ?_|(refine hK _ _ ?_;clear hK K)|refine jJ fun K hK=>?_|refine jK ?_|refine jL ?_|refine jM ?_|refine jN ?_|refine jO ?_|refine jP ?_|refine jQ ?_|(refine jB ?_;clear hK K)|(refine jC ?_;clear hK K)|refine jD ?_|refine jE ?_|refine jG ?_|refine jH ?_|refine jI ?_)|((with_reducible refine jR ?hq ?_);case hq=>rfl)|((first|(with_reducible first|refine jS fun K hK=>?_|refine jT ?_|refine jU ?_)|((with_reducible refine jV ?hy fun K hK=>?_);case hy=>rfl));simp only [go_sem, Nat.reduceEqDiff, Nat.reduceAdd, Nat.reduceMul, Nat.reduceLeDiff, Nat.reduceLT, Int.reduceLT, Int.reduceLE, Int.reduceEq, Int.reduceNeg, Int.reduceToNat, Nat.reducePow, reduceIte, reduceCtorEq, t1, t2, t3, t4])|((with_reducible first|refine jW ?hy ?_|refine jY ?hy ?_);case hy=>rfl)|((with_reducible first|refine jX ?hy ?_|refine jZ ?hy ?_);case hy=>rfl)|((with_reducible refine jF ?hy ?_);case hy=>decide))
  exact bad
 | true =>
 have hna : ¬ (okArg k0 w = false) := by rw [ha]; decide
 rw [if_neg hna] at bad fin
 obtain ⟨⟨t1, t2⟩, t3, t4⟩ := okArg_ts ha
 simp only [t1, decide_false]
 cases bs with
 | true =>
  repeat' (first|(with_reducible first|refine jA ?_|(refine hK _ _ ?_;clear hK K)|refine jJ fun K hK=>?_|refine jK ?_|refine jL ?_|refine jM ?_|refine jN ?_|refine jO ?_|refine jP ?_|refine jQ ?_|(refine jB ?_;clear hK K)|(refine jC ?_;clear hK K)|refine jD ?_|refine jE ?_|refine jG ?_|refine jH ?_|refine jI ?_)|((with_reducible refine jR ?hq ?_);case hq=>rfl)|((first|(with_reducible first|refine jS fun K hK=>?_|refine jT ?_|refine jU ?_)|((with_reducible refine jV ?hy fun K hK=>?_);case hy=>rfl));simp only [go_sem, Nat.reduceEqDiff, Nat.reduceAdd, Nat.reduceMul, Nat.reduceLeDiff, Nat.reduceLT, Int.reduceLT, Int.reduceLE, Int.reduceEq, Int.reduceNeg, Int.reduceToNat, Nat.reducePow, reduceIte, reduceCtorEq, t1, t2, t3, t4])|((with_reducible first|refine jW ?hy ?_|refine jY ?hy ?_);case hy=>rfl)|((with_reducible first|refine jX ?hy ?_|refine jZ ?hy ?_);case hy=>rfl)|((with_reducible refine jF ?hy ?_);case hy=>decide))
  exact bad 71 (by rw [if_pos hbs.symm]) (by decide)
 | false =>
 have hnb : ¬ ((byId l k0).isSome = true) := by rw [← hbs]; decide
 rw [if_neg hnb] at bad fin
 by_cases huv : u = v
 ·have t5 : (u == v) = true := by simp [huv]
  repeat' (first|(with_reducible first|refine jA ?_|(refine hK _ _ ?_;clear hK K)|refine jJ fun K hK=>?_|refine jK ?_|refine jL ?_|refine jM ?_|refine jN ?_|refine jO ?_|refine jP ?_|refine jQ ?_|(refine jB ?_;clear hK K)|(refine jC ?_;clear hK K)|refine jD ?_|refine jE ?_|refine jG ?_|refine jH ?_|refine jI ?_)|((with_reducible refine jR ?hq ?_);case hq=>rfl)|((first|(with_reducible first|refine jS fun K hK=>?_|refine jT ?_|refine jU ?_)|((with_reducible refine jV ?hy fun K hK=>?_);case hy=>rfl));simp only [go_sem, Nat.reduceEqDiff, Nat.reduceAdd, Nat.reduceMul, Nat.reduceLeDiff, Nat.reduceLT, Int.reduceLT, Int.reduceLE, Int.reduceEq, Int.reduceNeg, Int.reduceToNat, Nat.reducePow, reduceIte, reduceCtorEq, t1, t2, t3, t4, t5])|((with_reducible first|refine jW ?hy ?_|refine jY ?hy ?_);case hy=>rfl)|((with_reducible first|refine jX ?hy ?_|refine jZ ?hy ?_);case hy=>rfl)|((with_reducible refine jF ?hy ?_);case hy=>decide))
  exact bad 72 (by rw [if_pos huv]) (by decide)
 have t5 : (u == v) = false := beq_false_of_ne huv
 rw [if_neg huv] at bad fin
 obtain ⟨u, rfl, hun⟩ := inB_nat hu
 obtain ⟨v, rfl, hvn⟩ := inB_nat hv
 have c1 := hb3.cellOf (i := 1) rfl
 have hm13 := hm1.frame f3 fun h => h
 repeat' (first|(with_reducible first|refine jA ?_|(refine hK _ _ ?_;clear hK K)|refine jJ fun K hK=>?_|refine jK ?_|refine jL ?_|refine jM ?_|refine jN ?_|refine jO ?_|refine jP ?_|refine jQ ?_|(refine jB ?_;clear hK K)|(refine jC ?_;clear hK K)|refine jD ?_|refine jE ?_|refine jG ?_|refine jH ?_|refine jI ?_)|((with_reducible refine jR ?hq ?_);case hq=>rfl)|((first|(with_reducible first|refine jS fun K hK=>?_|refine jT ?_|refine jU ?_)|((with_reducible refine jV ?hy fun K hK=>?_);case hy=>rfl));simp only [go_sem, Nat.reduceEqDiff, Nat.reduceAdd, Nat.reduceMul, Nat.reduceLeDiff, Nat.reduceLT, Int.reduceLT, Int.reduceLE, Int.reduceEq, Int.reduceNeg, Int.reduceToNat, Nat.reducePow, reduceIte, reduceCtorEq, t1, t2, t3, t4, t5, c1])|((with_reducible first|refine jW ?hy ?_|refine jY ?hy ?_);case hy=>rfl)|((with_reducible first|refine jX ?hy ?_|refine jZ ?hy ?_);case hy=>rfl)|((with_reducible refine jF ?hy ?_);case hy=>decide))
 refine ⟨_, rd_lenF mapT_edges hm13, ?_⟩
 by_cases hlen : l.length = 192
 ·have t6 : ((l.length : Int) == 192) = true := by rw [hlen]; rfl
  repeat' (first|(with_reducible first|refine jA ?_|(refine hK _ _ ?_;clear hK K)|refine jJ fun K hK=>?_|refine jK ?_|refine jL ?_|refine jM ?_|refine jN ?_|refine jO ?_|refine jP ?_|refine jQ ?_|(refine jB ?_;clear hK K)|(refine jC ?_;clear hK K)|refine jD ?_|refine jE ?_|refine jG ?_|refine jH ?_|refine jI ?_)|((with_reducible refine jR ?hq ?_);case hq=>rfl)|((first|(with_reducible first|refine jS fun K hK=>?_|refine jT ?_|refine jU ?_)|((with_reducible refine jV ?hy fun K hK=>?_);case hy=>rfl));simp only [go_sem, Nat.reduceEqDiff, Nat.reduceAdd, Nat.reduceMul, Nat.reduceLeDiff, Nat.reduceLT, Int.reduceLT, Int.reduceLE, Int.reduceEq, Int.reduceNeg, Int.reduceToNat, Nat.reducePow, reduceIte, reduceCtorEq, t6])|((with_reducible first|refine jW ?hy ?_|refine jY ?hy ?_);case hy=>rfl)|((with_reducible first|refine jX ?hy ?_|refine jZ ?hy ?_);case hy=>rfl)|((with_reducible refine jF ?hy ?_);case hy=>decide))
  exact bad 73 (by rw [if_pos hlen]) (by decide)
 have t6 : ((l.length : Int) == 192) = false := beq_false_of_ne (by omega)
 rw [if_neg hlen] at bad fin
 have fin := fin rfl
 clear bad hin hna hnb hu hv c0
 repeat' (first|(with_reducible first|refine jA ?_|(refine hK _ _ ?_;clear hK K)|refine jJ fun K hK=>?_|refine jK ?_|refine jL ?_|refine jM ?_|refine jN ?_|refine jO ?_|refine jP ?_|refine jQ ?_|(refine jB ?_;clear hK K)|(refine jC ?_;clear hK K)|refine jD ?_|refine jE ?_|refine jG ?_|refine jH ?_|refine jI ?_)|((with_reducible refine jR ?hq ?_);case hq=>rfl)|((first|(with_reducible first|refine jS fun K hK=>?_|refine jT ?_|refine jU ?_)|((with_reducible refine jV ?hy fun K hK=>?_);case hy=>rfl));simp only [go_sem, Nat.reduceEqDiff, Nat.reduceAdd, Nat.reduceMul, Nat.reduceLeDiff, Nat.reduceLT, Int.reduceLT, Int.reduceLE, Int.reduceEq, Int.reduceNeg, Int.reduceToNat, Nat.reducePow, reduceIte, reduceCtorEq, t6, hcell_push, hcell_top, okW_push, okW_top, hcell_hset_ne, hcell_hset_off, hcell_hset_eq, okW_hset, hset_size, Array.size_push, Nat.lt_add_one, ne_add_one, add_one_ne, Nat.add_assoc, add_same, add_lt_same, Nat.reduceEqDiff, lt_add_k, add_k_ne, ne_add_k])|((with_reducible first|refine jW ?hy ?_|refine jY ?hy ?_);case hy=>rfl)|((with_reducible first|refine jX ?hy ?_|refine jZ ?hy ?_);case hy=>rfl)|((with_reducible refine jF ?hy ?_);case hy=>decide))
 obtain ⟨b4, f4⟩ := edge_box (H := H3) (⟨k0, (u : Nat), (v : Nat), w⟩ : Ed) (T0 := 30)
 generalize hset _ _ _ = H4 at b4 f4 ⊢
 have f34 := f3.trans f4
 have hid : byId l k0 = none := by
  cases h : byId l k0 with
  | none => rfl
  | some y => rw [h] at hbs; cases hbs
 obtain ⟨x, hx⟩ : ∃ x : Ed, x = ⟨k0, (u : Nat), (v : Nat), w⟩ := ⟨_, rfl⟩
 have hxo : OkE n x := by rw [hx]; exact ⟨⟨u, v, rfl, rfl, hun, hvn, fun e => huv (by rw [e])⟩, ha⟩
 have hxid : byId l x.id = none := by rw [hx]; exact hid
 have hno := byId_none.1 hid
 have hb4 := hb.frame f34 fun h => h
 have c1 := hb4.cellOf (i := 1) rfl
 have x0 := b4.cellOf (i := 0) rfl
 have x1 := b4.cellOf (i := 1) rfl
 have x2 := b4.cellOf (i := 2) rfl
 have x3 := b4.cellOf (i := 3) rfl
 have s3 := f3.size
 have s4 := f4.size
 have l4 := b4.lt
 have lf := hb.lt
 have lr1 := hm1.lt
 have lr2 := hm2.lt
 simp only [go_sem, Nat.reduceEqDiff, Nat.reduceAdd, Nat.reduceMul, Nat.reduceLeDiff, Nat.reduceLT, Int.reduceLT, Int.reduceLE, Int.reduceEq, Int.reduceNeg, Int.reduceToNat, Nat.reducePow, reduceIte, reduceCtorEq, c1]
 repeat' (first|(with_reducible first|refine jA ?_|(refine hK _ _ ?_;clear hK K)|refine jJ fun K hK=>?_|refine jK ?_|refine jL ?_|refine jM ?_|refine jN ?_|refine jO ?_|refine jP ?_|refine jQ ?_|(refine jB ?_;clear hK K)|(refine jC ?_;clear hK K)|refine jD ?_|refine jE ?_|refine jG ?_|refine jH ?_|refine jI ?_)|((with_reducible refine jR ?hq ?_);case hq=>rfl)|((first|(with_reducible first|refine jS fun K hK=>?_|refine jT ?_|refine jU ?_)|((with_reducible refine jV ?hy fun K hK=>?_);case hy=>rfl));simp only [go_sem, Nat.reduceEqDiff, Nat.reduceAdd, Nat.reduceMul, Nat.reduceLeDiff, Nat.reduceLT, Int.reduceLT, Int.reduceLE, Int.reduceEq, Int.reduceNeg, Int.reduceToNat, Nat.reducePow, reduceIte, reduceCtorEq, x0, x1, x2, x3])|((with_reducible first|refine jW ?hy ?_|refine jY ?hy ?_);case hy=>rfl)|((with_reducible first|refine jX ?hy ?_|refine jZ ?hy ?_);case hy=>rfl)|((with_reducible refine jF ?hy ?_);case hy=>decide))
 refine hp_updB (vf := Ed.val) mapT_edges kInt (hm1.frame f34 fun h => h) (hB1.frame f34 fun h => h) k0 (⟨k0, (u : Nat), (v : Nat), w⟩ : Ed) fun H5 hm5 hB5 hf5 hs5 hcc => ?_
 have hb5 := hb4.frame hf5 d1
 have hx5 := b4.frame hf5 (by omega)
 have hT5 := (hT.frame f34 fun _ _ h => h).frame hf5 fun b hb (e : b = r1) => d5 (e ▸ hb)
 have hm5' : MapF intK Ed.val H5 r1 (byId (l ++ [x])) (l ++ [x]).length := by
  rw [hid] at hm5
  have e : (l ++ [x]).length = l.length + 1 := by simp
  rw [e]
  refine hm5.congr fun i => ?_
  rw [byId_add (by rw [hx]; exact hno), hx]
 have hm25 := (hm2.frame f34 fun h => h).frame hf5 (Ne.symm d3)
 have hB25 := (hB2.frame f34 fun h => h).frame hf5 (Ne.symm d3)
 have mk : ∀ H', Fr Tt H5 H' → TrM H' t Tt n F → MxM H' f T n (byId (l ++ [x])) (l ++ [x]).length F := fun H' hf hT' =>
  ⟨r1, r2, t, Tt, k2, hb5.frame hf d4, hm5'.frame hf d5, hB5.frame hf d5, hm25.frame hf d6, hB25.frame hf d6, hT', ⟨d1, d2, d3⟩, ⟨d4, d5, d6⟩, he⟩
 have f05 : Fr T H H5 := (f34.mono (S' := T) fun _ _ h => h.elim).trans' hf5 fun b hb (e : b = r1) => (he b).2 (.inr (.inl e))
 have c3 := hb5.cellOf (i := 3) rfl
 have hTT : ∀ b, Tt b → T b := fun b hb => (he b).2 (.inr (.inr (.inr hb)))
 have nf : ∀ b, H.size ≤ b → ¬ T b := fun b hb h => by have := hM.below b h; omega
 clear c1 x0 x1 x2 x3
 repeat' (first|(with_reducible first|refine jA ?_|(refine hK _ _ ?_;clear hK K)|refine jJ fun K hK=>?_|refine jK ?_|refine jL ?_|refine jM ?_|refine jN ?_|refine jO ?_|refine jP ?_|refine jQ ?_|(refine jB ?_;clear hK K)|(refine jC ?_;clear hK K)|refine jD ?_|refine jE ?_|refine jG ?_|refine jH ?_|refine jI ?_)|((with_reducible refine jR ?hq ?_);case hq=>rfl)|((first|(with_reducible first|refine jS fun K hK=>?_|refine jT ?_|refine jU ?_)|((with_reducible refine jV ?hy fun K hK=>?_);case hy=>rfl));simp only [go_sem, Nat.reduceEqDiff, Nat.reduceAdd, Nat.reduceMul, Nat.reduceLeDiff, Nat.reduceLT, Int.reduceLT, Int.reduceLE, Int.reduceEq, Int.reduceNeg, Int.reduceToNat, Nat.reducePow, reduceIte, reduceCtorEq, c3])|((with_reducible first|refine jW ?hy ?_|refine jY ?hy ?_);case hy=>rfl)|((with_reducible first|refine jX ?hy ?_|refine jZ ?hy ?_);case hy=>rfl)|((with_reducible refine jF ?hy ?_);case hy=>decide))
 have hbT := hT5.below
 have nT : ¬ Tt H3.size := fun h => by have := hT.below _ h; omega
 have hxu : x.u.toNat = u := by rw [hx]; simp
 have hxv : x.v.toNat = v := by rw [hx]; simp
 have hsum := hp.sum
 have hwx : -1099511627776 ≤ w ∧ w ≤ 1099511627776 := by have := hxo.w; rw [hx] at this; exact this
 have hnF : ∀ e ∈ F, e.id ≠ k0 := fun e he => hno e (hp.sub e he)
 rw [← hx] at fin
 have s5 := f05.size
 refine t_most hT5 hun hvn (fun hor H6 hT6 hf6 => ?_) fun hne hcn H6 y hyF hyle hysp hT6 hf6 => ?_
 ·have hc : ¬ Cn (In F) u v := hor.resolve_left fun e => huv (by rw [e])
  obtain ⟨y, hy⟩ : ∃ y, y = Ed.zero := ⟨_, rfl⟩
  rw [← hy]
  have hM6 := mk H6 hf6 hT6
  have hx6 := hx5.frame hf6 nT
  simp only [Ed.val]
  have z1 : ((54 : Int) != 0) = true := rfl
  repeat' (first|(with_reducible first|refine jA ?_|(refine hK _ _ ?_;clear hK K)|refine jJ fun K hK=>?_|refine jK ?_|refine jL ?_|refine jM ?_|refine jN ?_|refine jO ?_|refine jP ?_|refine jQ ?_|(refine jB ?_;clear hK K)|(refine jC ?_;clear hK K)|refine jD ?_|refine jE ?_|refine jG ?_|refine jH ?_|refine jI ?_)|((with_reducible refine jR ?hq ?_);case hq=>rfl)|((first|(with_reducible first|refine jS fun K hK=>?_|refine jT ?_|refine jU ?_)|((with_reducible refine jV ?hy fun K hK=>?_);case hy=>rfl));simp only [go_sem, Nat.reduceEqDiff, Nat.reduceAdd, Nat.reduceMul, Nat.reduceLeDiff, Nat.reduceLT, Int.reduceLT, Int.reduceLE, Int.reduceEq, Int.reduceNeg, Int.reduceToNat, Nat.reducePow, reduceIte, reduceCtorEq, z1, hcell_push, hcell_top, okW_push, okW_top, hcell_hset_ne, hcell_hset_off, hcell_hset_eq, okW_hset, hset_size, Array.size_push, Nat.lt_add_one, ne_add_one, add_one_ne, Nat.add_assoc, add_same, add_lt_same, Nat.reduceEqDiff, lt_add_k, add_k_ne, ne_add_k])|((with_reducible first|refine jW ?hy ?_|refine jY ?hy ?_);case hy=>rfl)|((with_reducible first|refine jX ?hy ?_|refine jZ ?hy ?_);case hy=>rfl)|((with_reducible refine jF ?hy ?_);case hy=>decide))
  obtain ⟨b7, f7⟩ := edge_box (H := H6) y (T0 := 30)
  generalize hset _ _ _ = H7 at b7 f7 ⊢
  have hx7 := hx6.frame f7 fun h => h
  have x0 := hx7.cellOf (i := 0) rfl
  have x1 := hx7.cellOf (i := 1) rfl
  have x2 := hx7.cellOf (i := 2) rfl
  have x3 := hx7.cellOf (i := 3) rfl
  simp only [go_sem, Nat.reduceEqDiff, Nat.reduceAdd, Nat.reduceMul, Nat.reduceLeDiff, Nat.reduceLT, Int.reduceLT, Int.reduceLE, Int.reduceEq, Int.reduceNeg, Int.reduceToNat, Nat.reducePow, reduceIte, reduceCtorEq, x0, x1, x2, x3]
  repeat' (first|(with_reducible first|refine jA ?_|(refine hK _ _ ?_;clear hK K)|refine jJ fun K hK=>?_|refine jK ?_|refine jL ?_|refine jM ?_|refine jN ?_|refine jO ?_|refine jP ?_|refine jQ ?_|(refine jB ?_;clear hK K)|(refine jC ?_;clear hK K)|refine jD ?_|refine jE ?_|refine jG ?_|refine jH ?_|refine jI ?_)|((with_reducible refine jR ?hq ?_);case hq=>rfl)|((first|(with_reducible first|refine jS fun K hK=>?_|refine jT ?_|refine jU ?_)|((with_reducible refine jV ?hy fun K hK=>?_);case hy=>rfl));simp only [go_sem, Nat.reduceEqDiff, Nat.reduceAdd, Nat.reduceMul, Nat.reduceLeDiff, Nat.reduceLT, Int.reduceLT, Int.reduceLE, Int.reduceEq, Int.reduceNeg, Int.reduceToNat, Nat.reducePow, reduceIte, reduceCtorEq, x0, x1, x2, x3])|((with_reducible first|refine jW ?hy ?_|refine jY ?hy ?_);case hy=>rfl)|((with_reducible first|refine jX ?hy ?_|refine jZ ?hy ?_);case hy=>rfl)|((with_reducible refine jF ?hy ?_);case hy=>decide))
  refine take_ok (hM6.frame f7 fun _ _ h => h) hun hvn ha hnF hc (by omega) fun H8 T8 hM8 hf8 hT8 => ?_
  repeat' (first|(with_reducible first|refine jA ?_|(refine hK _ _ ?_;clear hK K)|refine jJ fun K hK=>?_|refine jK ?_|refine jL ?_|refine jM ?_|refine jN ?_|refine jO ?_|refine jP ?_|refine jQ ?_|(refine jB ?_;clear hK K)|(refine jC ?_;clear hK K)|refine jD ?_|refine jE ?_|refine jG ?_|refine jH ?_|refine jI ?_)|((with_reducible refine jR ?hq ?_);case hq=>rfl)|((first|(with_reducible first|refine jS fun K hK=>?_|refine jT ?_|refine jU ?_)|((with_reducible refine jV ?hy fun K hK=>?_);case hy=>rfl));simp only [go_sem, Nat.reduceEqDiff, Nat.reduceAdd, Nat.reduceMul, Nat.reduceLeDiff, Nat.reduceLT, Int.reduceLT, Int.reduceLE, Int.reduceEq, Int.reduceNeg, Int.reduceToNat, Nat.reducePow, reduceIte, reduceCtorEq])|((with_reducible first|refine jW ?hy ?_|refine jY ?hy ?_);case hy=>rfl)|((with_reducible first|refine jX ?hy ?_|refine jZ ?hy ?_);case hy=>rfl)|((with_reducible refine jF ?hy ?_);case hy=>decide))
  have s6 := hf6.size
  have s7 := f7.size
  rw [← hx] at hM8
  exact fin H8 T8 (F ++ [x]) ⟨hM8, hp.out hxo hxid hlen (by rw [hxu, hxv]; exact hc)⟩ (.inr (.inl ⟨x, rfl⟩)) (((f05.trans (hf6.mono fun b _ h => hTT b h)).trans (f7.mono fun _ _ h => h.elim)).trans hf8) fun b hb => (hT8 b hb).elim .inl fun h => .inr (by omega)
 ·have hmx : Mx (In F) x.u.toNat x.v.toNat y := by rw [hxu, hxv]; exact hp.msf.mx (uq_of hp.uq) hyF hyle hysp
  have hM6 := mk H6 hf6 hT6
  have hx6 := hx5.frame hf6 nT
  have hyw := (hp.ok y (hp.sub y hyF)).w
  simp only [Ed.val]
  have z1 : ((0 : Int) != 0) = false := rfl
  repeat' (first|(with_reducible first|refine jA ?_|(refine hK _ _ ?_;clear hK K)|refine jJ fun K hK=>?_|refine jK ?_|refine jL ?_|refine jM ?_|refine jN ?_|refine jO ?_|refine jP ?_|refine jQ ?_|(refine jB ?_;clear hK K)|(refine jC ?_;clear hK K)|refine jD ?_|refine jE ?_|refine jG ?_|refine jH ?_|refine jI ?_)|((with_reducible refine jR ?hq ?_);case hq=>rfl)|((first|(with_reducible first|refine jS fun K hK=>?_|refine jT ?_|refine jU ?_)|((with_reducible refine jV ?hy fun K hK=>?_);case hy=>rfl));simp only [go_sem, Nat.reduceEqDiff, Nat.reduceAdd, Nat.reduceMul, Nat.reduceLeDiff, Nat.reduceLT, Int.reduceLT, Int.reduceLE, Int.reduceEq, Int.reduceNeg, Int.reduceToNat, Nat.reducePow, reduceIte, reduceCtorEq, z1, hcell_push, hcell_top, okW_push, okW_top, hcell_hset_ne, hcell_hset_off, hcell_hset_eq, okW_hset, hset_size, Array.size_push, Nat.lt_add_one, ne_add_one, add_one_ne, Nat.add_assoc, add_same, add_lt_same, Nat.reduceEqDiff, lt_add_k, add_k_ne, ne_add_k])|((with_reducible first|refine jW ?hy ?_|refine jY ?hy ?_);case hy=>rfl)|((with_reducible first|refine jX ?hy ?_|refine jZ ?hy ?_);case hy=>rfl)|((with_reducible refine jF ?hy ?_);case hy=>decide))
  obtain ⟨b7, f7⟩ := edge_box (H := H6) y (T0 := 30)
  generalize hset _ _ _ = H7 at b7 f7 ⊢
  have hx7 := hx6.frame f7 fun h => h
  have hM7 := hM6.frame f7 fun _ _ h => h
  have x0 := hx7.cellOf (i := 0) rfl
  have x1 := hx7.cellOf (i := 1) rfl
  have x2 := hx7.cellOf (i := 2) rfl
  have x3 := hx7.cellOf (i := 3) rfl
  have y0 := b7.cellOf (i := 0) rfl
  have y1 := b7.cellOf (i := 1) rfl
  have y2 := b7.cellOf (i := 2) rfl
  have y3 := b7.cellOf (i := 3) rfl
  have s6 := hf6.size
  have s7 := f7.size
  have f07 := (f05.trans (hf6.mono fun b _ h => hTT b h)).trans (f7.mono (S' := T) fun _ _ h => h.elim)
  have nT6 : ∀ b, H.size ≤ b → b < H7.size → ¬ T b := fun b h1 _ => nf b h1
  simp only [go_sem, Nat.reduceEqDiff, Nat.reduceAdd, Nat.reduceMul, Nat.reduceLeDiff, Nat.reduceLT, Int.reduceLT, Int.reduceLE, Int.reduceEq, Int.reduceNeg, Int.reduceToNat, Nat.reducePow, reduceIte, reduceCtorEq, x0, x1, x2, x3, y0, y1, y2, y3]
  repeat' (first|(with_reducible first|refine jA ?_|(refine hK _ _ ?_;clear hK K)|refine jJ fun K hK=>?_|refine jK ?_|refine jL ?_|refine jM ?_|refine jN ?_|refine jO ?_|refine jP ?_|refine jQ ?_|(refine jB ?_;clear hK K)|(refine jC ?_;clear hK K)|refine jD ?_|refine jE ?_|refine jG ?_|refine jH ?_|refine jI ?_)|((with_reducible refine jR ?hq ?_);case hq=>rfl)|((first|(with_reducible first|refine jS fun K hK=>?_|refine jT ?_|refine jU ?_)|((with_reducible refine jV ?hy fun K hK=>?_);case hy=>rfl));simp only [go_sem, Nat.reduceEqDiff, Nat.reduceAdd, Nat.reduceMul, Nat.reduceLeDiff, Nat.reduceLT, Int.reduceLT, Int.reduceLE, Int.reduceEq, Int.reduceNeg, Int.reduceToNat, Nat.reducePow, reduceIte, reduceCtorEq, x0, x1, x2, x3, y0, y1, y2, y3])|((with_reducible first|refine jW ?hy ?_|refine jY ?hy ?_);case hy=>rfl)|((with_reducible first|refine jX ?hy ?_|refine jZ ?hy ?_);case hy=>rfl)|((with_reducible refine jF ?hy ?_);case hy=>decide))
  refine mheavier_ok (a := y) (b := ⟨k0, (u : Nat), (v : Nat), w⟩) fun H8 f8 => ?_
  rw [← hx]
  have hM8 := hM7.frame f8 fun _ _ h => h
  have hb8 := b7.frame f8 fun h => h
  have hx8 := hx7.frame f8 fun h => h
  have s8 := f8.size
  have f08 := f07.trans (f8.mono (S' := T) fun _ _ h => h.elim)
  cases hh : heavy y x with
  | false =>
   repeat' (first|(with_reducible first|refine jA ?_|(refine hK _ _ ?_;clear hK K)|refine jJ fun K hK=>?_|refine jK ?_|refine jL ?_|refine jM ?_|refine jN ?_|refine jO ?_|refine jP ?_|refine jQ ?_|(refine jB ?_;clear hK K)|(refine jC ?_;clear hK K)|refine jD ?_|refine jE ?_|refine jG ?_|refine jH ?_|refine jI ?_)|((with_reducible refine jR ?hq ?_);case hq=>rfl)|((first|(with_reducible first|refine jS fun K hK=>?_|refine jT ?_|refine jU ?_)|((with_reducible refine jV ?hy fun K hK=>?_);case hy=>rfl));simp only [go_sem, Nat.reduceEqDiff, Nat.reduceAdd, Nat.reduceMul, Nat.reduceLeDiff, Nat.reduceLT, Int.reduceLT, Int.reduceLE, Int.reduceEq, Int.reduceNeg, Int.reduceToNat, Nat.reducePow, reduceIte, reduceCtorEq])|((with_reducible first|refine jW ?hy ?_|refine jY ?hy ?_);case hy=>rfl)|((with_reducible first|refine jX ?hy ?_|refine jZ ?hy ?_);case hy=>rfl)|((with_reducible refine jF ?hy ?_);case hy=>decide))
   have hxy : heavy x y = true := (hv_total fun e => hnF y hyF (by rw [← e, hx])).resolve_right (by rw [hh]; decide)
   exact fin H8 T F ⟨hM8, hp.keep hxo hxid hlen hmx hxy⟩ (.inl rfl) f08 fun b hb => .inl hb
  | true =>
   obtain ⟨i, hi⟩ := List.mem_iff_getElem?.1 hyF
   have y0 := hb8.cellOf (i := 0) rfl
   have y1 := hb8.cellOf (i := 1) rfl
   have y2 := hb8.cellOf (i := 2) rfl
   have y3 := hb8.cellOf (i := 3) rfl
   repeat' (first|(with_reducible first|refine jA ?_|(refine hK _ _ ?_;clear hK K)|refine jJ fun K hK=>?_|refine jK ?_|refine jL ?_|refine jM ?_|refine jN ?_|refine jO ?_|refine jP ?_|refine jQ ?_|(refine jB ?_;clear hK K)|(refine jC ?_;clear hK K)|refine jD ?_|refine jE ?_|refine jG ?_|refine jH ?_|refine jI ?_)|((with_reducible refine jR ?hq ?_);case hq=>rfl)|((first|(with_reducible first|refine jS fun K hK=>?_|refine jT ?_|refine jU ?_)|((with_reducible refine jV ?hy fun K hK=>?_);case hy=>rfl));simp only [go_sem, Nat.reduceEqDiff, Nat.reduceAdd, Nat.reduceMul, Nat.reduceLeDiff, Nat.reduceLT, Int.reduceLT, Int.reduceLE, Int.reduceEq, Int.reduceNeg, Int.reduceToNat, Nat.reducePow, reduceIte, reduceCtorEq, y0, y1, y2, y3])|((with_reducible first|refine jW ?hy ?_|refine jY ?hy ?_);case hy=>rfl)|((with_reducible first|refine jX ?hy ?_|refine jZ ?hy ?_);case hy=>rfl)|((with_reducible refine jF ?hy ?_);case hy=>decide))
   refine drop_ok hM8 hp.fn hi (by omega) fun H9 T9 hM9 hf9 hT9 => ?_
   have hx9 := hx8.frame hf9 (nf _ (by omega))
   have x0 := hx9.cellOf (i := 0) rfl
   have x1 := hx9.cellOf (i := 1) rfl
   have x2 := hx9.cellOf (i := 2) rfl
   have x3 := hx9.cellOf (i := 3) rfl
   have s9 := hf9.size
   repeat' (first|(with_reducible first|refine jA ?_|(refine hK _ _ ?_;clear hK K)|refine jJ fun K hK=>?_|refine jK ?_|refine jL ?_|refine jM ?_|refine jN ?_|refine jO ?_|refine jP ?_|refine jQ ?_|(refine jB ?_;clear hK K)|(refine jC ?_;clear hK K)|refine jD ?_|refine jE ?_|refine jG ?_|refine jH ?_|refine jI ?_)|((with_reducible refine jR ?hq ?_);case hq=>rfl)|((first|(with_reducible first|refine jS fun K hK=>?_|refine jT ?_|refine jU ?_)|((with_reducible refine jV ?hy fun K hK=>?_);case hy=>rfl));simp only [go_sem, Nat.reduceEqDiff, Nat.reduceAdd, Nat.reduceMul, Nat.reduceLeDiff, Nat.reduceLT, Int.reduceLT, Int.reduceLE, Int.reduceEq, Int.reduceNeg, Int.reduceToNat, Nat.reducePow, reduceIte, reduceCtorEq, x0, x1, x2, x3])|((with_reducible first|refine jW ?hy ?_|refine jY ?hy ?_);case hy=>rfl)|((with_reducible first|refine jX ?hy ?_|refine jZ ?hy ?_);case hy=>rfl)|((with_reducible refine jF ?hy ?_);case hy=>decide))
   refine take_ok hM9 hun hvn ha (fun e he => hnF e ((mem_wo hp.fn hi).1 he).1) (fun k => hmx.cut (by rw [hxu, hxv]; exact k.sub fun e he => (mem_wo hp.fn hi).1 he)) (by rw [sum_wo hi]; omega) fun H10 T10 hM10 hf10 hT10 => ?_
   repeat' (first|(with_reducible first|refine jA ?_|(refine hK _ _ ?_;clear hK K)|refine jJ fun K hK=>?_|refine jK ?_|refine jL ?_|refine jM ?_|refine jN ?_|refine jO ?_|refine jP ?_|refine jQ ?_|(refine jB ?_;clear hK K)|(refine jC ?_;clear hK K)|refine jD ?_|refine jE ?_|refine jG ?_|refine jH ?_|refine jI ?_)|((with_reducible refine jR ?hq ?_);case hq=>rfl)|((first|(with_reducible first|refine jS fun K hK=>?_|refine jT ?_|refine jU ?_)|((with_reducible refine jV ?hy fun K hK=>?_);case hy=>rfl));simp only [go_sem, Nat.reduceEqDiff, Nat.reduceAdd, Nat.reduceMul, Nat.reduceLeDiff, Nat.reduceLT, Int.reduceLT, Int.reduceLE, Int.reduceEq, Int.reduceNeg, Int.reduceToNat, Nat.reducePow, reduceIte, reduceCtorEq])|((with_reducible first|refine jW ?hy ?_|refine jY ?hy ?_);case hy=>rfl)|((with_reducible first|refine jX ?hy ?_|refine jZ ?hy ?_);case hy=>rfl)|((with_reducible refine jF ?hy ?_);case hy=>decide))
   rw [← hx] at hM10
   exact fin H10 T10 (woL F i ++ [x]) ⟨hM10, hp.swap hxo hxid hlen hi hmx hh⟩ (.inr (.inr (.inr ⟨i, y, x, hi, rfl⟩))) ((f08.trans hf9).trans' hf10 fun b hb h => (hT9 b h).elim id fun h => by omega) fun b hb => by
    rcases hT10 b hb with h | h
    ·rcases hT9 b h with h | h
     ·exact .inl h
     ·exact .inr (by omega)
    ·exact .inr (by omega)
end
end Go.Proofs.Ytafehbegoanajaa
namespace Go.Proofs.Ytafehbegoanajaa
open Go Go.Hp Go.Li Go.Br Go.Ms
set_option linter.all false
set_option maxRecDepth 100000
set_option maxHeartbeats 3200000
section
variable {H H' : Heap} {f n k1 : Nat} {T T0 : Nat → Prop} {g : Int → Option Ed} {l F : List Ed} {L : Value → Heap → Prop}
theorem m_weight (hM : MsM H f T n l F) (fin : L (.int .i64 (sumW F)) H) : CallsH Try.prog 19 #[.pointer (some ⟨f, 0, none⟩)] H L := by
 obtain ⟨r1, r2, t, Tt, k2, hb, _⟩ := hM.m
 have c4 := hb.cellOf (i := 4) rfl
 refine call19 (by simp) ?_
 simp only [Try.f19, Option.getD_some]
 repeat' (first|(with_reducible first|refine jA ?_|(refine hK _ _ ?_;clear hK K)|refine jJ fun K hK=>?_|refine jK ?_|refine jL ?_|refine jM ?_|refine jN ?_|refine jO ?_|refine jP ?_|refine jQ ?_|(refine jB ?_;clear hK K)|(refine jC ?_;clear hK K)|refine jD ?_|refine jE ?_|refine jG ?_|refine jH ?_|refine jI ?_)|((with_reducible refine jR ?hq ?_);case hq=>rfl)|((first|(with_reducible first|refine jS fun K hK=>?_|refine jT ?_|refine jU ?_)|((with_reducible refine jV ?hy fun K hK=>?_);case hy=>rfl));simp only [go_sem, Nat.reduceEqDiff, Nat.reduceAdd, Nat.reduceMul, Nat.reduceLeDiff, Nat.reduceLT, Int.reduceLT, Int.reduceLE, Int.reduceEq, Int.reduceNeg, Int.reduceToNat, Nat.reducePow, reduceIte, reduceCtorEq, c4])|((with_reducible first|refine jW ?hy ?_|refine jY ?hy ?_);case hy=>rfl)|((with_reducible first|refine jX ?hy ?_|refine jZ ?hy ?_);case hy=>rfl)|((with_reducible refine jF ?hy ?_);case hy=>decide))
 exact fin
theorem got_w (z : Option Int) : gotV (.int .i64 0) true (z.map wV) = .tuple #[.int .i64 (z.getD 0), .bool z.isSome] := by cases z <;> rfl
theorem m_in {k0 : Int} (hM : MsM H f T n l F) (no : byId l k0 = none → ∀ H', Fr (fun _ => False) H H' → L (.tuple #[.bool false, .int .i64 74]) H') (fin : (byId l k0).isSome = true → ∀ H', Fr (fun _ => False) H H' → L (.tuple #[.bool (byId F k0).isSome, .int .i64 0]) H') :
  CallsH Try.prog 27 #[.pointer (some ⟨f, 0, none⟩), .int .i64 k0] H L := by
 obtain ⟨r1, r2, t, Tt, k2, hb, hm1, hB1, hm2, hB2, hT, ⟨d1, d2, d3⟩, ⟨d4, d5, d6⟩, he⟩ := hM.m
 have c1 := hb.cellOf (i := 1) rfl
 refine call27 (by simp) ?_
 simp only [Try.f27, Option.getD_some]
 repeat' (first|(with_reducible first|refine jA ?_|(refine hK _ _ ?_;clear hK K)|refine jJ fun K hK=>?_|refine jK ?_|refine jL ?_|refine jM ?_|refine jN ?_|refine jO ?_|refine jP ?_|refine jQ ?_|(refine jB ?_;clear hK K)|(refine jC ?_;clear hK K)|refine jD ?_|refine jE ?_|refine jG ?_|refine jH ?_|refine jI ?_)|((with_reducible refine jR ?hq ?_);case hq=>rfl)|((first|(with_reducible first|refine jS fun K hK=>?_|refine jT ?_|refine jU ?_)|((with_reducible refine jV ?hy fun K hK=>?_);case hy=>rfl));simp only [go_sem, Nat.reduceEqDiff, Nat.reduceAdd, Nat.reduceMul, Nat.reduceLeDiff, Nat.reduceLT, Int.reduceLT, Int.reduceLE, Int.reduceEq, Int.reduceNeg, Int.reduceToNat, Nat.reducePow, reduceIte, reduceCtorEq, c1])|((with_reducible first|refine jW ?hy ?_|refine jY ?hy ?_);case hy=>rfl)|((with_reducible first|refine jX ?hy ?_|refine jZ ?hy ?_);case hy=>rfl)|((with_reducible refine jF ?hy ?_);case hy=>decide))
 refine rd_lookupQ (vf := Ed.val) mapT_edges kInt hm1 k0 true ?_
 rw [got_edge]
 obtain ⟨z, hz⟩ : ∃ z, z = (byId l k0).getD Ed.zero := ⟨_, rfl⟩
 rw [← hz]
 simp only [Ed.val]
 cases hb1 : byId l k0 with
 | none =>
  rw [Option.isSome_none]
  repeat' (first|(with_reducible first|refine jA ?_|(refine hK _ _ ?_;clear hK K)|refine jJ fun K hK=>?_|refine jK ?_|refine jL ?_|refine jM ?_|refine jN ?_|refine jO ?_|refine jP ?_|refine jQ ?_|(refine jB ?_;clear hK K)|(refine jC ?_;clear hK K)|refine jD ?_|refine jE ?_|refine jG ?_|refine jH ?_|refine jI ?_)|((with_reducible refine jR ?hq ?_);case hq=>rfl)|((first|(with_reducible first|refine jS fun K hK=>?_|refine jT ?_|refine jU ?_)|((with_reducible refine jV ?hy fun K hK=>?_);case hy=>rfl));simp only [go_sem, Nat.reduceEqDiff, Nat.reduceAdd, Nat.reduceMul, Nat.reduceLeDiff, Nat.reduceLT, Int.reduceLT, Int.reduceLE, Int.reduceEq, Int.reduceNeg, Int.reduceToNat, Nat.reducePow, reduceIte, reduceCtorEq, hcell_push, hcell_top, okW_push, okW_top, hcell_hset_ne, hcell_hset_off, hcell_hset_eq, okW_hset, hset_size, Array.size_push, Nat.lt_add_one, ne_add_one, add_one_ne, Nat.add_assoc, add_same, add_lt_same, Nat.reduceEqDiff, lt_add_k, add_k_ne, ne_add_k, Bool.not_false])|((with_reducible first|refine jW ?hy ?_|refine jY ?hy ?_);case hy=>rfl)|((with_reducible first|refine jX ?hy ?_|refine jZ ?hy ?_);case hy=>rfl)|((with_reducible refine jF ?hy ?_);case hy=>decide))
  obtain ⟨b3, f3⟩ := edge_box (H := H) z (T0 := 30)
  exact no hb1 _ f3
 | some y =>
  rw [Option.isSome_some]
  have fin := fin (by rw [hb1]; rfl)
  repeat' (first|(with_reducible first|refine jA ?_|(refine hK _ _ ?_;clear hK K)|refine jJ fun K hK=>?_|refine jK ?_|refine jL ?_|refine jM ?_|refine jN ?_|refine jO ?_|refine jP ?_|refine jQ ?_|(refine jB ?_;clear hK K)|(refine jC ?_;clear hK K)|refine jD ?_|refine jE ?_|refine jG ?_|refine jH ?_|refine jI ?_)|((with_reducible refine jR ?hq ?_);case hq=>rfl)|((first|(with_reducible first|refine jS fun K hK=>?_|refine jT ?_|refine jU ?_)|((with_reducible refine jV ?hy fun K hK=>?_);case hy=>rfl));simp only [go_sem, Nat.reduceEqDiff, Nat.reduceAdd, Nat.reduceMul, Nat.reduceLeDiff, Nat.reduceLT, Int.reduceLT, Int.reduceLE, Int.reduceEq, Int.reduceNeg, Int.reduceToNat, Nat.reducePow, reduceIte, reduceCtorEq, hcell_push, hcell_top, okW_push, okW_top, hcell_hset_ne, hcell_hset_off, hcell_hset_eq, okW_hset, hset_size, Array.size_push, Nat.lt_add_one, ne_add_one, add_one_ne, Nat.add_assoc, add_same, add_lt_same, Nat.reduceEqDiff, lt_add_k, add_k_ne, ne_add_k, Bool.not_true])|((with_reducible first|refine jW ?hy ?_|refine jY ?hy ?_);case hy=>rfl)|((with_reducible first|refine jX ?hy ?_|refine jZ ?hy ?_);case hy=>rfl)|((with_reducible refine jF ?hy ?_);case hy=>decide))
  obtain ⟨b3, f3⟩ := edge_box (H := H) z (T0 := 30)
  generalize hset _ _ _ = H3 at b3 f3 ⊢
  have c2 := (hb.frame f3 fun h => h).cellOf (i := 2) rfl
  simp only [go_sem, Nat.reduceEqDiff, Nat.reduceAdd, Nat.reduceMul, Nat.reduceLeDiff, Nat.reduceLT, Int.reduceLT, Int.reduceLE, Int.reduceEq, Int.reduceNeg, Int.reduceToNat, Nat.reducePow, reduceIte, reduceCtorEq, c2]
  repeat' (first|(with_reducible first|refine jA ?_|(refine hK _ _ ?_;clear hK K)|refine jJ fun K hK=>?_|refine jK ?_|refine jL ?_|refine jM ?_|refine jN ?_|refine jO ?_|refine jP ?_|refine jQ ?_|(refine jB ?_;clear hK K)|(refine jC ?_;clear hK K)|refine jD ?_|refine jE ?_|refine jG ?_|refine jH ?_|refine jI ?_)|((with_reducible refine jR ?hq ?_);case hq=>rfl)|((first|(with_reducible first|refine jS fun K hK=>?_|refine jT ?_|refine jU ?_)|((with_reducible refine jV ?hy fun K hK=>?_);case hy=>rfl));simp only [go_sem, Nat.reduceEqDiff, Nat.reduceAdd, Nat.reduceMul, Nat.reduceLeDiff, Nat.reduceLT, Int.reduceLT, Int.reduceLE, Int.reduceEq, Int.reduceNeg, Int.reduceToNat, Nat.reducePow, reduceIte, reduceCtorEq])|((with_reducible first|refine jW ?hy ?_|refine jY ?hy ?_);case hy=>rfl)|((with_reducible first|refine jX ?hy ?_|refine jZ ?hy ?_);case hy=>rfl)|((with_reducible refine jF ?hy ?_);case hy=>decide))
  refine rd_lookupQ (vf := wV) mapT_ids kInt (hm2.frame f3 fun h => h) k0 true ?_
  rw [got_w]
  have e : ((byId F k0).map (·.w)).isSome = (byId F k0).isSome := by cases byId F k0 <;> rfl
  rw [e]
  repeat' (first|(with_reducible first|refine jA ?_|(refine hK _ _ ?_;clear hK K)|refine jJ fun K hK=>?_|refine jK ?_|refine jL ?_|refine jM ?_|refine jN ?_|refine jO ?_|refine jP ?_|refine jQ ?_|(refine jB ?_;clear hK K)|(refine jC ?_;clear hK K)|refine jD ?_|refine jE ?_|refine jG ?_|refine jH ?_|refine jI ?_)|((with_reducible refine jR ?hq ?_);case hq=>rfl)|((first|(with_reducible first|refine jS fun K hK=>?_|refine jT ?_|refine jU ?_)|((with_reducible refine jV ?hy fun K hK=>?_);case hy=>rfl));simp only [go_sem, Nat.reduceEqDiff, Nat.reduceAdd, Nat.reduceMul, Nat.reduceLeDiff, Nat.reduceLT, Int.reduceLT, Int.reduceLE, Int.reduceEq, Int.reduceNeg, Int.reduceToNat, Nat.reducePow, reduceIte, reduceCtorEq])|((with_reducible first|refine jW ?hy ?_|refine jY ?hy ?_);case hy=>rfl)|((with_reducible first|refine jX ?hy ?_|refine jZ ?hy ?_);case hy=>rfl)|((with_reducible refine jF ?hy ?_);case hy=>decide))
  exact fin H3 f3
theorem m_new {n : Nat} (h1 : 1 ≤ n) (h2 : n ≤ 64) (fin : ∀ H' f T, MsM H' f T n [] [] → Fr (fun _ => False) H H' → (∀ b, T b → H.size ≤ b) → L (.tuple #[.pointer (some ⟨f, 0, none⟩), .int .i64 0]) H') :
  CallsH Try.prog 11 #[.int .i64 (n : Nat)] H L := by
 have t1 : ((n : Int) < 1) = False := eq_false (by omega)
 have t1' : (n < 1) = False := eq_false (by omega)
 have t2 : (64 < (n : Int)) = False := eq_false (by omega)
 have t2' : (64 < n) = False := eq_false (by omega)
 refine call11 (by simp) ?_
 simp only [Try.f11, Option.getD_some]
 repeat' (first|(with_reducible first|refine jA ?_|(refine hK _ _ ?_;clear hK K)|refine jJ fun K hK=>?_|refine jK ?_|refine jL ?_|refine jM ?_|refine jN ?_|refine jO ?_|refine jP ?_|refine jQ ?_|(refine jB ?_;clear hK K)|(refine jC ?_;clear hK K)|refine jD ?_|refine jE ?_|refine jG ?_|refine jH ?_|refine jI ?_)|((with_reducible refine jR ?hq ?_);case hq=>rfl)|((first|(with_reducible first|refine jS fun K hK=>?_|refine jT ?_|refine jU ?_)|((with_reducible refine jV ?hy fun K hK=>?_);case hy=>rfl));simp only [go_sem, Nat.reduceEqDiff, Nat.reduceAdd, Nat.reduceMul, Nat.reduceLeDiff, Nat.reduceLT, Int.reduceLT, Int.reduceLE, Int.reduceEq, Int.reduceNeg, Int.reduceToNat, Nat.reducePow, reduceIte, reduceCtorEq, t1, t1', t2, t2'])|((with_reducible first|refine jW ?hy ?_|refine jY ?hy ?_);case hy=>rfl)|((with_reducible first|refine jX ?hy ?_|refine jZ ?hy ?_);case hy=>rfl)|((with_reducible refine jF ?hy ?_);case hy=>decide))
 refine t_new h1 h2 fun H1 t Tt hT f1 hn => ?_
 have z0 : ((0 : Int) != 0) = false := rfl
 repeat' (first|(with_reducible first|refine jA ?_|(refine hK _ _ ?_;clear hK K)|refine jJ fun K hK=>?_|refine jK ?_|refine jL ?_|refine jM ?_|refine jN ?_|refine jO ?_|refine jP ?_|refine jQ ?_|(refine jB ?_;clear hK K)|(refine jC ?_;clear hK K)|refine jD ?_|refine jE ?_|refine jG ?_|refine jH ?_|refine jI ?_)|((with_reducible refine jR ?hq ?_);case hq=>rfl)|((first|(with_reducible first|refine jS fun K hK=>?_|refine jT ?_|refine jU ?_)|((with_reducible refine jV ?hy fun K hK=>?_);case hy=>rfl));simp only [go_sem, Nat.reduceEqDiff, Nat.reduceAdd, Nat.reduceMul, Nat.reduceLeDiff, Nat.reduceLT, Int.reduceLT, Int.reduceLE, Int.reduceEq, Int.reduceNeg, Int.reduceToNat, Nat.reducePow, reduceIte, reduceCtorEq, z0])|((with_reducible first|refine jW ?hy ?_|refine jY ?hy ?_);case hy=>rfl)|((with_reducible first|refine jX ?hy ?_|refine jZ ?hy ?_);case hy=>rfl)|((with_reducible refine jF ?hy ?_);case hy=>decide))
 have g1 := MapF.make intK Ed.val H1
 have g2 := MapB.make H1
 have f2 : Fr (fun _ => False) H1 (H1.push (.map #[] 0)) := (Fr.refl _ _).push _
 have g3 := MapF.make intK wV (H1.push (.map #[] 0))
 have g4 := MapB.make (H1.push (.map #[] 0))
 have f3 : Fr (fun _ => False) (H1.push (.map #[] 0)) ((H1.push (.map #[] 0)).push (.map #[] 0)) := (Fr.refl _ _).push _
 have s2 : (H1.push (.map #[] 0)).size = H1.size + 1 := by simp
 generalize H1.push (.map #[] 0) = H2 at g1 g2 f2 g3 g4 f3 s2 ⊢
 have s3 : (H2.push (.map #[] 0)).size = H2.size + 1 := by simp
 generalize H2.push (.map #[] 0) = H3 at g3 g4 f3 s3 ⊢
 have hb := Blk.new H3 [.int .i64 (n : Nat), .map (some H1.size), .map (some H2.size), .pointer (some ⟨t, 0, none⟩), .int .i64 0] 69
 have f4 : Fr (fun _ => False) H3 (H3.push (.cells ([.int .i64 (n : Nat), .map (some H1.size), .map (some H2.size), .pointer (some ⟨t, 0, none⟩), .int .i64 0] : List Value).toArray 69)) := (Fr.refl _ _).push _
 have hbl := hT.below
 refine fin _ H3.size (fun b => b = H3.size ∨ b = H1.size ∨ b = H2.size ∨ Tt b) ⟨⟨H1.size, H2.size, t, Tt, 0, hb, ((g1.frame f3 fun h => h).frame f4 fun h => h).congr fun i => rfl, (g2.frame f3 fun h => h).frame f4 fun h => h, (g3.frame f4 fun h => h).congr fun i => rfl, g4.frame f4 fun h => h, ((hT.frame f2 fun _ _ h => h).frame f3 fun _ _ h => h).frame f4 fun _ _ h => h, ⟨by omega, by omega, by omega⟩, ⟨fun h => by have := hbl _ h; omega, fun h => by have := hbl _ h; omega, fun h => by have := hbl _ h; omega⟩, fun b => Iff.rfl⟩, h1, h2, .nil, nofun, Nat.zero_le _, fun e => ⟨nofun, fun h => (by cases h.1)⟩, .nil⟩ (((f1.trans f2).trans f3).trans f4) fun b hb => ?_
 have := f1.size
 rcases hb with rfl | rfl | rfl | hb
 ·omega
 ·omega
 ·omega
 ·exact hn b hb
theorem m_new_no {n : Int} (h : n < 1 ∨ 64 < n) (fin : L (.tuple #[.pointer none, .int .i64 1]) H) : CallsH Try.prog 11 #[.int .i64 n] H L := by
 refine call11 (by simp) ?_
 simp only [Try.f11, Option.getD_some]
 by_cases h0 : n < 1
 ·have t1 : (n < 1) = True := eq_true h0
  repeat' (first|(with_reducible first|refine jA ?_|(refine hK _ _ ?_;clear hK K)|refine jJ fun K hK=>?_|refine jK ?_|refine jL ?_|refine jM ?_|refine jN ?_|refine jO ?_|refine jP ?_|refine jQ ?_|(refine jB ?_;clear hK K)|(refine jC ?_;clear hK K)|refine jD ?_|refine jE ?_|refine jG ?_|refine jH ?_|refine jI ?_)|((with_reducible refine jR ?hq ?_);case hq=>rfl)|((first|(with_reducible first|refine jS fun K hK=>?_|refine jT ?_|refine jU ?_)|((with_reducible refine jV ?hy fun K hK=>?_);case hy=>rfl));simp only [go_sem, Nat.reduceEqDiff, Nat.reduceAdd, Nat.reduceMul, Nat.reduceLeDiff, Nat.reduceLT, Int.reduceLT, Int.reduceLE, Int.reduceEq, Int.reduceNeg, Int.reduceToNat, Nat.reducePow, reduceIte, reduceCtorEq, t1])|((with_reducible first|refine jW ?hy ?_|refine jY ?hy ?_);case hy=>rfl)|((with_reducible first|refine jX ?hy ?_|refine jZ ?hy ?_);case hy=>rfl)|((with_reducible refine jF ?hy ?_);case hy=>decide))
  exact fin
 have t1 : (n < 1) = False := eq_false h0
 have t2 : (64 < n) = True := eq_true (by omega)
 repeat' (first|(with_reducible first|refine jA ?_|(refine hK _ _ ?_;clear hK K)|refine jJ fun K hK=>?_|refine jK ?_|refine jL ?_|refine jM ?_|refine jN ?_|refine jO ?_|refine jP ?_|refine jQ ?_|(refine jB ?_;clear hK K)|(refine jC ?_;clear hK K)|refine jD ?_|refine jE ?_|refine jG ?_|refine jH ?_|refine jI ?_)|((with_reducible refine jR ?hq ?_);case hq=>rfl)|((first|(with_reducible first|refine jS fun K hK=>?_|refine jT ?_|refine jU ?_)|((with_reducible refine jV ?hy fun K hK=>?_);case hy=>rfl));simp only [go_sem, Nat.reduceEqDiff, Nat.reduceAdd, Nat.reduceMul, Nat.reduceLeDiff, Nat.reduceLT, Int.reduceLT, Int.reduceLE, Int.reduceEq, Int.reduceNeg, Int.reduceToNat, Nat.reducePow, reduceIte, reduceCtorEq, t1, t2])|((with_reducible first|refine jW ?hy ?_|refine jY ?hy ?_);case hy=>rfl)|((with_reducible first|refine jX ?hy ?_|refine jZ ?hy ?_);case hy=>rfl)|((with_reducible refine jF ?hy ?_);case hy=>decide))
 exact fin
theorem m_bot {u v : Int} (hM : MsM H f T n l F)
  (bad : (inB n u && inB n v) = false → ∀ H', MsM H' f T n l F → Fr (fun _ => False) H H' → L (.tuple #[Ed.zero.val, .int .i64 70]) H')
  (no : ∀ a b : Nat, u = a → v = b → a < n → b < n → (a = b ∨ ¬ Cn (In F) a b) → ∀ H', MsM H' f T n l F → Fr T H H' → L (.tuple #[Ed.zero.val, .int .i64 75]) H')
  (fin : ∀ a b : Nat, u = a → v = b → a < n → b < n → ∀ H' y, Mx (In F) a b y → MsM H' f T n l F → Fr T H H' → L (.tuple #[y.val, .int .i64 0]) H') :
  CallsH Try.prog 13 #[.pointer (some ⟨f, 0, none⟩), .int .i64 u, .int .i64 v] H L := by
 obtain ⟨hm, hp⟩ := id hM
 obtain ⟨r1, r2, t, Tt, k2, hb, hm1, hB1, hm2, hB2, hT, ⟨d1, d2, d3⟩, ⟨d4, d5, d6⟩, he⟩ := id hm
 have b0 : Blk (H.push (.cells #[.int .i64 0, .int .i64 0, .int .i64 0, .int .i64 0] 30)) H.size [.int .i64 0, .int .i64 0, .int .i64 0, .int .i64 0] := Blk.new H _ _
 have f0 : Fr (fun _ => False) H (H.push (.cells #[.int .i64 0, .int .i64 0, .int .i64 0, .int .i64 0] 30)) := (Fr.refl _ _).push _
 refine call13 (by simp) ?_
 simp only [Try.f13, Option.getD_some]
 repeat' (first|(with_reducible first|refine jA ?_|(refine hK _ _ ?_;clear hK K)|refine jJ fun K hK=>?_|refine jK ?_|refine jL ?_|refine jM ?_|refine jN ?_|refine jO ?_|refine jP ?_|refine jQ ?_|(refine jB ?_;clear hK K)|(refine jC ?_;clear hK K)|refine jD ?_|refine jE ?_|refine jG ?_|refine jH ?_|refine jI ?_)|((with_reducible refine jR ?hq ?_);case hq=>rfl)|((first|(with_reducible first|refine jS fun K hK=>?_|refine jT ?_|refine jU ?_)|((with_reducible refine jV ?hy fun K hK=>?_);case hy=>rfl));simp only [go_sem, Nat.reduceEqDiff, Nat.reduceAdd, Nat.reduceMul, Nat.reduceLeDiff, Nat.reduceLT, Int.reduceLT, Int.reduceLE, Int.reduceEq, Int.reduceNeg, Int.reduceToNat, Nat.reducePow, reduceIte, reduceCtorEq])|((with_reducible first|refine jW ?hy ?_|refine jY ?hy ?_);case hy=>rfl)|((with_reducible first|refine jX ?hy ?_|refine jZ ?hy ?_);case hy=>rfl)|((with_reducible refine jF ?hy ?_);case hy=>decide))
 generalize hH1 : H.push _ = H1 at b0 f0 ⊢
 have hb1 := hb.frame f0 fun h => h
 have c0 := hb1.cellOf (i := 0) rfl
 have c3 := hb1.cellOf (i := 3) rfl
 obtain ⟨e0, g0⟩ := store4 b0 (.int .i64 0) (.int .i64 0) (.int .i64 0) (.int .i64 0)
 have oo : ∀ {H' : Heap}, Blk H' H.size [.int .i64 0, .int .i64 0, .int .i64 0, .int .i64 0] → okW H' ⟨H.size, 0, none⟩ ∧ okW H' ⟨H.size, 1, none⟩ ∧ okW H' ⟨H.size, 2, none⟩ ∧ okW H' ⟨H.size, 3, none⟩ := fun b => ⟨b.okW (i := 0) (by simp), b.okW (i := 1) (by simp), b.okW (i := 2) (by simp), b.okW (i := 3) (by simp)⟩
 have hM1 := hM.frame f0 fun _ _ h => h
 have s1 := f0.size
 have l1 := b0.lt
 have bad1 : (inB n u && inB n v) = false → ∀ H', Fr (fun _ => False) H H' → L (.tuple #[Ed.zero.val, .int .i64 70]) H' := fun h H' hf => bad h H' (hM.frame hf fun _ _ h => h) hf
 obtain ⟨o0, o1, o2, o3⟩ := oo b0
 refine fhas_ok c0 ?_
 cases hu : inB n u with
 | false =>
  repeat' (first|(with_reducible first|refine jA ?_|(refine hK _ _ ?_;clear hK K)|refine jJ fun K hK=>?_|refine jK ?_|refine jL ?_|refine jM ?_|refine jN ?_|refine jO ?_|refine jP ?_|refine jQ ?_|(refine jB ?_;clear hK K)|(refine jC ?_;clear hK K)|refine jD ?_|refine jE ?_|refine jG ?_|refine jH ?_|refine jI ?_)|((with_reducible refine jR ?hq ?_);case hq=>rfl)|((first|(with_reducible first|refine jS fun K hK=>?_|refine jT ?_|refine jU ?_)|((with_reducible refine jV ?hy fun K hK=>?_);case hy=>rfl));simp only [go_sem, Nat.reduceEqDiff, Nat.reduceAdd, Nat.reduceMul, Nat.reduceLeDiff, Nat.reduceLT, Int.reduceLT, Int.reduceLE, Int.reduceEq, Int.reduceNeg, Int.reduceToNat, Nat.reducePow, reduceIte, reduceCtorEq, Bool.not_false, o0, o1, o2, o3, hcell_push, hcell_top, okW_push, okW_top, hcell_hset_ne, hcell_hset_off, hcell_hset_eq, okW_hset, hset_size, Array.size_push, Nat.lt_add_one, ne_add_one, add_one_ne, Nat.add_assoc, add_same, add_lt_same, Nat.reduceEqDiff, lt_add_k, add_k_ne, ne_add_k])|((with_reducible first|refine jW ?hy ?_|refine jY ?hy ?_);case hy=>rfl)|((with_reducible first|refine jX ?hy ?_|refine jZ ?hy ?_);case hy=>rfl)|((with_reducible refine jF ?hy ?_);case hy=>decide))
  exact bad1 (by rw [hu]; rfl) _ (f0.trans' g0 fun b hb (e : b = H.size) => by omega)
 | true =>
 repeat' (first|(with_reducible first|refine jA ?_|(refine hK _ _ ?_;clear hK K)|refine jJ fun K hK=>?_|refine jK ?_|refine jL ?_|refine jM ?_|refine jN ?_|refine jO ?_|refine jP ?_|refine jQ ?_|(refine jB ?_;clear hK K)|(refine jC ?_;clear hK K)|refine jD ?_|refine jE ?_|refine jG ?_|refine jH ?_|refine jI ?_)|((with_reducible refine jR ?hq ?_);case hq=>rfl)|((first|(with_reducible first|refine jS fun K hK=>?_|refine jT ?_|refine jU ?_)|((with_reducible refine jV ?hy fun K hK=>?_);case hy=>rfl));simp only [go_sem, Nat.reduceEqDiff, Nat.reduceAdd, Nat.reduceMul, Nat.reduceLeDiff, Nat.reduceLT, Int.reduceLT, Int.reduceLE, Int.reduceEq, Int.reduceNeg, Int.reduceToNat, Nat.reducePow, reduceIte, reduceCtorEq, Bool.not_true])|((with_reducible first|refine jW ?hy ?_|refine jY ?hy ?_);case hy=>rfl)|((with_reducible first|refine jX ?hy ?_|refine jZ ?hy ?_);case hy=>rfl)|((with_reducible refine jF ?hy ?_);case hy=>decide))
 refine fhas_ok c0 ?_
 cases hv : inB n v with
 | false =>
  repeat' (first|(with_reducible first|refine jA ?_|(refine hK _ _ ?_;clear hK K)|refine jJ fun K hK=>?_|refine jK ?_|refine jL ?_|refine jM ?_|refine jN ?_|refine jO ?_|refine jP ?_|refine jQ ?_|(refine jB ?_;clear hK K)|(refine jC ?_;clear hK K)|refine jD ?_|refine jE ?_|refine jG ?_|refine jH ?_|refine jI ?_)|((with_reducible refine jR ?hq ?_);case hq=>rfl)|((first|(with_reducible first|refine jS fun K hK=>?_|refine jT ?_|refine jU ?_)|((with_reducible refine jV ?hy fun K hK=>?_);case hy=>rfl));simp only [go_sem, Nat.reduceEqDiff, Nat.reduceAdd, Nat.reduceMul, Nat.reduceLeDiff, Nat.reduceLT, Int.reduceLT, Int.reduceLE, Int.reduceEq, Int.reduceNeg, Int.reduceToNat, Nat.reducePow, reduceIte, reduceCtorEq, Bool.not_false, o0, o1, o2, o3, hcell_push, hcell_top, okW_push, okW_top, hcell_hset_ne, hcell_hset_off, hcell_hset_eq, okW_hset, hset_size, Array.size_push, Nat.lt_add_one, ne_add_one, add_one_ne, Nat.add_assoc, add_same, add_lt_same, Nat.reduceEqDiff, lt_add_k, add_k_ne, ne_add_k])|((with_reducible first|refine jW ?hy ?_|refine jY ?hy ?_);case hy=>rfl)|((with_reducible first|refine jX ?hy ?_|refine jZ ?hy ?_);case hy=>rfl)|((with_reducible refine jF ?hy ?_);case hy=>decide))
  exact bad1 (by rw [hu, hv]; rfl) _ (f0.trans' g0 fun b hb (e : b = H.size) => by omega)
 | true =>
 clear bad bad1 o0 o1 o2 o3
 obtain ⟨u, rfl, hun⟩ := inB_nat hu
 obtain ⟨v, rfl, hvn⟩ := inB_nat hv
 have hTT : ∀ b, Tt b → T b := fun b hb => (he b).2 (.inr (.inr (.inr hb)))
 have hbl := hT.below
 have nT : ¬ Tt H.size := fun h => by have := hbl _ h; omega
 have hT1 := hT.frame f0 fun _ _ h => h
 have mk : ∀ H', Fr Tt H1 H' → TrM H' t Tt n F → MsM H' f T n l F := fun H' hf hT' =>
  ⟨⟨r1, r2, t, Tt, k2, hb1.frame hf d4, (hm1.frame f0 fun h => h).frame hf d5, (hB1.frame f0 fun h => h).frame hf d5, (hm2.frame f0 fun h => h).frame hf d6, (hB2.frame f0 fun h => h).frame hf d6, hT', ⟨d1, d2, d3⟩, ⟨d4, d5, d6⟩, he⟩, hp⟩
 repeat' (first|(with_reducible first|refine jA ?_|(refine hK _ _ ?_;clear hK K)|refine jJ fun K hK=>?_|refine jK ?_|refine jL ?_|refine jM ?_|refine jN ?_|refine jO ?_|refine jP ?_|refine jQ ?_|(refine jB ?_;clear hK K)|(refine jC ?_;clear hK K)|refine jD ?_|refine jE ?_|refine jG ?_|refine jH ?_|refine jI ?_)|((with_reducible refine jR ?hq ?_);case hq=>rfl)|((first|(with_reducible first|refine jS fun K hK=>?_|refine jT ?_|refine jU ?_)|((with_reducible refine jV ?hy fun K hK=>?_);case hy=>rfl));simp only [go_sem, Nat.reduceEqDiff, Nat.reduceAdd, Nat.reduceMul, Nat.reduceLeDiff, Nat.reduceLT, Int.reduceLT, Int.reduceLE, Int.reduceEq, Int.reduceNeg, Int.reduceToNat, Nat.reducePow, reduceIte, reduceCtorEq, Bool.not_true, c3])|((with_reducible first|refine jW ?hy ?_|refine jY ?hy ?_);case hy=>rfl)|((with_reducible first|refine jX ?hy ?_|refine jZ ?hy ?_);case hy=>rfl)|((with_reducible refine jF ?hy ?_);case hy=>decide))
 refine t_most hT1 hun hvn (fun hor H2 hT2 hf2 => ?_) fun hne hcn H2 y hyF hyle hysp hT2 hf2 => ?_
 ·obtain ⟨y, hy⟩ : ∃ y, y = Ed.zero := ⟨_, rfl⟩
  rw [← hy]
  have hM2 := mk H2 hf2 hT2
  have b2 := b0.frame hf2 nT
  simp only [Ed.val]
  have z1 : ((54 : Int) != 0) = true := rfl
  obtain ⟨b7, f7⟩ := edge_box (H := H2) y (T0 := 30)
  have b3 := b2.frame f7 fun h => h
  obtain ⟨o0, o1, o2, o3⟩ := oo (b2.frame ((Fr.refl (fun _ => False) H2).push (.cells #[.int .i64 0, .int .i64 0, .int .i64 0, .int .i64 0] 30)) fun h => h)
  obtain ⟨e3, g3⟩ := store4 b3 (.int .i64 0) (.int .i64 0) (.int .i64 0) (.int .i64 0)
  have s2 := hf2.size
  have s3 := f7.size
  have hM4 := (hM2.frame f7 fun _ _ h => h).frame g3 fun b hb (e : b = H.size) => by have := hM.below b hb; omega
  have f4 : Fr T H _ := (((f0.mono (S' := T) fun _ _ h => h.elim).trans (hf2.mono fun b _ h => hTT b h)).trans (f7.mono fun _ _ h => h.elim)).trans' g3 fun b hb (e : b = H.size) => by omega
  repeat' (first|(with_reducible first|refine jA ?_|(refine hK _ _ ?_;clear hK K)|refine jJ fun K hK=>?_|refine jK ?_|refine jL ?_|refine jM ?_|refine jN ?_|refine jO ?_|refine jP ?_|refine jQ ?_|(refine jB ?_;clear hK K)|(refine jC ?_;clear hK K)|refine jD ?_|refine jE ?_|refine jG ?_|refine jH ?_|refine jI ?_)|((with_reducible refine jR ?hq ?_);case hq=>rfl)|((first|(with_reducible first|refine jS fun K hK=>?_|refine jT ?_|refine jU ?_)|((with_reducible refine jV ?hy fun K hK=>?_);case hy=>rfl));simp only [go_sem, Nat.reduceEqDiff, Nat.reduceAdd, Nat.reduceMul, Nat.reduceLeDiff, Nat.reduceLT, Int.reduceLT, Int.reduceLE, Int.reduceEq, Int.reduceNeg, Int.reduceToNat, Nat.reducePow, reduceIte, reduceCtorEq, z1, o0, o1, o2, o3, hcell_push, hcell_top, okW_push, okW_top, hcell_hset_ne, hcell_hset_off, hcell_hset_eq, okW_hset, hset_size, Array.size_push, Nat.lt_add_one, ne_add_one, add_one_ne, Nat.add_assoc, add_same, add_lt_same, Nat.reduceEqDiff, lt_add_k, add_k_ne, ne_add_k])|((with_reducible first|refine jW ?hy ?_|refine jY ?hy ?_);case hy=>rfl)|((with_reducible first|refine jX ?hy ?_|refine jZ ?hy ?_);case hy=>rfl)|((with_reducible refine jF ?hy ?_);case hy=>decide))
  exact no u v rfl rfl hun hvn hor _ hM4 f4
 ·have hmx : Mx (In F) u v y := hp.msf.mx (uq_of hp.uq) hyF hyle hysp
  have hM2 := mk H2 hf2 hT2
  have b2 := b0.frame hf2 nT
  simp only [Ed.val]
  have z1 : ((0 : Int) != 0) = false := rfl
  obtain ⟨b7, f7⟩ := edge_box (H := H2) y (T0 := 30)
  have b3 := b2.frame f7 fun h => h
  obtain ⟨o0, o1, o2, o3⟩ := oo (b2.frame ((Fr.refl (fun _ => False) H2).push (.cells #[.int .i64 0, .int .i64 0, .int .i64 0, .int .i64 0] 30)) fun h => h)
  obtain ⟨e3, g3⟩ := store4 b3 (.int .i64 y.id) (.int .i64 y.u) (.int .i64 y.v) (.int .i64 y.w)
  have y0 := b7.cellOf (i := 0) rfl
  have y1 := b7.cellOf (i := 1) rfl
  have y2 := b7.cellOf (i := 2) rfl
  have y3 := b7.cellOf (i := 3) rfl
  have s2 := hf2.size
  have s3 := f7.size
  have hM4 := (hM2.frame f7 fun _ _ h => h).frame g3 fun b hb (e : b = H.size) => by have := hM.below b hb; omega
  have f4 : Fr T H _ := (((f0.mono (S' := T) fun _ _ h => h.elim).trans (hf2.mono fun b _ h => hTT b h)).trans (f7.mono fun _ _ h => h.elim)).trans' g3 fun b hb (e : b = H.size) => by omega
  repeat' (first|(with_reducible first|refine jA ?_|(refine hK _ _ ?_;clear hK K)|refine jJ fun K hK=>?_|refine jK ?_|refine jL ?_|refine jM ?_|refine jN ?_|refine jO ?_|refine jP ?_|refine jQ ?_|(refine jB ?_;clear hK K)|(refine jC ?_;clear hK K)|refine jD ?_|refine jE ?_|refine jG ?_|refine jH ?_|refine jI ?_)|((with_reducible refine jR ?hq ?_);case hq=>rfl)|((first|(with_reducible first|refine jS fun K hK=>?_|refine jT ?_|refine jU ?_)|((with_reducible refine jV ?hy fun K hK=>?_);case hy=>rfl));simp only [go_sem, Nat.reduceEqDiff, Nat.reduceAdd, Nat.reduceMul, Nat.reduceLeDiff, Nat.reduceLT, Int.reduceLT, Int.reduceLE, Int.reduceEq, Int.reduceNeg, Int.reduceToNat, Nat.reducePow, reduceIte, reduceCtorEq, z1, o0, o1, o2, o3, y0, y1, y2, y3, hcell_push, hcell_top, okW_push, okW_top, hcell_hset_ne, hcell_hset_off, hcell_hset_eq, okW_hset, hset_size, Array.size_push, Nat.lt_add_one, ne_add_one, add_one_ne, Nat.add_assoc, add_same, add_lt_same, Nat.reduceEqDiff, lt_add_k, add_k_ne, ne_add_k])|((with_reducible first|refine jW ?hy ?_|refine jY ?hy ?_);case hy=>rfl)|((with_reducible first|refine jX ?hy ?_|refine jZ ?hy ?_);case hy=>rfl)|((with_reducible refine jF ?hy ?_);case hy=>decide))
  exact fin u v rfl rfl hun hvn _ y hmx hM4 f4
end
def MapL {V : Type} (vf : V → Value) (H : Heap) (r : Nat) (M : List (Int × V)) : Prop := ∃ es c, H[r]? = some (.map es c) ∧ es.toList.map (fun e => (e.key, e.val)) = M.map (fun x => (intK x.1, vf x.2)) ∧ (es.toList.map (·.born)).Nodup ∧ ∀ e ∈ es.toList, e.born < c
theorem MapL.lt {V : Type} {vf : V → Value} {H : Heap} {r : Nat} {M : List (Int × V)} (h : MapL vf H r M) : r < H.size := by
 obtain ⟨es, c, h1, _⟩ := h
 rcases Nat.lt_or_ge r H.size with hb | hb
 ·exact hb
 ·rw [Array.getElem?_eq_none hb] at h1; cases h1
theorem MapL.frame {V : Type} {vf : V → Value} {H H' : Heap} {r : Nat} {M : List (Int × V)} {S : Nat → Prop} (h : MapL vf H r M) (hf : Fr S H H') (hr : ¬ S r) : MapL vf H' r M := by
 have := h.lt
 obtain ⟨es, c, h1, h2⟩ := h
 exact ⟨es, c, by rw [hf.same r this hr]; exact h1, h2⟩
theorem full_len {D : List Nat} {n : Nat} (hD : D.Nodup) (hlt : ∀ i ∈ D, i < n) : D.length ≤ n := by
 have := len_le hD (b := List.range n) fun i hi => List.mem_range.2 (hlt i hi)
 rwa [List.length_range] at this
section
variable {H0 H H' : Heap} {L : Value → Heap → Prop} {b r l0 : Nat} {S : Nat → Prop}
theorem values1_ok {M : List (Int × Ed)} (hbox : hcell H0 ⟨b, 0, none⟩ = some (.map (some r))) (hl : MapL Ed.val H0 r M) (I : List Nat → Heap → Prop) (hS : ∀ c, S c → c < H0.size ∧ c ≠ b ∧ c ≠ r) (h0 : I [] H0)
  (hI : ∀ D H' H'' q, I D H' → H0.size ≤ q → Fr (· = q) H' H'' → I D H'')
  (hstep : ∀ D i x H' (K' : Value → Heap → Prop), M[i]? = some x → i ∉ D → I D H' → H0.size ≤ H'.size → (∀ H'', I (i :: D) H'' → Fr S H' H'' → K' (.bool true) H'') → semHp Try.prog (Instr.yield l0 #[x.2.val]) H' (nextHp Try.prog K'))
  (fin : ∀ H' D, I D H' → D.Nodup → (∀ i, i < M.length → i ∈ D) → (∀ i ∈ D, i < M.length) → Fr S H0 H' → L (.tuple #[]) H') :
  CallsH Try.prog 68 #[.func (.yield l0) #[] #[], .pointer (some ⟨b, 0, none⟩)] H0 L := by
 have lb := hcell_lt hbox
 simp only at lb
 have lr := hl.lt
 refine call68 (by simp) ?_
 simp only [Try.f68, Option.getD_some]
 repeat' (first|(with_reducible first|refine jA ?_|(refine hK _ _ ?_;clear hK K)|refine jJ fun K hK=>?_|refine jK ?_|refine jL ?_|refine jM ?_|refine jN ?_|refine jO ?_|refine jP ?_|refine jQ ?_|(refine jB ?_;clear hK K)|(refine jC ?_;clear hK K)|refine jD ?_|refine jE ?_|refine jG ?_|refine jH ?_|refine jI ?_)|((with_reducible refine jR ?hq ?_);case hq=>rfl)|((first|(with_reducible first|refine jS fun K hK=>?_|refine jT ?_|refine jU ?_)|((with_reducible refine jV ?hy fun K hK=>?_);case hy=>rfl));simp only [go_sem, Nat.reduceEqDiff, Nat.reduceAdd, Nat.reduceMul, Nat.reduceLeDiff, Nat.reduceLT, Int.reduceLT, Int.reduceLE, Int.reduceEq, Int.reduceNeg, Int.reduceToNat, Nat.reducePow, reduceIte, reduceCtorEq, hbox])|((with_reducible first|refine jW ?hy ?_|refine jY ?hy ?_);case hy=>rfl)|((with_reducible first|refine jX ?hy ?_|refine jZ ?hy ?_);case hy=>rfl)|((with_reducible refine jF ?hy ?_);case hy=>decide))
 refine hp_range mapT_edges hl fun H1 hIt f1 => ?_
 obtain ⟨q, hq⟩ : ∃ q, q = H0.size := ⟨_, rfl⟩
 rw [← hq] at hIt ⊢
 have hI1 : I [] H1 := hI _ _ _ q h0 (by omega) (f1.mono fun _ _ h => h.elim)
 repeat' (first|(with_reducible first|refine jA ?_|(refine hK _ _ ?_;clear hK K)|refine jJ fun K hK=>?_|refine jK ?_|refine jL ?_|refine jM ?_|refine jN ?_|refine jO ?_|refine jP ?_|refine jQ ?_|(refine jB ?_;clear hK K)|(refine jC ?_;clear hK K)|refine jD ?_|refine jE ?_|refine jG ?_|refine jH ?_|refine jI ?_)|((with_reducible refine jR ?hq ?_);case hq=>rfl)|((first|(with_reducible first|refine jS fun K hK=>?_|refine jT ?_|refine jU ?_)|((with_reducible refine jV ?hy fun K hK=>?_);case hy=>rfl));simp only [go_sem, Nat.reduceEqDiff, Nat.reduceAdd, Nat.reduceMul, Nat.reduceLeDiff, Nat.reduceLT, Int.reduceLT, Int.reduceLE, Int.reduceEq, Int.reduceNeg, Int.reduceToNat, Nat.reducePow, reduceIte, reduceCtorEq])|((with_reducible first|refine jW ?hy ?_|refine jY ?hy ?_);case hy=>rfl)|((with_reducible first|refine jX ?hy ?_|refine jZ ?hy ?_);case hy=>rfl)|((with_reducible refine jF ?hy ?_);case hy=>decide))
 refine x_loop (fun m e' H' => ∃ D, I D H' ∧ It intK Ed.val H' q r M D ∧ D.Nodup ∧ Fr (fun c => S c ∨ c = q) H1 H' ∧ m = M.length - D.length) M.length ⟨[], hI1, hIt, .nil, Fr.refl _ _, rfl⟩ ?_
 rintro m e1 H2 ⟨D, hID, hIt2, hnd, f2, hm⟩ hoff
 have i0 : e1 0 = .func (.yield l0) #[] #[] := (hoff 0 rfl).trans rfl
 have i6 : e1 6 = .pointer (some ⟨q, 0, none⟩) := (hoff 6 rfl).trans rfl
 clear hoff
 have s1 := f1.size
 have s2 := f2.size
 have cl : ∀ {Hx : Heap}, Fr (fun c => S c ∨ c = q) H1 Hx → Fr S H0 Hx := fun hf => (f1.mono (S' := S) fun _ _ h => h.elim).trans' hf fun c hc h => h.elim id fun e => by omega
 repeat' (first|(with_reducible first|refine jA ?_|(refine hK _ _ ?_;clear hK K)|refine jJ fun K hK=>?_|refine jK ?_|refine jL ?_|refine jM ?_|refine jN ?_|refine jO ?_|refine jP ?_|refine jQ ?_|(refine jB ?_;clear hK K)|(refine jC ?_;clear hK K)|refine jD ?_|refine jE ?_|refine jG ?_|refine jH ?_|refine jI ?_)|((with_reducible refine jR ?hq ?_);case hq=>rfl)|((first|(with_reducible first|refine jS fun K hK=>?_|refine jT ?_|refine jU ?_)|((with_reducible refine jV ?hy fun K hK=>?_);case hy=>rfl));simp only [go_sem, Nat.reduceEqDiff, Nat.reduceAdd, Nat.reduceMul, Nat.reduceLeDiff, Nat.reduceLT, Int.reduceLT, Int.reduceLE, Int.reduceEq, Int.reduceNeg, Int.reduceToNat, Nat.reducePow, reduceIte, reduceCtorEq, i6])|((with_reducible first|refine jW ?hy ?_|refine jY ?hy ?_);case hy=>rfl)|((with_reducible first|refine jX ?hy ?_|refine jZ ?hy ?_);case hy=>rfl)|((with_reducible refine jF ?hy ?_);case hy=>decide))
 refine hp_next hIt2 (fun hall => ?_) fun i x H3 hx hiD hIt3 hf3 => ?_
 ·repeat' (first|(with_reducible first|refine jA ?_|(refine hK _ _ ?_;clear hK K)|refine jJ fun K hK=>?_|refine jK ?_|refine jL ?_|refine jM ?_|refine jN ?_|refine jO ?_|refine jP ?_|refine jQ ?_|(refine jB ?_;clear hK K)|(refine jC ?_;clear hK K)|refine jD ?_|refine jE ?_|refine jG ?_|refine jH ?_|refine jI ?_)|((with_reducible refine jR ?hq ?_);case hq=>rfl)|((first|(with_reducible first|refine jS fun K hK=>?_|refine jT ?_|refine jU ?_)|((with_reducible refine jV ?hy fun K hK=>?_);case hy=>rfl));simp only [go_sem, Nat.reduceEqDiff, Nat.reduceAdd, Nat.reduceMul, Nat.reduceLeDiff, Nat.reduceLT, Int.reduceLT, Int.reduceLE, Int.reduceEq, Int.reduceNeg, Int.reduceToNat, Nat.reducePow, reduceIte, reduceCtorEq])|((with_reducible first|refine jW ?hy ?_|refine jY ?hy ?_);case hy=>rfl)|((with_reducible first|refine jX ?hy ?_|refine jZ ?hy ?_);case hy=>rfl)|((with_reducible refine jF ?hy ?_);case hy=>decide))
  exact fin H2 D hID hnd hall hIt2.lt (cl f2)
 ·have hI3 := hI _ _ _ q hID (by omega) hf3
  repeat' (first|(with_reducible first|refine jA ?_|(refine hK _ _ ?_;clear hK K)|refine jJ fun K hK=>?_|refine jK ?_|refine jL ?_|refine jM ?_|refine jN ?_|refine jO ?_|refine jP ?_|refine jQ ?_|(refine jB ?_;clear hK K)|(refine jC ?_;clear hK K)|refine jD ?_|refine jE ?_|refine jG ?_|refine jH ?_|refine jI ?_)|((with_reducible refine jR ?hq ?_);case hq=>rfl)|((first|(with_reducible first|refine jS fun K hK=>?_|refine jT ?_|refine jU ?_)|((with_reducible refine jV ?hy fun K hK=>?_);case hy=>rfl));simp only [go_sem, Nat.reduceEqDiff, Nat.reduceAdd, Nat.reduceMul, Nat.reduceLeDiff, Nat.reduceLT, Int.reduceLT, Int.reduceLE, Int.reduceEq, Int.reduceNeg, Int.reduceToNat, Nat.reducePow, reduceIte, reduceCtorEq, i6])|((with_reducible first|refine jW ?hy ?_|refine jY ?hy ?_);case hy=>rfl)|((with_reducible first|refine jX ?hy ?_|refine jZ ?hy ?_);case hy=>rfl)|((with_reducible refine jF ?hy ?_);case hy=>decide))
  refine hp_entry hIt3 hx ?_
  simp only [Ed.val]
  obtain ⟨b4, f4⟩ := edge_box (H := H3) x.2 (T0 := 30)
  have x0 := b4.cellOf (i := 0) rfl
  have x1 := b4.cellOf (i := 1) rfl
  have x2 := b4.cellOf (i := 2) rfl
  have x3 := b4.cellOf (i := 3) rfl
  have s3 := hf3.size
  repeat' (first|(with_reducible first|refine jA ?_|(refine hK _ _ ?_;clear hK K)|refine jJ fun K hK=>?_|refine jK ?_|refine jL ?_|refine jM ?_|refine jN ?_|refine jO ?_|refine jP ?_|refine jQ ?_|(refine jB ?_;clear hK K)|(refine jC ?_;clear hK K)|refine jD ?_|refine jE ?_|refine jG ?_|refine jH ?_|refine jI ?_)|((with_reducible refine jR ?hq ?_);case hq=>rfl)|((first|(with_reducible first|refine jS fun K hK=>?_|refine jT ?_|refine jU ?_)|((with_reducible refine jV ?hy fun K hK=>?_);case hy=>rfl));simp only [go_sem, Nat.reduceEqDiff, Nat.reduceAdd, Nat.reduceMul, Nat.reduceLeDiff, Nat.reduceLT, Int.reduceLT, Int.reduceLE, Int.reduceEq, Int.reduceNeg, Int.reduceToNat, Nat.reducePow, reduceIte, reduceCtorEq, i0, x0, x1, x2, x3, hcell_push, hcell_top, okW_push, okW_top, hcell_hset_ne, hcell_hset_off, hcell_hset_eq, okW_hset, hset_size, Array.size_push, Nat.lt_add_one, ne_add_one, add_one_ne, Nat.add_assoc, add_same, add_lt_same, Nat.reduceEqDiff, lt_add_k, add_k_ne, ne_add_k])|((with_reducible first|refine jW ?hy ?_|refine jY ?hy ?_);case hy=>rfl)|((with_reducible first|refine jX ?hy ?_|refine jZ ?hy ?_);case hy=>rfl)|((with_reducible refine jF ?hy ?_);case hy=>decide))
  have hI4 := hI _ _ _ H3.size hI3 (by omega) (f4.mono fun _ _ h => h.elim)
  have hIt4 := hIt3.frame f4 (fun h => h) fun h => h
  generalize hset _ _ _ = H4 at b4 f4 hI4 hIt4 ⊢
  have s4 := f4.size
  have lq := hIt3.lt
  refine hstep D i x H4 _ hx hiD hI4 (by omega) fun H5 hI5 f5 => ?_
  repeat' (first|(with_reducible first|refine jA ?_|(refine hK _ _ ?_;clear hK K)|refine jJ fun K hK=>?_|refine jK ?_|refine jL ?_|refine jM ?_|refine jN ?_|refine jO ?_|refine jP ?_|refine jQ ?_|(refine jB ?_;clear hK K)|(refine jC ?_;clear hK K)|refine jD ?_|refine jE ?_|refine jG ?_|refine jH ?_|refine jI ?_)|((with_reducible refine jR ?hq ?_);case hq=>rfl)|((first|(with_reducible first|refine jS fun K hK=>?_|refine jT ?_|refine jU ?_)|((with_reducible refine jV ?hy fun K hK=>?_);case hy=>rfl));simp only [go_sem, Nat.reduceEqDiff, Nat.reduceAdd, Nat.reduceMul, Nat.reduceLeDiff, Nat.reduceLT, Int.reduceLT, Int.reduceLE, Int.reduceEq, Int.reduceNeg, Int.reduceToNat, Nat.reducePow, reduceIte, reduceCtorEq, Bool.not_true])|((with_reducible first|refine jW ?hy ?_|refine jY ?hy ?_);case hy=>rfl)|((with_reducible first|refine jX ?hy ?_|refine jZ ?hy ?_);case hy=>rfl)|((with_reducible refine jF ?hy ?_);case hy=>decide))
  have hnd' : (i :: D).Nodup := List.nodup_cons.2 ⟨hiD, hnd⟩
  have hle := full_len hnd' hIt3.lt
  rw [List.length_cons] at hle
  refine loop_normal (m' := M.length - (i :: D).length) (by rw [List.length_cons]; omega) ⟨i :: D, hI5, hIt4.frame f5 (fun h => by have := (hS _ h).1; omega) fun h => (hS _ h).2.2 rfl, hnd', ?_, rfl⟩
  exact ((f2.trans (hf3.mono fun _ _ h => .inr h)).trans (f4.mono fun _ _ h => h.elim)).trans (f5.mono fun _ _ h => .inl h)
theorem values_ok {r : Nat} (fin : ∀ H', Fr (fun _ => False) H H' → hcell H' ⟨H.size, 0, none⟩ = some (.map (some r)) → H'.size = H.size + 1 → L (.func (.func 68) #[] #[.pointer (some ⟨H.size, 0, none⟩)]) H') :
  CallsH Try.prog 53 #[.map (some r)] H L := by
 refine call53 (by simp) ?_
 simp only [Try.f53, Option.getD_some]
 repeat' (first|(with_reducible first|refine jA ?_|(refine hK _ _ ?_;clear hK K)|refine jJ fun K hK=>?_|refine jK ?_|refine jL ?_|refine jM ?_|refine jN ?_|refine jO ?_|refine jP ?_|refine jQ ?_|(refine jB ?_;clear hK K)|(refine jC ?_;clear hK K)|refine jD ?_|refine jE ?_|refine jG ?_|refine jH ?_|refine jI ?_)|((with_reducible refine jR ?hq ?_);case hq=>rfl)|((first|(with_reducible first|refine jS fun K hK=>?_|refine jT ?_|refine jU ?_)|((with_reducible refine jV ?hy fun K hK=>?_);case hy=>rfl));simp only [go_sem, Nat.reduceEqDiff, Nat.reduceAdd, Nat.reduceMul, Nat.reduceLeDiff, Nat.reduceLT, Int.reduceLT, Int.reduceLE, Int.reduceEq, Int.reduceNeg, Int.reduceToNat, Nat.reducePow, reduceIte, reduceCtorEq])|((with_reducible first|refine jW ?hy ?_|refine jY ?hy ?_);case hy=>rfl)|((with_reducible first|refine jX ?hy ?_|refine jZ ?hy ?_);case hy=>rfl)|((with_reducible refine jF ?hy ?_);case hy=>decide))
 exact fin _ ((Fr.refl _ _).push _) ((Blk.new H [.map (some r)] _).cellOf rfl) (by simp)
theorem keys1_ok {M : List (Int × Int)} (hbox : hcell H0 ⟨b, 0, none⟩ = some (.map (some r))) (hl : MapL wV H0 r M) (I : List Nat → Heap → Prop) (hS : ∀ c, S c → c < H0.size ∧ c ≠ b ∧ c ≠ r) (h0 : I [] H0)
  (hI : ∀ D H' H'', I D H' → H0.size ≤ H'.size → Fr (· = H0.size) H' H'' → I D H'')
  (hstep : ∀ D i x H' (K' : Value → Heap → Prop), M[i]? = some x → i ∉ D → I D H' → H0.size < H'.size → D.length < M.length → (∀ H'', I (i :: D) H'' → Fr (fun c => S c ∨ H0.size < c) H' H'' → K' (.bool true) H'') → semHp Try.prog (Instr.yield l0 #[.int .i64 x.1]) H' (nextHp Try.prog K'))
  (fin : ∀ H' D, I D H' → D.Nodup → (∀ i, i < M.length → i ∈ D) → (∀ i ∈ D, i < M.length) → Fr S H0 H' → L (.tuple #[]) H') :
  CallsH Try.prog 51 #[.func (.yield l0) #[] #[], .pointer (some ⟨b, 0, none⟩)] H0 L := by
 have lb := hcell_lt hbox
 simp only at lb
 have lr := hl.lt
 refine call51 (by simp) ?_
 simp only [Try.f51, Option.getD_some]
 repeat' (first|(with_reducible first|refine jA ?_|(refine hK _ _ ?_;clear hK K)|refine jJ fun K hK=>?_|refine jK ?_|refine jL ?_|refine jM ?_|refine jN ?_|refine jO ?_|refine jP ?_|refine jQ ?_|(refine jB ?_;clear hK K)|(refine jC ?_;clear hK K)|refine jD ?_|refine jE ?_|refine jG ?_|refine jH ?_|refine jI ?_)|((with_reducible refine jR ?hq ?_);case hq=>rfl)|((first|(with_reducible first|refine jS fun K hK=>?_|refine jT ?_|refine jU ?_)|((with_reducible refine jV ?hy fun K hK=>?_);case hy=>rfl));simp only [go_sem, Nat.reduceEqDiff, Nat.reduceAdd, Nat.reduceMul, Nat.reduceLeDiff, Nat.reduceLT, Int.reduceLT, Int.reduceLE, Int.reduceEq, Int.reduceNeg, Int.reduceToNat, Nat.reducePow, reduceIte, reduceCtorEq, hbox])|((with_reducible first|refine jW ?hy ?_|refine jY ?hy ?_);case hy=>rfl)|((with_reducible first|refine jX ?hy ?_|refine jZ ?hy ?_);case hy=>rfl)|((with_reducible refine jF ?hy ?_);case hy=>decide))
 refine hp_range mapT_ids hl fun H1 hIt f1 => ?_
 have hI1 : I [] H1 := hI _ _ _ h0 (Nat.le_refl _) (f1.mono fun _ _ h => h.elim)
 have hs1 : H0.size < H1.size := (Array.getElem?_eq_some_iff.1 hIt.ex.choose_spec.choose_spec.choose_spec.2.1).1
 obtain ⟨q, hq⟩ : ∃ q, q = H0.size := ⟨_, rfl⟩
 rw [← hq] at hIt hs1 ⊢
 repeat' (first|(with_reducible first|refine jA ?_|(refine hK _ _ ?_;clear hK K)|refine jJ fun K hK=>?_|refine jK ?_|refine jL ?_|refine jM ?_|refine jN ?_|refine jO ?_|refine jP ?_|refine jQ ?_|(refine jB ?_;clear hK K)|(refine jC ?_;clear hK K)|refine jD ?_|refine jE ?_|refine jG ?_|refine jH ?_|refine jI ?_)|((with_reducible refine jR ?hq ?_);case hq=>rfl)|((first|(with_reducible first|refine jS fun K hK=>?_|refine jT ?_|refine jU ?_)|((with_reducible refine jV ?hy fun K hK=>?_);case hy=>rfl));simp only [go_sem, Nat.reduceEqDiff, Nat.reduceAdd, Nat.reduceMul, Nat.reduceLeDiff, Nat.reduceLT, Int.reduceLT, Int.reduceLE, Int.reduceEq, Int.reduceNeg, Int.reduceToNat, Nat.reducePow, reduceIte, reduceCtorEq])|((with_reducible first|refine jW ?hy ?_|refine jY ?hy ?_);case hy=>rfl)|((with_reducible first|refine jX ?hy ?_|refine jZ ?hy ?_);case hy=>rfl)|((with_reducible refine jF ?hy ?_);case hy=>decide))
 refine x_loop (fun m e' H' => ∃ D, I D H' ∧ It intK wV H' q r M D ∧ D.Nodup ∧ Fr (fun c => S c ∨ q ≤ c) H1 H' ∧ m = M.length - D.length) M.length ⟨[], hI1, hIt, .nil, Fr.refl _ _, rfl⟩ ?_
 rintro m e1 H2 ⟨D, hID, hIt2, hnd, f2, hm⟩ hoff
 have i0 : e1 0 = .func (.yield l0) #[] #[] := (hoff 0 rfl).trans rfl
 have i5 : e1 5 = .pointer (some ⟨q, 0, none⟩) := (hoff 5 rfl).trans rfl
 clear hoff
 have s1 := f1.size
 have s2 := f2.size
 have cl : ∀ {Hx : Heap}, Fr (fun c => S c ∨ q ≤ c) H1 Hx → Fr S H0 Hx := fun hf => (f1.mono (S' := S) fun _ _ h => h.elim).trans' hf fun c hc h => h.elim id fun e => by omega
 repeat' (first|(with_reducible first|refine jA ?_|(refine hK _ _ ?_;clear hK K)|refine jJ fun K hK=>?_|refine jK ?_|refine jL ?_|refine jM ?_|refine jN ?_|refine jO ?_|refine jP ?_|refine jQ ?_|(refine jB ?_;clear hK K)|(refine jC ?_;clear hK K)|refine jD ?_|refine jE ?_|refine jG ?_|refine jH ?_|refine jI ?_)|((with_reducible refine jR ?hq ?_);case hq=>rfl)|((first|(with_reducible first|refine jS fun K hK=>?_|refine jT ?_|refine jU ?_)|((with_reducible refine jV ?hy fun K hK=>?_);case hy=>rfl));simp only [go_sem, Nat.reduceEqDiff, Nat.reduceAdd, Nat.reduceMul, Nat.reduceLeDiff, Nat.reduceLT, Int.reduceLT, Int.reduceLE, Int.reduceEq, Int.reduceNeg, Int.reduceToNat, Nat.reducePow, reduceIte, reduceCtorEq, i5])|((with_reducible first|refine jW ?hy ?_|refine jY ?hy ?_);case hy=>rfl)|((with_reducible first|refine jX ?hy ?_|refine jZ ?hy ?_);case hy=>rfl)|((with_reducible refine jF ?hy ?_);case hy=>decide))
 refine hp_next hIt2 (fun hall => ?_) fun i x H3 hx hiD hIt3 hf3 => ?_
 ·repeat' (first|(with_reducible first|refine jA ?_|(refine hK _ _ ?_;clear hK K)|refine jJ fun K hK=>?_|refine jK ?_|refine jL ?_|refine jM ?_|refine jN ?_|refine jO ?_|refine jP ?_|refine jQ ?_|(refine jB ?_;clear hK K)|(refine jC ?_;clear hK K)|refine jD ?_|refine jE ?_|refine jG ?_|refine jH ?_|refine jI ?_)|((with_reducible refine jR ?hq ?_);case hq=>rfl)|((first|(with_reducible first|refine jS fun K hK=>?_|refine jT ?_|refine jU ?_)|((with_reducible refine jV ?hy fun K hK=>?_);case hy=>rfl));simp only [go_sem, Nat.reduceEqDiff, Nat.reduceAdd, Nat.reduceMul, Nat.reduceLeDiff, Nat.reduceLT, Int.reduceLT, Int.reduceLE, Int.reduceEq, Int.reduceNeg, Int.reduceToNat, Nat.reducePow, reduceIte, reduceCtorEq])|((with_reducible first|refine jW ?hy ?_|refine jY ?hy ?_);case hy=>rfl)|((with_reducible first|refine jX ?hy ?_|refine jZ ?hy ?_);case hy=>rfl)|((with_reducible refine jF ?hy ?_);case hy=>decide))
  exact fin H2 D hID hnd hall hIt2.lt (cl f2)
 ·have hI3 := hI _ _ _ hID (by omega) (by rw [← hq]; exact hf3)
  repeat' (first|(with_reducible first|refine jA ?_|(refine hK _ _ ?_;clear hK K)|refine jJ fun K hK=>?_|refine jK ?_|refine jL ?_|refine jM ?_|refine jN ?_|refine jO ?_|refine jP ?_|refine jQ ?_|(refine jB ?_;clear hK K)|(refine jC ?_;clear hK K)|refine jD ?_|refine jE ?_|refine jG ?_|refine jH ?_|refine jI ?_)|((with_reducible refine jR ?hq ?_);case hq=>rfl)|((first|(with_reducible first|refine jS fun K hK=>?_|refine jT ?_|refine jU ?_)|((with_reducible refine jV ?hy fun K hK=>?_);case hy=>rfl));simp only [go_sem, Nat.reduceEqDiff, Nat.reduceAdd, Nat.reduceMul, Nat.reduceLeDiff, Nat.reduceLT, Int.reduceLT, Int.reduceLE, Int.reduceEq, Int.reduceNeg, Int.reduceToNat, Nat.reducePow, reduceIte, reduceCtorEq, i5])|((with_reducible first|refine jW ?hy ?_|refine jY ?hy ?_);case hy=>rfl)|((with_reducible first|refine jX ?hy ?_|refine jZ ?hy ?_);case hy=>rfl)|((with_reducible refine jF ?hy ?_);case hy=>decide))
  refine hp_entry hIt3 hx ?_
  have s3 := hf3.size
  simp only [intK]
  have hnd' : (i :: D).Nodup := List.nodup_cons.2 ⟨hiD, hnd⟩
  have hle := full_len hnd' hIt3.lt
  rw [List.length_cons] at hle
  repeat' (first|(with_reducible first|refine jA ?_|(refine hK _ _ ?_;clear hK K)|refine jJ fun K hK=>?_|refine jK ?_|refine jL ?_|refine jM ?_|refine jN ?_|refine jO ?_|refine jP ?_|refine jQ ?_|(refine jB ?_;clear hK K)|(refine jC ?_;clear hK K)|refine jD ?_|refine jE ?_|refine jG ?_|refine jH ?_|refine jI ?_)|((with_reducible refine jR ?hq ?_);case hq=>rfl)|((first|(with_reducible first|refine jS fun K hK=>?_|refine jT ?_|refine jU ?_)|((with_reducible refine jV ?hy fun K hK=>?_);case hy=>rfl));simp only [go_sem, Nat.reduceEqDiff, Nat.reduceAdd, Nat.reduceMul, Nat.reduceLeDiff, Nat.reduceLT, Int.reduceLT, Int.reduceLE, Int.reduceEq, Int.reduceNeg, Int.reduceToNat, Nat.reducePow, reduceIte, reduceCtorEq, i0])|((with_reducible first|refine jW ?hy ?_|refine jY ?hy ?_);case hy=>rfl)|((with_reducible first|refine jX ?hy ?_|refine jZ ?hy ?_);case hy=>rfl)|((with_reducible refine jF ?hy ?_);case hy=>decide))
  refine hstep D i x H3 _ hx hiD hI3 (by omega) hle fun H5 hI5 f5 => ?_
  repeat' (first|(with_reducible first|refine jA ?_|(refine hK _ _ ?_;clear hK K)|refine jJ fun K hK=>?_|refine jK ?_|refine jL ?_|refine jM ?_|refine jN ?_|refine jO ?_|refine jP ?_|refine jQ ?_|(refine jB ?_;clear hK K)|(refine jC ?_;clear hK K)|refine jD ?_|refine jE ?_|refine jG ?_|refine jH ?_|refine jI ?_)|((with_reducible refine jR ?hq ?_);case hq=>rfl)|((first|(with_reducible first|refine jS fun K hK=>?_|refine jT ?_|refine jU ?_)|((with_reducible refine jV ?hy fun K hK=>?_);case hy=>rfl));simp only [go_sem, Nat.reduceEqDiff, Nat.reduceAdd, Nat.reduceMul, Nat.reduceLeDiff, Nat.reduceLT, Int.reduceLT, Int.reduceLE, Int.reduceEq, Int.reduceNeg, Int.reduceToNat, Nat.reducePow, reduceIte, reduceCtorEq, Bool.not_true])|((with_reducible first|refine jW ?hy ?_|refine jY ?hy ?_);case hy=>rfl)|((with_reducible first|refine jX ?hy ?_|refine jZ ?hy ?_);case hy=>rfl)|((with_reducible refine jF ?hy ?_);case hy=>decide))
  rw [← hq] at f5
  refine loop_normal (m' := M.length - (i :: D).length) (by rw [List.length_cons]; omega) ⟨i :: D, hI5, hIt3.frame f5 (fun h => h.elim (fun h => by have := (hS _ h).1; omega) fun h => by omega) (fun h => h.elim (fun h => (hS _ h).2.2 rfl) fun h => by omega), hnd', ?_, rfl⟩
  exact (f2.trans (hf3.mono fun _ _ h => .inr (by omega))).trans (f5.mono fun _ _ h => h.elim .inl fun h => .inr (by omega))
theorem keys_ok {r : Nat} (fin : ∀ H', Fr (fun _ => False) H H' → hcell H' ⟨H.size, 0, none⟩ = some (.map (some r)) → H'.size = H.size + 1 → L (.func (.func 51) #[] #[.pointer (some ⟨H.size, 0, none⟩)]) H') :
  CallsH Try.prog 35 #[.map (some r)] H L := by
 refine call35 (by simp) ?_
 simp only [Try.f35, Option.getD_some]
 repeat' (first|(with_reducible first|refine jA ?_|(refine hK _ _ ?_;clear hK K)|refine jJ fun K hK=>?_|refine jK ?_|refine jL ?_|refine jM ?_|refine jN ?_|refine jO ?_|refine jP ?_|refine jQ ?_|(refine jB ?_;clear hK K)|(refine jC ?_;clear hK K)|refine jD ?_|refine jE ?_|refine jG ?_|refine jH ?_|refine jI ?_)|((with_reducible refine jR ?hq ?_);case hq=>rfl)|((first|(with_reducible first|refine jS fun K hK=>?_|refine jT ?_|refine jU ?_)|((with_reducible refine jV ?hy fun K hK=>?_);case hy=>rfl));simp only [go_sem, Nat.reduceEqDiff, Nat.reduceAdd, Nat.reduceMul, Nat.reduceLeDiff, Nat.reduceLT, Int.reduceLT, Int.reduceLE, Int.reduceEq, Int.reduceNeg, Int.reduceToNat, Nat.reducePow, reduceIte, reduceCtorEq])|((with_reducible first|refine jW ?hy ?_|refine jY ?hy ?_);case hy=>rfl)|((with_reducible first|refine jX ?hy ?_|refine jZ ?hy ?_);case hy=>rfl)|((with_reducible refine jF ?hy ?_);case hy=>decide))
 exact fin _ ((Fr.refl _ _).push _) ((Blk.new H [.map (some r)] _).cellOf rfl) (by simp)
end
def rowK (M : List (Int × Int)) (D : List Nat) : List Int := D.reverse.map fun i => ((M[i]?).map Prod.fst).getD 0
theorem rowK_cons {M : List (Int × Int)} {D : List Nat} {i : Nat} {x : Int × Int} (hx : M[i]? = some x) : rowK M (i :: D) = rowK M D ++ [x.1] := by
 unfold rowK
 rw [List.reverse_cons, List.map_append]
 simp [hx]
section
variable {H : Heap} {L : Value → Heap → Prop} {b r : Nat}
theorem appendSeq_ok {M : List (Int × Int)} (hbox : hcell H ⟨b, 0, none⟩ = some (.map (some r))) (hl : MapL wV H r M) (hM : M.length ≤ 1000)
  (fin : ∀ H' B v D, D.Nodup → (∀ i, i ∈ D ↔ i < M.length) → IR H' B v (rowK M D) → (∀ b, B = some b → H.size ≤ b) → Fr (fun _ => False) H H' → L v H') :
  CallsH Try.prog 65 #[.slice none 0 0, .func (.func 51) #[] #[.pointer (some ⟨b, 0, none⟩)]] H L := by
 have lb := hcell_lt hbox
 simp only at lb
 have lr := hl.lt
 refine callsH_top 13 [.tmp 4] (f := 65) (fn := Try.f65) (by kernel_rfl) (by kernel_rfl) (c := Try.f65.body.getD .skip) (by kernel_rfl) (by kernel_rfl) (by kernel_rfl) (by simp) ?_
 simp only [Try.f65, Option.getD_some]
 refine top_seq (top_of mixed [] (by kernel_rfl) ?_)
 repeat' (first|(with_reducible first|refine jA ?_|(refine hK _ _ ?_;clear hK K)|refine jJ fun K hK=>?_|refine jK ?_|refine jL ?_|refine jM ?_|refine jN ?_|refine jO ?_|refine jP ?_|refine jQ ?_|(refine jB ?_;clear hK K)|(refine jC ?_;clear hK K)|refine jD ?_|refine jE ?_|refine jG ?_|refine jH ?_|refine jI ?_)|((with_reducible refine jR ?hq ?_);case hq=>rfl)|((first|(with_reducible first|refine jS fun K hK=>?_|refine jT ?_|refine jU ?_)|((with_reducible refine jV ?hy fun K hK=>?_);case hy=>rfl));simp only [go_sem, Nat.reduceEqDiff, Nat.reduceAdd, Nat.reduceMul, Nat.reduceLeDiff, Nat.reduceLT, Int.reduceLT, Int.reduceLE, Int.reduceEq, Int.reduceNeg, Int.reduceToNat, Nat.reducePow, reduceIte, reduceCtorEq])|((with_reducible first|refine jW ?hy ?_|refine jY ?hy ?_);case hy=>rfl)|((with_reducible first|refine jX ?hy ?_|refine jZ ?hy ?_);case hy=>rfl)|((with_reducible refine jF ?hy ?_);case hy=>decide))
 intro hx_; clear hx_
 have hbB : Blk (H.push (.cells #[.slice none 0 0] 34)) H.size [.slice none 0 0] := Blk.new H _ _
 have f0 : Fr (fun _ => False) H (H.push (.cells #[.slice none 0 0] 34)) := (Fr.refl _ _).push _
 have sB : (H.push (.cells #[.slice none 0 0] 34)).size = H.size + 1 := by simp
 generalize H.push (.cells #[.slice none 0 0] 34) = HB at hbB f0 sB ⊢
 obtain ⟨d, hd⟩ : ∃ d, d = H.size := ⟨_, rfl⟩
 rw [← hd] at hbB sB ⊢
 refine top_seq (top_seq (top_of mixed [] (by kernel_rfl) ?_))
 repeat' (first|(with_reducible first|refine jA ?_|(refine hK _ _ ?_;clear hK K)|refine jJ fun K hK=>?_|refine jK ?_|refine jL ?_|refine jM ?_|refine jN ?_|refine jO ?_|refine jP ?_|refine jQ ?_|(refine jB ?_;clear hK K)|(refine jC ?_;clear hK K)|refine jD ?_|refine jE ?_|refine jG ?_|refine jH ?_|refine jI ?_)|((with_reducible refine jR ?hq ?_);case hq=>rfl)|((first|(with_reducible first|refine jS fun K hK=>?_|refine jT ?_|refine jU ?_)|((with_reducible refine jV ?hy fun K hK=>?_);case hy=>rfl));simp only [go_sem, Nat.reduceEqDiff, Nat.reduceAdd, Nat.reduceMul, Nat.reduceLeDiff, Nat.reduceLT, Int.reduceLT, Int.reduceLE, Int.reduceEq, Int.reduceNeg, Int.reduceToNat, Nat.reducePow, reduceIte, reduceCtorEq])|((with_reducible first|refine jW ?hy ?_|refine jY ?hy ?_);case hy=>rfl)|((with_reducible first|refine jX ?hy ?_|refine jZ ?hy ?_);case hy=>rfl)|((with_reducible refine jF ?hy ?_);case hy=>decide))
 intro hx_; clear hx_
 refine top_block (top_rangeN rfl fun r0 H4 hR hD hl0 hf4 s4 => ?_)
 have hb4 := hbB.frame hf4 fun h => h
 have hl4 := (hl.frame f0 fun h => h).frame hf4 fun h => h
 have hbox4 : hcell H4 ⟨b, 0, none⟩ = some (.map (some r)) := by rw [hf4.cell (by have := f0.size; simp only; omega) (fun h => h), f0.cell lb (fun h => h)]; exact hbox
 obtain ⟨k, hk⟩ : ∃ k, k = HB.size + 1 := ⟨_, rfl⟩
 rw [← hk] at hl0 ⊢
 refine keys1_ok (H0 := H4) (l0 := k) hbox4 hl4 (fun D H' => (∃ B v, Blk H' d [v] ∧ IR H' B v (rowK M D) ∧ (∀ b, B = some b → H4.size < b) ∧ D.length ≤ M.length) ∧ H'[k]? = some (.loop r0) ∧ H'[HB.size]? = some (.deferred (some []))) (S := fun c => c = d ∨ c = k) ?_ ?_ ?_ ?_ ?_
 ·rintro c (rfl | rfl)
  ·exact ⟨by omega, by omega, by omega⟩
  ·exact ⟨by omega, by omega, by omega⟩
 ·exact ⟨⟨none, _, hb4, IR.nil _, nofun, Nat.zero_le _⟩, hl0, hD⟩
 ·rintro D H' H'' ⟨⟨B, v, h1, h2, h3, h4⟩, h5, h6⟩ hs hf
  exact ⟨⟨B, v, h1.frame hf (by omega), h2.frame hf fun b hb (e : b = H4.size) => by have := h3 b hb; omega, h3, h4⟩, by rw [hf.same _ (by omega) (by omega)]; exact h5, by rw [hf.same _ (by omega) (by omega)]; exact h6⟩
 ·rintro D i x H' K' hx hiD ⟨⟨B, v, h1, h2, h3, h4⟩, h5, h6⟩ hs hln hkk
  refine hp_round mixed [] hR h5 rfl (by simp) (by kernel_rfl) (by kernel_rfl) (fun e => e 5 = .int .i64 x.1 ∧ e 2 = .pointer (some ⟨d, 0, none⟩)) ?_ ?_
  ·rw [show (#[7].zip #[Value.int .i64 x.1]).toList = [(7, Value.int .i64 x.1)] from by simp [Array.toList_zip]]
   simp only [List.foldl_cons, List.foldl_nil]
   repeat' (first|(with_reducible first|refine jA ?_|(refine hK _ _ ?_;clear hK K)|refine jJ fun K hK=>?_|refine jK ?_|refine jL ?_|refine jM ?_|refine jN ?_|refine jO ?_|refine jP ?_|refine jQ ?_|(refine jB ?_;clear hK K)|(refine jC ?_;clear hK K)|refine jD ?_|refine jE ?_|refine jG ?_|refine jH ?_|refine jI ?_)|((with_reducible refine jR ?hq ?_);case hq=>rfl)|((first|(with_reducible first|refine jS fun K hK=>?_|refine jT ?_|refine jU ?_)|((with_reducible refine jV ?hy fun K hK=>?_);case hy=>rfl));simp only [go_sem, Nat.reduceEqDiff, Nat.reduceAdd, Nat.reduceMul, Nat.reduceLeDiff, Nat.reduceLT, Int.reduceLT, Int.reduceLE, Int.reduceEq, Int.reduceNeg, Int.reduceToNat, Nat.reducePow, reduceIte, reduceCtorEq])|((with_reducible first|refine jW ?hy ?_|refine jY ?hy ?_);case hy=>rfl)|((with_reducible first|refine jX ?hy ?_|refine jZ ?hy ?_);case hy=>rfl)|((with_reducible refine jF ?hy ?_);case hy=>decide))
   exact ⟨rfl, rfl, rfl, rfl⟩
  ·rintro e1 ⟨j5, j2⟩
   have hfb : Fr (· = k) H' (H'.setIfInBounds k (.loop (busy r0))) := setIB_fr _ _ _
   have hlb : (H'.setIfInBounds k (.loop (busy r0)))[k]? = some (.loop (busy r0)) := by rw [Array.getElem?_setIfInBounds_self_of_lt (by omega)]
   have h1b := h1.frame hfb (by omega)
   have h2b := h2.frame hfb fun b hb (e : b = k) => by have := h3 b hb; omega
   have h6b : (H'.setIfInBounds k (.loop (busy r0)))[HB.size]? = some (.deferred (some [])) := by rw [hfb.same _ (by omega) (by omega)]; exact h6
   have sb := hfb.size
   generalize H'.setIfInBounds k (.loop (busy r0)) = Hb at hfb hlb h1b h2b h6b sb ⊢
   have cd := h1b.cellOf (i := 0) rfl
   obtain ⟨av, cv, rfl⟩ := id h2b.slice
   have hrl : (rowK M D).length ≤ 1000 := by unfold rowK; rw [List.length_map, List.length_reverse]; omega
   repeat' (first|(with_reducible first|refine jA ?_|(refine hK _ _ ?_;clear hK K)|refine jJ fun K hK=>?_|refine jK ?_|refine jL ?_|refine jM ?_|refine jN ?_|refine jO ?_|refine jP ?_|refine jQ ?_|(refine jB ?_;clear hK K)|(refine jC ?_;clear hK K)|refine jD ?_|refine jE ?_|refine jG ?_|refine jH ?_|refine jI ?_)|((with_reducible refine jR ?hq ?_);case hq=>rfl)|((first|(with_reducible first|refine jS fun K hK=>?_|refine jT ?_|refine jU ?_)|((with_reducible refine jV ?hy fun K hK=>?_);case hy=>rfl));simp only [go_sem, Nat.reduceEqDiff, Nat.reduceAdd, Nat.reduceMul, Nat.reduceLeDiff, Nat.reduceLT, Int.reduceLT, Int.reduceLE, Int.reduceEq, Int.reduceNeg, Int.reduceToNat, Nat.reducePow, reduceIte, reduceCtorEq, j5, j2, cd])|((with_reducible first|refine jW ?hy ?_|refine jY ?hy ?_);case hy=>rfl)|((with_reducible first|refine jX ?hy ?_|refine jZ ?hy ?_);case hy=>rfl)|((with_reducible refine jF ?hy ?_);case hy=>decide))
   refine append_ir elems34 tl3 h2b rfl (by decide) (by simp; omega) rfl fun w6 H6 B6 h6' hf6 hB6 => ?_
   rw [← rowK_cons hx] at h6'
   have s6 := hf6.size
   have ld : d < H4.size := by omega
   have h1c := h1b.frame hf6 fun e => by have := h3 _ e; omega
   have ok := h1c.okW (i := 0) (by simp)
   obtain ⟨a6, c6, rfl⟩ := id h6'.slice
   have hB6' : ∀ b, B6 = some b → H4.size < b := fun b hb => by
    rcases hB6 with e | ⟨g', hg, hge⟩
    ·exact h3 b (by rw [← e]; exact hb)
    ·rw [hg] at hb
     obtain rfl := Option.some.inj hb
     omega
   have fs : Fr (· = d) H6 (hset H6 ⟨d, 0, none⟩ (.slice a6 (rowK M (i :: D)).length c6)) := Fr.set (S := (· = d)) (a := ⟨d, 0, none⟩) (Fr.refl _ _) (.inl rfl) _
   have h1d := h1c.set_same 0 (.slice a6 (rowK M (i :: D)).length c6)
   have h6d := h6'.frame fs fun b hb (e : b = d) => by have := hB6' b hb; omega
   have l6 : (hset H6 ⟨d, 0, none⟩ (.slice a6 (rowK M (i :: D)).length c6))[k]? = some (.loop (busy r0)) := by
    rw [fs.same _ (by omega) (by omega), hf6.same _ (by omega) (fun e => by have := h3 _ e; omega)]; exact hlb
   have l7 : (hset H6 ⟨d, 0, none⟩ (.slice a6 (rowK M (i :: D)).length c6))[HB.size]? = some (.deferred (some [])) := by
    rw [fs.same _ (by omega) (by omega), hf6.same _ (by omega) (fun e => by have := h3 _ e; omega)]; exact h6b
   have sd := fs.size
   repeat' (first|(with_reducible first|refine jA ?_|(refine hK _ _ ?_;clear hK K)|refine jJ fun K hK=>?_|refine jK ?_|refine jL ?_|refine jM ?_|refine jN ?_|refine jO ?_|refine jP ?_|refine jQ ?_|(refine jB ?_;clear hK K)|(refine jC ?_;clear hK K)|refine jD ?_|refine jE ?_|refine jG ?_|refine jH ?_|refine jI ?_)|((with_reducible refine jR ?hq ?_);case hq=>rfl)|((first|(with_reducible first|refine jS fun K hK=>?_|refine jT ?_|refine jU ?_)|((with_reducible refine jV ?hy fun K hK=>?_);case hy=>rfl));simp only [go_sem, Nat.reduceEqDiff, Nat.reduceAdd, Nat.reduceMul, Nat.reduceLeDiff, Nat.reduceLT, Int.reduceLT, Int.reduceLE, Int.reduceEq, Int.reduceNeg, Int.reduceToNat, Nat.reducePow, reduceIte, reduceCtorEq, j2, ok, hcell_push, hcell_top, okW_push, okW_top, hcell_hset_ne, hcell_hset_off, hcell_hset_eq, okW_hset, hset_size, Array.size_push, Nat.lt_add_one, ne_add_one, add_one_ne, Nat.add_assoc, add_same, add_lt_same, Nat.reduceEqDiff, lt_add_k, add_k_ne, ne_add_k])|((with_reducible first|refine jW ?hy ?_|refine jY ?hy ?_);case hy=>rfl)|((with_reducible first|refine jX ?hy ?_|refine jZ ?hy ?_);case hy=>rfl)|((with_reducible refine jF ?hy ?_);case hy=>decide))
   generalize hset H6 ⟨d, 0, none⟩ _ = H7 at fs h1d h6d l6 l7 sd ⊢
   have f8 := setIB_fr H7 k (.loop r0)
   refine roundQ_normal hR l6 (hkk _ ⟨⟨B6, _, h1d.frame f8 (by omega), h6d.frame f8 fun b hb (e : b = k) => by have := hB6' b hb; omega, hB6', ?_⟩, by rw [Array.getElem?_setIfInBounds_self_of_lt (by omega)], by rw [f8.same _ (by omega) (by omega)]; exact l7⟩ ?_)
   ·exact hln
   ·refine (((hfb.mono fun _ _ e => .inl (.inr e)).trans' (S := fun c => (c = d ∨ c = k) ∨ H4.size < c) hf6 fun c hc e => .inr (h3 c e)).trans' fs fun c hc e => .inl (.inl e)).trans' f8 fun c hc e => .inl (.inr e)
 ·rintro H5 D ⟨⟨B, v, h1, h2, h3, h4⟩, h5, h6⟩ hnd hall hlt hf5
  obtain ⟨av, cv, rfl⟩ := id h2.slice
  refine ⟨h5, ?_⟩
  have f6 := setIB_fr H5 k (.loop { r0 with state := .exhausted })
  have h1' := h1.frame f6 (by omega)
  have h2' := h2.frame f6 fun b hb (e : b = k) => by have := h3 b hb; omega
  have s5 := hf5.size
  have h6' : (H5.setIfInBounds k (.loop { r0 with state := .exhausted }))[HB.size]? = some (.deferred (some [])) := by rw [f6.same _ (by omega) (by omega)]; exact h6
  generalize H5.setIfInBounds k (.loop { r0 with state := .exhausted }) = H6 at f6 h1' h2' h6' ⊢
  have cd := h1'.cellOf (i := 0) rfl
  have s6 := f6.size
  refine top_of mixed [] (by kernel_rfl) ?_
  repeat' (first|(with_reducible first|refine jA ?_|(refine hK _ _ ?_;clear hK K)|refine jJ fun K hK=>?_|refine jK ?_|refine jL ?_|refine jM ?_|refine jN ?_|refine jO ?_|refine jP ?_|refine jQ ?_|(refine jB ?_;clear hK K)|(refine jC ?_;clear hK K)|refine jD ?_|refine jE ?_|refine jG ?_|refine jH ?_|refine jI ?_)|((with_reducible refine jR ?hq ?_);case hq=>rfl)|((first|(with_reducible first|refine jS fun K hK=>?_|refine jT ?_|refine jU ?_)|((with_reducible refine jV ?hy fun K hK=>?_);case hy=>rfl));simp only [go_sem, Nat.reduceEqDiff, Nat.reduceAdd, Nat.reduceMul, Nat.reduceLeDiff, Nat.reduceLT, Int.reduceLT, Int.reduceLE, Int.reduceEq, Int.reduceNeg, Int.reduceToNat, Nat.reducePow, reduceIte, reduceCtorEq, cd])|((with_reducible first|refine jW ?hy ?_|refine jY ?hy ?_);case hy=>rfl)|((with_reducible first|refine jX ?hy ?_|refine jZ ?hy ?_);case hy=>rfl)|((with_reducible refine jF ?hy ?_);case hy=>decide))
  intro hx_; clear hx_
  refine ⟨⟨h6', trivial⟩, ?_⟩
  have f8 := setIB_fr H6 HB.size (.deferred none)
  show L (.slice av (rowK M D).length cv) _
  refine fin _ B _ D hnd (fun i => ⟨hlt i, hall i⟩) (h2'.frame f8 fun b hb (e : b = HB.size) => by have := h3 b hb; omega) (fun b hb => by have := h3 b hb; omega) ?_
  exact (((f0.trans hf4).trans' hf5 fun c hc h => by omega).trans' f6 fun c hc (e : c = k) => by omega).trans' f8 fun c hc (e : c = HB.size) => by omega
end
end Go.Proofs.Ytafehbegoanajaa
namespace Go.Proofs.Ytafehbegoanajaa
open Go Go.Hp Go.Li Go.Br Go.Sort
set_option linter.all false
set_option maxRecDepth 100000
set_option maxHeartbeats 1600000
section
variable {H H' : Heap} {L : Value → Heap → Prop} {B : Option Nat} {v : Value} {xs : List Int}
theorem holds_of {w : World} (hw : w.heap = H) {g c : Nat} (h : IR H (some g) (.slice (some ⟨g, 0, none⟩) xs.length c) xs) : Holds (Value.int .i64) w g 0 xs.toArray := by
 intro j hj
 have hj' : j < xs.length := by simpa using hj
 have e : xs.toArray[j]! = xs[j] := by simp [hj']
 refine ⟨?_, ?_⟩
 ·rw [cell_eq, hw, Nat.zero_add, e]
  exact h.cell (List.getElem?_eq_getElem hj')
 ·rw [frozen_eq, hw, Nat.zero_add]
  exact (h.write hj' 0).1.2
theorem sort_ok (h : IR H B v xs) (hlen : xs.length ≤ 1000) (fin : ∀ H', IR H' B v (xs.mergeSort fun x y => decide (x ≤ y)) → Fr (fun b => B = some b) H H' → L (.tuple #[]) H') :
  CallsH Try.prog 50 #[v] H L := by
 refine ⟨by kernel_rfl, fun w hw => ?_⟩
 obtain ⟨h0, ⟨rfl, rfl, hz⟩ | ⟨g, c, rest, rfl, rfl, hb, hl, hc⟩⟩ := id h
 ·have hx : xs = [] := List.length_eq_zero_iff.1 hz
  subst hx
  refine (Any.slices_Sort_int_none Try.lays189 none 0 w).mono ?_
  rintro e w' ⟨rfl, rfl⟩
  refine ⟨_, rfl, ?_, .refl _⟩
  rw [hw]
  exact fin _ (by simpa using h) (Fr.refl _ _)
 ·have hH : Holds (Value.int .i64) w g 0 xs.toArray := holds_of hw h
  have hg : g < w.heap.size := by rw [hw]; exact hb.lt
  refine (calls_of_every_depth fun D => AnyS.slices_Sort_int_in Try.lays189 D g 0 c xs w hH hg (by omega)).mono ?_
  rintro e w' ⟨rfl, k, os, rfl⟩
  refine ⟨_, rfl, fin _ ?_ ?_, ⟨rfl, rfl, rfl⟩⟩
  ·obtain ⟨T, hT⟩ := hb
   rw [← hw] at hT
   have hp := heap_sortedI (n := k) (os := os) ((xs.mergeSort fun x y => decide (x ≤ y)).toArray) hT
   have hs : (xs.mergeSort fun x y => decide (x ≤ y)).length = xs.length := List.length_mergeSort xs
   refine ⟨by simp, .inr ⟨g, c, rest, rfl, by rw [hs], ⟨T, ?_⟩, by simp [hs] at hl ⊢; omega, by rw [hs]; exact hc⟩⟩
   rw [hp]
   congr 2
   apply Array.ext'
   apply List.ext_getElem?
   intro j
   generalize hys : (xs.mergeSort fun x y => decide (x ≤ y)) = ys at hs ⊢
   unfold putCells
   by_cases hj : j < xs.length
   ·have hj2 : j < ys.length := by omega
    simp [hj, hj2, hs, List.getElem?_append_left]
   ·have hj2 : ¬ j < ys.length := by omega
    by_cases hj3 : j < xs.length + rest.length
    ·simp [hj, hj2, hs, hj3]
     rw [List.getElem_append_right (by simp; omega), List.getElem_append_right (by simp; omega)]
     simp [hs]
    ·rw [List.getElem?_eq_none (by simp; omega), List.getElem?_eq_none (by simp; omega)]
  ·have h1 := grownBy_sortedI (w := w) (g := g) (n := k) (os := os) ((xs.mergeSort fun x y => decide (x ≤ y)).toArray)
   obtain ⟨_, _, _, h2, h3⟩ := h1
   rw [← hw]
   exact ⟨h2, fun b hb hn => h3 b hb fun e => hn (by rw [e])⟩
end
end Go.Proofs.Ytafehbegoanajaa
namespace Go.Ms
open Go Go.Hp Go.Li Go.Br
structure IdsOf (F : List Ed) (xs : List Int) : Prop where
 srt : xs.Pairwise (· < ·)
 mem : ∀ i, i ∈ xs ↔ ∃ e ∈ F, e.id = i
theorem srt_uniq : ∀ {xs ys : List Int}, xs.Pairwise (· < ·) → ys.Pairwise (· < ·) → (∀ i, i ∈ xs ↔ i ∈ ys) → xs = ys
 | [], [], _, _, _ => rfl
 | [], y :: ys, _, _, h => by have := (h y).2 (.head _); cases this
 | x :: xs, [], _, _, h => by have := (h x).1 (.head _); cases this
 | x :: xs, y :: ys, hx, hy, h => by
  rw [List.pairwise_cons] at hx hy
  have e : x = y := by
   rcases List.mem_cons.1 ((h x).1 (.head _)) with e | h1
   ·exact e
   ·rcases List.mem_cons.1 ((h y).2 (.head _)) with e | h2
    ·exact e.symm
    ·have := hy.1 x h1; have := hx.1 y h2; omega
  subst e
  rw [srt_uniq hx.2 hy.2 fun i => ?_]
  constructor
  ·intro hi
   rcases List.mem_cons.1 ((h i).1 (.tail _ hi)) with e | h1
   ·have := hx.1 i hi; omega
   ·exact h1
  ·intro hi
   rcases List.mem_cons.1 ((h i).2 (.tail _ hi)) with e | h1
   ·have := hy.1 i hi; omega
   ·exact h1
theorem IdsOf.uniq {F F' : List Ed} {xs ys : List Int} (h : IdsOf F xs) (h' : IdsOf F' ys) (hF : ∀ e, e ∈ F ↔ e ∈ F') : xs = ys :=
 srt_uniq h.srt h'.srt fun i => by rw [h.mem, h'.mem]; exact ⟨fun ⟨e, a, b⟩ => ⟨e, (hF e).1 a, b⟩, fun ⟨e, a, b⟩ => ⟨e, (hF e).2 a, b⟩⟩
theorem IdsOf.len {F : List Ed} {xs : List Int} (h : IdsOf F xs) (hn : (F.map (·.id)).Nodup) : xs.length = F.length := by
 have h1 : xs.Nodup := h.srt.imp fun h => by omega
 have h2 := len_le h1 (b := F.map (·.id)) fun i hi => by obtain ⟨e, a, b⟩ := (h.mem i).1 hi; exact List.mem_map.2 ⟨e, a, b⟩
 have h3 := len_le hn (b := xs) fun i hi => by obtain ⟨e, a, b⟩ := List.mem_map.1 hi; exact (h.mem i).2 ⟨e, a, b⟩
 rw [List.length_map] at h2 h3
 omega
theorem IdsOf.byId {F : List Ed} {xs : List Int} (h : IdsOf F xs) (i : Int) : i ∈ xs ↔ (byId F i).isSome = true := by
 rw [h.mem]
 constructor
 ·rintro ⟨e, a, b⟩
  cases hb : Ms.byId F i with
  | none => exact absurd b (byId_none.1 hb e a)
  | some y => rfl
 ·intro hs
  obtain ⟨y, hy⟩ := Option.isSome_iff_exists.1 hs
  obtain ⟨h1, h2⟩ := byId_some hy
  exact ⟨y, h1, h2⟩
end Go.Ms
namespace Go.Proofs.Ytafehbegoanajaa
open Go Go.Hp Go.Li Go.Br Go.Ms
set_option linter.all false
set_option maxRecDepth 100000
set_option maxHeartbeats 3200000
theorem key_at {M : List (Int × Int)} {i : Nat} (hi : i < M.length) : ((M[i]?).map Prod.fst).getD 0 = (M[i]).1 := by rw [List.getElem?_eq_getElem hi]; rfl
theorem sorted_row {M : List (Int × Int)} {D : List Nat} (hM : (M.map Prod.fst).Nodup) (hnd : D.Nodup) (hD : ∀ i, i ∈ D ↔ i < M.length) : ((rowK M D).mergeSort fun x y => decide (x ≤ y)).Pairwise (· < ·) ∧ ∀ i, i ∈ ((rowK M D).mergeSort fun x y => decide (x ≤ y)) ↔ i ∈ M.map Prod.fst := by
 have hp := List.mergeSort_perm (rowK M D) (fun x y => decide (x ≤ y))
 have hs := List.pairwise_mergeSort (le := fun (x y : Int) => decide (x ≤ y)) (by intro a b c h1 h2; simp at *; omega) (by intro a b; simp; omega) (rowK M D)
 have hnr : (rowK M D).Nodup := by
  unfold rowK
  refine List.Pairwise.map _ (R := fun i j => (i ∈ D ∧ j ∈ D) ∧ i ≠ j) (fun i j ⟨⟨h1, h2⟩, h3⟩ e => ?_) ?_
  ·have l1 := (hD i).1 h1
   have l2 := (hD j).1 h2
   rw [key_at l1, key_at l2] at e
   refine h3 ((List.getElem?_inj (l := M.map Prod.fst) (by rw [List.length_map]; exact l1) hM).1 ?_)
   rw [List.getElem?_map, List.getElem?_map, List.getElem?_eq_getElem l1, List.getElem?_eq_getElem l2]
   simp [e]
  ·have h1 : D.reverse.Nodup := (List.reverse_perm D).nodup_iff.2 hnd
   refine List.Pairwise.imp_of_mem (fun {a b} ha hb h => ⟨⟨List.mem_reverse.1 ha, List.mem_reverse.1 hb⟩, h⟩) h1
 refine ⟨?_, fun i => ?_⟩
 ·have hnd' := hp.nodup_iff.2 hnr
  exact (hs.and hnd').imp fun ⟨h1, h2⟩ => by simp at h1; omega
 ·rw [hp.mem_iff]
  unfold rowK
  rw [List.mem_map]
  constructor
  ·rintro ⟨j, hj, rfl⟩
   have l1 := (hD j).1 (List.mem_reverse.1 hj)
   rw [key_at l1]
   exact List.mem_map.2 ⟨_, List.getElem_mem l1, rfl⟩
  ·intro hi
   obtain ⟨j, hj⟩ := List.mem_iff_getElem?.1 hi
   have l1 : j < M.length := by have := (List.getElem?_eq_some_iff.1 hj).1; rwa [List.length_map] at this
   refine ⟨j, List.mem_reverse.2 ((hD j).2 l1), ?_⟩
   rw [key_at l1]
   rw [List.getElem?_map, List.getElem?_eq_getElem l1] at hj
   exact Option.some.inj hj
section
variable {H : Heap} {L : Value → Heap → Prop} {b r f n : Nat} {T : Nat → Prop} {l F : List Ed}
theorem collect_ok {M : List (Int × Int)} (hbox : hcell H ⟨b, 0, none⟩ = some (.map (some r))) (hl : MapL wV H r M) (hM : M.length ≤ 1000)
  (fin : ∀ H' B v D, D.Nodup → (∀ i, i ∈ D ↔ i < M.length) → IR H' B v (rowK M D) → (∀ b, B = some b → H.size ≤ b) → Fr (fun _ => False) H H' → L v H') :
  CallsH Try.prog 49 #[.func (.func 51) #[] #[.pointer (some ⟨b, 0, none⟩)]] H L := by
 refine call49 (by simp) ?_
 simp only [Try.f49, Option.getD_some]
 repeat' (first|(with_reducible first|refine jA ?_|(refine hK _ _ ?_;clear hK K)|refine jJ fun K hK=>?_|refine jK ?_|refine jL ?_|refine jM ?_|refine jN ?_|refine jO ?_|refine jP ?_|refine jQ ?_|(refine jB ?_;clear hK K)|(refine jC ?_;clear hK K)|refine jD ?_|refine jE ?_|refine jG ?_|refine jH ?_|refine jI ?_)|((with_reducible refine jR ?hq ?_);case hq=>rfl)|((first|(with_reducible first|refine jS fun K hK=>?_|refine jT ?_|refine jU ?_)|((with_reducible refine jV ?hy fun K hK=>?_);case hy=>rfl));simp only [go_sem, Nat.reduceEqDiff, Nat.reduceAdd, Nat.reduceMul, Nat.reduceLeDiff, Nat.reduceLT, Int.reduceLT, Int.reduceLE, Int.reduceEq, Int.reduceNeg, Int.reduceToNat, Nat.reducePow, reduceIte, reduceCtorEq])|((with_reducible first|refine jW ?hy ?_|refine jY ?hy ?_);case hy=>rfl)|((with_reducible first|refine jX ?hy ?_|refine jZ ?hy ?_);case hy=>rfl)|((with_reducible refine jF ?hy ?_);case hy=>decide))
 refine appendSeq_ok hbox hl hM fun H' B v D h1 h2 h3 h4 h5 => ?_
 obtain ⟨av, cv, rfl⟩ := id h3.slice
 repeat' (first|(with_reducible first|refine jA ?_|(refine hK _ _ ?_;clear hK K)|refine jJ fun K hK=>?_|refine jK ?_|refine jL ?_|refine jM ?_|refine jN ?_|refine jO ?_|refine jP ?_|refine jQ ?_|(refine jB ?_;clear hK K)|(refine jC ?_;clear hK K)|refine jD ?_|refine jE ?_|refine jG ?_|refine jH ?_|refine jI ?_)|((with_reducible refine jR ?hq ?_);case hq=>rfl)|((first|(with_reducible first|refine jS fun K hK=>?_|refine jT ?_|refine jU ?_)|((with_reducible refine jV ?hy fun K hK=>?_);case hy=>rfl));simp only [go_sem, Nat.reduceEqDiff, Nat.reduceAdd, Nat.reduceMul, Nat.reduceLeDiff, Nat.reduceLT, Int.reduceLT, Int.reduceLE, Int.reduceEq, Int.reduceNeg, Int.reduceToNat, Nat.reducePow, reduceIte, reduceCtorEq])|((with_reducible first|refine jW ?hy ?_|refine jY ?hy ?_);case hy=>rfl)|((with_reducible first|refine jX ?hy ?_|refine jZ ?hy ?_);case hy=>rfl)|((with_reducible refine jF ?hy ?_);case hy=>decide))
 exact fin H' B _ D h1 h2 h3 h4 h5
theorem sorted_ok {M : List (Int × Int)} (hbox : hcell H ⟨b, 0, none⟩ = some (.map (some r))) (hl : MapL wV H r M) (hM : M.length ≤ 1000) (hn : (M.map Prod.fst).Nodup)
  (fin : ∀ H' B v xs, xs.Pairwise (· < ·) → (∀ i, i ∈ xs ↔ i ∈ M.map Prod.fst) → IR H' B v xs → (∀ b, B = some b → H.size ≤ b) → Fr (fun _ => False) H H' → L v H') :
  CallsH Try.prog 34 #[.func (.func 51) #[] #[.pointer (some ⟨b, 0, none⟩)]] H L := by
 refine call34 (by simp) ?_
 simp only [Try.f34, Option.getD_some]
 repeat' (first|(with_reducible first|refine jA ?_|(refine hK _ _ ?_;clear hK K)|refine jJ fun K hK=>?_|refine jK ?_|refine jL ?_|refine jM ?_|refine jN ?_|refine jO ?_|refine jP ?_|refine jQ ?_|(refine jB ?_;clear hK K)|(refine jC ?_;clear hK K)|refine jD ?_|refine jE ?_|refine jG ?_|refine jH ?_|refine jI ?_)|((with_reducible refine jR ?hq ?_);case hq=>rfl)|((first|(with_reducible first|refine jS fun K hK=>?_|refine jT ?_|refine jU ?_)|((with_reducible refine jV ?hy fun K hK=>?_);case hy=>rfl));simp only [go_sem, Nat.reduceEqDiff, Nat.reduceAdd, Nat.reduceMul, Nat.reduceLeDiff, Nat.reduceLT, Int.reduceLT, Int.reduceLE, Int.reduceEq, Int.reduceNeg, Int.reduceToNat, Nat.reducePow, reduceIte, reduceCtorEq])|((with_reducible first|refine jW ?hy ?_|refine jY ?hy ?_);case hy=>rfl)|((with_reducible first|refine jX ?hy ?_|refine jZ ?hy ?_);case hy=>rfl)|((with_reducible refine jF ?hy ?_);case hy=>decide))
 refine collect_ok hbox hl hM fun H1 B v D h1 h2 h3 h4 h5 => ?_
 have hlen := full_len h1 fun i hi => (h2 i).1 hi
 obtain ⟨s1, s2⟩ := sorted_row hn h1 h2
 repeat' (first|(with_reducible first|refine jA ?_|(refine hK _ _ ?_;clear hK K)|refine jJ fun K hK=>?_|refine jK ?_|refine jL ?_|refine jM ?_|refine jN ?_|refine jO ?_|refine jP ?_|refine jQ ?_|(refine jB ?_;clear hK K)|(refine jC ?_;clear hK K)|refine jD ?_|refine jE ?_|refine jG ?_|refine jH ?_|refine jI ?_)|((with_reducible refine jR ?hq ?_);case hq=>rfl)|((first|(with_reducible first|refine jS fun K hK=>?_|refine jT ?_|refine jU ?_)|((with_reducible refine jV ?hy fun K hK=>?_);case hy=>rfl));simp only [go_sem, Nat.reduceEqDiff, Nat.reduceAdd, Nat.reduceMul, Nat.reduceLeDiff, Nat.reduceLT, Int.reduceLT, Int.reduceLE, Int.reduceEq, Int.reduceNeg, Int.reduceToNat, Nat.reducePow, reduceIte, reduceCtorEq])|((with_reducible first|refine jW ?hy ?_|refine jY ?hy ?_);case hy=>rfl)|((with_reducible first|refine jX ?hy ?_|refine jZ ?hy ?_);case hy=>rfl)|((with_reducible refine jF ?hy ?_);case hy=>decide))
 refine sort_ok h3 (by unfold rowK; rw [List.length_map, List.length_reverse]; omega) fun H2 h6 f6 => ?_
 repeat' (first|(with_reducible first|refine jA ?_|(refine hK _ _ ?_;clear hK K)|refine jJ fun K hK=>?_|refine jK ?_|refine jL ?_|refine jM ?_|refine jN ?_|refine jO ?_|refine jP ?_|refine jQ ?_|(refine jB ?_;clear hK K)|(refine jC ?_;clear hK K)|refine jD ?_|refine jE ?_|refine jG ?_|refine jH ?_|refine jI ?_)|((with_reducible refine jR ?hq ?_);case hq=>rfl)|((first|(with_reducible first|refine jS fun K hK=>?_|refine jT ?_|refine jU ?_)|((with_reducible refine jV ?hy fun K hK=>?_);case hy=>rfl));simp only [go_sem, Nat.reduceEqDiff, Nat.reduceAdd, Nat.reduceMul, Nat.reduceLeDiff, Nat.reduceLT, Int.reduceLT, Int.reduceLE, Int.reduceEq, Int.reduceNeg, Int.reduceToNat, Nat.reducePow, reduceIte, reduceCtorEq])|((with_reducible first|refine jW ?hy ?_|refine jY ?hy ?_);case hy=>rfl)|((with_reducible first|refine jX ?hy ?_|refine jZ ?hy ?_);case hy=>rfl)|((with_reducible refine jF ?hy ?_);case hy=>decide))
 exact fin H2 B v _ s1 s2 h6 h4 (h5.trans' f6 fun b hb e => by have := h4 b e; omega)
theorem m_all (hM : MsM H f T n l F) (fin : ∀ H' B v xs, IdsOf F xs → IR H' B v xs → (∀ b, B = some b → H.size ≤ b) → Fr (fun _ => False) H H' → L v H') :
  CallsH Try.prog 17 #[.pointer (some ⟨f, 0, none⟩)] H L := by
 obtain ⟨r1, r2, t, Tt, k2, hb, hm1, hB1, hm2, hB2, hT, _⟩ := hM.m
 have c2 := hb.cellOf (i := 2) rfl
 obtain ⟨M, g1, g2, g3, g4⟩ := list_of hm2 hB2
 have hmem : ∀ i, i ∈ M.map Prod.fst ↔ ∃ e ∈ F, e.id = i := fun i => by
  have h1 : i ∈ M.map Prod.fst ↔ atL i M ≠ none := by rw [ne_eq, atL_none, Classical.not_not]
  rw [h1, ← g2 i]
  constructor
  ·intro h
   cases hb : byId F i with
   | none => rw [hb] at h; exact absurd rfl h
   | some y => obtain ⟨a, b⟩ := byId_some hb; exact ⟨y, a, b⟩
  ·rintro ⟨e, a, b⟩ h
   cases hb : byId F i with
   | none => exact byId_none.1 hb e a b
   | some y => rw [hb] at h; cases h
 have hMl : M.length ≤ 1000 := by
  have := len_le g1 (b := F.map (·.id)) fun i hi => by obtain ⟨e, a, b⟩ := (hmem i).1 hi; exact List.mem_map.2 ⟨e, a, b⟩
  rw [List.length_map, List.length_map] at this
  have := hM.p.flen
  omega
 refine call17 (by simp) ?_
 simp only [Try.f17, Option.getD_some]
 repeat' (first|(with_reducible first|refine jA ?_|(refine hK _ _ ?_;clear hK K)|refine jJ fun K hK=>?_|refine jK ?_|refine jL ?_|refine jM ?_|refine jN ?_|refine jO ?_|refine jP ?_|refine jQ ?_|(refine jB ?_;clear hK K)|(refine jC ?_;clear hK K)|refine jD ?_|refine jE ?_|refine jG ?_|refine jH ?_|refine jI ?_)|((with_reducible refine jR ?hq ?_);case hq=>rfl)|((first|(with_reducible first|refine jS fun K hK=>?_|refine jT ?_|refine jU ?_)|((with_reducible refine jV ?hy fun K hK=>?_);case hy=>rfl));simp only [go_sem, Nat.reduceEqDiff, Nat.reduceAdd, Nat.reduceMul, Nat.reduceLeDiff, Nat.reduceLT, Int.reduceLT, Int.reduceLE, Int.reduceEq, Int.reduceNeg, Int.reduceToNat, Nat.reducePow, reduceIte, reduceCtorEq, c2])|((with_reducible first|refine jW ?hy ?_|refine jY ?hy ?_);case hy=>rfl)|((with_reducible first|refine jX ?hy ?_|refine jZ ?hy ?_);case hy=>rfl)|((with_reducible refine jF ?hy ?_);case hy=>decide))
 refine keys_ok fun H1 f1 hbx s1 => ?_
 repeat' (first|(with_reducible first|refine jA ?_|(refine hK _ _ ?_;clear hK K)|refine jJ fun K hK=>?_|refine jK ?_|refine jL ?_|refine jM ?_|refine jN ?_|refine jO ?_|refine jP ?_|refine jQ ?_|(refine jB ?_;clear hK K)|(refine jC ?_;clear hK K)|refine jD ?_|refine jE ?_|refine jG ?_|refine jH ?_|refine jI ?_)|((with_reducible refine jR ?hq ?_);case hq=>rfl)|((first|(with_reducible first|refine jS fun K hK=>?_|refine jT ?_|refine jU ?_)|((with_reducible refine jV ?hy fun K hK=>?_);case hy=>rfl));simp only [go_sem, Nat.reduceEqDiff, Nat.reduceAdd, Nat.reduceMul, Nat.reduceLeDiff, Nat.reduceLT, Int.reduceLT, Int.reduceLE, Int.reduceEq, Int.reduceNeg, Int.reduceToNat, Nat.reducePow, reduceIte, reduceCtorEq])|((with_reducible first|refine jW ?hy ?_|refine jY ?hy ?_);case hy=>rfl)|((with_reducible first|refine jX ?hy ?_|refine jZ ?hy ?_);case hy=>rfl)|((with_reducible refine jF ?hy ?_);case hy=>decide))
 refine sorted_ok hbx (MapL.frame (H := H) (M := M) g4 f1 fun h => h) hMl g1 fun H2 B v xs h1 h2 h3 h4 h5 => ?_
 obtain ⟨av, cv, rfl⟩ := id h3.slice
 repeat' (first|(with_reducible first|refine jA ?_|(refine hK _ _ ?_;clear hK K)|refine jJ fun K hK=>?_|refine jK ?_|refine jL ?_|refine jM ?_|refine jN ?_|refine jO ?_|refine jP ?_|refine jQ ?_|(refine jB ?_;clear hK K)|(refine jC ?_;clear hK K)|refine jD ?_|refine jE ?_|refine jG ?_|refine jH ?_|refine jI ?_)|((with_reducible refine jR ?hq ?_);case hq=>rfl)|((first|(with_reducible first|refine jS fun K hK=>?_|refine jT ?_|refine jU ?_)|((with_reducible refine jV ?hy fun K hK=>?_);case hy=>rfl));simp only [go_sem, Nat.reduceEqDiff, Nat.reduceAdd, Nat.reduceMul, Nat.reduceLeDiff, Nat.reduceLT, Int.reduceLT, Int.reduceLE, Int.reduceEq, Int.reduceNeg, Int.reduceToNat, Nat.reducePow, reduceIte, reduceCtorEq])|((with_reducible first|refine jW ?hy ?_|refine jY ?hy ?_);case hy=>rfl)|((with_reducible first|refine jX ?hy ?_|refine jZ ?hy ?_);case hy=>rfl)|((with_reducible refine jF ?hy ?_);case hy=>decide))
 exact fin H2 B _ xs ⟨h1, fun i => (h2 i).trans (hmem i)⟩ h3 (fun b hb => by have := h4 b hb; have := f1.size; omega) (f1.trans h5)
end
end Go.Proofs.Ytafehbegoanajaa
