/-
  Splay forests as sequences: same.
  Splay forests, plain: two trees hung together; the last of a tree.
  Flags as numbers: what &^ and & come to.
  What ArenaKeeps keeps: handles hs they were given, what was laid there; plain.
  Splay forests as sequences: a node more, a node less, in memory; the forest for whoever uses it.
  Splay forests for whoever uses them: what hides the nodes' places.
  Tours: what is known of them (Tq), and how the program's sequences of handles tell it (Rel).
  Splay forests as sequences: may, New, Make, Free, Set.
  Splay forests as sequences: end, Join; Make, Free, Set.
  Splay forests for whoever uses them: Make, Free, Set.
-/
import Derived.Test.YtnlafhnbakipmaaG1
import Derived.Test.YtnlafhnbakipmaaHpE
import Derived.Test.YtnlafhnbakipmaaG0
namespace Go.Proofs.Ytnlafhnbakipmaa
open Go Go.Hp Go.Sp
set_option linter.all false
set_option maxRecDepth 100000
set_option maxHeartbeats 1600000

theorem up_ne_zero {N : Nodes} {it : Nat → Sp.Item} {i : Nat} : ∀ {t : Tr} {up : Nat}, TrAt N it up t → i ∈ t.list → i ≠ t.root → (N i).up ≠ 0
 | .nil, _, _, h, _ => by simp [Tr.list] at h
 | .node l h r, up, ⟨a, b, c, d⟩, hi, hne => by
  simp only [Tr.list, List.mem_append, List.mem_cons] at hi
  have kid : ∀ {t : Tr}, TrAt N it h t → (i ≠ t.root → (N i).up ≠ 0) → i ∈ t.list → (N i).up ≠ 0 := fun {t} ht ih hit => by
   by_cases e : i = t.root
   ·cases t with
    | nil => simp [Tr.list] at hit
    | node x y z =>
     obtain ⟨_, ey, _⟩ := ht
     have e' : i = y := e
     rw [e', ey]
     exact a
   ·exact ih e
  rcases hi with hi | hi | hi
  ·exact kid c (fun e => up_ne_zero c hi e) hi
  ·exact absurd hi hne
  ·exact kid d (fun e => up_ne_zero d hi e) hi
section
variable {H H' : Heap} {f p g : Nat} {A : Ar} {nb : Nat → Nat} {N : Nodes} {S : Fo} {xs ys : List Nat} {k j : Nat}
theorem same_ok {K : Value → Heap → Prop} (hF : FoAt H f p g A nb N S) (hx : xs ∈ S.rows) (hk : k ∈ xs) (hy : ys ∈ S.rows) (hj : j ∈ ys)
  (fin : ∀ H' N' (b : Bool), FoAt H' f p g A nb N' S → Fr (NB A nb) H H' → (b = true ↔ ys = xs) → K (.bool b) H') :
  CallsH Try.prog 68 #[.pointer (some ⟨f, 0, none⟩), .int .i64 k, .int .i64 j] H K := by
 have hU := hF.u hx hk
 refine call68 (by simp) ?_
 simp only [Try.f68, Option.getD_some]
 by_cases h : k = j
 ·subst h
  have t1 : ((k : Int) == (k : Int)) = true := by simp
  have hxy : ys = xs := (hF.apart hx ys hy).resolve_right fun h => h k hj hk
  repeat' (first|(with_reducible first|refine jA ?_|(refine hK _ _ ?_;clear hK K)|refine jJ fun K hK=>?_|refine jK ?_|refine jL ?_|refine jM ?_|refine jN ?_|refine jO ?_|refine jP ?_|refine jQ ?_|(refine jB ?_;clear hK K)|(refine jC ?_;clear hK K)|refine jD ?_|refine jE ?_|refine jG ?_|refine jH ?_|refine jI ?_)|((with_reducible refine jR ?hq ?_);case hq=>rfl)|((first|(with_reducible first|refine jS fun K hK=>?_|refine jT ?_|refine jU ?_)|((with_reducible refine jV ?hy fun K hK=>?_);case hy=>rfl));simp only [go_sem, Nat.reduceEqDiff, Nat.reduceAdd, Nat.reduceMul, Nat.reduceLeDiff, Nat.reduceLT, Int.reduceLT, Int.reduceLE, Int.reduceEq, Int.reduceNeg, Int.reduceToNat, Nat.reducePow, reduceIte, reduceCtorEq, t1])|((with_reducible first|refine jW ?hy ?_|refine jY ?hy ?_);case hy=>rfl)|((with_reducible first|refine jX ?hy ?_|refine jZ ?hy ?_);case hy=>rfl)|((with_reducible refine jF ?hy ?_);case hy=>decide))
  exact fin _ N true hF (.refl _ _) (by simp [hxy])
 ·have t1 : ((k : Int) == (j : Int)) = false := by simp; omega
  repeat' (first|(with_reducible first|refine jA ?_|(refine hK _ _ ?_;clear hK K)|refine jJ fun K hK=>?_|refine jK ?_|refine jL ?_|refine jM ?_|refine jN ?_|refine jO ?_|refine jP ?_|refine jQ ?_|(refine jB ?_;clear hK K)|(refine jC ?_;clear hK K)|refine jD ?_|refine jE ?_|refine jG ?_|refine jH ?_|refine jI ?_)|((with_reducible refine jR ?hq ?_);case hq=>rfl)|((first|(with_reducible first|refine jS fun K hK=>?_|refine jT ?_|refine jU ?_)|((with_reducible refine jV ?hy fun K hK=>?_);case hy=>rfl));simp only [go_sem, Nat.reduceEqDiff, Nat.reduceAdd, Nat.reduceMul, Nat.reduceLeDiff, Nat.reduceLT, Int.reduceLT, Int.reduceLE, Int.reduceEq, Int.reduceNeg, Int.reduceToNat, Nat.reducePow, reduceIte, reduceCtorEq, t1])|((with_reducible first|refine jW ?hy ?_|refine jY ?hy ?_);case hy=>rfl)|((with_reducible first|refine jX ?hy ?_|refine jZ ?hy ?_);case hy=>rfl)|((with_reducible refine jF ?hy ?_);case hy=>decide))
  refine splay_row hF hx hk (hF.apart hx) ?_
  intro H2 N2 a b hF2 ht e hf hoff
  repeat' (first|(with_reducible first|refine jA ?_|(refine hK _ _ ?_;clear hK K)|refine jJ fun K hK=>?_|refine jK ?_|refine jL ?_|refine jM ?_|refine jN ?_|refine jO ?_|refine jP ?_|refine jQ ?_|(refine jB ?_;clear hK K)|(refine jC ?_;clear hK K)|refine jD ?_|refine jE ?_|refine jG ?_|refine jH ?_|refine jI ?_)|((with_reducible refine jR ?hq ?_);case hq=>rfl)|((first|(with_reducible first|refine jS fun K hK=>?_|refine jT ?_|refine jU ?_)|((with_reducible refine jV ?hy fun K hK=>?_);case hy=>rfl));simp only [go_sem, Nat.reduceEqDiff, Nat.reduceAdd, Nat.reduceMul, Nat.reduceLeDiff, Nat.reduceLT, Int.reduceLT, Int.reduceLE, Int.reduceEq, Int.reduceNeg, Int.reduceToNat, Nat.reducePow, reduceIte, reduceCtorEq])|((with_reducible first|refine jW ?hy ?_|refine jY ?hy ?_);case hy=>rfl)|((with_reducible first|refine jX ?hy ?_|refine jZ ?hy ?_);case hy=>rfl)|((with_reducible refine jF ?hy ?_);case hy=>decide))
  refine splay_row hF2 hy hj (hF2.apart hy) ?_
  intro H3 N3 c d hF3 ht3 e3 hf3 hoff3
  repeat' (first|(with_reducible first|refine jA ?_|(refine hK _ _ ?_;clear hK K)|refine jJ fun K hK=>?_|refine jK ?_|refine jL ?_|refine jM ?_|refine jN ?_|refine jO ?_|refine jP ?_|refine jQ ?_|(refine jB ?_;clear hK K)|(refine jC ?_;clear hK K)|refine jD ?_|refine jE ?_|refine jG ?_|refine jH ?_|refine jI ?_)|((with_reducible refine jR ?hq ?_);case hq=>rfl)|((first|(with_reducible first|refine jS fun K hK=>?_|refine jT ?_|refine jU ?_)|((with_reducible refine jV ?hy fun K hK=>?_);case hy=>rfl));simp only [go_sem, Nat.reduceEqDiff, Nat.reduceAdd, Nat.reduceMul, Nat.reduceLeDiff, Nat.reduceLT, Int.reduceLT, Int.reduceLE, Int.reduceEq, Int.reduceNeg, Int.reduceToNat, Nat.reducePow, reduceIte, reduceCtorEq])|((with_reducible first|refine jW ?hy ?_|refine jY ?hy ?_);case hy=>rfl)|((with_reducible first|refine jX ?hy ?_|refine jZ ?hy ?_);case hy=>rfl)|((with_reducible refine jF ?hy ?_);case hy=>decide))
  refine node_ok hF3.mem hU ?_
  have c3 := (hF3.mem.nd k hU).cellOf (i := 3) rfl
  by_cases hxy : ys = xs
  ·have h0 : (N3 k).up ≠ 0 := up_ne_zero ht3 (by show k ∈ c.list ++ j :: d.list; rw [e3, hxy]; exact hk) h
   have t2 : (((N3 k).up : Int) != 0) = true := by simp [h0]
   repeat' (first|(with_reducible first|refine jA ?_|(refine hK _ _ ?_;clear hK K)|refine jJ fun K hK=>?_|refine jK ?_|refine jL ?_|refine jM ?_|refine jN ?_|refine jO ?_|refine jP ?_|refine jQ ?_|(refine jB ?_;clear hK K)|(refine jC ?_;clear hK K)|refine jD ?_|refine jE ?_|refine jG ?_|refine jH ?_|refine jI ?_)|((with_reducible refine jR ?hq ?_);case hq=>rfl)|((first|(with_reducible first|refine jS fun K hK=>?_|refine jT ?_|refine jU ?_)|((with_reducible refine jV ?hy fun K hK=>?_);case hy=>rfl));simp only [go_sem, Nat.reduceEqDiff, Nat.reduceAdd, Nat.reduceMul, Nat.reduceLeDiff, Nat.reduceLT, Int.reduceLT, Int.reduceLE, Int.reduceEq, Int.reduceNeg, Int.reduceToNat, Nat.reducePow, reduceIte, reduceCtorEq, c3, t2])|((with_reducible first|refine jW ?hy ?_|refine jY ?hy ?_);case hy=>rfl)|((with_reducible first|refine jX ?hy ?_|refine jZ ?hy ?_);case hy=>rfl)|((with_reducible refine jF ?hy ?_);case hy=>decide))
   exact fin _ N3 true hF3 (hf.trans hf3) (by simp [hxy])
  ·have hky : k ∉ ys := fun h => hxy ((hF.apart hx ys hy).resolve_right fun h' => h' k h hk)
   have h0 : (N3 k).up = 0 := by
    rw [hoff3 k hky]
    obtain ⟨_, ek, _⟩ := ht
    rw [ek]; rfl
   have t2 : (((N3 k).up : Int) != 0) = false := by simp [h0]
   repeat' (first|(with_reducible first|refine jA ?_|(refine hK _ _ ?_;clear hK K)|refine jJ fun K hK=>?_|refine jK ?_|refine jL ?_|refine jM ?_|refine jN ?_|refine jO ?_|refine jP ?_|refine jQ ?_|(refine jB ?_;clear hK K)|(refine jC ?_;clear hK K)|refine jD ?_|refine jE ?_|refine jG ?_|refine jH ?_|refine jI ?_)|((with_reducible refine jR ?hq ?_);case hq=>rfl)|((first|(with_reducible first|refine jS fun K hK=>?_|refine jT ?_|refine jU ?_)|((with_reducible refine jV ?hy fun K hK=>?_);case hy=>rfl));simp only [go_sem, Nat.reduceEqDiff, Nat.reduceAdd, Nat.reduceMul, Nat.reduceLeDiff, Nat.reduceLT, Int.reduceLT, Int.reduceLE, Int.reduceEq, Int.reduceNeg, Int.reduceToNat, Nat.reducePow, reduceIte, reduceCtorEq, c3, t2])|((with_reducible first|refine jW ?hy ?_|refine jY ?hy ?_);case hy=>rfl)|((with_reducible first|refine jX ?hy ?_|refine jZ ?hy ?_);case hy=>rfl)|((with_reducible refine jF ?hy ?_);case hy=>decide))
   exact fin _ N3 false hF3 (hf.trans hf3) (by simp [hxy])
end
end Go.Proofs.Ytnlafhnbakipmaa
namespace Go.Sp
open Go Go.Hp
set_option linter.unusedVariables false

theorem join_tree {N : Nodes} {it : Nat → Item} {a t : Tr} {k : Nat} (ht : TrAt N it 0 (.node a k .nil)) (hs : TrAt N it 0 t) (h0 : t.root ≠ 0) (hd : (a.list ++ k :: t.list).Nodup) (hm : ∀ i ∈ a.list ++ k :: t.list, May (it i)) (hl : (a.list ++ k :: t.list).length ≤ 4096) :
  TrAt (pullN (hangN N k 1 t.root) k) it 0 (.node a k t) ∧ ∀ i, i ∉ a.list ++ k :: t.list → pullN (hangN N k 1 t.root) k i = N i := by
 generalize hM : hangN N k 1 t.root = M
 obtain ⟨k0, ek, hta, _⟩ := ht
 simp only [List.nodup_append, List.nodup_cons, List.mem_cons] at hd
 obtain ⟨na, ⟨kb, nb'⟩, dab⟩ := hd
 have hka : k ∉ a.list := fun e => dab k e k (.inl rfl) rfl
 have hrt := Tr.root_mem h0
 have hkr : t.root ≠ k := fun e => kb (by rw [← e]; exact hrt)
 have eM : M = upd (upd N k ((N k).setKid 1 t.root)) t.root { upd N k ((N k).setKid 1 t.root) t.root with up := k } := by
  rw [← hM]; unfold hangN; rw [if_neg h0]
 have Mk : M k = (N k).setKid 1 t.root := by
  rw [eM, upd_ne _ _ (Ne.symm hkr), upd_same]
 have Mo : ∀ i, i ≠ k → i ≠ t.root → M i = N i := fun i h1 h2 => by
  rw [eM, upd_ne _ _ h2, upd_ne _ _ h1]
 have Mt : M t.root = { N t.root with up := k } := by
  rw [eM, upd_same, upd_ne _ _ hkr]
 have htaM : TrAt M it k a := hta.congr fun i hi => Mo i (fun e => hka (e ▸ hi)) (fun e => dab i hi i (.inr (by rw [e]; exact hrt)) rfl)
 have htM : TrAt M it k t := hs.hung nb' (fun _ => Mt) (fun i hi hne => Mo i (fun e => kb (e ▸ hi)) hne)
 have pk : pullR M k = recOf it 0 a.root k t.root (a.list ++ k :: t.list) := by
  refine pullR_of htaM.below htM.below (by rw [Mk, ek]; rfl) (by rw [Mk, ek]; rfl) (by rw [Mk, ek]; rfl) (by rw [Mk]; rfl) hm hl
 have eP : pullN M k = upd M k (recOf it 0 a.root k t.root (a.list ++ k :: t.list)) := by unfold pullN; rw [pk]
 rw [eP]
 refine ⟨⟨k0, by rw [upd_same], htaM.congr fun i hi => upd_ne _ _ (fun e => hka (e ▸ hi)), htM.congr fun i hi => upd_ne _ _ (fun e => kb (e ▸ hi))⟩, fun i hi => ?_⟩
 simp only [List.mem_append, List.mem_cons, not_or] at hi
 rw [upd_ne _ _ hi.2.1]
 exact Mo i hi.2.1 (fun e => hi.2.2 (e ▸ hrt))
theorem set_tree {N : Nodes} {it : Nat → Item} {a b : Tr} {k : Nat} {x : Item} (ht : TrAt N it 0 (.node a k b)) (hd : (a.list ++ k :: b.list).Nodup) (hx : May x) (hm : ∀ i ∈ a.list ++ k :: b.list, May (it i)) (hl : (a.list ++ k :: b.list).length ≤ 4096) :
  TrAt (pullN (upd N k { N k with item := x }) k) (fun i => if i = k then x else it i) 0 (.node a k b) ∧ ∀ i, i ≠ k → pullN (upd N k { N k with item := x }) k i = N i := by
 obtain ⟨k0, ek, hta, htb⟩ := ht
 simp only [List.nodup_append, List.nodup_cons, List.mem_cons] at hd
 obtain ⟨na, ⟨kb, nb'⟩, dab⟩ := hd
 have hka : k ∉ a.list := fun e => dab k e k (.inl rfl) rfl
 have re : ∀ {t : Tr} {up : Nat}, TrAt N it up t → k ∉ t.list → TrAt (upd N k { N k with item := x }) (fun i => if i = k then x else it i) up t := by
  intro t
  induction t with
  | nil => intros; trivial
  | node l h r ihl ihr =>
   rintro up ⟨p1, p2, p3, p4⟩ hk
   simp only [Tr.list, List.mem_append, List.mem_cons, not_or] at hk
   refine ⟨p1, ?_, ihl p3 hk.1, ihr p4 hk.2.2⟩
   rw [upd_ne _ _ (Ne.symm hk.2.1), p2]
   unfold recOf
   have e2 : aggOf (fun i => if i = k then x else it i) (l.list ++ h :: r.list) = aggOf it (l.list ++ h :: r.list) := by
    unfold aggOf
    congr 1
    apply List.map_congr_left
    intro i hi
    have : i ≠ k := fun e => by
     subst e
     simp only [List.mem_append, List.mem_cons] at hi
     rcases hi with hi | hi | hi
     ·exact hk.1 hi
     ·exact hk.2.1 hi
     ·exact hk.2.2 hi
    exact if_neg this
   rw [e2]
   simp only [if_neg (Ne.symm hk.2.1)]
 have hta' := re hta hka
 have htb' := re htb kb
 have pk : pullR (upd N k { N k with item := x }) k = recOf (fun i => if i = k then x else it i) 0 a.root k b.root (a.list ++ k :: b.list) := by
  refine pullR_of hta'.below htb'.below (by rw [upd_same]; simp) (by rw [upd_same, ek]; rfl) (by rw [upd_same, ek]; rfl) (by rw [upd_same, ek]; rfl) (fun i hi => ?_) hl
  by_cases e : i = k
  ·simp only [e, if_true]; exact hx
  ·simp only [e, if_false]; exact hm i hi
 have eP : pullN (upd N k { N k with item := x }) k = upd (upd N k { N k with item := x }) k (recOf (fun i => if i = k then x else it i) 0 a.root k b.root (a.list ++ k :: b.list)) := by unfold pullN; rw [pk]
 rw [eP]
 refine ⟨⟨k0, by rw [upd_same], hta'.congr fun i hi => upd_ne _ _ (fun e => hka (e ▸ hi)), htb'.congr fun i hi => upd_ne _ _ (fun e => kb (e ▸ hi))⟩, fun i hi => ?_⟩
 rw [upd_ne _ _ hi, upd_ne _ _ hi]
theorem TrAt.items {N : Nodes} {it it' : Nat → Item} : ∀ {t : Tr} {up : Nat}, TrAt N it up t → (∀ h ∈ t.list, it' h = it h) → TrAt N it' up t
 | .nil, _, _, _ => trivial
 | .node l h r, up, ⟨a, b, c, d⟩, hN => by
  have e2 : aggOf it' (l.list ++ h :: r.list) = aggOf it (l.list ++ h :: r.list) := by
   unfold aggOf; congr 1
   exact List.map_congr_left fun i hi => hN i hi
  have e1 : it' h = it h := hN h (by simp [Tr.list])
  refine ⟨a, ?_, c.items fun k hk => hN k (by simp [Tr.list, hk]), d.items fun k hk => hN k (by simp [Tr.list, hk])⟩
  unfold recOf at b ⊢
  rw [b, e1, e2]
theorem flagsL_and : ∀ {xs : List Item} {fl : Nat}, flagsL xs &&& fl = 0 ↔ ∀ x ∈ xs, x.flags.toNat &&& fl = 0
 | [], fl => by simp [flagsL]
 | x :: xs, fl => by
  have ih := flagsL_and (xs := xs) (fl := fl)
  simp only [flagsL, Nat.and_or_distrib_right, Nat.or_eq_zero_iff, ih, List.mem_cons, forall_eq_or_imp]
theorem list_ne_nil {t : Tr} (h : t.root ≠ 0) : t.list ≠ [] := by
 cases t with
 | nil => exact absurd rfl h
 | node l k r => simp [Tr.list]
theorem root_of_list {N : Nodes} {it : Nat → Item} {t : Tr} {up : Nat} (h : TrAt N it up t) (hl : t.list ≠ []) : t.root ≠ 0 := by
 cases t with
 | nil => exact absurd rfl hl
 | node l k r => exact h.1
theorem nil_of_root {N : Nodes} {it : Nat → Item} {t : Tr} {up : Nat} (h : TrAt N it up t) (h0 : t.root = 0) : t = .nil := by
 cases t with
 | nil => rfl
 | node l k r => exact absurd h0 h.1
end Go.Sp
namespace Go.Sp
open Go Go.Hp
set_option linter.unusedVariables false

def andNot64 (a b : Int) : Int := bitAndNot .i64 a b
def and64 (a b : Int) : Int := bitAnd .i64 a b
theorem wrap_zero {n : Nat} (h : n < 18446744073709551616) : IntKind.i64.wrap (n : Int) = 0 ↔ n = 0 := by
 constructor
 ·intro e
  by_cases h2 : n < 9223372036854775808
  ·rw [wrap_i64] at e <;> omega
  ·have : IntKind.i64.wrap ((n : Int)) = (n : Int) - 18446744073709551616 := by
    unfold IntKind.wrap
    simp only [IntKind.signed, IntKind.bits]
    simp
    omega
   omega
 ·rintro rfl; rfl
theorem andNot_zero {x : Int} (h1 : -9223372036854775808 ≤ x) (h2 : x ≤ 9223372036854775807) : andNot64 x 255 = 0 ↔ 0 ≤ x ∧ x < 256 := by
 unfold andNot64 bitAndNot
 show IntKind.i64.wrap ((BitVec.ofInt 64 x &&& ~~~ BitVec.ofInt 64 255).toNat : Int) = 0 ↔ _
 rw [wrap_zero (BitVec.isLt _)]
 have ht : (BitVec.ofInt 64 x).toNat = (x % 18446744073709551616).toNat := by
  rw [BitVec.toNat_ofInt]; rfl
 have key : (BitVec.ofInt 64 x &&& ~~~ BitVec.ofInt 64 255).toNat = 0 ↔ (BitVec.ofInt 64 x).toNat < 2 ^ 8 := by
  constructor
  ·intro h
   have hz : BitVec.ofInt 64 x &&& ~~~ BitVec.ofInt 64 255 = 0#64 := BitVec.eq_of_toNat_eq h
   apply Nat.lt_pow_two_of_testBit
   intro i hi
   by_cases h64 : i < 64
   ·have := congrArg (fun y => BitVec.getLsbD y i) hz
    simp only [BitVec.getLsbD_and, BitVec.getLsbD_not, BitVec.getLsbD_zero] at this
    have h255 : (BitVec.ofInt 64 255).getLsbD i = false := by
     show Nat.testBit (BitVec.ofInt 64 255).toNat i = false
     exact Nat.testBit_lt_two_pow (Nat.lt_of_lt_of_le (show (BitVec.ofInt 64 255).toNat < 2 ^ 8 by decide) (Nat.pow_le_pow_right (by decide) hi))
    rw [h255] at this
    simp only [h64, decide_true, Bool.not_false, Bool.and_true] at this
    exact this
   ·exact Nat.testBit_lt_two_pow (Nat.lt_of_lt_of_le (BitVec.isLt _) (Nat.pow_le_pow_right (by decide) (by omega)))
  ·intro h
   have : BitVec.ofInt 64 x &&& ~~~ BitVec.ofInt 64 255 = 0#64 := by
    apply BitVec.eq_of_getLsbD_eq
    intro i hi
    simp only [BitVec.getLsbD_and, BitVec.getLsbD_not, BitVec.getLsbD_zero]
    by_cases h8 : i < 8
    ·have h255 : (BitVec.ofInt 64 255).getLsbD i = true := by
      show Nat.testBit (BitVec.ofInt 64 255).toNat i = true
      have e : (BitVec.ofInt 64 255).toNat = 2 ^ 8 - 1 := by decide
      rw [e, Nat.testBit_two_pow_sub_one]; simp [h8]
     rw [h255]; simp
    ·have : (BitVec.ofInt 64 x).getLsbD i = false := Nat.testBit_lt_two_pow (Nat.lt_of_lt_of_le h (Nat.pow_le_pow_right (by decide) (by omega)))
     rw [this]; simp
   rw [this]; rfl
 rw [key, ht]
 constructor
 ·intro h
  have : x % 18446744073709551616 < 256 := by omega
  omega
 ·rintro ⟨h3, h4⟩
  rw [Int.emod_eq_of_lt h3 (by omega)]
  omega
theorem and64_nat {a b : Nat} (ha : a < 256) (hb : b < 256) : and64 (a : Int) (b : Int) = ((a &&& b : Nat) : Int) := by
 have h : a &&& b < 2 ^ 8 := Nat.and_lt_two_pow (n := 8) a hb
 have e1 : ∀ n : Nat, n < 256 → (BitVec.ofInt IntKind.i64.bits (n : Int)).toNat = n := fun n hn => by
  show (BitVec.ofInt 64 (n : Int)).toNat = n
  rw [BitVec.toNat_ofInt]
  omega
 unfold and64 bitAnd
 rw [BitVec.toNat_and, e1 a ha, e1 b hb, wrap_i64] <;> omega
end Go.Sp
namespace Go.Hp
open Go
set_option linter.unusedVariables false

structure Keep (G : Nat → Option (List Value)) (l : Nat → Int) (hs ws : List Int) (n : Nat) : Prop where
 len : hs.length = ws.length
 le : hs.length ≤ n
 live : ∀ (k : Nat) (a w : Int), hs[k]? = some a → ws[k]? = some w → 0 ≤ w → w.toNat < n ∧ G a.toNat = some [.int .i64 w, .int .i64 (l w.toNat)]
 last : ∀ (j k : Nat) (a w : Int), hs[j]? = some a → ws[j]? = some w → 0 ≤ w → hs[k]? = some a → k ≤ j
 all : ∀ (h : Nat) v, G h = some v → ∃ (k : Nat) (w : Int), hs[k]? = some (h : Int) ∧ ws[k]? = some w ∧ 0 ≤ w
 hand : ∀ (k : Nat) (a : Int), hs[k]? = some a → 1 ≤ a
theorem Keep.nil (l : Nat → Int) (n : Nat) : Keep (fun _ => none) l [] [] n :=
 ⟨rfl, Nat.zero_le _, fun k a w h => (by simp at h), fun j k a w h => (by simp at h), fun h v e => (by cases e), fun k a h => (by simp at h)⟩
theorem Keep.mono {G : Nat → Option (List Value)} {l : Nat → Int} {hs ws : List Int} {n m : Nat} (h : Keep G l hs ws n) (hm : n ≤ m) : Keep G l hs ws m :=
 ⟨h.len, Nat.le_trans h.le hm, fun k a w h1 h2 h3 => ⟨by have := (h.live k a w h1 h2 h3).1; omega, (h.live k a w h1 h2 h3).2⟩, h.last, h.all, h.hand⟩
theorem get_snoc {α : Type} {xs : List α} {x y : α} {k : Nat} (h : (xs ++ [x])[k]? = some y) : (xs[k]? = some y ∧ k < xs.length) ∨ (k = xs.length ∧ y = x) := by
 rcases Nat.lt_trichotomy k xs.length with hk | hk | hk
 ·rw [List.getElem?_append_left hk] at h; exact .inl ⟨h, hk⟩
 ·subst hk; simp at h; exact .inr ⟨rfl, h.symm⟩
 ·rw [List.getElem?_eq_none (by simp; omega)] at h; cases h
theorem Keep.put {G G' : Nat → Option (List Value)} {l : Nat → Int} {hs ws : List Int} {n h : Nat} (hK : Keep G l hs ws n) (h1 : 1 ≤ h) (h0 : G h = none)
  (hG : ∀ i, G' i = if i = h then some [.int .i64 (n : Int), .int .i64 (l n)] else G i) : Keep G' l (hs ++ [(h : Int)]) (ws ++ [(n : Int)]) (n + 1) where
 len := by simp [hK.len]
 le := by have := hK.le; simp; omega
 live := fun k a w ha hw h0w => by
  rcases get_snoc ha with ⟨ha, hk⟩ | ⟨rfl, rfl⟩
  ·rcases get_snoc hw with ⟨hw, _⟩ | ⟨hk', rfl⟩
   ·obtain ⟨h2, h3⟩ := hK.live k a w ha hw h0w
    refine ⟨by omega, ?_⟩
    rw [hG, if_neg (fun e => by rw [e, h0] at h3; cases h3)]
    exact h3
   ·have := hK.len; omega
  ·rcases get_snoc hw with ⟨hw, hk⟩ | ⟨_, rfl⟩
   ·have := hK.len; omega
   ·refine ⟨by simp, ?_⟩
    rw [hG]
    simp
 last := fun j k a w ha hw h0w hk => by
  rcases get_snoc ha with ⟨ha, hj⟩ | ⟨rfl, rfl⟩
  ·rcases get_snoc hw with ⟨hw, _⟩ | ⟨hk', rfl⟩
   ·rcases get_snoc hk with ⟨hk, _⟩ | ⟨_, rfl⟩
    ·exact hK.last j k a w ha hw h0w hk
    ·have := (hK.live j _ w ha hw h0w).2
     rw [Int.toNat_natCast, h0] at this
     cases this
   ·have := hK.len; omega
  ·rcases get_snoc hk with ⟨_, hk⟩ | ⟨rfl, _⟩ <;> omega
 all := fun i v hi => by
  rw [hG] at hi
  by_cases e : i = h
  ·subst e
   exact ⟨hs.length, n, by simp, by rw [hK.len]; simp, by omega⟩
  ·rw [if_neg e] at hi
   obtain ⟨k, w, h1, h2, h3⟩ := hK.all i v hi
   have hk := (List.getElem?_eq_some_iff.1 h1).1
   exact ⟨k, w, by rw [List.getElem?_append_left hk]; exact h1, by rw [List.getElem?_append_left (by rw [← hK.len]; exact hk)]; exact h2, h3⟩
 hand := fun k a ha => by
  rcases get_snoc ha with ⟨ha, hk⟩ | ⟨rfl, rfl⟩
  ·exact hK.hand k a ha
  ·omega
theorem Keep.drop {G G' : Nat → Option (List Value)} {l : Nat → Int} {hs ws ws' : List Int} {n h : Nat} (hK : Keep G l hs ws n) (hl : ws'.length = ws.length)
  (hw : ∀ (k : Nat) (a w : Int), hs[k]? = some a → ws[k]? = some w → ws'[k]? = some (if a = (h : Int) then -1 else w))
  (hG : ∀ i, G' i = if i = h then none else G i) : Keep G' l hs ws' n := by
 have back : ∀ (k : Nat) (a w : Int), hs[k]? = some a → ws'[k]? = some w → 0 ≤ w → ws[k]? = some w ∧ a ≠ (h : Int) := fun k a w h1 h2 h3 => by
  have hk := (List.getElem?_eq_some_iff.1 h1).1
  have hk2 : k < ws.length := by rw [← hK.len]; exact hk
  have h4 := hw k a ws[k] h1 (List.getElem?_eq_getElem hk2)
  rw [h4] at h2
  have h5 := Option.some.inj h2
  by_cases e : a = (h : Int)
  ·rw [if_pos e] at h5; omega
  ·rw [if_neg e] at h5
   exact ⟨by rw [List.getElem?_eq_getElem hk2, h5], e⟩
 exact {
  len := by rw [hl]; exact hK.len
  le := hK.le
  live := fun k a w h1 h2 h3 => by
   obtain ⟨h4, h5⟩ := back k a w h1 h2 h3
   obtain ⟨h6, h7⟩ := hK.live k a w h1 h4 h3
   have := hK.hand k a h1
   refine ⟨h6, ?_⟩
   rw [hG, if_neg (by omega)]
   exact h7
  last := fun j k a w h1 h2 h3 h4 => hK.last j k a w h1 (back j a w h1 h2 h3).1 h3 h4
  all := fun i v hi => by
   rw [hG] at hi
   by_cases e : i = h
   ·rw [if_pos e] at hi; cases hi
   ·rw [if_neg e] at hi
    obtain ⟨k, w, h1, h2, h3⟩ := hK.all i v hi
    refine ⟨k, w, h1, ?_, h3⟩
    rw [hw k i w h1 h2, if_neg (by omega)]
  hand := hK.hand }
theorem Ar.many_handles (A : Ar) : A.many = A.handles.length := by
 have e : A.vals = (List.range A.vals.length).map A.get := by
  apply List.ext_getElem?
  intro i
  rcases Nat.lt_or_ge i A.vals.length with h' | h'
  ·rw [Ar.get_eq h']; simp [h']
  ·rw [List.getElem?_eq_none h', List.getElem?_eq_none (by simpa using h')]
 unfold Ar.many Ar.handles
 conv => lhs; rw [e]
 rw [List.filter_map, List.length_map]
 rfl
def liveN (ws : List Int) (i : Nat) : Nat := ((List.range i).filter fun k => decide (0 ≤ ws.getD k (-1))).length
theorem liveN_succ (ws : List Int) (i : Nat) : liveN ws (i + 1) = liveN ws i + if 0 ≤ ws.getD i (-1) then 1 else 0 := by
 unfold liveN
 rw [List.range_succ, List.filter_append, List.length_append]
 congr 1
 by_cases h : 0 ≤ ws.getD i (-1)
 ·rw [if_pos h]; simp only [List.filter_cons, h, decide_true, if_true, List.filter_nil, List.length_singleton]
 ·rw [if_neg h]; simp only [List.filter_cons, h, decide_false, Bool.false_eq_true, if_false, List.filter_nil, List.length_nil]
theorem liveN_le (ws : List Int) (i : Nat) : liveN ws i ≤ i := by
 unfold liveN
 exact Nat.le_trans (List.length_filter_le _ _) (by simp)
theorem Keep.count {A : Ar} {l : Nat → Int} {hs ws : List Int} {n : Nat} (hK : Keep A.get l hs ws n) : liveN ws hs.length = A.many := by
 rw [Ar.many_handles]
 unfold liveN
 have hp : (((List.range hs.length).filter fun k => decide (0 ≤ ws.getD k (-1))).map fun k => (hs.getD k 0).toNat).Perm A.handles := by
  rw [List.perm_ext_iff_of_nodup]
  ·intro h
   simp only [List.mem_map, List.mem_filter, List.mem_range, decide_eq_true_eq, Ar.handles]
   constructor
   ·rintro ⟨k, ⟨hk, hw⟩, rfl⟩
    have hk2 : k < ws.length := by rw [← hK.len]; exact hk
    have ha : hs[k]? = some (hs.getD k 0) := by rw [List.getD_eq_getElem?_getD, List.getElem?_eq_getElem hk]; rfl
    have hw' : ws[k]? = some (ws.getD k (-1)) := by rw [List.getD_eq_getElem?_getD, List.getElem?_eq_getElem hk2]; rfl
    have := (hK.live k _ _ ha hw' hw).2
    exact ⟨Ar.get_some_lt this, by rw [this]; rfl⟩
   ·rintro ⟨h1, h2⟩
    obtain ⟨v, hv⟩ := Option.isSome_iff_exists.1 h2
    obtain ⟨k, w, h3, h4, h5⟩ := hK.all h v hv
    refine ⟨k, ⟨(List.getElem?_eq_some_iff.1 h3).1, ?_⟩, ?_⟩
    ·rw [List.getD_eq_getElem?_getD, h4]; exact h5
    ·rw [List.getD_eq_getElem?_getD, h3]; simp
  ·rw [List.nodup_iff_pairwise_ne, List.pairwise_map]
   refine ((List.nodup_iff_pairwise_ne.1 (List.nodup_range.filter _)).imp_of_mem ?_)
   intro j k hj hk hne he
   simp only [List.mem_filter, List.mem_range, decide_eq_true_eq] at hj hk
   have f : ∀ k, k < hs.length → hs[k]? = some (hs.getD k 0) ∧ ws[k]? = some (ws.getD k (-1)) := fun k hk => by
    have hk2 : k < ws.length := by rw [← hK.len]; exact hk
    exact ⟨by rw [List.getD_eq_getElem?_getD, List.getElem?_eq_getElem hk]; rfl, by rw [List.getD_eq_getElem?_getD, List.getElem?_eq_getElem hk2]; rfl⟩
   have e : hs.getD j 0 = hs.getD k 0 := by
    have := hK.hand j _ (f j hj.1).1
    have := hK.hand k _ (f k hk.1).1
    omega
   have a1 := hK.last j k _ _ (f j hj.1).1 (f j hj.1).2 hj.2 (by rw [e]; exact (f k hk.1).1)
   have a2 := hK.last k j _ _ (f k hk.1).1 (f k hk.1).2 hk.2 (by rw [← e]; exact (f j hj.1).1)
   omega
  ·exact List.nodup_range.filter _
 rw [← hp.length_eq, List.length_map]
theorem Ar.get_putOld {A : Ar} {k h : Nat} {fs : List Nat} {v : List Value} (ok : A.Ok k) (hf : A.free = h :: fs) (i : Nat) : (A.putOld h v).get i = if i = h then some v else A.get i :=
 Ar.get_set ((ok.mem h).1 (by rw [hf]; exact .head _)).2.1
theorem Ar.get_drop {A : Ar} {h : Nat} {u : List Value} (hg : A.get h = some u) (i : Nat) : (A.drop h).get i = if i = h then none else A.get i :=
 Ar.get_set (Ar.get_some_lt hg)
end Go.Hp
namespace Go.Sp
open Go Go.Hp
set_option linter.unusedVariables false
theorem TrAt.links {N : Nodes} {it : Nat → Item} {i : Nat} : ∀ {t : Tr} {up : Nat}, TrAt N it up t → i ∈ t.list →
  ((N i).up = up ∨ (N i).up ∈ t.list) ∧ ((N i).l = 0 ∨ (N i).l ∈ t.list) ∧ ((N i).r = 0 ∨ (N i).r ∈ t.list)
 | .nil, _, _, h => by simp [Tr.list] at h
 | .node l h r, up, ⟨a, b, c, d⟩, hi => by
  simp only [Tr.list, List.mem_append, List.mem_cons] at hi ⊢
  rcases hi with hi | rfl | hi
  ·obtain ⟨h1, h2, h3⟩ := c.links hi
   refine ⟨.inr ?_, ?_, ?_⟩
   ·rcases h1 with h1 | h1
    ·exact .inr (.inl h1)
    ·exact .inl h1
   ·rcases h2 with h2 | h2
    ·exact .inl h2
    ·exact .inr (.inl h2)
   ·rcases h3 with h3 | h3
    ·exact .inl h3
    ·exact .inr (.inl h3)
  ·rw [b]
   refine ⟨.inl rfl, ?_, ?_⟩
   ·by_cases e : l.root = 0
    ·exact .inl e
    ·exact .inr (.inl (Tr.root_mem e))
   ·by_cases e : r.root = 0
    ·exact .inl e
    ·exact .inr (.inr (.inr (Tr.root_mem e)))
  ·obtain ⟨h1, h2, h3⟩ := d.links hi
   refine ⟨.inr ?_, ?_, ?_⟩
   ·rcases h1 with h1 | h1
    ·exact .inr (.inl h1)
    ·exact .inr (.inr h1)
   ·rcases h2 with h2 | h2
    ·exact .inl h2
    ·exact .inr (.inr (.inr h2))
   ·rcases h3 with h3 | h3
    ·exact .inl h3
    ·exact .inr (.inr (.inr h3))
end Go.Sp
namespace Go.Proofs.Ytnlafhnbakipmaa
open Go Go.Hp Go.Sp
set_option linter.all false
set_option maxRecDepth 100000
set_option maxHeartbeats 1600000

section
variable {H H' : Heap} {f p g : Nat} {A : Ar} {nb : Nat → Nat} {N : Nodes} {S : Fo} {xs : List Nat} {k : Nat} {R : List (List Nat)}
theorem FAt.made {H1 : Heap} {b g' h : Nat} {A' : Ar} {r : Rec} (hF : FAt H1 f p g A nb N) (hb : Blk H1 b r.cells) (hbn : ∀ i, U A i → nb i ≠ b) (hb3 : b ≠ f ∧ b ≠ p ∧ b ≠ g) (hr : r.up = 0 ∧ r.l = 0 ∧ r.r = 0)
  (hA' : ArAt H' p g' 1 [.pointer none] A') (hn : A.get h = none) (hg : ∀ i, A'.get i = if i = h then some [.pointer (some ⟨b, 0, none⟩)] else A.get i) (hf : Fr (fun y => y = g ∨ y = p) H1 H') (hgg : g' = g ∨ H1.size ≤ g') :
  FAt H' f p g' A' (fun i => if i = h then b else nb i) (upd N h r) := by
 have hU : ∀ i, U A' i ↔ i = h ∨ U A i := fun i => by
  unfold U
  rw [hg]
  by_cases e : i = h
  ·simp [e]
  ·simp [e]
 have hnh : ∀ i, U A i → i ≠ h := fun i hi e => by subst e; unfold U at hi; rw [hn] at hi; cases hi
 have hlt : ∀ b', b' < H1.size → b' ≠ g → b' ≠ g' := fun b' h1 h2 => by
  rcases hgg with e | e
  ·rw [e]; exact h2
  ·omega
 refine ⟨hF.ff.frame hf (by have := hF.fp; omega), hA', fun i v hv => ?_, fun i hi => ?_, fun i j hi hj e => ?_, fun i hi => ?_, ⟨hF.fp.1, hlt _ hF.ff.lt hF.fp.2⟩, ?_⟩
 ·rw [hg] at hv
  by_cases e : i = h
  ·rw [if_pos e] at hv; rw [if_pos e]; exact (Option.some.inj hv).symm
  ·rw [if_neg e] at hv; rw [if_neg e]; exact hF.use i v hv
 ·rcases (hU i).1 hi with rfl | hi
  ·simp only [if_true, upd_same]
   exact hb.frame hf (by omega)
  ·have hne := hnh i hi
   simp only [hne, if_false]
   rw [upd_ne _ _ hne]
   have := hF.dis i hi
   exact (hF.nd i hi).frame hf (by omega)
 ·rcases (hU i).1 hi with e1 | hi <;> rcases (hU j).1 hj with e2 | hj
  ·rw [e1, e2]
  ·rw [if_pos e1, if_neg (hnh j hj)] at e
   exact absurd e.symm (hbn j hj)
  ·rw [if_pos e2, if_neg (hnh i hi)] at e
   exact absurd e (hbn i hi)
  ·rw [if_neg (hnh i hi), if_neg (hnh j hj)] at e
   exact hF.inj i j hi hj e
 ·rcases (hU i).1 hi with rfl | hi
  ·simp only [if_true]
   exact ⟨hb3.1, hb3.2.1, hlt _ hb.lt hb3.2.2⟩
  ·have hne := hnh i hi
   simp only [hne, if_false]
   have := hF.dis i hi
   exact ⟨this.1, this.2.1, hlt _ (hF.nd i hi).lt this.2.2⟩
 ·have lift : ∀ x, x = 0 ∨ U A x → x = 0 ∨ U A' x := fun x hx => hx.imp id fun h => (hU x).2 (.inr h)
  refine ⟨fun i hi => ?_, fun i hi => ?_, fun i hi => ?_⟩
  all_goals
   rcases (hU i).1 hi with rfl | hi
   ·rw [upd_same]; simp [hr]
   ·rw [upd_ne _ _ (hnh i hi)]
    first | exact lift _ (hF.cl.up i hi) | exact lift _ (hF.cl.l i hi) | exact lift _ (hF.cl.r i hi)
theorem FoAt.made {H1 : Heap} {b g' h : Nat} {A' : Ar} {x : Sp.Item} (hF : FoAt H1 f p g A nb N S) (hx : May x) (hh : 1 ≤ h) (hb : Blk H1 b (Rec.mk x 0 0 0 1 (ownA x)).cells) (hbn : ∀ i, U A i → nb i ≠ b) (hb3 : b ≠ f ∧ b ≠ p ∧ b ≠ g)
  (hA' : ArAt H' p g' 1 [.pointer none] A') (hn : A.get h = none) (hg : ∀ i, A'.get i = if i = h then some [.pointer (some ⟨b, 0, none⟩)] else A.get i) (hf : Fr (fun y => y = g ∨ y = p) H1 H') (hgg : g' = g ∨ H1.size ≤ g') :
  FoAt H' f p g' A' (fun i => if i = h then b else nb i) (upd N h (Rec.mk x 0 0 0 1 (ownA x))) ⟨fun i => if i = h then x else S.it i, [h] :: S.rows⟩ := by
 have hU : ∀ i, U A' i ↔ i = h ∨ U A i := fun i => by
  unfold U
  rw [hg]
  by_cases e : i = h
  ·simp [e]
  ·simp [e]
 have hhU : ¬ U A h := fun hi => by unfold U at hi; rw [hn] at hi; cases hi
 have hhr : h ∉ S.rows.flatten := fun hi => hhU ((hF.use h).1 hi)
 refine ⟨hF.mem.made hb hbn hb3 ⟨rfl, rfl, rfl⟩ hA' hn hg hf hgg, fun ys hy => ?_, ?_, fun i => ?_, fun i hi => ?_⟩
 ·rcases List.mem_cons.1 hy with rfl | hy
  ·refine ⟨.node .nil h .nil, ⟨by omega, ?_, trivial, trivial⟩, rfl⟩
   rw [upd_same]
   unfold recOf aggOf
   simp [Tr.list, Tr.root, ownA_aggL hx]
  ·obtain ⟨t, h1, h2⟩ := hF.trees ys hy
   have hni : ∀ i ∈ t.list, i ≠ h := fun i hi e => hhr (List.mem_flatten.2 ⟨ys, hy, by rw [← h2, ← e]; exact hi⟩)
   exact ⟨t, (h1.congr fun i hi => upd_ne _ _ (hni i hi)).items fun i hi => if_neg (hni i hi), h2⟩
 ·rw [List.flatten_cons, List.singleton_append, List.nodup_cons]
  exact ⟨hhr, hF.nodup⟩
 ·rw [hU, ← hF.use i]; simp
 ·rcases (hU i).1 hi with rfl | hi
  ·simp only [if_true]; exact hx
  ·have : i ≠ h := fun e => hhU (e ▸ hi)
   simp only [this, if_false]
   exact hF.may i hi
theorem FoAt.freed {h : Nat} (hF : FoAt H f p g A nb N S) (hr : S.rows.Perm ([h] :: R)) (hA' : ArAt H' p g 1 [.pointer none] (A.drop h)) (hf : Fr (fun y => y = g ∨ y = p) H H') : FoAt H' f p g (A.drop h) nb N ⟨S.it, R⟩ := by
 have hx : [h] ∈ S.rows := hr.mem_iff.2 (.head _)
 have hUh := hF.u hx (.head _)
 obtain ⟨v, hv⟩ := Option.isSome_iff_exists.1 hUh
 have hgd := Ar.get_drop hv
 have hU : ∀ i, U (A.drop h) i ↔ i ≠ h ∧ U A i := fun i => by
  unfold U
  rw [hgd]
  by_cases e : i = h
  ·simp [e]
  ·simp [e]
 have hn2 : ([h] :: R).flatten.Nodup := (hr.flatten.nodup_iff).1 hF.nodup
 rw [List.flatten_cons, List.singleton_append, List.nodup_cons] at hn2
 have huse : ∀ i, i ∈ R.flatten ↔ U (A.drop h) i := fun i => by
  rw [hU, ← hF.use i, hr.flatten.mem_iff, List.flatten_cons, List.singleton_append, List.mem_cons]
  constructor
  ·intro hi
   exact ⟨fun e => hn2.1 (e ▸ hi), .inr hi⟩
  ·rintro ⟨h1, h2 | h2⟩
   ·exact absurd h2 h1
   ·exact h2
 have links : ∀ i, U (A.drop h) i → ((N i).up = 0 ∨ U (A.drop h) (N i).up) ∧ ((N i).l = 0 ∨ U (A.drop h) (N i).l) ∧ ((N i).r = 0 ∨ U (A.drop h) (N i).r) := fun i hi => by
  obtain ⟨ys, hy, hiy⟩ := List.mem_flatten.1 ((huse i).2 hi)
  obtain ⟨t, h1, h2⟩ := hF.trees ys (hr.mem_iff.2 (.tail _ hy))
  have hl := h1.links (i := i) (by rw [h2]; exact hiy)
  have lift : ∀ x, x ∈ t.list → U (A.drop h) x := fun x hx => (huse x).1 (List.mem_flatten.2 ⟨ys, hy, by rw [← h2]; exact hx⟩)
  exact ⟨hl.1.imp id (lift _), hl.2.1.imp id (lift _), hl.2.2.imp id (lift _)⟩
 refine ⟨⟨hF.mem.ff.frame hf (by have := hF.mem.fp; omega), hA', fun i v hv => ?_, fun i hi => ?_, fun i j hi hj e => hF.mem.inj i j ((hU i).1 hi).2 ((hU j).1 hj).2 e, fun i hi => hF.mem.dis i ((hU i).1 hi).2, hF.mem.fp, ⟨fun i hi => (links i hi).1, fun i hi => (links i hi).2.1, fun i hi => (links i hi).2.2⟩⟩,
  fun ys hy => hF.trees ys (hr.mem_iff.2 (.tail _ hy)), hn2.2, huse, fun i hi => hF.may i ((hU i).1 hi).2⟩
 ·rw [hgd] at hv
  by_cases e : i = h
  ·rw [if_pos e] at hv; cases hv
  ·rw [if_neg e] at hv; exact hF.mem.use i v hv
 ·have := hF.mem.dis i ((hU i).1 hi).2
  exact (hF.mem.nd i ((hU i).1 hi).2).frame hf (by omega)
theorem FAt.item (hF : FAt H f p g A nb N) {x : Sp.Item} (hk : U A k) :
  (∀ j, j < 3 → okW H ⟨nb k, j, none⟩) ∧ FAt (hset (hset (hset H ⟨nb k, 0, none⟩ (.int .i64 x.value)) ⟨nb k, 1, none⟩ (.bool x.counts)) ⟨nb k, 2, none⟩ (.int .i64 x.flags)) f p g A nb (upd N k { N k with item := x }) ∧
   Fr (NB A nb) H (hset (hset (hset H ⟨nb k, 0, none⟩ (.int .i64 x.value)) ⟨nb k, 1, none⟩ (.bool x.counts)) ⟨nb k, 2, none⟩ (.int .i64 x.flags)) := by
 have hn := hF.nd k hk
 have hfr : Fr (· = nb k) H (hset (hset (hset H ⟨nb k, 0, none⟩ (.int .i64 x.value)) ⟨nb k, 1, none⟩ (.bool x.counts)) ⟨nb k, 2, none⟩ (.int .i64 x.flags)) := by
  have step : ∀ {H' : Heap} (o : Nat) (v : Value), Fr (· = nb k) H H' → Fr (· = nb k) H (hset H' ⟨nb k, o, none⟩ v) := fun o v h => Fr.set (S := (· = nb k)) (a := ⟨nb k, o, none⟩) h (.inl rfl) v
  exact step 2 _ (step 1 _ (step 0 _ (Fr.refl _ _)))
 refine ⟨fun j hj => hn.okW (by simp [Rec.cells]; omega), hF.set hk hfr ?_ ?_, NB.of hk hfr⟩
 ·exact ((hn.set_same 0 (.int .i64 x.value)).set_same 1 (.bool x.counts)).set_same 2 (.int .i64 x.flags)
 ·exact hF.cl.upd (hF.cl.up k hk) (hF.cl.l k hk) (hF.cl.r k hk)
end
end Go.Proofs.Ytnlafhnbakipmaa
namespace Go.Sp
open Go Go.Hp
set_option linter.unusedVariables false
structure Sq where
 room : Nat
 top : Nat
 free : List Nat
 it : Nat → Item
 rows : List (List Nat)
def Sq.Has (S : Sq) (i : Int) : Prop := ∃ k : Nat, i = (k : Int) ∧ k ∈ S.rows.flatten
def Sq.next (S : Sq) : Nat := S.free.headD S.top
def Sq.made (S : Sq) (x : Item) : Sq := { S with top := if S.free = [] then S.top + 1 else S.top, free := S.free.tail, it := fun i => if i = S.next then x else S.it i, rows := [S.next] :: S.rows }
def Sq.freed (S : Sq) (h : Nat) (R : List (List Nat)) : Sq := { S with free := h :: S.free, rows := R }
end Go.Sp
namespace Go.Proofs.Ytnlafhnbakipmaa
open Go Go.Hp Go.Sp
set_option linter.all false
set_option maxRecDepth 100000
set_option maxHeartbeats 1600000

def FoM (H : Heap) (f : Nat) (T : Nat → Prop) (S : Sq) : Prop :=
 ∃ p g A nb N, FoAt H f p g A nb N ⟨S.it, S.rows⟩ ∧ A.room = S.room ∧ A.vals.length = S.top ∧ A.free = S.free ∧ (∀ b, Foot f p g A nb b → T b) ∧ (∀ b, T b → b < H.size)
section
variable {H H' : Heap} {f : Nat} {T : Nat → Prop} {S : Sq}
theorem FoM.lt (h : FoM H f T S) {b : Nat} (hb : T b) : b < H.size := by
 obtain ⟨p, g, A, nb, N, _, _, _, _, _, h6⟩ := h
 exact h6 b hb
theorem FoM.frame {T0 : Nat → Prop} (h : FoM H f T S) (hf : Fr T0 H H') (hT : ∀ b, T b → ¬ T0 b) : FoM H' f T S := by
 obtain ⟨p, g, A, nb, N, h1, h2, h3, h4, h5, h6⟩ := h
 exact ⟨p, g, A, nb, N, h1.frame hf fun b hb => hT b (h5 b hb), h2, h3, h4, h5, fun b hb => Nat.lt_of_lt_of_le (h6 b hb) hf.size⟩
theorem FoM.grow (h : FoM H f T S) (hf : Fr (fun _ => False) H H') : FoM H' f T S := h.frame hf fun _ _ h => h
theorem FoM.perm (h : FoM H f T S) {R : List (List Nat)} (hr : S.rows.Perm R) : FoM H f T { S with rows := R } := by
 obtain ⟨p, g, A, nb, N, h1, h2, h3, h4, h5, h6⟩ := h
 exact ⟨p, g, A, nb, N, h1.perm hr, h2, h3, h4, h5, h6⟩
theorem FoM.nodup (h : FoM H f T S) : S.rows.flatten.Nodup := by
 obtain ⟨p, g, A, nb, N, h1, _⟩ := h
 exact h1.nodup
theorem FoM.may (h : FoM H f T S) {k : Nat} (hk : k ∈ S.rows.flatten) : May (S.it k) := by
 obtain ⟨p, g, A, nb, N, h1, _⟩ := h
 exact h1.may k ((h1.use k).1 hk)
theorem FoM.pos (h : FoM H f T S) {k : Nat} (hk : k ∈ S.rows.flatten) : 1 ≤ k := by
 obtain ⟨p, g, A, nb, N, h1, _⟩ := h
 exact h1.mem.pos ((h1.use k).1 hk)
theorem FoM.len (h : FoM H f T S) : S.rows.flatten.length ≤ 4096 := by
 obtain ⟨p, g, A, nb, N, h1, _⟩ := h
 exact h1.len
theorem FoAt.many {p g : Nat} {A : Ar} {nb : Nat → Nat} {N : Nodes} {S : Fo} (h : FoAt H f p g A nb N S) : S.rows.flatten.length = A.many := by
 have hp : S.rows.flatten.Perm A.handles := by
  unfold Ar.handles
  rw [List.perm_ext_iff_of_nodup h.nodup (List.nodup_range.filter _)]
  intro i
  rw [h.use i]
  simp only [List.mem_filter, List.mem_range]
  refine ⟨fun hu => ?_, fun hu => hu.2⟩
  obtain ⟨v, hv⟩ := Option.isSome_iff_exists.1 hu
  exact ⟨Ar.get_some_lt hv, hu⟩
 have hm : A.many = A.handles.length := by
  have e : A.vals = (List.range A.vals.length).map A.get := by
   apply List.ext_getElem?
   intro i
   rcases Nat.lt_or_ge i A.vals.length with h' | h'
   ·rw [Ar.get_eq h']; simp [h']
   ·rw [List.getElem?_eq_none h', List.getElem?_eq_none (by simpa using h')]
  unfold Ar.many Ar.handles
  conv => lhs; rw [e]
  rw [List.filter_map, List.length_map]
  rfl
 rw [hp.length_eq, ← hm]
theorem FoM.room (h : FoM H f T S) : S.rows.flatten.length ≤ S.room ∧ S.room ≤ 4096 ∧ S.rows.flatten.length + S.free.length + 1 = S.top := by
 obtain ⟨p, g, A, nb, N, h1, h2, h3, h4, _⟩ := h
 have hm := h1.many
 have h5 := h1.mem.ar.ok.most
 have h6 := h1.mem.ar.ok.room
 have h7 := Ar.count_free A h1.mem.ar.ok
 simp only [] at hm
 rw [hm, ← h2, ← h3, ← h4]
 exact ⟨h5, h6, h7⟩
theorem FoM.free_mem (h : FoM H f T S) (i : Nat) : i ∈ S.free ↔ 1 ≤ i ∧ i < S.top ∧ i ∉ S.rows.flatten := by
 obtain ⟨p, g, A, nb, N, h1, h2, h3, h4, _⟩ := h
 rw [← h4, ← h3, h1.mem.ar.ok.mem i]
 have := h1.use i
 simp only [] at this
 rw [this]
 unfold U
 simp
theorem FoM.lt_top (h : FoM H f T S) {k : Nat} (hk : k ∈ S.rows.flatten) : k < S.top := by
 obtain ⟨p, g, A, nb, N, h1, h2, h3, h4, _⟩ := h
 have := (h1.use k).1 hk
 obtain ⟨v, hv⟩ := Option.isSome_iff_exists.1 this
 rw [← h3]
 exact Ar.get_some_lt hv
theorem FoAt.none {p g : Nat} {A : Ar} {nb : Nat → Nat} {N : Nodes} {S : Fo} {i : Int} (h : FoAt H f p g A nb N S) (hi : ¬ ∃ k : Nat, i = (k : Int) ∧ k ∈ S.rows.flatten) : i < 1 ∨ A.get i.toNat = none := by
 rcases Int.lt_or_le i 1 with h1 | h1
 ·exact .inl h1
 ·refine .inr ?_
  obtain ⟨k, rfl⟩ := Int.eq_ofNat_of_zero_le (show 0 ≤ i by omega)
  cases hg : A.get k with
  | none => simpa using hg
  | some v => exact absurd ⟨k, rfl, (h.use k).2 (by unfold U; rw [hg]; rfl)⟩ hi
end
end Go.Proofs.Ytnlafhnbakipmaa
namespace Go.To
open Go Go.Hp Go.Sp
set_option linter.unusedVariables false
structure Tq where
 n : Nat
 row : Nat → List St
 val : Nat → Int
 on : Nat → Bool
 em : Nat → Nat → Bool
structure Tq.Ok (Q : Tq) : Prop where
 n1 : 1 ≤ Q.n
 n64 : Q.n ≤ 64
 self : ∀ v, v < Q.n → (v, v) ∈ Q.row v
 tour : ∀ v, v < Q.n → Tour (Q.row v)
 nd : ∀ v, v < Q.n → (Q.row v).Nodup
 same : ∀ v, v < Q.n → ∀ u, (u, u) ∈ Q.row v → u < Q.n ∧ Q.row u = Q.row v
 val : ∀ v, v < Q.n → -1099511627776 ≤ Q.val v ∧ Q.val v ≤ 1099511627776
 sym : ∀ a b, Q.em a b = Q.em b a
 em : ∀ u v, Q.em u v = true → u < Q.n ∧ u ≠ v ∧ (u, v) ∈ Q.row u
def Tq.lay (Q : Tq) (l : List St) : Tq := { Q with row := fun w => if (w, w) ∈ l then l else Q.row w }
def Tq.new (n : Nat) : Tq := ⟨n, fun v => [(v, v)], fun _ => 0, fun _ => false, fun _ _ => false⟩
theorem Tq.Ok.new {n : Nat} (h1 : 1 ≤ n) (h2 : n ≤ 64) : (Tq.new n).Ok where
 n1 := h1
 n64 := h2
 self v _ := .head _
 tour v _ := ⟨v, .stop .nil⟩
 nd v _ := by simp [Tq.new]
 same v hv u hu := by
  simp only [Tq.new, List.mem_singleton, Prod.mk.injEq] at hu
  rw [hu.1]; exact ⟨hv, rfl⟩
 val v _ := by simp only [Tq.new]; omega
 sym _ _ := rfl
 em _ _ h := by cases h
section
variable {Q : Tq}
theorem Tq.Ok.of_mem (h : Q.Ok) {w : Nat} (hw : w < Q.n) {u v : Nat} (hm : (u, v) ∈ Q.row w) : u < Q.n ∧ v < Q.n ∧ Q.row u = Q.row w ∧ Q.row v = Q.row w := by
 obtain ⟨h1, h2⟩ := (h.tour w hw).ends hm
 obtain ⟨a, b⟩ := h.same w hw u h1
 obtain ⟨c, d⟩ := h.same w hw v h2
 exact ⟨a, c, b, d⟩
theorem Tq.Ok.row_eq (h : Q.Ok) {v w : Nat} (hv : v < Q.n) (hw : w < Q.n) {x : St} (h1 : x ∈ Q.row v) (h2 : x ∈ Q.row w) : Q.row v = Q.row w := by
 obtain ⟨a, b⟩ := x
 obtain ⟨_, _, e1, _⟩ := h.of_mem hv h1
 obtain ⟨_, _, e2, _⟩ := h.of_mem hw h2
 rw [← e1, e2]
theorem Tq.Ok.relay (h : Q.Ok) {Q' : Tq} (O N : List (List St)) (hn : Q'.n = Q.n) (hv : Q'.val = Q.val) (hO : ∀ l ∈ O, ∃ v, v < Q.n ∧ l = Q.row v)
  (hN : ∀ l ∈ N, Tour l ∧ l.Nodup) (hd : ∀ w, ((w, w) ∈ N.flatten ↔ (w, w) ∈ O.flatten)) (hap : ∀ l ∈ N, ∀ m ∈ N, ∀ w, (w, w) ∈ l → (w, w) ∈ m → l = m)
  (hrow : ∀ w, w < Q.n → ((∃ l ∈ N, (w, w) ∈ l ∧ Q'.row w = l) ∨ ((w, w) ∉ N.flatten ∧ Q'.row w = Q.row w)))
  (hsym : ∀ a b, Q'.em a b = Q'.em b a) (hem : ∀ u v, Q'.em u v = true → u < Q.n ∧ u ≠ v ∧ (u, v) ∈ Q'.row u) : Q'.Ok where
 n1 := by rw [hn]; exact h.n1
 n64 := by rw [hn]; exact h.n64
 self v hv' := by
  rw [hn] at hv'
  rcases hrow v hv' with ⟨l, h1, h2, h3⟩ | ⟨h1, h2⟩
  ·rw [h3]; exact h2
  ·rw [h2]; exact h.self v hv'
 tour v hv' := by
  rw [hn] at hv'
  rcases hrow v hv' with ⟨l, h1, h2, h3⟩ | ⟨h1, h2⟩
  ·rw [h3]; exact (hN l h1).1
  ·rw [h2]; exact h.tour v hv'
 nd v hv' := by
  rw [hn] at hv'
  rcases hrow v hv' with ⟨l, h1, h2, h3⟩ | ⟨h1, h2⟩
  ·rw [h3]; exact (hN l h1).2
  ·rw [h2]; exact h.nd v hv'
 same v hv' u hu := by
  rw [hn] at hv' ⊢
  rcases hrow v hv' with ⟨l, h1, h2, h3⟩ | ⟨h1, h2⟩
  ·rw [h3] at hu
   have hu' : (u, u) ∈ O.flatten := (hd u).1 (List.mem_flatten.2 ⟨l, h1, hu⟩)
   obtain ⟨m, hm1, hm2⟩ := List.mem_flatten.1 hu'
   obtain ⟨x, hx, rfl⟩ := hO m hm1
   have hun := (h.same x hx u hm2).1
   refine ⟨hun, ?_⟩
   rcases hrow u hun with ⟨l', g1, g2, g3⟩ | ⟨g1, g2⟩
   ·rw [g3, h3, hap l' g1 l h1 u g2 hu]
   ·exact absurd (List.mem_flatten.2 ⟨l, h1, hu⟩) g1
  ·rw [h2] at hu
   obtain ⟨hun, e⟩ := h.same v hv' u hu
   refine ⟨hun, ?_⟩
   rcases hrow u hun with ⟨l', g1, g2, g3⟩ | ⟨g1, g2⟩
   ·exfalso
    obtain ⟨m, hm1, hm2⟩ := List.mem_flatten.1 ((hd u).1 (List.mem_flatten.2 ⟨l', g1, g2⟩))
    obtain ⟨x, hx, rfl⟩ := hO m hm1
    have e2 := (h.same x hx u hm2).2
    have : (v, v) ∈ Q.row x := by rw [← e2, e]; exact h.self v hv'
    exact h1 ((hd v).2 (List.mem_flatten.2 ⟨_, hm1, this⟩))
   ·rw [g2, h2, e]
 val v hv' := by rw [hv]; rw [hn] at hv'; exact h.val v hv'
 sym := hsym
 em u v hu := by rw [hn]; exact hem u v hu
end
def hd (st : Int × Int → Option Nat) (x : St) : Nat := if x.1 = x.2 then x.1 + 1 else (st ((x.1 : Int), (x.2 : Int))).getD 0
theorem hd_stop (st : Int × Int → Option Nat) (v : Nat) : hd st (v, v) = v + 1 := if_pos rfl
theorem hd_step {st : Int × Int → Option Nat} {u v h : Nat} (huv : u ≠ v) (hs : st ((u : Int), (v : Int)) = some h) : hd st (u, v) = h := by
 unfold hd
 simp only
 rw [if_neg huv, hs]; rfl
def stopIt (x : Int) (on : Bool) : Sp.Item := ⟨x, true, if on then 1 else 0⟩
def stepIt (on : Bool) : Sp.Item := ⟨0, false, if on then 2 else 0⟩
structure Rel (S : Sq) (Q : Tq) (st : Int × Int → Option Nat) (pr : Int → Option (Int × Int)) : Prop where
 ok : Q.Ok
 room : S.room = 3 * Q.n - 2
 sto : ∀ p h, st p = some h → ∃ u v : Nat, p = ((u : Int), (v : Int)) ∧ u ≠ v ∧ u < Q.n ∧ (u, v) ∈ Q.row u ∧ Q.n < h
 ts : ∀ u v : Nat, u < Q.n → u ≠ v → (u, v) ∈ Q.row u → ∃ h, st ((u : Int), (v : Int)) = some h
 pro : ∀ k p, pr k = some p ↔ ∃ h : Nat, k = (h : Int) ∧ st p = some h
 rows : ∀ xs, xs ∈ S.rows ↔ ∃ v, v < Q.n ∧ xs = (Q.row v).map (hd st)
 itv : ∀ v, v < Q.n → S.it (v + 1) = stopIt (Q.val v) (Q.on v)
 its : ∀ (u v h : Nat), st ((u : Int), (v : Int)) = some h → S.it h = stepIt (Q.em u v)
section
variable {S S' : Sq} {Q Q' : Tq} {st st' : Int × Int → Option Nat} {pr pr' : Int → Option (Int × Int)}
theorem Rel.inj_st (h : Rel S Q st pr) {p q : Int × Int} {k : Nat} (h1 : st p = some k) (h2 : st q = some k) : p = q := by
 have e1 := (h.pro k p).2 ⟨k, rfl, h1⟩
 have e2 := (h.pro k q).2 ⟨k, rfl, h2⟩
 rw [e1] at e2
 exact Option.some.inj e2
theorem Rel.step_of (h : Rel S Q st pr) {w : Nat} (hw : w < Q.n) {u v : Nat} (huv : u ≠ v) (hm : (u, v) ∈ Q.row w) : ∃ k, st ((u : Int), (v : Int)) = some k ∧ hd st (u, v) = k ∧ Q.n < k := by
 obtain ⟨h1, _, h3, _⟩ := h.ok.of_mem hw hm
 obtain ⟨k, hk⟩ := h.ts u v h1 huv (by rw [h3]; exact hm)
 obtain ⟨_, _, _, _, _, _, h4⟩ := h.sto _ _ hk
 exact ⟨k, hk, hd_step huv hk, h4⟩
theorem Rel.hd_stop_iff (h : Rel S Q st pr) {w : Nat} (hw : w < Q.n) {x : St} (hx : x ∈ Q.row w) {v : Nat} (hv : v < Q.n) : hd st x = v + 1 ↔ x = (v, v) := by
 obtain ⟨a, b⟩ := x
 constructor
 ·intro e
  by_cases hab : a = b
  ·subst hab
   rw [hd_stop] at e
   rw [show a = v by omega]
  ·obtain ⟨k, h1, h2, h3⟩ := h.step_of hw hab hx
   omega
 ·rintro ⟨⟩
  exact hd_stop _ _
theorem Rel.hd_inj (h : Rel S Q st pr) {v w : Nat} (hv : v < Q.n) (hw : w < Q.n) {x y : St} (hx : x ∈ Q.row v) (hy : y ∈ Q.row w) (e : hd st x = hd st y) : x = y := by
 obtain ⟨a, b⟩ := x
 obtain ⟨c, d⟩ := y
 by_cases hab : a = b
 ·subst hab
  have ha := (h.ok.of_mem hv hx).1
  rw [hd_stop] at e
  exact ((h.hd_stop_iff hw hy ha).1 e.symm).symm
 ·by_cases hcd : c = d
  ·subst hcd
   have hc := (h.ok.of_mem hw hy).1
   rw [hd_stop] at e
   exact (h.hd_stop_iff hv hx hc).1 e
  ·obtain ⟨k, h1, h2, _⟩ := h.step_of hv hab hx
   obtain ⟨k', h3, h4, _⟩ := h.step_of hw hcd hy
   rw [h2, h4] at e
   subst e
   have := h.inj_st h1 h3
   simp only [Prod.mk.injEq, Int.natCast_inj] at this
   rw [this.1, this.2]
theorem Rel.row_mem (h : Rel S Q st pr) {v : Nat} (hv : v < Q.n) : (Q.row v).map (hd st) ∈ S.rows := (h.rows _).2 ⟨v, hv, rfl⟩
theorem Rel.stop_in (h : Rel S Q st pr) {v : Nat} (hv : v < Q.n) : v + 1 ∈ (Q.row v).map (hd st) := List.mem_map.2 ⟨_, h.ok.self v hv, hd_stop _ _⟩
theorem Rel.stop_flat (h : Rel S Q st pr) {v : Nat} (hv : v < Q.n) : v + 1 ∈ S.rows.flatten := List.mem_flatten.2 ⟨_, h.row_mem hv, h.stop_in hv⟩
theorem Rel.st_flat (h : Rel S Q st pr) {p : Int × Int} {k : Nat} (hk : st p = some k) : k ∈ S.rows.flatten := by
 obtain ⟨u, v, rfl, huv, hu, hm, _⟩ := h.sto p k hk
 exact List.mem_flatten.2 ⟨_, h.row_mem hu, List.mem_map.2 ⟨_, hm, hd_step huv hk⟩⟩
theorem Rel.same_iff (h : Rel S Q st pr) {u v : Nat} (hu : u < Q.n) (hv : v < Q.n) : (Q.row u).map (hd st) = (Q.row v).map (hd st) ↔ (v, v) ∈ Q.row u := by
 constructor
 ·intro e
  have := h.stop_in hv
  rw [← e] at this
  obtain ⟨x, hx, ex⟩ := List.mem_map.1 this
  rw [(h.hd_stop_iff hu hx hv).1 ex] at hx
  exact hx
 ·intro hm
  rw [(h.ok.same u hu v hm).2]
theorem count_le {n : Nat} : ∀ {l : List Nat}, l.Nodup → (∀ x ∈ l, 1 ≤ x) → (l.filter fun x => decide (x ≤ n)).length ≤ n := by
 intro l hn hp
 have h1 : (l.filter fun x => decide (x ≤ n)).Nodup := List.filter_sublist.nodup hn
 have h2 : (l.filter fun x => decide (x ≤ n)) ⊆ List.range' 1 n := by
  intro x hx
  simp only [List.mem_filter, decide_eq_true_iff] at hx
  rw [List.mem_range'_1]
  have := hp x hx.1
  omega
 have := h1.length_le_of_subset h2
 simpa using this
theorem Rel.row_count (h : Rel S Q st pr) {v : Nat} (hv : v < Q.n) : (((Q.row v).map (hd st)).filter fun x => decide (x ≤ Q.n)).length = stops (Q.row v) := by
 rw [List.filter_map, List.length_map]
 unfold stops
 congr 1
 apply List.filter_congr
 rintro ⟨a, b⟩ hx
 simp only [Function.comp_apply]
 by_cases hab : a = b
 ·subst hab
  have := (h.ok.of_mem hv hx).1
  simp [hd_stop]; omega
 ·obtain ⟨k, h1, h2, h3⟩ := h.step_of hv hab hx
  rw [h2]
  have : (a == b) = false := by simp [hab]
  rw [this]
  simp; omega
theorem Rel.count_rows (h : Rel S Q st pr) : ∀ R : List (List Nat), (∀ xs ∈ R, xs ∈ S.rows) → R.flatten.length + 2 * R.length = 3 * (R.flatten.filter fun x => decide (x ≤ Q.n)).length
 | [], _ => rfl
 | xs :: R, hR => by
  obtain ⟨v, hv, rfl⟩ := (h.rows _).1 (hR _ (.head _))
  have ih := h.count_rows R fun ys hy => hR ys (.tail _ hy)
  have hc := (h.ok.tour v hv).count
  simp only [List.flatten_cons, List.length_append, List.length_cons, List.filter_append, h.row_count hv, List.length_map]
  omega
theorem Rel.count (h : Rel S Q st pr) (hn : S.rows.flatten.Nodup) (hp : ∀ k ∈ S.rows.flatten, 1 ≤ k) : S.rows.flatten.length + 2 * S.rows.length ≤ 3 * Q.n := by
 have h1 := h.count_rows S.rows fun xs hx => hx
 have h2 := count_le (n := Q.n) hn hp
 omega
theorem Rel.relay (h : Rel S Q st pr) (hn : Q'.n = Q.n) (O N : List (List St)) (R : List (List Nat)) (hr : S.rows.Perm (O.map (·.map (hd st)) ++ R)) (hr' : S'.rows.Perm (N.map (·.map (hd st')) ++ R)) (hnd : S.rows.flatten.Nodup)
  (hO : ∀ l ∈ O, ∃ v, v < Q.n ∧ l = Q.row v) (hNr : ∀ l ∈ N, ∃ v, v < Q.n ∧ Q'.row v = l) (hdN : ∀ w, w < Q.n → ((w, w) ∈ N.flatten ↔ (w, w) ∈ O.flatten))
  (hrow : ∀ w, w < Q.n → ((∃ l ∈ N, (w, w) ∈ l ∧ Q'.row w = l) ∨ ((w, w) ∉ N.flatten ∧ Q'.row w = Q.row w)))
  (hst : ∀ w, w < Q.n → (w, w) ∉ O.flatten → ∀ x ∈ Q.row w, hd st' x = hd st x) : ∀ xs, xs ∈ S'.rows ↔ ∃ v, v < Q'.n ∧ xs = (Q'.row v).map (hd st') := by
 have hfl : (O.map (·.map (hd st)) ++ R).flatten.Nodup := (hr.flatten.nodup_iff).1 hnd
 rw [List.flatten_append, List.nodup_append] at hfl
 have mc : ∀ w, w < Q.n → (w, w) ∉ O.flatten → (Q.row w).map (hd st') = (Q.row w).map (hd st) := fun w hw hO => List.map_congr_left fun x hx => hst w hw hO x hx
 intro xs
 rw [hr'.mem_iff, List.mem_append, hn]
 constructor
 ·rintro (hx | hx)
  ·obtain ⟨l, hl, rfl⟩ := List.mem_map.1 hx
   obtain ⟨v, hv, e⟩ := hNr l hl
   exact ⟨v, hv, by rw [e]⟩
  ·obtain ⟨v, hv, rfl⟩ := (h.rows xs).1 (hr.mem_iff.2 (List.mem_append_right _ hx))
   have hno : (v, v) ∉ O.flatten := by
    intro hm
    obtain ⟨m, hm1, hm2⟩ := List.mem_flatten.1 hm
    have i1 : v + 1 ∈ (O.map (·.map (hd st))).flatten := List.mem_flatten.2 ⟨_, List.mem_map.2 ⟨m, hm1, rfl⟩, List.mem_map.2 ⟨_, hm2, hd_stop _ _⟩⟩
    have i2 : v + 1 ∈ R.flatten := List.mem_flatten.2 ⟨_, hx, h.stop_in hv⟩
    exact hfl.2.2 _ i1 _ i2 rfl
   refine ⟨v, hv, ?_⟩
   rcases hrow v hv with ⟨l, g1, g2, _⟩ | ⟨_, g2⟩
   ·exact absurd ((hdN v hv).1 (List.mem_flatten.2 ⟨l, g1, g2⟩)) hno
   ·rw [g2, mc v hv hno]
 ·rintro ⟨v, hv, rfl⟩
  rcases hrow v hv with ⟨l, g1, g2, g3⟩ | ⟨g1, g2⟩
  ·exact .inl (List.mem_map.2 ⟨l, g1, by rw [g3]⟩)
  ·have hno : (v, v) ∉ O.flatten := fun hm => g1 ((hdN v hv).2 hm)
   rw [g2, mc v hv hno]
   rcases List.mem_append.1 (hr.mem_iff.1 (h.row_mem hv)) with hx | hx
   ·exfalso
    obtain ⟨m, hm1, hm2⟩ := List.mem_map.1 hx
    obtain ⟨u, hu, rfl⟩ := hO m hm1
    have hm2 : (Q.row u).map (hd st) = (Q.row v).map (hd st) := hm2
    exact hno (List.mem_flatten.2 ⟨_, hm1, (h.same_iff hu hv).1 hm2⟩)
   ·exact .inr hx
end
end Go.To
namespace Go.Proofs.Ytnlafhnbakipmaa
open Go Go.Hp Go.Sp
set_option linter.all false
set_option maxRecDepth 100000
set_option maxHeartbeats 1600000

def mayB (x : Sp.Item) : Bool := decide (-1099511627776 ≤ x.value ∧ x.value ≤ 1099511627776 ∧ 0 ≤ x.flags ∧ x.flags < 256)
theorem mayB_iff {x : Sp.Item} : mayB x = true ↔ May x := by
 unfold mayB
 rw [decide_eq_true_iff]
 exact ⟨fun ⟨a, b, c, d⟩ => ⟨a, b, c, d⟩, fun h => ⟨h.lo, h.hi, h.f0, h.f1⟩⟩
def Fits (x : Sp.Item) : Prop := (-9223372036854775808 ≤ x.value ∧ x.value ≤ 9223372036854775807) ∧ -9223372036854775808 ≤ x.flags ∧ x.flags ≤ 9223372036854775807
theorem may_ok {H : Heap} {x : Sp.Item} {K : Value → Heap → Prop} (hx : Fits x) (fin : ∀ H', Fr (fun _ => False) H H' → K (.bool (mayB x)) H') : CallsH Try.prog 64 #[x.val] H K := by
 have hb : mayB x = (decide (-1099511627776 ≤ x.value) && decide (x.value ≤ 1099511627776) && decide (andNot64 x.flags 255 = 0)) := by
  unfold mayB
  rw [Bool.eq_iff_iff]
  simp only [decide_eq_true_iff, Bool.and_eq_true, andNot_zero hx.2.1 hx.2.2]
  omega
 rw [hb] at fin
 have ea : bitAndNot .i64 x.flags 255 = andNot64 x.flags 255 := rfl
 refine call64 (by simp) ?_
 simp only [Try.f64, Option.getD_some]
 by_cases h1 : -1099511627776 ≤ x.value
 ·have t1 : (-1099511627776 ≤ x.value) = True := by simp [h1]
  by_cases h2 : x.value ≤ 1099511627776
  ·have t2 : (x.value ≤ 1099511627776) = True := by simp [h2]
   simp only [t1, t2, decide_true, Bool.true_and] at fin
   repeat' (first|(with_reducible first|refine jA ?_|(refine hK _ _ ?_;clear hK K)|refine jJ fun K hK=>?_|refine jK ?_|refine jL ?_|refine jM ?_|refine jN ?_|refine jO ?_|refine jP ?_|refine jQ ?_|(refine jB ?_;clear hK K)|(refine jC ?_;clear hK K)|refine jD ?_|refine jE ?_|refine jG ?_|refine jH ?_|refine jI ?_)|((with_reducible refine jR ?hq ?_);case hq=>rfl)|((first|(with_reducible first|refine jS fun K hK=>?_|refine jT ?_|refine jU ?_)|((with_reducible refine jV ?hy fun K hK=>?_);case hy=>rfl));simp only [go_sem, Nat.reduceEqDiff, Nat.reduceAdd, Nat.reduceMul, Nat.reduceLeDiff, Nat.reduceLT, Int.reduceLT, Int.reduceLE, Int.reduceEq, Int.reduceNeg, Int.reduceToNat, Nat.reducePow, reduceIte, reduceCtorEq, Sp.Item.val, t1, t2, ea, hcell_push, hcell_top, okW_push, okW_top, hcell_hset_ne, hcell_hset_off, hcell_hset_eq, okW_hset, hset_size, Array.size_push, Nat.lt_add_one, ne_add_one, add_one_ne, Nat.add_assoc, add_same, add_lt_same, Nat.reduceEqDiff, lt_add_k, add_k_ne, ne_add_k])|((with_reducible first|refine jW ?hy ?_|refine jY ?hy ?_);case hy=>rfl)|((with_reducible first|refine jX ?hy ?_|refine jZ ?hy ?_);case hy=>rfl)|((with_reducible refine jF ?hy ?_);case hy=>decide))
   have e3 : (andNot64 x.flags 255 == 0) = decide (andNot64 x.flags 255 = 0) := by
    rw [Bool.eq_iff_iff]; simp
   rw [← e3] at fin
   exact fin _ (by ((repeat (first | refine Fr.set ?_ (by simp) _ | refine Fr.push ?_ _)); exact Fr.refl _ _))
  ·have t2 : (x.value ≤ 1099511627776) = False := by simp; omega
   simp only [t1, t2, decide_true, decide_false, Bool.and_false, Bool.false_and] at fin
   repeat' (first|(with_reducible first|refine jA ?_|(refine hK _ _ ?_;clear hK K)|refine jJ fun K hK=>?_|refine jK ?_|refine jL ?_|refine jM ?_|refine jN ?_|refine jO ?_|refine jP ?_|refine jQ ?_|(refine jB ?_;clear hK K)|(refine jC ?_;clear hK K)|refine jD ?_|refine jE ?_|refine jG ?_|refine jH ?_|refine jI ?_)|((with_reducible refine jR ?hq ?_);case hq=>rfl)|((first|(with_reducible first|refine jS fun K hK=>?_|refine jT ?_|refine jU ?_)|((with_reducible refine jV ?hy fun K hK=>?_);case hy=>rfl));simp only [go_sem, Nat.reduceEqDiff, Nat.reduceAdd, Nat.reduceMul, Nat.reduceLeDiff, Nat.reduceLT, Int.reduceLT, Int.reduceLE, Int.reduceEq, Int.reduceNeg, Int.reduceToNat, Nat.reducePow, reduceIte, reduceCtorEq, Sp.Item.val, t1, t2, ea, hcell_push, hcell_top, okW_push, okW_top, hcell_hset_ne, hcell_hset_off, hcell_hset_eq, okW_hset, hset_size, Array.size_push, Nat.lt_add_one, ne_add_one, add_one_ne, Nat.add_assoc, add_same, add_lt_same, Nat.reduceEqDiff, lt_add_k, add_k_ne, ne_add_k])|((with_reducible first|refine jW ?hy ?_|refine jY ?hy ?_);case hy=>rfl)|((with_reducible first|refine jX ?hy ?_|refine jZ ?hy ?_);case hy=>rfl)|((with_reducible refine jF ?hy ?_);case hy=>decide))
   exact fin _ (by ((repeat (first | refine Fr.set ?_ (by simp) _ | refine Fr.push ?_ _)); exact Fr.refl _ _))
 ·have t1 : (-1099511627776 ≤ x.value) = False := by simp; omega
  simp only [t1, decide_false, Bool.false_and] at fin
  repeat' (first|(with_reducible first|refine jA ?_|(refine hK _ _ ?_;clear hK K)|refine jJ fun K hK=>?_|refine jK ?_|refine jL ?_|refine jM ?_|refine jN ?_|refine jO ?_|refine jP ?_|refine jQ ?_|(refine jB ?_;clear hK K)|(refine jC ?_;clear hK K)|refine jD ?_|refine jE ?_|refine jG ?_|refine jH ?_|refine jI ?_)|((with_reducible refine jR ?hq ?_);case hq=>rfl)|((first|(with_reducible first|refine jS fun K hK=>?_|refine jT ?_|refine jU ?_)|((with_reducible refine jV ?hy fun K hK=>?_);case hy=>rfl));simp only [go_sem, Nat.reduceEqDiff, Nat.reduceAdd, Nat.reduceMul, Nat.reduceLeDiff, Nat.reduceLT, Int.reduceLT, Int.reduceLE, Int.reduceEq, Int.reduceNeg, Int.reduceToNat, Nat.reducePow, reduceIte, reduceCtorEq, Sp.Item.val, t1, ea, hcell_push, hcell_top, okW_push, okW_top, hcell_hset_ne, hcell_hset_off, hcell_hset_eq, okW_hset, hset_size, Array.size_push, Nat.lt_add_one, ne_add_one, add_one_ne, Nat.add_assoc, add_same, add_lt_same, Nat.reduceEqDiff, lt_add_k, add_k_ne, ne_add_k])|((with_reducible first|refine jW ?hy ?_|refine jY ?hy ?_);case hy=>rfl)|((with_reducible first|refine jX ?hy ?_|refine jZ ?hy ?_);case hy=>rfl)|((with_reducible refine jF ?hy ?_);case hy=>decide))
  exact fin _ (by ((repeat (first | refine Fr.set ?_ (by simp) _ | refine Fr.push ?_ _)); exact Fr.refl _ _))
theorem new_no {H : Heap} {n : Int} {K : Value → Heap → Prop} (hn : n < 0 ∨ 1024 < n) (fin : K (.tuple #[.pointer none, .int .i64 1]) H) : CallsH Try.prog 30 #[.int .i64 n] H K := by
 refine call30 (by simp) ?_
 simp only [Try.f30, Option.getD_some]
 by_cases h0 : n < 0
 ·have e1 : (n < 0) = True := by simp [h0]
  repeat' (first|(with_reducible first|refine jA ?_|(refine hK _ _ ?_;clear hK K)|refine jJ fun K hK=>?_|refine jK ?_|refine jL ?_|refine jM ?_|refine jN ?_|refine jO ?_|refine jP ?_|refine jQ ?_|(refine jB ?_;clear hK K)|(refine jC ?_;clear hK K)|refine jD ?_|refine jE ?_|refine jG ?_|refine jH ?_|refine jI ?_)|((with_reducible refine jR ?hq ?_);case hq=>rfl)|((first|(with_reducible first|refine jS fun K hK=>?_|refine jT ?_|refine jU ?_)|((with_reducible refine jV ?hy fun K hK=>?_);case hy=>rfl));simp only [go_sem, Nat.reduceEqDiff, Nat.reduceAdd, Nat.reduceMul, Nat.reduceLeDiff, Nat.reduceLT, Int.reduceLT, Int.reduceLE, Int.reduceEq, Int.reduceNeg, Int.reduceToNat, Nat.reducePow, reduceIte, reduceCtorEq, e1])|((with_reducible first|refine jW ?hy ?_|refine jY ?hy ?_);case hy=>rfl)|((with_reducible first|refine jX ?hy ?_|refine jZ ?hy ?_);case hy=>rfl)|((with_reducible refine jF ?hy ?_);case hy=>decide))
  exact fin
 ·have e1 : (n < 0) = False := by simp [h0]
  have e2 : (1024 < n) = True := by simp; omega
  repeat' (first|(with_reducible first|refine jA ?_|(refine hK _ _ ?_;clear hK K)|refine jJ fun K hK=>?_|refine jK ?_|refine jL ?_|refine jM ?_|refine jN ?_|refine jO ?_|refine jP ?_|refine jQ ?_|(refine jB ?_;clear hK K)|(refine jC ?_;clear hK K)|refine jD ?_|refine jE ?_|refine jG ?_|refine jH ?_|refine jI ?_)|((with_reducible refine jR ?hq ?_);case hq=>rfl)|((first|(with_reducible first|refine jS fun K hK=>?_|refine jT ?_|refine jU ?_)|((with_reducible refine jV ?hy fun K hK=>?_);case hy=>rfl));simp only [go_sem, Nat.reduceEqDiff, Nat.reduceAdd, Nat.reduceMul, Nat.reduceLeDiff, Nat.reduceLT, Int.reduceLT, Int.reduceLE, Int.reduceEq, Int.reduceNeg, Int.reduceToNat, Nat.reducePow, reduceIte, reduceCtorEq, e1, e2])|((with_reducible first|refine jW ?hy ?_|refine jY ?hy ?_);case hy=>rfl)|((with_reducible first|refine jX ?hy ?_|refine jZ ?hy ?_);case hy=>rfl)|((with_reducible refine jF ?hy ?_);case hy=>decide))
  exact fin
def Sq.new (n : Nat) : Sq := ⟨n, 1, [], fun _ => Sp.Item.zero, []⟩
theorem new_ok {H : Heap} {n : Nat} {K : Value → Heap → Prop} (hn : n ≤ 1024)
  (fin : ∀ H' f T, FoM H' f T (Sq.new n) → Fr (fun _ => False) H H' → (∀ b, T b → H.size ≤ b) → T f → K (.tuple #[.pointer (some ⟨f, 0, none⟩), .int .i64 0]) H') : CallsH Try.prog 30 #[.int .i64 (n : Nat)] H K := by
 have e1 : ((n : Int) < 0) = False := by simp
 have e2 : (1024 < (n : Int)) = False := by simp; omega
 refine call30 (by simp) ?_
 simp only [Try.f30, Option.getD_some]
 repeat' (first|(with_reducible first|refine jA ?_|(refine hK _ _ ?_;clear hK K)|refine jJ fun K hK=>?_|refine jK ?_|refine jL ?_|refine jM ?_|refine jN ?_|refine jO ?_|refine jP ?_|refine jQ ?_|(refine jB ?_;clear hK K)|(refine jC ?_;clear hK K)|refine jD ?_|refine jE ?_|refine jG ?_|refine jH ?_|refine jI ?_)|((with_reducible refine jR ?hq ?_);case hq=>rfl)|((first|(with_reducible first|refine jS fun K hK=>?_|refine jT ?_|refine jU ?_)|((with_reducible refine jV ?hy fun K hK=>?_);case hy=>rfl));simp only [go_sem, Nat.reduceEqDiff, Nat.reduceAdd, Nat.reduceMul, Nat.reduceLeDiff, Nat.reduceLT, Int.reduceLT, Int.reduceLE, Int.reduceEq, Int.reduceNeg, Int.reduceToNat, Nat.reducePow, reduceIte, reduceCtorEq, e1, e2])|((with_reducible first|refine jW ?hy ?_|refine jY ?hy ?_);case hy=>rfl)|((with_reducible first|refine jX ?hy ?_|refine jZ ?hy ?_);case hy=>rfl)|((with_reducible refine jF ?hy ?_);case hy=>decide))
 refine ArQPtr.new_ok (n := n) (by omega) ?_
 intro H1 p g hA hf hp hg
 obtain ⟨c, rest, b1, b2, hl, hc⟩ := hA.at_
 have hpl := b1.lt
 have hgl := b2.lt
 have hs := hf.size
 repeat' (first|(with_reducible first|refine jA ?_|(refine hK _ _ ?_;clear hK K)|refine jJ fun K hK=>?_|refine jK ?_|refine jL ?_|refine jM ?_|refine jN ?_|refine jO ?_|refine jP ?_|refine jQ ?_|(refine jB ?_;clear hK K)|(refine jC ?_;clear hK K)|refine jD ?_|refine jE ?_|refine jG ?_|refine jH ?_|refine jI ?_)|((with_reducible refine jR ?hq ?_);case hq=>rfl)|((first|(with_reducible first|refine jS fun K hK=>?_|refine jT ?_|refine jU ?_)|((with_reducible refine jV ?hy fun K hK=>?_);case hy=>rfl));simp only [go_sem, Nat.reduceEqDiff, Nat.reduceAdd, Nat.reduceMul, Nat.reduceLeDiff, Nat.reduceLT, Int.reduceLT, Int.reduceLE, Int.reduceEq, Int.reduceNeg, Int.reduceToNat, Nat.reducePow, reduceIte, reduceCtorEq, e1, e2])|((with_reducible first|refine jW ?hy ?_|refine jY ?hy ?_);case hy=>rfl)|((with_reducible first|refine jX ?hy ?_|refine jZ ?hy ?_);case hy=>rfl)|((with_reducible refine jF ?hy ?_);case hy=>decide))
 have hU : ∀ i, ¬ U (Ar.new n) i := fun i hi => by
  unfold U Ar.new Ar.get at hi
  cases i <;> simp at hi
 refine fin _ H1.size (fun b => b = H1.size ∨ b = p ∨ b = g) ⟨p, g, Ar.new n, fun _ => 0, fun _ => ⟨Sp.Item.zero, 0, 0, 0, 0, Agg.zero⟩, ⟨⟨Blk.new H1 _ _, hA.frame ((Fr.refl (fun _ => False) _).push _) (fun h => h) (fun h => h), ?_, ?_, ?_, ?_, by omega, ?_⟩, ?_, ?_, ?_, ?_⟩, rfl, rfl, rfl, ?_, ?_⟩ (hf.push _) ?_ (.inl rfl)
 ·intro h v hv; exact absurd (show U (Ar.new n) h by unfold U; rw [hv]; rfl) (hU h)
 ·exact fun h hh => absurd hh (hU h)
 ·exact fun h _ hh => absurd hh (hU h)
 ·exact fun h hh => absurd hh (hU h)
 ·exact ⟨fun h hh => absurd hh (hU h), fun h hh => absurd hh (hU h), fun h hh => absurd hh (hU h)⟩
 ·intro xs hx; cases hx
 ·exact List.nodup_nil
 ·intro h; simp [Sq.new, hU h]
 ·exact fun h hh => absurd hh (hU h)
 ·rintro b (rfl | rfl | rfl | ⟨i, hi, _⟩)
  ·exact .inl rfl
  ·exact .inr (.inl rfl)
  ·exact .inr (.inr rfl)
  ·exact absurd hi (hU i)
 ·rintro b (rfl | rfl | rfl) <;> simp <;> omega
 ·rintro b (rfl | rfl | rfl) <;> omega
section
variable {H H' : Heap} {f : Nat} {T : Nat → Prop} {S : Sq} {K : Value → Heap → Prop}
theorem make_bad {x : Sp.Item} (hM : FoM H f T S) (hx : Fits x) (hx2 : ¬ May x) (fin : ∀ H', Fr (fun _ => False) H H' → K (.tuple #[.int .i64 0, .int .i64 1]) H') :
  CallsH Try.prog 31 #[.pointer (some ⟨f, 0, none⟩), x.val] H K := by
 have hb : mayB x = false := by
  rw [← Bool.not_eq_true, mayB_iff]; exact hx2
 refine call31 (by simp) ?_
 simp only [Try.f31, Option.getD_some]
 repeat' (first|(with_reducible first|refine jA ?_|(refine hK _ _ ?_;clear hK K)|refine jJ fun K hK=>?_|refine jK ?_|refine jL ?_|refine jM ?_|refine jN ?_|refine jO ?_|refine jP ?_|refine jQ ?_|(refine jB ?_;clear hK K)|(refine jC ?_;clear hK K)|refine jD ?_|refine jE ?_|refine jG ?_|refine jH ?_|refine jI ?_)|((with_reducible refine jR ?hq ?_);case hq=>rfl)|((first|(with_reducible first|refine jS fun K hK=>?_|refine jT ?_|refine jU ?_)|((with_reducible refine jV ?hy fun K hK=>?_);case hy=>rfl));simp only [go_sem, Nat.reduceEqDiff, Nat.reduceAdd, Nat.reduceMul, Nat.reduceLeDiff, Nat.reduceLT, Int.reduceLT, Int.reduceLE, Int.reduceEq, Int.reduceNeg, Int.reduceToNat, Nat.reducePow, reduceIte, reduceCtorEq, Sp.Item.val, hcell_push, hcell_top, okW_push, okW_top, hcell_hset_ne, hcell_hset_off, hcell_hset_eq, okW_hset, hset_size, Array.size_push, Nat.lt_add_one, ne_add_one, add_one_ne, Nat.add_assoc, add_same, add_lt_same, Nat.reduceEqDiff, lt_add_k, add_k_ne, ne_add_k])|((with_reducible first|refine jW ?hy ?_|refine jY ?hy ?_);case hy=>rfl)|((with_reducible first|refine jX ?hy ?_|refine jZ ?hy ?_);case hy=>rfl)|((with_reducible refine jF ?hy ?_);case hy=>decide))
 refine may_ok hx ?_
 intro H1 hf1
 rw [hb]
 repeat' (first|(with_reducible first|refine jA ?_|(refine hK _ _ ?_;clear hK K)|refine jJ fun K hK=>?_|refine jK ?_|refine jL ?_|refine jM ?_|refine jN ?_|refine jO ?_|refine jP ?_|refine jQ ?_|(refine jB ?_;clear hK K)|(refine jC ?_;clear hK K)|refine jD ?_|refine jE ?_|refine jG ?_|refine jH ?_|refine jI ?_)|((with_reducible refine jR ?hq ?_);case hq=>rfl)|((first|(with_reducible first|refine jS fun K hK=>?_|refine jT ?_|refine jU ?_)|((with_reducible refine jV ?hy fun K hK=>?_);case hy=>rfl));simp only [go_sem, Nat.reduceEqDiff, Nat.reduceAdd, Nat.reduceMul, Nat.reduceLeDiff, Nat.reduceLT, Int.reduceLT, Int.reduceLE, Int.reduceEq, Int.reduceNeg, Int.reduceToNat, Nat.reducePow, reduceIte, reduceCtorEq, Sp.Item.val])|((with_reducible first|refine jW ?hy ?_|refine jY ?hy ?_);case hy=>rfl)|((with_reducible first|refine jX ?hy ?_|refine jZ ?hy ?_);case hy=>rfl)|((with_reducible refine jF ?hy ?_);case hy=>decide))
 exact fin _ (Fr.trans ((Fr.refl _ _).push _) hf1)
end

section
variable {H H' : Heap} {f p g : Nat} {A : Ar} {nb : Nat → Nat} {N : Nodes} {S : Fo} {xs ys : List Nat} {k j : Nat} {R : List (List Nat)}
theorem end_ok {K : Value → Heap → Prop} {it : Nat → Sp.Item} {t : Tr} {up z : Nat} (hF : FAt H f p g A nb N) (ht : TrAt N it up t) (hU : ∀ i ∈ t.list, U A i) (hz : t.list.getLast? = some z)
  (fin : K (.int .i64 (z : Nat)) H) :
  CallsH Try.prog 72 #[.pointer (some ⟨f, 0, none⟩), .int .i64 (t.root : Nat), .int .i64 1] H K := by
 refine call72 (by simp) ?_
 simp only [Try.f72, Option.getD_some]
 repeat' (first|(with_reducible first|refine jA ?_|(refine hK _ _ ?_;clear hK K)|refine jJ fun K hK=>?_|refine jK ?_|refine jL ?_|refine jM ?_|refine jN ?_|refine jO ?_|refine jP ?_|refine jQ ?_|(refine jB ?_;clear hK K)|(refine jC ?_;clear hK K)|refine jD ?_|refine jE ?_|refine jG ?_|refine jH ?_|refine jI ?_)|((with_reducible refine jR ?hq ?_);case hq=>rfl)|((first|(with_reducible first|refine jS fun K hK=>?_|refine jT ?_|refine jU ?_)|((with_reducible refine jV ?hy fun K hK=>?_);case hy=>rfl));simp only [go_sem, Nat.reduceEqDiff, Nat.reduceAdd, Nat.reduceMul, Nat.reduceLeDiff, Nat.reduceLT, Int.reduceLT, Int.reduceLE, Int.reduceEq, Int.reduceNeg, Int.reduceToNat, Nat.reducePow, reduceIte, reduceCtorEq])|((with_reducible first|refine jW ?hy ?_|refine jY ?hy ?_);case hy=>rfl)|((with_reducible first|refine jX ?hy ?_|refine jZ ?hy ?_);case hy=>rfl)|((with_reducible refine jF ?hy ?_);case hy=>decide))
 refine x_loop (fun m e' H' => ∃ (t : Tr) (up : Nat), H' = H ∧ e' 1 = .int .i64 (t.root : Nat) ∧ TrAt N it up t ∧ (∀ i ∈ t.list, U A i) ∧ t.list.getLast? = some z ∧ m = t.list.length) t.list.length ⟨t, up, rfl, rfl, ht, hU, hz, rfl⟩ ?_
 rintro m e1 H1 ⟨t1, up1, rfl, e1', ht1, hU1, hz1, rfl⟩ hoff
 have e0 := (hoff 0 rfl).trans rfl
 have e2 := (hoff 2 rfl).trans rfl
 clear hoff
 cases t1 with
 | nil => cases hz1
 | node l h r =>
  simp only [Tr.root] at e1'
  have hUh := hU1 h (by simp [Tr.list])
  have c5 := (hF.nd h hUh).cellOf (i := 5) rfl
  obtain ⟨a, b, c, d⟩ := ht1
  have er : (N h).r = r.root := by rw [b]; rfl
  rw [er] at c5
  repeat' (first|(with_reducible first|refine jA ?_|(refine hK _ _ ?_;clear hK K)|refine jJ fun K hK=>?_|refine jK ?_|refine jL ?_|refine jM ?_|refine jN ?_|refine jO ?_|refine jP ?_|refine jQ ?_|(refine jB ?_;clear hK K)|(refine jC ?_;clear hK K)|refine jD ?_|refine jE ?_|refine jG ?_|refine jH ?_|refine jI ?_)|((with_reducible refine jR ?hq ?_);case hq=>rfl)|((first|(with_reducible first|refine jS fun K hK=>?_|refine jT ?_|refine jU ?_)|((with_reducible refine jV ?hy fun K hK=>?_);case hy=>rfl));simp only [go_sem, Nat.reduceEqDiff, Nat.reduceAdd, Nat.reduceMul, Nat.reduceLeDiff, Nat.reduceLT, Int.reduceLT, Int.reduceLE, Int.reduceEq, Int.reduceNeg, Int.reduceToNat, Nat.reducePow, reduceIte, reduceCtorEq, e0, e1', e2])|((with_reducible first|refine jW ?hy ?_|refine jY ?hy ?_);case hy=>rfl)|((with_reducible first|refine jX ?hy ?_|refine jZ ?hy ?_);case hy=>rfl)|((with_reducible refine jF ?hy ?_);case hy=>decide))
  refine node_ok hF hUh ?_
  by_cases h0 : r.root = 0
  ·have t1 : ((r.root : Int) != 0) = false := by simp [h0]
   obtain rfl := nil_of_root d h0
   have ez : h = z := by simpa [Tr.list] using hz1
   subst ez
   repeat' (first|(with_reducible first|refine jA ?_|(refine hK _ _ ?_;clear hK K)|refine jJ fun K hK=>?_|refine jK ?_|refine jL ?_|refine jM ?_|refine jN ?_|refine jO ?_|refine jP ?_|refine jQ ?_|(refine jB ?_;clear hK K)|(refine jC ?_;clear hK K)|refine jD ?_|refine jE ?_|refine jG ?_|refine jH ?_|refine jI ?_)|((with_reducible refine jR ?hq ?_);case hq=>rfl)|((first|(with_reducible first|refine jS fun K hK=>?_|refine jT ?_|refine jU ?_)|((with_reducible refine jV ?hy fun K hK=>?_);case hy=>rfl));simp only [go_sem, Nat.reduceEqDiff, Nat.reduceAdd, Nat.reduceMul, Nat.reduceLeDiff, Nat.reduceLT, Int.reduceLT, Int.reduceLE, Int.reduceEq, Int.reduceNeg, Int.reduceToNat, Nat.reducePow, reduceIte, reduceCtorEq, e0, e1', e2, c5, t1])|((with_reducible first|refine jW ?hy ?_|refine jY ?hy ?_);case hy=>rfl)|((with_reducible first|refine jX ?hy ?_|refine jZ ?hy ?_);case hy=>rfl)|((with_reducible refine jF ?hy ?_);case hy=>decide))
   exact fin
  ·have t1 : ((r.root : Int) != 0) = true := by simp [h0]
   repeat' (first|(with_reducible first|refine jA ?_|(refine hK _ _ ?_;clear hK K)|refine jJ fun K hK=>?_|refine jK ?_|refine jL ?_|refine jM ?_|refine jN ?_|refine jO ?_|refine jP ?_|refine jQ ?_|(refine jB ?_;clear hK K)|(refine jC ?_;clear hK K)|refine jD ?_|refine jE ?_|refine jG ?_|refine jH ?_|refine jI ?_)|((with_reducible refine jR ?hq ?_);case hq=>rfl)|((first|(with_reducible first|refine jS fun K hK=>?_|refine jT ?_|refine jU ?_)|((with_reducible refine jV ?hy fun K hK=>?_);case hy=>rfl));simp only [go_sem, Nat.reduceEqDiff, Nat.reduceAdd, Nat.reduceMul, Nat.reduceLeDiff, Nat.reduceLT, Int.reduceLT, Int.reduceLE, Int.reduceEq, Int.reduceNeg, Int.reduceToNat, Nat.reducePow, reduceIte, reduceCtorEq, e0, e1', e2, c5, t1])|((with_reducible first|refine jW ?hy ?_|refine jY ?hy ?_);case hy=>rfl)|((with_reducible first|refine jX ?hy ?_|refine jZ ?hy ?_);case hy=>rfl)|((with_reducible refine jF ?hy ?_);case hy=>decide))
   refine node_ok hF hUh ?_
   repeat' (first|(with_reducible first|refine jA ?_|(refine hK _ _ ?_;clear hK K)|refine jJ fun K hK=>?_|refine jK ?_|refine jL ?_|refine jM ?_|refine jN ?_|refine jO ?_|refine jP ?_|refine jQ ?_|(refine jB ?_;clear hK K)|(refine jC ?_;clear hK K)|refine jD ?_|refine jE ?_|refine jG ?_|refine jH ?_|refine jI ?_)|((with_reducible refine jR ?hq ?_);case hq=>rfl)|((first|(with_reducible first|refine jS fun K hK=>?_|refine jT ?_|refine jU ?_)|((with_reducible refine jV ?hy fun K hK=>?_);case hy=>rfl));simp only [go_sem, Nat.reduceEqDiff, Nat.reduceAdd, Nat.reduceMul, Nat.reduceLeDiff, Nat.reduceLT, Int.reduceLT, Int.reduceLE, Int.reduceEq, Int.reduceNeg, Int.reduceToNat, Nat.reducePow, reduceIte, reduceCtorEq, e0, e1', e2, c5])|((with_reducible first|refine jW ?hy ?_|refine jY ?hy ?_);case hy=>rfl)|((with_reducible first|refine jX ?hy ?_|refine jZ ?hy ?_);case hy=>rfl)|((with_reducible refine jF ?hy ?_);case hy=>decide))
   have hrl := list_ne_nil h0
   refine loop_normal (m' := r.list.length) (by simp [Tr.list]; omega) ⟨r, h, rfl, rfl, d, fun i hi => hU1 i (by simp [Tr.list, hi]), ?_, rfl⟩
   rw [← hz1]
   simp only [Tr.list, List.getLast?_append, List.getLast?_cons]
   cases hr : r.list.getLast? with
   | none => rw [List.getLast?_eq_none_iff] at hr; exact absurd hr hrl
   | some w => simp
theorem FAt.hang (hF : FAt H f p g A nb N) {k x : Nat} (hk : U A k) (hx : U A x) : U A k := hk
theorem join_none {K : Value → Heap → Prop} {a b : Int} (hF : FoAt H f p g A nb N S) (hi : (¬ ∃ k : Nat, a = (k : Int) ∧ k ∈ S.rows.flatten) ∨ (¬ ∃ k : Nat, b = (k : Int) ∧ k ∈ S.rows.flatten)) (fin : K (.int .i64 31) H) :
  CallsH Try.prog 38 #[.pointer (some ⟨f, 0, none⟩), .int .i64 a, .int .i64 b] H K := by
 refine call38 (by simp) ?_
 simp only [Try.f38, Option.getD_some]
 repeat' (first|(with_reducible first|refine jA ?_|(refine hK _ _ ?_;clear hK K)|refine jJ fun K hK=>?_|refine jK ?_|refine jL ?_|refine jM ?_|refine jN ?_|refine jO ?_|refine jP ?_|refine jQ ?_|(refine jB ?_;clear hK K)|(refine jC ?_;clear hK K)|refine jD ?_|refine jE ?_|refine jG ?_|refine jH ?_|refine jI ?_)|((with_reducible refine jR ?hq ?_);case hq=>rfl)|((first|(with_reducible first|refine jS fun K hK=>?_|refine jT ?_|refine jU ?_)|((with_reducible refine jV ?hy fun K hK=>?_);case hy=>rfl));simp only [go_sem, Nat.reduceEqDiff, Nat.reduceAdd, Nat.reduceMul, Nat.reduceLeDiff, Nat.reduceLT, Int.reduceLT, Int.reduceLE, Int.reduceEq, Int.reduceNeg, Int.reduceToNat, Nat.reducePow, reduceIte, reduceCtorEq])|((with_reducible first|refine jW ?hy ?_|refine jY ?hy ?_);case hy=>rfl)|((with_reducible first|refine jX ?hy ?_|refine jZ ?hy ?_);case hy=>rfl)|((with_reducible refine jF ?hy ?_);case hy=>decide))
 by_cases ha : ∃ k : Nat, a = (k : Int) ∧ k ∈ S.rows.flatten
 ·obtain ⟨k, rfl, hk⟩ := ha
  have hi := hi.resolve_left (fun h => h ⟨k, rfl, hk⟩)
  refine node_ok hF.mem ((hF.use k).1 hk) ?_
  repeat' (first|(with_reducible first|refine jA ?_|(refine hK _ _ ?_;clear hK K)|refine jJ fun K hK=>?_|refine jK ?_|refine jL ?_|refine jM ?_|refine jN ?_|refine jO ?_|refine jP ?_|refine jQ ?_|(refine jB ?_;clear hK K)|(refine jC ?_;clear hK K)|refine jD ?_|refine jE ?_|refine jG ?_|refine jH ?_|refine jI ?_)|((with_reducible refine jR ?hq ?_);case hq=>rfl)|((first|(with_reducible first|refine jS fun K hK=>?_|refine jT ?_|refine jU ?_)|((with_reducible refine jV ?hy fun K hK=>?_);case hy=>rfl));simp only [go_sem, Nat.reduceEqDiff, Nat.reduceAdd, Nat.reduceMul, Nat.reduceLeDiff, Nat.reduceLT, Int.reduceLT, Int.reduceLE, Int.reduceEq, Int.reduceNeg, Int.reduceToNat, Nat.reducePow, reduceIte, reduceCtorEq])|((with_reducible first|refine jW ?hy ?_|refine jY ?hy ?_);case hy=>rfl)|((with_reducible first|refine jX ?hy ?_|refine jZ ?hy ?_);case hy=>rfl)|((with_reducible refine jF ?hy ?_);case hy=>decide))
  refine node_no hF.mem (hF.none hi) ?_
  repeat' (first|(with_reducible first|refine jA ?_|(refine hK _ _ ?_;clear hK K)|refine jJ fun K hK=>?_|refine jK ?_|refine jL ?_|refine jM ?_|refine jN ?_|refine jO ?_|refine jP ?_|refine jQ ?_|(refine jB ?_;clear hK K)|(refine jC ?_;clear hK K)|refine jD ?_|refine jE ?_|refine jG ?_|refine jH ?_|refine jI ?_)|((with_reducible refine jR ?hq ?_);case hq=>rfl)|((first|(with_reducible first|refine jS fun K hK=>?_|refine jT ?_|refine jU ?_)|((with_reducible refine jV ?hy fun K hK=>?_);case hy=>rfl));simp only [go_sem, Nat.reduceEqDiff, Nat.reduceAdd, Nat.reduceMul, Nat.reduceLeDiff, Nat.reduceLT, Int.reduceLT, Int.reduceLE, Int.reduceEq, Int.reduceNeg, Int.reduceToNat, Nat.reducePow, reduceIte, reduceCtorEq])|((with_reducible first|refine jW ?hy ?_|refine jY ?hy ?_);case hy=>rfl)|((with_reducible first|refine jX ?hy ?_|refine jZ ?hy ?_);case hy=>rfl)|((with_reducible refine jF ?hy ?_);case hy=>decide))
  exact fin
 ·refine node_no hF.mem (hF.none ha) ?_
  repeat' (first|(with_reducible first|refine jA ?_|(refine hK _ _ ?_;clear hK K)|refine jJ fun K hK=>?_|refine jK ?_|refine jL ?_|refine jM ?_|refine jN ?_|refine jO ?_|refine jP ?_|refine jQ ?_|(refine jB ?_;clear hK K)|(refine jC ?_;clear hK K)|refine jD ?_|refine jE ?_|refine jG ?_|refine jH ?_|refine jI ?_)|((with_reducible refine jR ?hq ?_);case hq=>rfl)|((first|(with_reducible first|refine jS fun K hK=>?_|refine jT ?_|refine jU ?_)|((with_reducible refine jV ?hy fun K hK=>?_);case hy=>rfl));simp only [go_sem, Nat.reduceEqDiff, Nat.reduceAdd, Nat.reduceMul, Nat.reduceLeDiff, Nat.reduceLT, Int.reduceLT, Int.reduceLE, Int.reduceEq, Int.reduceNeg, Int.reduceToNat, Nat.reducePow, reduceIte, reduceCtorEq])|((with_reducible first|refine jW ?hy ?_|refine jY ?hy ?_);case hy=>rfl)|((with_reducible first|refine jX ?hy ?_|refine jZ ?hy ?_);case hy=>rfl)|((with_reducible refine jF ?hy ?_);case hy=>decide))
  exact fin
theorem join_same {K : Value → Heap → Prop} (hF : FoAt H f p g A nb N S) (hx : xs ∈ S.rows) (hk : k ∈ xs) (hj : j ∈ xs) (fin : ∀ H' N', FoAt H' f p g A nb N' S → Fr (NB A nb) H H' → K (.int .i64 33) H') :
  CallsH Try.prog 38 #[.pointer (some ⟨f, 0, none⟩), .int .i64 k, .int .i64 j] H K := by
 refine call38 (by simp) ?_
 simp only [Try.f38, Option.getD_some]
 repeat' (first|(with_reducible first|refine jA ?_|(refine hK _ _ ?_;clear hK K)|refine jJ fun K hK=>?_|refine jK ?_|refine jL ?_|refine jM ?_|refine jN ?_|refine jO ?_|refine jP ?_|refine jQ ?_|(refine jB ?_;clear hK K)|(refine jC ?_;clear hK K)|refine jD ?_|refine jE ?_|refine jG ?_|refine jH ?_|refine jI ?_)|((with_reducible refine jR ?hq ?_);case hq=>rfl)|((first|(with_reducible first|refine jS fun K hK=>?_|refine jT ?_|refine jU ?_)|((with_reducible refine jV ?hy fun K hK=>?_);case hy=>rfl));simp only [go_sem, Nat.reduceEqDiff, Nat.reduceAdd, Nat.reduceMul, Nat.reduceLeDiff, Nat.reduceLT, Int.reduceLT, Int.reduceLE, Int.reduceEq, Int.reduceNeg, Int.reduceToNat, Nat.reducePow, reduceIte, reduceCtorEq])|((with_reducible first|refine jW ?hy ?_|refine jY ?hy ?_);case hy=>rfl)|((with_reducible first|refine jX ?hy ?_|refine jZ ?hy ?_);case hy=>rfl)|((with_reducible refine jF ?hy ?_);case hy=>decide))
 refine node_ok hF.mem (hF.u hx hk) ?_
 repeat' (first|(with_reducible first|refine jA ?_|(refine hK _ _ ?_;clear hK K)|refine jJ fun K hK=>?_|refine jK ?_|refine jL ?_|refine jM ?_|refine jN ?_|refine jO ?_|refine jP ?_|refine jQ ?_|(refine jB ?_;clear hK K)|(refine jC ?_;clear hK K)|refine jD ?_|refine jE ?_|refine jG ?_|refine jH ?_|refine jI ?_)|((with_reducible refine jR ?hq ?_);case hq=>rfl)|((first|(with_reducible first|refine jS fun K hK=>?_|refine jT ?_|refine jU ?_)|((with_reducible refine jV ?hy fun K hK=>?_);case hy=>rfl));simp only [go_sem, Nat.reduceEqDiff, Nat.reduceAdd, Nat.reduceMul, Nat.reduceLeDiff, Nat.reduceLT, Int.reduceLT, Int.reduceLE, Int.reduceEq, Int.reduceNeg, Int.reduceToNat, Nat.reducePow, reduceIte, reduceCtorEq])|((with_reducible first|refine jW ?hy ?_|refine jY ?hy ?_);case hy=>rfl)|((with_reducible first|refine jX ?hy ?_|refine jZ ?hy ?_);case hy=>rfl)|((with_reducible refine jF ?hy ?_);case hy=>decide))
 refine node_ok hF.mem (hF.u hx hj) ?_
 repeat' (first|(with_reducible first|refine jA ?_|(refine hK _ _ ?_;clear hK K)|refine jJ fun K hK=>?_|refine jK ?_|refine jL ?_|refine jM ?_|refine jN ?_|refine jO ?_|refine jP ?_|refine jQ ?_|(refine jB ?_;clear hK K)|(refine jC ?_;clear hK K)|refine jD ?_|refine jE ?_|refine jG ?_|refine jH ?_|refine jI ?_)|((with_reducible refine jR ?hq ?_);case hq=>rfl)|((first|(with_reducible first|refine jS fun K hK=>?_|refine jT ?_|refine jU ?_)|((with_reducible refine jV ?hy fun K hK=>?_);case hy=>rfl));simp only [go_sem, Nat.reduceEqDiff, Nat.reduceAdd, Nat.reduceMul, Nat.reduceLeDiff, Nat.reduceLT, Int.reduceLT, Int.reduceLE, Int.reduceEq, Int.reduceNeg, Int.reduceToNat, Nat.reducePow, reduceIte, reduceCtorEq])|((with_reducible first|refine jW ?hy ?_|refine jY ?hy ?_);case hy=>rfl)|((with_reducible first|refine jX ?hy ?_|refine jZ ?hy ?_);case hy=>rfl)|((with_reducible refine jF ?hy ?_);case hy=>decide))
 refine same_ok hF hx hk hx hj ?_
 intro H1 N1 b hF1 hf1 hb
 have hb1 : b = true := hb.2 rfl
 subst hb1
 repeat' (first|(with_reducible first|refine jA ?_|(refine hK _ _ ?_;clear hK K)|refine jJ fun K hK=>?_|refine jK ?_|refine jL ?_|refine jM ?_|refine jN ?_|refine jO ?_|refine jP ?_|refine jQ ?_|(refine jB ?_;clear hK K)|(refine jC ?_;clear hK K)|refine jD ?_|refine jE ?_|refine jG ?_|refine jH ?_|refine jI ?_)|((with_reducible refine jR ?hq ?_);case hq=>rfl)|((first|(with_reducible first|refine jS fun K hK=>?_|refine jT ?_|refine jU ?_)|((with_reducible refine jV ?hy fun K hK=>?_);case hy=>rfl));simp only [go_sem, Nat.reduceEqDiff, Nat.reduceAdd, Nat.reduceMul, Nat.reduceLeDiff, Nat.reduceLT, Int.reduceLT, Int.reduceLE, Int.reduceEq, Int.reduceNeg, Int.reduceToNat, Nat.reducePow, reduceIte, reduceCtorEq])|((with_reducible first|refine jW ?hy ?_|refine jY ?hy ?_);case hy=>rfl)|((with_reducible first|refine jX ?hy ?_|refine jZ ?hy ?_);case hy=>rfl)|((with_reducible refine jF ?hy ?_);case hy=>decide))
 exact fin _ _ hF1 hf1
theorem join_ok {K : Value → Heap → Prop} (hF : FoAt H f p g A nb N S) (hr : S.rows.Perm (xs :: ys :: R)) (hk : k ∈ xs) (hj : j ∈ ys)
  (fin : ∀ H' N', FoAt H' f p g A nb N' ⟨S.it, (xs ++ ys) :: R⟩ → Fr (NB A nb) H H' → K (.int .i64 0) H') :
  CallsH Try.prog 38 #[.pointer (some ⟨f, 0, none⟩), .int .i64 k, .int .i64 j] H K := by
 have hx : xs ∈ S.rows := hr.mem_iff.2 (.head _)
 have hy : ys ∈ S.rows := hr.mem_iff.2 (.tail _ (.head _))
 have hn2 : (xs :: ys :: R).flatten.Nodup := (hr.flatten.nodup_iff).1 hF.nodup
 have hn3 : (xs ++ ys).Nodup ∧ R.flatten.Nodup ∧ ∀ a ∈ xs ++ ys, ∀ b ∈ R.flatten, a ≠ b := by
  rw [List.flatten_cons, List.flatten_cons, ← List.append_assoc, List.nodup_append] at hn2
  exact hn2
 have hxy : ∀ i ∈ xs, i ∉ ys := fun i h1 h2 => (List.nodup_append.1 hn3.1).2.2 i h1 i h2 rfl
 have hne : ys ≠ xs := fun e => hxy k hk (e ▸ hk)
 have hUx : ∀ i ∈ xs, U A i := fun i hi => hF.u hx hi
 have hUy : ∀ i ∈ ys, U A i := fun i hi => hF.u hy hi
 have hlen : (xs ++ ys).length ≤ 4096 := by
  have h1 := hF.len
  rw [hr.flatten.length_eq] at h1
  simp at h1 ⊢
  omega
 refine call38 (by simp) ?_
 simp only [Try.f38, Option.getD_some]
 repeat' (first|(with_reducible first|refine jA ?_|(refine hK _ _ ?_;clear hK K)|refine jJ fun K hK=>?_|refine jK ?_|refine jL ?_|refine jM ?_|refine jN ?_|refine jO ?_|refine jP ?_|refine jQ ?_|(refine jB ?_;clear hK K)|(refine jC ?_;clear hK K)|refine jD ?_|refine jE ?_|refine jG ?_|refine jH ?_|refine jI ?_)|((with_reducible refine jR ?hq ?_);case hq=>rfl)|((first|(with_reducible first|refine jS fun K hK=>?_|refine jT ?_|refine jU ?_)|((with_reducible refine jV ?hy fun K hK=>?_);case hy=>rfl));simp only [go_sem, Nat.reduceEqDiff, Nat.reduceAdd, Nat.reduceMul, Nat.reduceLeDiff, Nat.reduceLT, Int.reduceLT, Int.reduceLE, Int.reduceEq, Int.reduceNeg, Int.reduceToNat, Nat.reducePow, reduceIte, reduceCtorEq])|((with_reducible first|refine jW ?hy ?_|refine jY ?hy ?_);case hy=>rfl)|((with_reducible first|refine jX ?hy ?_|refine jZ ?hy ?_);case hy=>rfl)|((with_reducible refine jF ?hy ?_);case hy=>decide))
 refine node_ok hF.mem (hUx k hk) ?_
 repeat' (first|(with_reducible first|refine jA ?_|(refine hK _ _ ?_;clear hK K)|refine jJ fun K hK=>?_|refine jK ?_|refine jL ?_|refine jM ?_|refine jN ?_|refine jO ?_|refine jP ?_|refine jQ ?_|(refine jB ?_;clear hK K)|(refine jC ?_;clear hK K)|refine jD ?_|refine jE ?_|refine jG ?_|refine jH ?_|refine jI ?_)|((with_reducible refine jR ?hq ?_);case hq=>rfl)|((first|(with_reducible first|refine jS fun K hK=>?_|refine jT ?_|refine jU ?_)|((with_reducible refine jV ?hy fun K hK=>?_);case hy=>rfl));simp only [go_sem, Nat.reduceEqDiff, Nat.reduceAdd, Nat.reduceMul, Nat.reduceLeDiff, Nat.reduceLT, Int.reduceLT, Int.reduceLE, Int.reduceEq, Int.reduceNeg, Int.reduceToNat, Nat.reducePow, reduceIte, reduceCtorEq])|((with_reducible first|refine jW ?hy ?_|refine jY ?hy ?_);case hy=>rfl)|((with_reducible first|refine jX ?hy ?_|refine jZ ?hy ?_);case hy=>rfl)|((with_reducible refine jF ?hy ?_);case hy=>decide))
 refine node_ok hF.mem (hUy j hj) ?_
 repeat' (first|(with_reducible first|refine jA ?_|(refine hK _ _ ?_;clear hK K)|refine jJ fun K hK=>?_|refine jK ?_|refine jL ?_|refine jM ?_|refine jN ?_|refine jO ?_|refine jP ?_|refine jQ ?_|(refine jB ?_;clear hK K)|(refine jC ?_;clear hK K)|refine jD ?_|refine jE ?_|refine jG ?_|refine jH ?_|refine jI ?_)|((with_reducible refine jR ?hq ?_);case hq=>rfl)|((first|(with_reducible first|refine jS fun K hK=>?_|refine jT ?_|refine jU ?_)|((with_reducible refine jV ?hy fun K hK=>?_);case hy=>rfl));simp only [go_sem, Nat.reduceEqDiff, Nat.reduceAdd, Nat.reduceMul, Nat.reduceLeDiff, Nat.reduceLT, Int.reduceLT, Int.reduceLE, Int.reduceEq, Int.reduceNeg, Int.reduceToNat, Nat.reducePow, reduceIte, reduceCtorEq])|((with_reducible first|refine jW ?hy ?_|refine jY ?hy ?_);case hy=>rfl)|((with_reducible first|refine jX ?hy ?_|refine jZ ?hy ?_);case hy=>rfl)|((with_reducible refine jF ?hy ?_);case hy=>decide))
 refine same_ok hF hx hk hy hj ?_
 intro H1 N1 b hF1 hf1 hb
 have hb1 : b = false := by
  cases b with
  | false => rfl
  | true => exact absurd (hb.1 rfl) hne
 subst hb1
 repeat' (first|(with_reducible first|refine jA ?_|(refine hK _ _ ?_;clear hK K)|refine jJ fun K hK=>?_|refine jK ?_|refine jL ?_|refine jM ?_|refine jN ?_|refine jO ?_|refine jP ?_|refine jQ ?_|(refine jB ?_;clear hK K)|(refine jC ?_;clear hK K)|refine jD ?_|refine jE ?_|refine jG ?_|refine jH ?_|refine jI ?_)|((with_reducible refine jR ?hq ?_);case hq=>rfl)|((first|(with_reducible first|refine jS fun K hK=>?_|refine jT ?_|refine jU ?_)|((with_reducible refine jV ?hy fun K hK=>?_);case hy=>rfl));simp only [go_sem, Nat.reduceEqDiff, Nat.reduceAdd, Nat.reduceMul, Nat.reduceLeDiff, Nat.reduceLT, Int.reduceLT, Int.reduceLE, Int.reduceEq, Int.reduceNeg, Int.reduceToNat, Nat.reducePow, reduceIte, reduceCtorEq])|((with_reducible first|refine jW ?hy ?_|refine jY ?hy ?_);case hy=>rfl)|((with_reducible first|refine jX ?hy ?_|refine jZ ?hy ?_);case hy=>rfl)|((with_reducible refine jF ?hy ?_);case hy=>decide))
 refine splay_row hF1 hx hk (hF1.apart hx) ?_
 intro H2 N2 a2 b2 hF2 ht2 e2 hf2 hoff2
 repeat' (first|(with_reducible first|refine jA ?_|(refine hK _ _ ?_;clear hK K)|refine jJ fun K hK=>?_|refine jK ?_|refine jL ?_|refine jM ?_|refine jN ?_|refine jO ?_|refine jP ?_|refine jQ ?_|(refine jB ?_;clear hK K)|(refine jC ?_;clear hK K)|refine jD ?_|refine jE ?_|refine jG ?_|refine jH ?_|refine jI ?_)|((with_reducible refine jR ?hq ?_);case hq=>rfl)|((first|(with_reducible first|refine jS fun K hK=>?_|refine jT ?_|refine jU ?_)|((with_reducible refine jV ?hy fun K hK=>?_);case hy=>rfl));simp only [go_sem, Nat.reduceEqDiff, Nat.reduceAdd, Nat.reduceMul, Nat.reduceLeDiff, Nat.reduceLT, Int.reduceLT, Int.reduceLE, Int.reduceEq, Int.reduceNeg, Int.reduceToNat, Nat.reducePow, reduceIte, reduceCtorEq])|((with_reducible first|refine jW ?hy ?_|refine jY ?hy ?_);case hy=>rfl)|((with_reducible first|refine jX ?hy ?_|refine jZ ?hy ?_);case hy=>rfl)|((with_reducible refine jF ?hy ?_);case hy=>decide))
 obtain ⟨z, hz⟩ : ∃ z, xs.getLast? = some z := by
  cases hl : xs.getLast? with
  | none => rw [List.getLast?_eq_none_iff] at hl; subst hl; cases hk
  | some z => exact ⟨z, rfl⟩
 have hzx : z ∈ xs := List.mem_of_getLast? hz
 refine end_ok (t := .node a2 k b2) (z := z) hF2.mem ht2 (fun i hi => hUx i (by rw [← e2]; exact hi)) (by rw [← hz, ← e2]; rfl) ?_
 repeat' (first|(with_reducible first|refine jA ?_|(refine hK _ _ ?_;clear hK K)|refine jJ fun K hK=>?_|refine jK ?_|refine jL ?_|refine jM ?_|refine jN ?_|refine jO ?_|refine jP ?_|refine jQ ?_|(refine jB ?_;clear hK K)|(refine jC ?_;clear hK K)|refine jD ?_|refine jE ?_|refine jG ?_|refine jH ?_|refine jI ?_)|((with_reducible refine jR ?hq ?_);case hq=>rfl)|((first|(with_reducible first|refine jS fun K hK=>?_|refine jT ?_|refine jU ?_)|((with_reducible refine jV ?hy fun K hK=>?_);case hy=>rfl));simp only [go_sem, Nat.reduceEqDiff, Nat.reduceAdd, Nat.reduceMul, Nat.reduceLeDiff, Nat.reduceLT, Int.reduceLT, Int.reduceLE, Int.reduceEq, Int.reduceNeg, Int.reduceToNat, Nat.reducePow, reduceIte, reduceCtorEq])|((with_reducible first|refine jW ?hy ?_|refine jY ?hy ?_);case hy=>rfl)|((with_reducible first|refine jX ?hy ?_|refine jZ ?hy ?_);case hy=>rfl)|((with_reducible refine jF ?hy ?_);case hy=>decide))
 refine splay_row hF2 hx hzx (hF2.apart hx) ?_
 intro H3 N3 a3 b3 hF3 ht3 e3 hf3 hoff3
 have hb3 : b3 = .nil := by
  have hnd : (a3.list ++ z :: b3.list).Nodup := by rw [e3]; exact (List.nodup_append.1 hn3.1).1
  obtain ⟨w, hw⟩ : ∃ w, xs = w ++ [z] := by
   have := List.getLast?_eq_some_iff.1 hz
   exact this
  obtain ⟨_, h0⟩ := split_unique hnd (e3.trans hw)
  cases b3 with
  | nil => rfl
  | node x y z' => simp [Tr.list] at h0
 subst hb3
 repeat' (first|(with_reducible first|refine jA ?_|(refine hK _ _ ?_;clear hK K)|refine jJ fun K hK=>?_|refine jK ?_|refine jL ?_|refine jM ?_|refine jN ?_|refine jO ?_|refine jP ?_|refine jQ ?_|(refine jB ?_;clear hK K)|(refine jC ?_;clear hK K)|refine jD ?_|refine jE ?_|refine jG ?_|refine jH ?_|refine jI ?_)|((with_reducible refine jR ?hq ?_);case hq=>rfl)|((first|(with_reducible first|refine jS fun K hK=>?_|refine jT ?_|refine jU ?_)|((with_reducible refine jV ?hy fun K hK=>?_);case hy=>rfl));simp only [go_sem, Nat.reduceEqDiff, Nat.reduceAdd, Nat.reduceMul, Nat.reduceLeDiff, Nat.reduceLT, Int.reduceLT, Int.reduceLE, Int.reduceEq, Int.reduceNeg, Int.reduceToNat, Nat.reducePow, reduceIte, reduceCtorEq])|((with_reducible first|refine jW ?hy ?_|refine jY ?hy ?_);case hy=>rfl)|((with_reducible first|refine jX ?hy ?_|refine jZ ?hy ?_);case hy=>rfl)|((with_reducible refine jF ?hy ?_);case hy=>decide))
 refine splay_row hF3 hy hj (hF3.apart hy) ?_
 intro H4 N4 a4 b4 hF4 ht4 e4 hf4 hoff4
 repeat' (first|(with_reducible first|refine jA ?_|(refine hK _ _ ?_;clear hK K)|refine jJ fun K hK=>?_|refine jK ?_|refine jL ?_|refine jM ?_|refine jN ?_|refine jO ?_|refine jP ?_|refine jQ ?_|(refine jB ?_;clear hK K)|(refine jC ?_;clear hK K)|refine jD ?_|refine jE ?_|refine jG ?_|refine jH ?_|refine jI ?_)|((with_reducible refine jR ?hq ?_);case hq=>rfl)|((first|(with_reducible first|refine jS fun K hK=>?_|refine jT ?_|refine jU ?_)|((with_reducible refine jV ?hy fun K hK=>?_);case hy=>rfl));simp only [go_sem, Nat.reduceEqDiff, Nat.reduceAdd, Nat.reduceMul, Nat.reduceLeDiff, Nat.reduceLT, Int.reduceLT, Int.reduceLE, Int.reduceEq, Int.reduceNeg, Int.reduceToNat, Nat.reducePow, reduceIte, reduceCtorEq])|((with_reducible first|refine jW ?hy ?_|refine jY ?hy ?_);case hy=>rfl)|((with_reducible first|refine jX ?hy ?_|refine jZ ?hy ?_);case hy=>rfl)|((with_reducible refine jF ?hy ?_);case hy=>decide))
 have ht3' : TrAt N4 S.it 0 (.node a3 z .nil) := ht3.congr fun i hi => hoff4 i (hxy i (by rw [← e3]; exact hi))
 refine hang_ok hF4.mem (hUx z hzx) (.inr rfl) (.inr (hUy j hj)) ?_
 intro H5 hF5 hf5
 repeat' (first|(with_reducible first|refine jA ?_|(refine hK _ _ ?_;clear hK K)|refine jJ fun K hK=>?_|refine jK ?_|refine jL ?_|refine jM ?_|refine jN ?_|refine jO ?_|refine jP ?_|refine jQ ?_|(refine jB ?_;clear hK K)|(refine jC ?_;clear hK K)|refine jD ?_|refine jE ?_|refine jG ?_|refine jH ?_|refine jI ?_)|((with_reducible refine jR ?hq ?_);case hq=>rfl)|((first|(with_reducible first|refine jS fun K hK=>?_|refine jT ?_|refine jU ?_)|((with_reducible refine jV ?hy fun K hK=>?_);case hy=>rfl));simp only [go_sem, Nat.reduceEqDiff, Nat.reduceAdd, Nat.reduceMul, Nat.reduceLeDiff, Nat.reduceLT, Int.reduceLT, Int.reduceLE, Int.reduceEq, Int.reduceNeg, Int.reduceToNat, Nat.reducePow, reduceIte, reduceCtorEq])|((with_reducible first|refine jW ?hy ?_|refine jY ?hy ?_);case hy=>rfl)|((with_reducible first|refine jX ?hy ?_|refine jZ ?hy ?_);case hy=>rfl)|((with_reducible refine jF ?hy ?_);case hy=>decide))
 refine pull_ok hF5 (hUx z hzx) ?_
 intro H6 hF6 hf6
 repeat' (first|(with_reducible first|refine jA ?_|(refine hK _ _ ?_;clear hK K)|refine jJ fun K hK=>?_|refine jK ?_|refine jL ?_|refine jM ?_|refine jN ?_|refine jO ?_|refine jP ?_|refine jQ ?_|(refine jB ?_;clear hK K)|(refine jC ?_;clear hK K)|refine jD ?_|refine jE ?_|refine jG ?_|refine jH ?_|refine jI ?_)|((with_reducible refine jR ?hq ?_);case hq=>rfl)|((first|(with_reducible first|refine jS fun K hK=>?_|refine jT ?_|refine jU ?_)|((with_reducible refine jV ?hy fun K hK=>?_);case hy=>rfl));simp only [go_sem, Nat.reduceEqDiff, Nat.reduceAdd, Nat.reduceMul, Nat.reduceLeDiff, Nat.reduceLT, Int.reduceLT, Int.reduceLE, Int.reduceEq, Int.reduceNeg, Int.reduceToNat, Nat.reducePow, reduceIte, reduceCtorEq])|((with_reducible first|refine jW ?hy ?_|refine jY ?hy ?_);case hy=>rfl)|((with_reducible first|refine jX ?hy ?_|refine jZ ?hy ?_);case hy=>rfl)|((with_reducible refine jF ?hy ?_);case hy=>decide))
 have e3' : xs = a3.list ++ [z] := e3.symm
 have e4' : (Tr.node a4 j b4).list = ys := e4
 have elist : a3.list ++ z :: (Tr.node a4 j b4).list = xs ++ ys := by rw [e4', e3']; simp
 have jt := join_tree (N := N4) (it := S.it) (t := .node a4 j b4) ht3' ht4 ht4.1 (by rw [elist]; exact hn3.1) (fun i hi => by
  rw [elist] at hi
  rcases List.mem_append.1 hi with hi | hi
  ·exact hF.may i (hUx i hi)
  ·exact hF.may i (hUy i hi)) (by rw [elist]; exact hlen)
 refine fin _ _ ⟨hF6, ?_, ?_, ?_, hF.may⟩ (((((hf1.trans hf2).trans hf3).trans hf4).trans hf5).trans hf6)
 ·intro zs hzs
  rcases List.mem_cons.1 hzs with rfl | hzs
  ·exact ⟨_, jt.1, by simpa [Tr.list] using elist⟩
  ·obtain ⟨t, h1, h2⟩ := hF4.trees zs (hr.mem_iff.2 (.tail _ (.tail _ hzs)))
   refine ⟨t, h1.congr fun i hi => jt.2 i (fun hi' => ?_), h2⟩
   rw [elist] at hi'
   exact hn3.2.2 i hi' i (List.mem_flatten.2 ⟨zs, hzs, by rw [← h2]; exact hi⟩) rfl
 ·rw [List.flatten_cons, List.nodup_append]
  exact hn3
 ·intro i
  rw [← hF.use i, hr.flatten.mem_iff]
  simp
end

section
variable {H H' : Heap} {f : Nat} {T : Nat → Prop} {S : Sq} {K : Value → Heap → Prop} {k : Nat} {R : List (List Nat)}
theorem put_ptr {p g : Nat} {A : Ar} {b : Nat} (hA : ArAt H p g 1 [.pointer none] A) (hm : A.many < A.room)
  (hk : ∀ H' g' A', ArAt H' p g' 1 [.pointer none] A' → A.get (A.free.headD A.vals.length) = none → 1 ≤ A.free.headD A.vals.length → A'.room = A.room → A'.free = A.free.tail → A'.vals.length = (if A.free = [] then A.vals.length + 1 else A.vals.length) →
   (∀ i, A'.get i = if i = A.free.headD A.vals.length then some [.pointer (some ⟨b, 0, none⟩)] else A.get i) → Fr (fun b => b = g ∨ b = p) H H' → (g' = g ∨ H.size ≤ g') → K (.tuple #[.int .i64 (A.free.headD A.vals.length : Nat), .int .i64 0]) H') :
  CallsH Try.prog 66 #[.pointer (some ⟨p, 0, none⟩), .pointer (some ⟨b, 0, none⟩)] H K := by
 have hcf := Ar.count_free A hA.ok
 cases hf : A.free with
 | nil =>
  rw [hf] at hk
  simp only [List.headD_nil, List.tail_nil, if_true] at hk
  refine ArQPtr.put_new (v := some ⟨b, 0, none⟩) hA hm hf fun H' g' hA' hfr hg => hk H' g' _ hA' ?_ ?_ rfl hf (by simp [Ar.putNew]) (fun i => Ar.get_putNew i) hfr hg
  ·unfold Ar.get; rw [List.getElem?_eq_none (Nat.le_refl _)]; rfl
  ·omega
 | cons h fs =>
  obtain ⟨h1, h2, h3⟩ := (hA.ok.mem h).1 (by rw [hf]; exact .head _)
  rw [hf] at hk
  simp only [List.headD_cons, List.tail_cons, reduceCtorEq, if_false] at hk
  exact ArQPtr.put_old (v := some ⟨b, 0, none⟩) hA hm hf fun H' hA' hfr => hk H' g _ hA' h3 h1 rfl (by simp [Ar.putOld, hf]) (by simp [Ar.putOld]) (fun i => Ar.get_putOld hA.ok hf i) hfr (.inl rfl)
theorem make_ok {x : Sp.Item} (hM : FoM H f T S) (hx : Fits x) (hx2 : May x) (hr : S.rows.flatten.length < S.room)
  (fin : ∀ H' T', FoM H' f T' (S.made x) → Fr T H H' → (∀ b, T' b → T b ∨ H.size ≤ b) → (∀ b, T b → T' b) → K (.tuple #[.int .i64 (S.next : Nat), .int .i64 0]) H') :
  CallsH Try.prog 31 #[.pointer (some ⟨f, 0, none⟩), x.val] H K := by
 have hb : mayB x = true := mayB_iff.2 hx2
 obtain ⟨p, g, A, nb, N, hF, h2, h3, h4, h5, h6⟩ := hM
 have hmany := hF.many
 simp only [] at hmany
 refine call31 (by simp) ?_
 simp only [Try.f31, Option.getD_some]
 repeat' (first|(with_reducible first|refine jA ?_|(refine hK _ _ ?_;clear hK K)|refine jJ fun K hK=>?_|refine jK ?_|refine jL ?_|refine jM ?_|refine jN ?_|refine jO ?_|refine jP ?_|refine jQ ?_|(refine jB ?_;clear hK K)|(refine jC ?_;clear hK K)|refine jD ?_|refine jE ?_|refine jG ?_|refine jH ?_|refine jI ?_)|((with_reducible refine jR ?hq ?_);case hq=>rfl)|((first|(with_reducible first|refine jS fun K hK=>?_|refine jT ?_|refine jU ?_)|((with_reducible refine jV ?hy fun K hK=>?_);case hy=>rfl));simp only [go_sem, Nat.reduceEqDiff, Nat.reduceAdd, Nat.reduceMul, Nat.reduceLeDiff, Nat.reduceLT, Int.reduceLT, Int.reduceLE, Int.reduceEq, Int.reduceNeg, Int.reduceToNat, Nat.reducePow, reduceIte, reduceCtorEq, Sp.Item.val, hcell_push, hcell_top, okW_push, okW_top, hcell_hset_ne, hcell_hset_off, hcell_hset_eq, okW_hset, hset_size, Array.size_push, Nat.lt_add_one, ne_add_one, add_one_ne, Nat.add_assoc, add_same, add_lt_same, Nat.reduceEqDiff, lt_add_k, add_k_ne, ne_add_k])|((with_reducible first|refine jW ?hy ?_|refine jY ?hy ?_);case hy=>rfl)|((with_reducible first|refine jX ?hy ?_|refine jZ ?hy ?_);case hy=>rfl)|((with_reducible refine jF ?hy ?_);case hy=>decide))
 refine may_ok hx ?_
 intro H1 hf1
 have hf01 : Fr (fun _ => False) H H1 := Fr.trans ((Fr.refl _ _).push _) hf1
 have hx1 : Cells [(H.size, 0, .int .i64 x.value), (H.size, 1, .bool x.counts), (H.size, 2, .int .i64 x.flags)] H1 := by
  refine Cells.grow (H := H.push (.cells #[.int .i64 x.value, .bool x.counts, .int .i64 x.flags] 79)) ?_ hf1
  simp only [go_sem, Nat.reduceEqDiff, Nat.reduceAdd, Nat.reduceMul, Nat.reduceLeDiff, Nat.reduceLT, Int.reduceLT, Int.reduceLE, Int.reduceEq, Int.reduceNeg, Int.reduceToNat, Nat.reducePow, reduceIte, reduceCtorEq, Cells, and_true, hcell_push, hcell_top, okW_push, okW_top, hcell_hset_ne, hcell_hset_off, hcell_hset_eq, okW_hset, hset_size, Array.size_push, Nat.lt_add_one, ne_add_one, add_one_ne, Nat.add_assoc, add_same, add_lt_same, Nat.reduceEqDiff, lt_add_k, add_k_ne, ne_add_k]
 simp only [Cells, and_true] at hx1
 have hs1 := hf01.size
 rw [hb]
 repeat' (first|(with_reducible first|refine jA ?_|(refine hK _ _ ?_;clear hK K)|refine jJ fun K hK=>?_|refine jK ?_|refine jL ?_|refine jM ?_|refine jN ?_|refine jO ?_|refine jP ?_|refine jQ ?_|(refine jB ?_;clear hK K)|(refine jC ?_;clear hK K)|refine jD ?_|refine jE ?_|refine jG ?_|refine jH ?_|refine jI ?_)|((with_reducible refine jR ?hq ?_);case hq=>rfl)|((first|(with_reducible first|refine jS fun K hK=>?_|refine jT ?_|refine jU ?_)|((with_reducible refine jV ?hy fun K hK=>?_);case hy=>rfl));simp only [go_sem, Nat.reduceEqDiff, Nat.reduceAdd, Nat.reduceMul, Nat.reduceLeDiff, Nat.reduceLT, Int.reduceLT, Int.reduceLE, Int.reduceEq, Int.reduceNeg, Int.reduceToNat, Nat.reducePow, reduceIte, reduceCtorEq, Sp.Item.val, hx1, hcell_push, hcell_top, okW_push, okW_top, hcell_hset_ne, hcell_hset_off, hcell_hset_eq, okW_hset, hset_size, Array.size_push, Nat.lt_add_one, ne_add_one, add_one_ne, Nat.add_assoc, add_same, add_lt_same, Nat.reduceEqDiff, lt_add_k, add_k_ne, ne_add_k])|((with_reducible first|refine jW ?hy ?_|refine jY ?hy ?_);case hy=>rfl)|((with_reducible first|refine jX ?hy ?_|refine jZ ?hy ?_);case hy=>rfl)|((with_reducible refine jF ?hy ?_);case hy=>decide))
 have hF1 := hF.grow hf01
 have hb2 : Blk (H1.push (.cells #[.int .i64 x.value, .bool x.counts, .int .i64 x.flags, .int .i64 0, .int .i64 0, .int .i64 0, .int .i64 1, .int .i64 0, .int .i64 0, .int .i64 0, .int .i64 0, .int .i64 0] 104)) H1.size (Rec.mk x 0 0 0 1 Agg.zero).cells := Blk.new H1 _ _
 generalize hH2 : H1.push _ = H2 at hb2 ⊢
 have hf2 : Fr (fun _ => False) H1 H2 := by rw [← hH2]; exact (Fr.refl _ _).push _
 have hs2 : H1.size < H2.size := by rw [← hH2]; simp
 refine own_ok hb2 ?_
 intro H3 hf3
 have hb3 := hb2.frame hf3 (fun h => h)
 have w7 := hb3.okW (i := 7) (by simp [Rec.cells])
 have w8 := hb3.okW (i := 8) (by simp [Rec.cells])
 have w9 := hb3.okW (i := 9) (by simp [Rec.cells])
 have w10 := hb3.okW (i := 10) (by simp [Rec.cells])
 have w11 := hb3.okW (i := 11) (by simp [Rec.cells])
 have hs3 := hf3.size
 have hfl : f < H.size := hF.mem.ff.lt
 have hne : ¬ f = H1.size := by omega
 have c0 := ((hF1.grow hf2).grow hf3).mem.ff.cellOf (i := 0) rfl
 repeat' (first|(with_reducible first|refine jA ?_|(refine hK _ _ ?_;clear hK K)|refine jJ fun K hK=>?_|refine jK ?_|refine jL ?_|refine jM ?_|refine jN ?_|refine jO ?_|refine jP ?_|refine jQ ?_|(refine jB ?_;clear hK K)|(refine jC ?_;clear hK K)|refine jD ?_|refine jE ?_|refine jG ?_|refine jH ?_|refine jI ?_)|((with_reducible refine jR ?hq ?_);case hq=>rfl)|((first|(with_reducible first|refine jS fun K hK=>?_|refine jT ?_|refine jU ?_)|((with_reducible refine jV ?hy fun K hK=>?_);case hy=>rfl));simp only [go_sem, Nat.reduceEqDiff, Nat.reduceAdd, Nat.reduceMul, Nat.reduceLeDiff, Nat.reduceLT, Int.reduceLT, Int.reduceLE, Int.reduceEq, Int.reduceNeg, Int.reduceToNat, Nat.reducePow, reduceIte, reduceCtorEq, Agg.val, w7, w8, w9, w10, w11, okW_hset, hcell_hset_ne, hne, c0, not_false_eq_true])|((with_reducible first|refine jW ?hy ?_|refine jY ?hy ?_);case hy=>rfl)|((with_reducible first|refine jX ?hy ?_|refine jZ ?hy ?_);case hy=>rfl)|((with_reducible refine jF ?hy ?_);case hy=>decide))
 have hb4 : Blk (hset (hset (hset (hset (hset H3 ⟨H1.size, 7, none⟩ (.int .i64 (ownA x).count)) ⟨H1.size, 8, none⟩ (.int .i64 (ownA x).sum)) ⟨H1.size, 9, none⟩ (.int .i64 (ownA x).least)) ⟨H1.size, 10, none⟩ (.int .i64 (ownA x).most)) ⟨H1.size, 11, none⟩ (.int .i64 (ownA x).flags)) H1.size (Rec.mk x 0 0 0 1 (ownA x)).cells :=
  ((((hb3.set_same 7 (.int .i64 (ownA x).count)).set_same 8 (.int .i64 (ownA x).sum)).set_same 9 (.int .i64 (ownA x).least)).set_same 10 (.int .i64 (ownA x).most)).set_same 11 (.int .i64 (ownA x).flags)
 have hf4 : Fr (fun _ => False) H1 (hset (hset (hset (hset (hset H3 ⟨H1.size, 7, none⟩ (.int .i64 (ownA x).count)) ⟨H1.size, 8, none⟩ (.int .i64 (ownA x).sum)) ⟨H1.size, 9, none⟩ (.int .i64 (ownA x).least)) ⟨H1.size, 10, none⟩ (.int .i64 (ownA x).most)) ⟨H1.size, 11, none⟩ (.int .i64 (ownA x).flags)) := by
  have step : ∀ {H' : Heap} (o : Nat) (v : Value), Fr (fun _ => False) H1 H' → Fr (fun _ => False) H1 (hset H' ⟨H1.size, o, none⟩ v) := fun o v h => Fr.set (S := fun _ => False) (a := ⟨H1.size, o, none⟩) h (.inr (Nat.le_refl _)) v
  exact step 11 _ (step 10 _ (step 9 _ (step 8 _ (step 7 _ (hf2.trans hf3)))))
 generalize hset (hset (hset (hset (hset H3 ⟨H1.size, 7, none⟩ (.int .i64 (ownA x).count)) ⟨H1.size, 8, none⟩ (.int .i64 (ownA x).sum)) ⟨H1.size, 9, none⟩ (.int .i64 (ownA x).least)) ⟨H1.size, 10, none⟩ (.int .i64 (ownA x).most)) ⟨H1.size, 11, none⟩ (.int .i64 (ownA x).flags) = H4 at hb4 hf4 ⊢
 have hF4 := hF1.grow hf4
 have hnl : ∀ i, U A i → nb i ≠ H1.size := fun i hi => by have := (hF1.mem.nd i hi).lt; omega
 obtain ⟨cc, rest, q1, q2, _⟩ := hF1.mem.ar.at_
 have hpl := q1.lt
 have hgl := q2.lt
 refine put_ptr hF4.mem.ar (by rw [h2, ← hmany]; exact hr) ?_
 intro H5 g5 A5 hA5 hn5 h15 hr5 hfr5 hl5 hg5 hf5 hgg5
 have hF5 := hF4.made hx2 h15 hb4 hnl (by omega) hA5 hn5 hg5 hf5 hgg5
 have enext : S.next = A.free.headD A.vals.length := by unfold Sq.next; rw [← h4, ← h3]
 rw [← enext] at hF5 hg5
 rw [← enext]
 repeat' (first|(with_reducible first|refine jA ?_|(refine hK _ _ ?_;clear hK K)|refine jJ fun K hK=>?_|refine jK ?_|refine jL ?_|refine jM ?_|refine jN ?_|refine jO ?_|refine jP ?_|refine jQ ?_|(refine jB ?_;clear hK K)|(refine jC ?_;clear hK K)|refine jD ?_|refine jE ?_|refine jG ?_|refine jH ?_|refine jI ?_)|((with_reducible refine jR ?hq ?_);case hq=>rfl)|((first|(with_reducible first|refine jS fun K hK=>?_|refine jT ?_|refine jU ?_)|((with_reducible refine jV ?hy fun K hK=>?_);case hy=>rfl));simp only [go_sem, Nat.reduceEqDiff, Nat.reduceAdd, Nat.reduceMul, Nat.reduceLeDiff, Nat.reduceLT, Int.reduceLT, Int.reduceLE, Int.reduceEq, Int.reduceNeg, Int.reduceToNat, Nat.reducePow, reduceIte, reduceCtorEq])|((with_reducible first|refine jW ?hy ?_|refine jY ?hy ?_);case hy=>rfl)|((with_reducible first|refine jX ?hy ?_|refine jZ ?hy ?_);case hy=>rfl)|((with_reducible refine jF ?hy ?_);case hy=>decide))
 have hs4 := hf4.size
 have hb4l := hb4.lt
 have hs5 := hf5.size
 refine fin H5 (fun b => T b ∨ (H.size ≤ b ∧ b < H5.size)) ⟨p, g5, A5, _, _, hF5, by rw [hr5, h2]; rfl, ?_, by rw [hfr5, h4]; rfl, ?_, ?_⟩ ?_ ?_ (fun b hb => .inl hb)
 ·rw [hl5, h4, h3]; rfl
 ·rintro b (rfl | rfl | rfl | ⟨i, hi, rfl⟩)
  ·exact .inl (h5 _ (.inl rfl))
  ·exact .inl (h5 _ (.inr (.inl rfl)))
  ·rcases hgg5 with rfl | hgg
   ·exact .inl (h5 _ (.inr (.inr (.inl rfl))))
   ·refine .inr ⟨by omega, ?_⟩
    obtain ⟨_, _, _, q2', _⟩ := hF5.mem.ar.at_
    exact q2'.lt
  ·by_cases e : i = S.next
   ·simp only [e, if_true]
    exact .inr ⟨by omega, by omega⟩
   ·simp only [e, if_false]
    refine .inl (h5 _ (.inr (.inr (.inr ⟨i, ?_, rfl⟩))))
    unfold U at hi ⊢
    rw [hg5, if_neg e] at hi
    exact hi
 ·rintro b (hb | hb)
  ·have := h6 b hb; omega
  ·exact hb.2
 ·refine (hf01.trans hf4).mono (S' := T) (fun _ _ h => h.elim) |>.trans' hf5 fun b hb e => ?_
  rcases e with rfl | rfl
  ·exact h5 _ (.inr (.inr (.inl rfl)))
  ·exact h5 _ (.inr (.inl rfl))
 ·rintro b (hb | hb)
  ·exact .inl hb
  ·exact .inr hb.1
theorem make_full {x : Sp.Item} (hM : FoM H f T S) (hx : Fits x) (hx2 : May x) (hr : S.rows.flatten.length = S.room) (fin : ∀ H', Fr (fun _ => False) H H' → K (.tuple #[.int .i64 0, .int .i64 30]) H') :
  CallsH Try.prog 31 #[.pointer (some ⟨f, 0, none⟩), x.val] H K := by
 have hb : mayB x = true := mayB_iff.2 hx2
 obtain ⟨p, g, A, nb, N, hF, h2, h3, h4, h5, h6⟩ := hM
 have hmany := hF.many
 simp only [] at hmany
 refine call31 (by simp) ?_
 simp only [Try.f31, Option.getD_some]
 repeat' (first|(with_reducible first|refine jA ?_|(refine hK _ _ ?_;clear hK K)|refine jJ fun K hK=>?_|refine jK ?_|refine jL ?_|refine jM ?_|refine jN ?_|refine jO ?_|refine jP ?_|refine jQ ?_|(refine jB ?_;clear hK K)|(refine jC ?_;clear hK K)|refine jD ?_|refine jE ?_|refine jG ?_|refine jH ?_|refine jI ?_)|((with_reducible refine jR ?hq ?_);case hq=>rfl)|((first|(with_reducible first|refine jS fun K hK=>?_|refine jT ?_|refine jU ?_)|((with_reducible refine jV ?hy fun K hK=>?_);case hy=>rfl));simp only [go_sem, Nat.reduceEqDiff, Nat.reduceAdd, Nat.reduceMul, Nat.reduceLeDiff, Nat.reduceLT, Int.reduceLT, Int.reduceLE, Int.reduceEq, Int.reduceNeg, Int.reduceToNat, Nat.reducePow, reduceIte, reduceCtorEq, Sp.Item.val, hcell_push, hcell_top, okW_push, okW_top, hcell_hset_ne, hcell_hset_off, hcell_hset_eq, okW_hset, hset_size, Array.size_push, Nat.lt_add_one, ne_add_one, add_one_ne, Nat.add_assoc, add_same, add_lt_same, Nat.reduceEqDiff, lt_add_k, add_k_ne, ne_add_k])|((with_reducible first|refine jW ?hy ?_|refine jY ?hy ?_);case hy=>rfl)|((with_reducible first|refine jX ?hy ?_|refine jZ ?hy ?_);case hy=>rfl)|((with_reducible refine jF ?hy ?_);case hy=>decide))
 refine may_ok hx ?_
 intro H1 hf1
 have hf01 : Fr (fun _ => False) H H1 := Fr.trans ((Fr.refl _ _).push _) hf1
 have hx1 : Cells [(H.size, 0, .int .i64 x.value), (H.size, 1, .bool x.counts), (H.size, 2, .int .i64 x.flags)] H1 := by
  refine Cells.grow (H := H.push (.cells #[.int .i64 x.value, .bool x.counts, .int .i64 x.flags] 79)) ?_ hf1
  simp only [go_sem, Nat.reduceEqDiff, Nat.reduceAdd, Nat.reduceMul, Nat.reduceLeDiff, Nat.reduceLT, Int.reduceLT, Int.reduceLE, Int.reduceEq, Int.reduceNeg, Int.reduceToNat, Nat.reducePow, reduceIte, reduceCtorEq, Cells, and_true, hcell_push, hcell_top, okW_push, okW_top, hcell_hset_ne, hcell_hset_off, hcell_hset_eq, okW_hset, hset_size, Array.size_push, Nat.lt_add_one, ne_add_one, add_one_ne, Nat.add_assoc, add_same, add_lt_same, Nat.reduceEqDiff, lt_add_k, add_k_ne, ne_add_k]
 simp only [Cells, and_true] at hx1
 have hs1 := hf01.size
 rw [hb]
 repeat' (first|(with_reducible first|refine jA ?_|(refine hK _ _ ?_;clear hK K)|refine jJ fun K hK=>?_|refine jK ?_|refine jL ?_|refine jM ?_|refine jN ?_|refine jO ?_|refine jP ?_|refine jQ ?_|(refine jB ?_;clear hK K)|(refine jC ?_;clear hK K)|refine jD ?_|refine jE ?_|refine jG ?_|refine jH ?_|refine jI ?_)|((with_reducible refine jR ?hq ?_);case hq=>rfl)|((first|(with_reducible first|refine jS fun K hK=>?_|refine jT ?_|refine jU ?_)|((with_reducible refine jV ?hy fun K hK=>?_);case hy=>rfl));simp only [go_sem, Nat.reduceEqDiff, Nat.reduceAdd, Nat.reduceMul, Nat.reduceLeDiff, Nat.reduceLT, Int.reduceLT, Int.reduceLE, Int.reduceEq, Int.reduceNeg, Int.reduceToNat, Nat.reducePow, reduceIte, reduceCtorEq, Sp.Item.val, hx1, hcell_push, hcell_top, okW_push, okW_top, hcell_hset_ne, hcell_hset_off, hcell_hset_eq, okW_hset, hset_size, Array.size_push, Nat.lt_add_one, ne_add_one, add_one_ne, Nat.add_assoc, add_same, add_lt_same, Nat.reduceEqDiff, lt_add_k, add_k_ne, ne_add_k])|((with_reducible first|refine jW ?hy ?_|refine jY ?hy ?_);case hy=>rfl)|((with_reducible first|refine jX ?hy ?_|refine jZ ?hy ?_);case hy=>rfl)|((with_reducible refine jF ?hy ?_);case hy=>decide))
 have hF1 := hF.grow hf01
 have hb2 : Blk (H1.push (.cells #[.int .i64 x.value, .bool x.counts, .int .i64 x.flags, .int .i64 0, .int .i64 0, .int .i64 0, .int .i64 1, .int .i64 0, .int .i64 0, .int .i64 0, .int .i64 0, .int .i64 0] 104)) H1.size (Rec.mk x 0 0 0 1 Agg.zero).cells := Blk.new H1 _ _
 generalize hH2 : H1.push _ = H2 at hb2 ⊢
 have hf2 : Fr (fun _ => False) H1 H2 := by rw [← hH2]; exact (Fr.refl _ _).push _
 refine own_ok hb2 ?_
 intro H3 hf3
 have hb3 := hb2.frame hf3 (fun h => h)
 have w7 := hb3.okW (i := 7) (by simp [Rec.cells])
 have w8 := hb3.okW (i := 8) (by simp [Rec.cells])
 have w9 := hb3.okW (i := 9) (by simp [Rec.cells])
 have w10 := hb3.okW (i := 10) (by simp [Rec.cells])
 have w11 := hb3.okW (i := 11) (by simp [Rec.cells])
 have hfl : f < H.size := hF.mem.ff.lt
 have hne : ¬ f = H1.size := by omega
 have c0 := ((hF1.grow hf2).grow hf3).mem.ff.cellOf (i := 0) rfl
 repeat' (first|(with_reducible first|refine jA ?_|(refine hK _ _ ?_;clear hK K)|refine jJ fun K hK=>?_|refine jK ?_|refine jL ?_|refine jM ?_|refine jN ?_|refine jO ?_|refine jP ?_|refine jQ ?_|(refine jB ?_;clear hK K)|(refine jC ?_;clear hK K)|refine jD ?_|refine jE ?_|refine jG ?_|refine jH ?_|refine jI ?_)|((with_reducible refine jR ?hq ?_);case hq=>rfl)|((first|(with_reducible first|refine jS fun K hK=>?_|refine jT ?_|refine jU ?_)|((with_reducible refine jV ?hy fun K hK=>?_);case hy=>rfl));simp only [go_sem, Nat.reduceEqDiff, Nat.reduceAdd, Nat.reduceMul, Nat.reduceLeDiff, Nat.reduceLT, Int.reduceLT, Int.reduceLE, Int.reduceEq, Int.reduceNeg, Int.reduceToNat, Nat.reducePow, reduceIte, reduceCtorEq, Agg.val, w7, w8, w9, w10, w11, okW_hset, hcell_hset_ne, hne, c0, not_false_eq_true])|((with_reducible first|refine jW ?hy ?_|refine jY ?hy ?_);case hy=>rfl)|((with_reducible first|refine jX ?hy ?_|refine jZ ?hy ?_);case hy=>rfl)|((with_reducible refine jF ?hy ?_);case hy=>decide))
 have hf4 : Fr (fun _ => False) H1 (hset (hset (hset (hset (hset H3 ⟨H1.size, 7, none⟩ (.int .i64 (ownA x).count)) ⟨H1.size, 8, none⟩ (.int .i64 (ownA x).sum)) ⟨H1.size, 9, none⟩ (.int .i64 (ownA x).least)) ⟨H1.size, 10, none⟩ (.int .i64 (ownA x).most)) ⟨H1.size, 11, none⟩ (.int .i64 (ownA x).flags)) := by
  have step : ∀ {H' : Heap} (o : Nat) (v : Value), Fr (fun _ => False) H1 H' → Fr (fun _ => False) H1 (hset H' ⟨H1.size, o, none⟩ v) := fun o v h => Fr.set (S := fun _ => False) (a := ⟨H1.size, o, none⟩) h (.inr (Nat.le_refl _)) v
  exact step 11 _ (step 10 _ (step 9 _ (step 8 _ (step 7 _ (hf2.trans hf3)))))
 refine ArQPtr.put_full (v := some ⟨H1.size, 0, none⟩) (hF1.grow hf4).mem.ar (by rw [h2, ← hmany]; exact hr) ?_
 repeat' (first|(with_reducible first|refine jA ?_|(refine hK _ _ ?_;clear hK K)|refine jJ fun K hK=>?_|refine jK ?_|refine jL ?_|refine jM ?_|refine jN ?_|refine jO ?_|refine jP ?_|refine jQ ?_|(refine jB ?_;clear hK K)|(refine jC ?_;clear hK K)|refine jD ?_|refine jE ?_|refine jG ?_|refine jH ?_|refine jI ?_)|((with_reducible refine jR ?hq ?_);case hq=>rfl)|((first|(with_reducible first|refine jS fun K hK=>?_|refine jT ?_|refine jU ?_)|((with_reducible refine jV ?hy fun K hK=>?_);case hy=>rfl));simp only [go_sem, Nat.reduceEqDiff, Nat.reduceAdd, Nat.reduceMul, Nat.reduceLeDiff, Nat.reduceLT, Int.reduceLT, Int.reduceLE, Int.reduceEq, Int.reduceNeg, Int.reduceToNat, Nat.reducePow, reduceIte, reduceCtorEq])|((with_reducible first|refine jW ?hy ?_|refine jY ?hy ?_);case hy=>rfl)|((with_reducible first|refine jX ?hy ?_|refine jZ ?hy ?_);case hy=>rfl)|((with_reducible refine jF ?hy ?_);case hy=>decide))
 exact fin _ (hf01.trans hf4)
theorem free_none {i : Int} (hM : FoM H f T S) (hi : ¬ S.Has i) (fin : K (.int .i64 31) H) : CallsH Try.prog 75 #[.pointer (some ⟨f, 0, none⟩), .int .i64 i] H K := by
 obtain ⟨p, g, A, nb, N, hF, h2, h3, h4, h5, h6⟩ := hM
 refine call75 (by simp) ?_
 simp only [Try.f75, Option.getD_some]
 repeat' (first|(with_reducible first|refine jA ?_|(refine hK _ _ ?_;clear hK K)|refine jJ fun K hK=>?_|refine jK ?_|refine jL ?_|refine jM ?_|refine jN ?_|refine jO ?_|refine jP ?_|refine jQ ?_|(refine jB ?_;clear hK K)|(refine jC ?_;clear hK K)|refine jD ?_|refine jE ?_|refine jG ?_|refine jH ?_|refine jI ?_)|((with_reducible refine jR ?hq ?_);case hq=>rfl)|((first|(with_reducible first|refine jS fun K hK=>?_|refine jT ?_|refine jU ?_)|((with_reducible refine jV ?hy fun K hK=>?_);case hy=>rfl));simp only [go_sem, Nat.reduceEqDiff, Nat.reduceAdd, Nat.reduceMul, Nat.reduceLeDiff, Nat.reduceLT, Int.reduceLT, Int.reduceLE, Int.reduceEq, Int.reduceNeg, Int.reduceToNat, Nat.reducePow, reduceIte, reduceCtorEq])|((with_reducible first|refine jW ?hy ?_|refine jY ?hy ?_);case hy=>rfl)|((with_reducible first|refine jX ?hy ?_|refine jZ ?hy ?_);case hy=>rfl)|((with_reducible refine jF ?hy ?_);case hy=>decide))
 refine node_no hF.mem (hF.none hi) ?_
 repeat' (first|(with_reducible first|refine jA ?_|(refine hK _ _ ?_;clear hK K)|refine jJ fun K hK=>?_|refine jK ?_|refine jL ?_|refine jM ?_|refine jN ?_|refine jO ?_|refine jP ?_|refine jQ ?_|(refine jB ?_;clear hK K)|(refine jC ?_;clear hK K)|refine jD ?_|refine jE ?_|refine jG ?_|refine jH ?_|refine jI ?_)|((with_reducible refine jR ?hq ?_);case hq=>rfl)|((first|(with_reducible first|refine jS fun K hK=>?_|refine jT ?_|refine jU ?_)|((with_reducible refine jV ?hy fun K hK=>?_);case hy=>rfl));simp only [go_sem, Nat.reduceEqDiff, Nat.reduceAdd, Nat.reduceMul, Nat.reduceLeDiff, Nat.reduceLT, Int.reduceLT, Int.reduceLE, Int.reduceEq, Int.reduceNeg, Int.reduceToNat, Nat.reducePow, reduceIte, reduceCtorEq])|((with_reducible first|refine jW ?hy ?_|refine jY ?hy ?_);case hy=>rfl)|((with_reducible first|refine jX ?hy ?_|refine jZ ?hy ?_);case hy=>rfl)|((with_reducible refine jF ?hy ?_);case hy=>decide))
 exact fin
theorem free_busy {xs : List Nat} (hM : FoM H f T S) (hx : xs ∈ S.rows) (hk : k ∈ xs) (hl : 1 < xs.length) (fin : ∀ H', FoM H' f T S → Fr T H H' → K (.int .i64 32) H') : CallsH Try.prog 75 #[.pointer (some ⟨f, 0, none⟩), .int .i64 k] H K := by
 obtain ⟨p, g, A, nb, N, hF, h2, h3, h4, h5, h6⟩ := hM
 have hU := hF.u hx hk
 refine call75 (by simp) ?_
 simp only [Try.f75, Option.getD_some]
 repeat' (first|(with_reducible first|refine jA ?_|(refine hK _ _ ?_;clear hK K)|refine jJ fun K hK=>?_|refine jK ?_|refine jL ?_|refine jM ?_|refine jN ?_|refine jO ?_|refine jP ?_|refine jQ ?_|(refine jB ?_;clear hK K)|(refine jC ?_;clear hK K)|refine jD ?_|refine jE ?_|refine jG ?_|refine jH ?_|refine jI ?_)|((with_reducible refine jR ?hq ?_);case hq=>rfl)|((first|(with_reducible first|refine jS fun K hK=>?_|refine jT ?_|refine jU ?_)|((with_reducible refine jV ?hy fun K hK=>?_);case hy=>rfl));simp only [go_sem, Nat.reduceEqDiff, Nat.reduceAdd, Nat.reduceMul, Nat.reduceLeDiff, Nat.reduceLT, Int.reduceLT, Int.reduceLE, Int.reduceEq, Int.reduceNeg, Int.reduceToNat, Nat.reducePow, reduceIte, reduceCtorEq])|((with_reducible first|refine jW ?hy ?_|refine jY ?hy ?_);case hy=>rfl)|((with_reducible first|refine jX ?hy ?_|refine jZ ?hy ?_);case hy=>rfl)|((with_reducible refine jF ?hy ?_);case hy=>decide))
 refine node_ok hF.mem hU ?_
 repeat' (first|(with_reducible first|refine jA ?_|(refine hK _ _ ?_;clear hK K)|refine jJ fun K hK=>?_|refine jK ?_|refine jL ?_|refine jM ?_|refine jN ?_|refine jO ?_|refine jP ?_|refine jQ ?_|(refine jB ?_;clear hK K)|(refine jC ?_;clear hK K)|refine jD ?_|refine jE ?_|refine jG ?_|refine jH ?_|refine jI ?_)|((with_reducible refine jR ?hq ?_);case hq=>rfl)|((first|(with_reducible first|refine jS fun K hK=>?_|refine jT ?_|refine jU ?_)|((with_reducible refine jV ?hy fun K hK=>?_);case hy=>rfl));simp only [go_sem, Nat.reduceEqDiff, Nat.reduceAdd, Nat.reduceMul, Nat.reduceLeDiff, Nat.reduceLT, Int.reduceLT, Int.reduceLE, Int.reduceEq, Int.reduceNeg, Int.reduceToNat, Nat.reducePow, reduceIte, reduceCtorEq])|((with_reducible first|refine jW ?hy ?_|refine jY ?hy ?_);case hy=>rfl)|((with_reducible first|refine jX ?hy ?_|refine jZ ?hy ?_);case hy=>rfl)|((with_reducible refine jF ?hy ?_);case hy=>decide))
 refine splay_row hF hx hk (hF.apart hx) ?_
 intro H2 N2 a b hF2 ht e hf hoff
 have c6 := (hF2.mem.nd k hU).cellOf (i := 6) rfl
 have em : (N2 k).many = (xs.length : Int) := by
  obtain ⟨_, ek, _⟩ := ht
  rw [ek, ← e]; rfl
 rw [em] at c6
 have t1 : (1 < (xs.length : Int)) = True := by simp; omega
 repeat' (first|(with_reducible first|refine jA ?_|(refine hK _ _ ?_;clear hK K)|refine jJ fun K hK=>?_|refine jK ?_|refine jL ?_|refine jM ?_|refine jN ?_|refine jO ?_|refine jP ?_|refine jQ ?_|(refine jB ?_;clear hK K)|(refine jC ?_;clear hK K)|refine jD ?_|refine jE ?_|refine jG ?_|refine jH ?_|refine jI ?_)|((with_reducible refine jR ?hq ?_);case hq=>rfl)|((first|(with_reducible first|refine jS fun K hK=>?_|refine jT ?_|refine jU ?_)|((with_reducible refine jV ?hy fun K hK=>?_);case hy=>rfl));simp only [go_sem, Nat.reduceEqDiff, Nat.reduceAdd, Nat.reduceMul, Nat.reduceLeDiff, Nat.reduceLT, Int.reduceLT, Int.reduceLE, Int.reduceEq, Int.reduceNeg, Int.reduceToNat, Nat.reducePow, reduceIte, reduceCtorEq, c6, t1])|((with_reducible first|refine jW ?hy ?_|refine jY ?hy ?_);case hy=>rfl)|((with_reducible first|refine jX ?hy ?_|refine jZ ?hy ?_);case hy=>rfl)|((with_reducible refine jF ?hy ?_);case hy=>decide))
 exact fin _ ⟨p, g, A, nb, N2, hF2, h2, h3, h4, h5, fun b hb => Nat.lt_of_lt_of_le (h6 b hb) hf.size⟩ (hf.mono fun b _ hb => h5 b (.inr (.inr (.inr hb))))
theorem free_ok (hM : FoM H f T S) (hr : S.rows.Perm ([k] :: R)) (fin : ∀ H', FoM H' f T (S.freed k R) → Fr T H H' → K (.int .i64 0) H') : CallsH Try.prog 75 #[.pointer (some ⟨f, 0, none⟩), .int .i64 k] H K := by
 obtain ⟨p, g, A, nb, N, hF, h2, h3, h4, h5, h6⟩ := hM
 have hx : [k] ∈ S.rows := hr.mem_iff.2 (.head _)
 have hU := hF.u hx (.head _)
 refine call75 (by simp) ?_
 simp only [Try.f75, Option.getD_some]
 repeat' (first|(with_reducible first|refine jA ?_|(refine hK _ _ ?_;clear hK K)|refine jJ fun K hK=>?_|refine jK ?_|refine jL ?_|refine jM ?_|refine jN ?_|refine jO ?_|refine jP ?_|refine jQ ?_|(refine jB ?_;clear hK K)|(refine jC ?_;clear hK K)|refine jD ?_|refine jE ?_|refine jG ?_|refine jH ?_|refine jI ?_)|((with_reducible refine jR ?hq ?_);case hq=>rfl)|((first|(with_reducible first|refine jS fun K hK=>?_|refine jT ?_|refine jU ?_)|((with_reducible refine jV ?hy fun K hK=>?_);case hy=>rfl));simp only [go_sem, Nat.reduceEqDiff, Nat.reduceAdd, Nat.reduceMul, Nat.reduceLeDiff, Nat.reduceLT, Int.reduceLT, Int.reduceLE, Int.reduceEq, Int.reduceNeg, Int.reduceToNat, Nat.reducePow, reduceIte, reduceCtorEq])|((with_reducible first|refine jW ?hy ?_|refine jY ?hy ?_);case hy=>rfl)|((with_reducible first|refine jX ?hy ?_|refine jZ ?hy ?_);case hy=>rfl)|((with_reducible refine jF ?hy ?_);case hy=>decide))
 refine node_ok hF.mem hU ?_
 repeat' (first|(with_reducible first|refine jA ?_|(refine hK _ _ ?_;clear hK K)|refine jJ fun K hK=>?_|refine jK ?_|refine jL ?_|refine jM ?_|refine jN ?_|refine jO ?_|refine jP ?_|refine jQ ?_|(refine jB ?_;clear hK K)|(refine jC ?_;clear hK K)|refine jD ?_|refine jE ?_|refine jG ?_|refine jH ?_|refine jI ?_)|((with_reducible refine jR ?hq ?_);case hq=>rfl)|((first|(with_reducible first|refine jS fun K hK=>?_|refine jT ?_|refine jU ?_)|((with_reducible refine jV ?hy fun K hK=>?_);case hy=>rfl));simp only [go_sem, Nat.reduceEqDiff, Nat.reduceAdd, Nat.reduceMul, Nat.reduceLeDiff, Nat.reduceLT, Int.reduceLT, Int.reduceLE, Int.reduceEq, Int.reduceNeg, Int.reduceToNat, Nat.reducePow, reduceIte, reduceCtorEq])|((with_reducible first|refine jW ?hy ?_|refine jY ?hy ?_);case hy=>rfl)|((with_reducible first|refine jX ?hy ?_|refine jZ ?hy ?_);case hy=>rfl)|((with_reducible refine jF ?hy ?_);case hy=>decide))
 refine splay_row hF hx (.head _) (hF.apart hx) ?_
 intro H2 N2 a b hF2 ht e hf hoff
 have c6 := (hF2.mem.nd k hU).cellOf (i := 6) rfl
 have em : (N2 k).many = 1 := by
  obtain ⟨_, ek, _⟩ := ht
  rw [ek, recOf, e]; rfl
 rw [em] at c6
 have c0 := hF2.mem.ff.cellOf (i := 0) rfl
 repeat' (first|(with_reducible first|refine jA ?_|(refine hK _ _ ?_;clear hK K)|refine jJ fun K hK=>?_|refine jK ?_|refine jL ?_|refine jM ?_|refine jN ?_|refine jO ?_|refine jP ?_|refine jQ ?_|(refine jB ?_;clear hK K)|(refine jC ?_;clear hK K)|refine jD ?_|refine jE ?_|refine jG ?_|refine jH ?_|refine jI ?_)|((with_reducible refine jR ?hq ?_);case hq=>rfl)|((first|(with_reducible first|refine jS fun K hK=>?_|refine jT ?_|refine jU ?_)|((with_reducible refine jV ?hy fun K hK=>?_);case hy=>rfl));simp only [go_sem, Nat.reduceEqDiff, Nat.reduceAdd, Nat.reduceMul, Nat.reduceLeDiff, Nat.reduceLT, Int.reduceLT, Int.reduceLE, Int.reduceEq, Int.reduceNeg, Int.reduceToNat, Nat.reducePow, reduceIte, reduceCtorEq, c6, c0])|((with_reducible first|refine jW ?hy ?_|refine jY ?hy ?_);case hy=>rfl)|((with_reducible first|refine jX ?hy ?_|refine jZ ?hy ?_);case hy=>rfl)|((with_reducible refine jF ?hy ?_);case hy=>decide))
 obtain ⟨v, hv⟩ := Option.isSome_iff_exists.1 hU
 refine ArQPtr.drop_some hF2.mem.ar hv ?_
 intro H3 hA3 hf3
 have hF3 := hF2.freed (R := R) (h := k) hr hA3 hf3
 repeat' (first|(with_reducible first|refine jA ?_|(refine hK _ _ ?_;clear hK K)|refine jJ fun K hK=>?_|refine jK ?_|refine jL ?_|refine jM ?_|refine jN ?_|refine jO ?_|refine jP ?_|refine jQ ?_|(refine jB ?_;clear hK K)|(refine jC ?_;clear hK K)|refine jD ?_|refine jE ?_|refine jG ?_|refine jH ?_|refine jI ?_)|((with_reducible refine jR ?hq ?_);case hq=>rfl)|((first|(with_reducible first|refine jS fun K hK=>?_|refine jT ?_|refine jU ?_)|((with_reducible refine jV ?hy fun K hK=>?_);case hy=>rfl));simp only [go_sem, Nat.reduceEqDiff, Nat.reduceAdd, Nat.reduceMul, Nat.reduceLeDiff, Nat.reduceLT, Int.reduceLT, Int.reduceLE, Int.reduceEq, Int.reduceNeg, Int.reduceToNat, Nat.reducePow, reduceIte, reduceCtorEq])|((with_reducible first|refine jW ?hy ?_|refine jY ?hy ?_);case hy=>rfl)|((with_reducible first|refine jX ?hy ?_|refine jZ ?hy ?_);case hy=>rfl)|((with_reducible refine jF ?hy ?_);case hy=>decide))
 refine fin _ ⟨p, g, _, nb, N2, hF3, h2, by simp [Ar.drop, h3, Sq.freed], by simp [Ar.drop, h4, Sq.freed], ?_, fun b hb => Nat.lt_of_lt_of_le (Nat.lt_of_lt_of_le (h6 b hb) hf.size) hf3.size⟩ ?_
 ·rintro b (rfl | rfl | rfl | ⟨i, hi, rfl⟩)
  ·exact h5 _ (.inl rfl)
  ·exact h5 _ (.inr (.inl rfl))
  ·exact h5 _ (.inr (.inr (.inl rfl)))
  ·refine h5 _ (.inr (.inr (.inr ⟨i, ?_, rfl⟩)))
   unfold U at hi ⊢
   rw [Ar.get_drop hv] at hi
   by_cases e : i = k
   ·rw [if_pos e] at hi; cases hi
   ·rw [if_neg e] at hi; exact hi
 ·refine (hf.mono (S' := T) fun b _ hb => h5 b (.inr (.inr (.inr hb)))).trans' hf3 fun b hb e => ?_
  rcases e with rfl | rfl
  ·exact h5 _ (.inr (.inr (.inl rfl)))
  ·exact h5 _ (.inr (.inl rfl))
end
end Go.Proofs.Ytnlafhnbakipmaa
