/-
  Edges by their numbers: which of them are there; two forests side by side.
  A part of a slice appended.
  MsfSame.
  What a law's walk is told of slices that came in.
  What a law's walk is told of slices of edges that came in.
-/
import Derived.Test.YtafehbegoanajaaG6
import Derived.Test.YtafehbegoanajaaHpN
import Derived.WalkKit
import Derived.ProofKit
import Derived.OpenShut
import Derived.ShutString
import Derived.ChangeOld
import Derived.Below
import Derived.Deep.Fields
namespace Go.Ms
open Go Go.Hp Go.Li Go.Br
open Go.Proofs.Ytafehbegoanajaa (inB okArg inB_of)
def gE (n : Nat) (zs ys : Nat → Ed) (j : Nat) : Ed := if j < 1000 then ⟨(j : Nat), pickN (zs j).u n, pickN (zs j).v n, pickN (zs j).w 9⟩ else ⟨(j : Nat), pickN (ys (j - 1000)).u n, pickN (ys (j - 1000)).v n, pickN (ys (j - 1000)).w 9 - 4⟩
def okJ (j : Nat) : Prop := j < 90 ∨ (1000 ≤ j ∧ j < 1090)
structure SetG (n : Nat) (zs ys : Nat → Ed) (S : Nat → Prop) (l : List Ed) : Prop where
 mem : ∀ e, e ∈ l ↔ e.u ≠ e.v ∧ ∃ j, S j ∧ e = gE n zs ys j
 ok : ∀ j, S j → okJ j
section
variable {n j : Nat} {zs ys : Nat → Ed} {S S' : Nat → Prop} {l l' F F' : List Ed} {e x y : Ed} {a b : Nat}
theorem gE_lo (h : j < 1000) : gE n zs ys j = ⟨(j : Nat), pickN (zs j).u n, pickN (zs j).v n, pickN (zs j).w 9⟩ := if_pos h
theorem gE_hi : gE n zs ys (1000 + j) = ⟨((1000 + j : Nat) : Int), pickN (ys j).u n, pickN (ys j).v n, pickN (ys j).w 9 - 4⟩ := by
 unfold gE
 rw [if_neg (by omega), show 1000 + j - 1000 = j by omega]
theorem gE_id : (gE n zs ys j).id = (j : Nat) := by unfold gE; split <;> rfl
theorem gE_rg (hn : 0 < n) : ∃ u v : Nat, (gE n zs ys j).u = u ∧ (gE n zs ys j).v = v ∧ u < n ∧ v < n ∧ -4 ≤ (gE n zs ys j).w ∧ (gE n zs ys j).w ≤ 8 := by
 have key : ∀ c : Int, ∃ u : Nat, pickN c n = u ∧ u < n := fun c => by
  obtain ⟨u0, u1⟩ := pick_rg (c := c) hn
  obtain ⟨u, eu⟩ := Int.eq_ofNat_of_zero_le u0
  exact ⟨u, eu, by omega⟩
 have k9 : ∀ c : Int, 0 ≤ pickN c 9 ∧ pickN c 9 < 9 := fun c => pickN_range c (by omega)
 unfold gE
 split
 ·obtain ⟨u, eu, hu⟩ := key (zs j).u
  obtain ⟨v, ev, hv⟩ := key (zs j).v
  have := k9 (zs j).w
  exact ⟨u, v, eu, ev, hu, hv, by simp only; omega, by simp only; omega⟩
 ·obtain ⟨u, eu, hu⟩ := key (ys (j - 1000)).u
  obtain ⟨v, ev, hv⟩ := key (ys (j - 1000)).v
  have := k9 (ys (j - 1000)).w
  exact ⟨u, v, eu, ev, hu, hv, by simp only; omega, by simp only; omega⟩
theorem SetG.congr (h : SetG n zs ys S l) (hs : ∀ j, S j ↔ S' j) : SetG n zs ys S' l := ⟨fun e => (h.mem e).trans (and_congr_right fun _ => exists_congr fun j => and_congr_left fun _ => hs j), fun j hj => h.ok j ((hs j).2 hj)⟩
theorem SetG.nil : SetG n zs ys (fun _ => False) [] := ⟨fun e => by simp, fun _ h => h.elim⟩
theorem SetG.short (h : SetG n zs ys S l) (hn : (l.map (·.id)).Nodup) : l.length ≤ 180 := by
 have := len_le hn (b := (List.range 90).map (fun j : Nat => (j : Int)) ++ (List.range 90).map (fun j : Nat => ((1000 + j : Nat) : Int))) fun i hi => by
  obtain ⟨e, he, rfl⟩ := List.mem_map.1 hi
  obtain ⟨_, j, hj, rfl⟩ := (h.mem e).1 he
  show (gE n zs ys j).id ∈ _
  rw [gE_id, List.mem_append, List.mem_map, List.mem_map]
  rcases h.ok j hj with h1 | ⟨h1, h2⟩
  ·exact .inl ⟨j, List.mem_range.2 h1, rfl⟩
  ·exact .inr ⟨j - 1000, List.mem_range.2 (by omega), by omega⟩
 rw [List.length_map, List.length_append, List.length_map, List.length_map, List.length_range] at this
 exact this
theorem SetG.ins (h : SetG n zs ys S l) (hp : Fp n l F) (hj : okJ j) (hnj : ¬ S j) : insC n l (j : Nat) (gE n zs ys j).u (gE n zs ys j).v (gE n zs ys j).w = if (gE n zs ys j).u = (gE n zs ys j).v then 72 else 0 := by
 obtain ⟨u, v, eu, ev, hu, hv, w1, w2⟩ := gE_rg (n := n) (zs := zs) (ys := ys) (j := j) hp.n1
 have h1 : ¬ ((inB n (gE n zs ys j).u && inB n (gE n zs ys j).v) = false) := by rw [inB_in eu hu, inB_in ev hv]; decide
 have hjj : j < 1090 := by rcases hj with h | ⟨_, h⟩ <;> omega
 have h2 : ¬ (okArg (j : Nat) (gE n zs ys j).w = false) := by unfold okArg; simp; omega
 have h3 : byId l (j : Nat) = none := byId_none.2 fun y hy e => by
  obtain ⟨_, i, hi, rfl⟩ := (h.mem y).1 hy
  rw [gE_id] at e
  obtain rfl : i = j := by omega
  exact hnj hi
 have h4 := h.short hp.uq
 unfold insC
 rw [if_neg h1, if_neg h2, h3]
 by_cases h : (gE n zs ys j).u = (gE n zs ys j).v
 ·rw [if_pos h]; simp [h]
 ·rw [if_neg h]; simp [h]; omega
theorem SetG.loop (h : SetG n zs ys S l) (hj : okJ j) (he : (gE n zs ys j).u = (gE n zs ys j).v) : SetG n zs ys (fun i => S i ∨ i = j) l := ⟨fun e => (h.mem e).trans (and_congr_right fun hne => ⟨fun ⟨i, hi, h⟩ => ⟨i, .inl hi, h⟩, fun ⟨i, hi, h⟩ => ⟨i, hi.resolve_right fun e' => hne (by rw [h, e']; exact he), h⟩⟩), fun i hi => hi.elim (h.ok i) fun e => e ▸ hj⟩
theorem SetG.more (h : SetG n zs ys S l) (hj : okJ j) (he : (gE n zs ys j).u ≠ (gE n zs ys j).v) (hx : x = gE n zs ys j) : SetG n zs ys (fun i => S i ∨ i = j) (l ++ [x]) := ⟨fun e => by
 rw [List.mem_append, List.mem_singleton, h.mem]
 constructor
 ·rintro (⟨h1, i, hi, h⟩ | rfl)
  ·exact ⟨h1, i, .inl hi, h⟩
  ·exact ⟨by rw [hx]; exact he, j, .inr rfl, hx⟩
 ·rintro ⟨h1, i, hi, h⟩
  rcases hi with hi | rfl
  ·exact .inl ⟨h1, i, hi, h⟩
  ·exact .inr (h.trans hx.symm), fun i hi => hi.elim (h.ok i) fun e => e ▸ hj⟩
theorem SetG.none (h : SetG n zs ys S l) (hb : byId l (j : Nat) = none) : SetG n zs ys (fun i => S i ∧ i ≠ j) l := ⟨fun e => by
 rw [h.mem]
 constructor
 ·rintro ⟨h1, i, hi, he⟩
  refine ⟨h1, i, ⟨hi, fun e' => ?_⟩, he⟩
  exact byId_none.1 hb e ((h.mem e).2 ⟨h1, i, hi, he⟩) (by rw [he, e']; exact gE_id)
 ·rintro ⟨h1, i, hi, he⟩
  exact ⟨h1, i, hi.1, he⟩, fun i hi => h.ok i hi.1⟩
theorem SetG.less (h : SetG n zs ys S l) (hx : x.id = (j : Nat)) (hl : ∀ e, e ∈ l' ↔ e ∈ l ∧ e ≠ x) (hxl : x ∈ l) : SetG n zs ys (fun i => S i ∧ i ≠ j) l' := ⟨fun e => by
 rw [hl, h.mem]
 constructor
 ·rintro ⟨⟨h1, i, hi, he⟩, hne⟩
  refine ⟨h1, i, ⟨hi, fun e' => hne ?_⟩, he⟩
  obtain ⟨_, i', _, hx'⟩ := (h.mem x).1 hxl
  have : x.id = (i' : Nat) := by rw [hx']; exact gE_id
  have : i' = j := by omega
  rw [he, hx', e', this]
 ·rintro ⟨h1, i, hi, he⟩
  refine ⟨⟨h1, i, hi.1, he⟩, fun e' => hi.2 ?_⟩
  have : e.id = (i : Nat) := by rw [he]; exact gE_id
  rw [e', hx] at this
  omega, fun i hi => h.ok i hi.1⟩
theorem SetG.same (h : SetG n zs ys S l) (h' : SetG n zs ys S' l') (hs : ∀ j, S j ↔ S' j) (e : Ed) : e ∈ l ↔ e ∈ l' := ((h.congr hs).mem e).trans (h'.mem e).symm
theorem perm_sum {a b : List Int} (h : a.Perm b) : a.sum = b.sum := by
 induction h with
 | nil => rfl
 | cons x _ ih => simp [ih]
 | swap x y l => simp only [List.sum_cons]; omega
 | trans _ _ h1 h2 => exact h1.trans h2
theorem Fp.sumEq (h : Fp n l F) (h' : Fp n l' F') (hl : ∀ e, e ∈ l ↔ e ∈ l') : sumW F = sumW F' := by
 have n1 : F.Nodup := (List.pairwise_map.1 h.fn).imp fun h e => h (by rw [e])
 have n2 : F'.Nodup := (List.pairwise_map.1 h'.fn).imp fun h e => h (by rw [e])
 have hp : F.Perm F' := (List.perm_ext_iff_of_nodup n1 n2).2 fun e => h.msf.uniq h'.msf hl e
 unfold sumW
 exact perm_sum (hp.map _)
def BotR (F : List Ed) (a b : Nat) (y : Ed) (c : Int) : Prop := (c = 0 ∧ Mx (In F) a b y) ∨ (c = 75 ∧ y = Ed.zero ∧ (a = b ∨ ¬ Cn (In F) a b))
theorem BotR.uniq {c d : Int} (h : Fp n l F) (h' : Fp n l' F') (hl : ∀ e, e ∈ l ↔ e ∈ l') (h1 : BotR F a b x c) (h2 : BotR F' a b y d) : x = y ∧ c = d := by
 have hF : In F' = In F := funext fun e => propext (h.msf.uniq h'.msf hl e).symm
 unfold BotR at h1 h2
 rw [hF] at h2
 have hno : ∀ z, Mx (In F) a b z → ¬ (a = b ∨ ¬ Cn (In F) a b) := fun z hz hor => by
  rcases hor with e | hn
  ·exact hz.cut (by rw [e]; exact .refl _)
  ·exact hn (hz.le.sub fun e he => he.1)
 rcases h1 with ⟨rfl, h1⟩ | ⟨rfl, rfl, h1⟩ <;> rcases h2 with ⟨rfl, h2⟩ | ⟨rfl, rfl, h2⟩
 ·exact ⟨Mx.uniq h.msf (uq_of h.uq) h1 h2, rfl⟩
 ·exact absurd h2 (hno _ h1)
 ·exact absurd h1 (hno _ h2)
 ·exact ⟨rfl, rfl⟩
end
end Go.Ms
namespace Go.Proofs.Ytafehbegoanajaa
open Go Go.Hp Go.Li Go.Br Go.Ms
set_option linter.all false
set_option maxRecDepth 100000
set_option maxHeartbeats 3200000
section
variable {H : Heap} {L : Value → Heap → Prop} {f n j : Nat} {T : Nat → Prop} {l F : List Ed} {zs ys : Nat → Ed} {S : Nat → Prop}
theorem insG {u v w : Int} (hM : MsM H f T n l F) (hS : SetG n zs ys S l) (hj : okJ j) (hnj : ¬ S j) (hx : gE n zs ys j = ⟨(j : Nat), u, v, w⟩)
  (fin : ∀ c H' T' l' F', MsM H' f T' n l' F' → SetG n zs ys (fun i => S i ∨ i = j) l' → Fr T H H' → (∀ b, T' b → T b ∨ H.size ≤ b) → L (.int .i64 c) H') :
  CallsH Try.prog 12 #[.pointer (some ⟨f, 0, none⟩), .int .i64 (j : Nat), .int .i64 u, .int .i64 v, .int .i64 w] H L := by
 have hc := hS.ins hM.p hj hnj
 rw [hx] at hc
 simp only at hc
 refine m_insert hM (fun c h1 hne H' hM' hf => ?_) fun h0 H' T' F' hM' _ hf hT => ?_
 ·have heq : u = v := Classical.byContradiction fun h => by rw [if_neg h] at hc; exact hne (h1.symm.trans hc)
  exact fin c H' T l F hM' (hS.loop hj (by rw [hx]; exact heq)) (hf.mono fun _ _ h => h.elim) fun _ h => .inl h
 ·have heq : u ≠ v := fun h => by rw [if_pos h] at hc; rw [hc] at h0; cases h0
  exact fin 0 H' T' _ F' hM' (hS.more hj (by rw [hx]; exact heq) hx.symm) hf hT
theorem delG (hM : MsM H f T n l F) (hS : SetG n zs ys S l)
  (fin : ∀ c H' T' l' F', MsM H' f T' n l' F' → SetG n zs ys (fun i => S i ∧ i ≠ j) l' → Fr T H H' → (∀ b, T' b → T b ∨ H.size ≤ b) → L (.int .i64 c) H') :
  CallsH Try.prog 20 #[.pointer (some ⟨f, 0, none⟩), .int .i64 (j : Nat)] H L :=
 m_delete hM (fun hb H' hM' hf => fin 74 H' T l F hM' (hS.none hb) (hf.mono fun _ _ h => h.elim) fun _ h => .inl h) fun x i hx hi H' T' F' hM' _ hf hT =>
  fin 0 H' T' _ F' hM' (hS.less (byId_some hx).2 (fun e => mem_wo hM.p.uq hi) (List.mem_of_getElem? hi)) hf hT
theorem botR {u v : Nat} (hM : MsM H f T n l F) (hu : u < n) (hv : v < n) (fin : ∀ y c H', BotR F u v y c → MsM H' f T n l F → Fr T H H' → L (.tuple #[y.val, .int .i64 c]) H') :
  CallsH Try.prog 13 #[.pointer (some ⟨f, 0, none⟩), .int .i64 (u : Nat), .int .i64 (v : Nat)] H L := by
 refine m_bot hM (fun h => by rw [inB_of hu, inB_of hv] at h; cases h) (fun p q hp' hq' _ _ hor H' hM' hf => ?_) fun p q hp' hq' _ _ H' y hy hM' hf => ?_
 ·obtain rfl : p = u := by omega
  obtain rfl : q = v := by omega
  exact fin _ _ H' (.inr ⟨rfl, rfl, hor⟩) hM' hf
 ·obtain rfl : p = u := by omega
  obtain rfl : q = v := by omega
  exact fin _ _ H' (.inl ⟨rfl, hy⟩) hM' hf
structure Two (H0 H : Heap) (n fa fb : Nat) (Ta Tb : Nat → Prop) (la Fa lb Fb : List Ed) : Prop where
 a : MS H0 H fa Ta n la Fa
 b : MS H0 H fb Tb n lb Fb
 ap : ∀ x, Ta x → ¬ Tb x
section
variable {H0 H' : Heap} {fa fb : Nat} {Ta Tb T' : Nat → Prop} {la Fa lb Fb l' F' : List Ed}
theorem Two.opA (h : Two H0 H n fa fb Ta Tb la Fa lb Fb) (hm : MsM H' fa T' n l' F') (hf : Fr Ta H H') (hT : ∀ b, T' b → Ta b ∨ H.size ≤ b) : Two H0 H' n fa fb T' Tb l' F' lb Fb :=
 ⟨h.a.op hm hf hT, ⟨h.b.m.frame hf fun b hb ht => h.ap b ht hb, (h.a.op hm hf hT).fr, h.b.new⟩, fun x hx hb => (hT x hx).elim (fun ht => h.ap x ht hb) fun h1 => by have := h.b.m.below x hb; omega⟩
theorem Two.opB (h : Two H0 H n fa fb Ta Tb la Fa lb Fb) (hm : MsM H' fb T' n l' F') (hf : Fr Tb H H') (hT : ∀ b, T' b → Tb b ∨ H.size ≤ b) : Two H0 H' n fa fb Ta T' la Fa l' F' :=
 ⟨⟨h.a.m.frame hf fun b hb ht => h.ap b hb ht, (h.b.op hm hf hT).fr, h.a.new⟩, h.b.op hm hf hT, fun x hx hb => (hT x hb).elim (fun ht => h.ap x hx ht) fun h1 => by have := h.a.m.below x hx; omega⟩
theorem Two.keep {E : Nat → Prop} (h : Two H0 H n fa fb Ta Tb la Fa lb Fb) (hf : Fr E H H') (hE : ∀ b, b < H.size → E b → H0.size ≤ b ∧ ¬ Ta b ∧ ¬ Tb b) : Two H0 H' n fa fb Ta Tb la Fa lb Fb :=
 have hf0 := h.a.fr.trans' hf fun b hb h' => by
  by_cases hs : b < H.size
  ·have := (hE b hs h').1; omega
  ·have := h.a.fr.size; omega
 ⟨⟨h.a.m.frame hf fun b hb h' => (hE b (h.a.m.below b hb) h').2.1 hb, hf0, h.a.new⟩, ⟨h.b.m.frame hf fun b hb h' => (hE b (h.b.m.below b hb) h').2.2 hb, hf0, h.b.new⟩, h.ap⟩
theorem Two.grow (h : Two H0 H n fa fb Ta Tb la Fa lb Fb) (hf : Fr (fun _ => False) H H') : Two H0 H' n fa fb Ta Tb la Fa lb Fb := ⟨h.a.grow hf, h.b.grow hf, h.ap⟩
end
end
end Go.Proofs.Ytafehbegoanajaa
namespace Go.Hp
open Go
section
variable {α : Type} {C : α → List Value} {k : Nat} {H : Heap} {B By : Option Nat} {s : Value} {xs ys : List α}
theorem SR.cap {a : Option Addr} {n c : Nat} (h : SR C k H B (.slice a n c) xs) : n ≤ c ∧ n = xs.length := by
 obtain ⟨_, ⟨_, h, hz⟩ | ⟨g, c', rest, _, h, _, _, hc⟩⟩ := h
 ·simp only [Value.slice.injEq] at h
  obtain ⟨_, rfl, rfl⟩ := h
  exact ⟨Nat.le_refl _, hz.symm⟩
 ·simp only [Value.slice.injEq] at h
  obtain ⟨_, rfl, rfl⟩ := h
  exact ⟨hc, rfl⟩
theorem append_part {P : Program} {t e : TypeId} {te : TL} {lo hi d c : Nat} {st a : Option Addr} {K : Value → Heap → Prop} (hC : ∀ x, (C x).length = k) (hp : ∀ x, ∀ u ∈ C x, plainVal u = true)
  (he : elems P t = some (none, e, k)) (ht : tl P e = some te) (hs : SR C k H B s xs) (hy : SR C k H By (.slice a ys.length c) ys) (h1 : lo ≤ hi) (h2 : hi ≤ ys.length) (hst : st = if c = lo then a else a.map (·.add (lo * k))) (hd : d = c - lo)
  (hb0 : 0 < te.bytes) (hb : 2 * (xs.length + (hi - lo)) * te.bytes ≤ 2 ^ 48) (hz : te.zero.cells.size = k)
  (hk : ∀ v' H' B', SR C k H' B' v' (xs ++ (ys.drop lo).take (hi - lo)) → Fr (fun b => B = some b) H H' → (B' = B ∨ ∃ g, B' = some g ∧ H.size ≤ g) → K v' H') : appendX P t s (.slice st (hi - lo) d) H K := by
 have hls : (hi - lo) = ((ys.drop lo).take (hi - lo)).length := by rw [List.length_take, List.length_drop]; omega
 obtain ⟨_, ⟨_, h, hz0⟩ | ⟨g, c', rest, hBy, h, hblk, hlen, hc⟩⟩ := id hy
 ·simp only [Value.slice.injEq] at h
  obtain ⟨rfl, h3, rfl⟩ := h
  have e1 : lo = 0 := by omega
  have e2 : hi = 0 := by omega
  subst e1 e2
  have e3 : st = none := by rw [hst]; simp
  subst e3 hd
  rw [Nat.sub_zero] at hk hb ⊢
  rw [List.take_zero, List.append_nil] at hk
  exact append_own he ht hs (m := 0) (new := []) (.inr ⟨rfl, rfl, rfl⟩) (fun _ h => by cases h) hb0 hb (by simp) hz fun v' H' B' ho hf hB => hk v' H' B' (by unfold SR; simpa using ho) hf hB
 ·simp only [Value.slice.injEq] at h
  obtain ⟨rfl, _, rfl⟩ := h
  by_cases hm : hi - lo = 0
  ·rw [hm] at hk hb ⊢
   rw [List.take_zero, List.append_nil] at hk
   obtain ⟨z, e3⟩ : ∃ z, st = some z := by
    rw [hst]
    split
    ·exact ⟨_, rfl⟩
    ·exact ⟨_, rfl⟩
   subst e3
   exact append_own he ht hs (m := 0) (new := []) (.inl ⟨_, _, rfl, by rw [Nat.zero_mul]; rfl⟩) (fun _ h => by cases h) hb0 hb (by simp) hz fun v' H' B' ho hf hB => hk v' H' B' (by unfold SR; simpa using ho) hf hB
  ·rw [if_neg (by omega)] at hst
   subst hst
   obtain ⟨g', c'', rfl, hv, hc⟩ := hy.open (by intro e; rw [e] at h2; simp at h2; omega)
   simp only [Value.slice.injEq, Option.some.injEq, Addr.mk.injEq] at hv
   obtain ⟨⟨rfl, _⟩, _, rfl⟩ := hv
   have rl := hy.readL hC (o := lo) (m := hi - lo) (by omega)
   rw [Option.map_some, add_mk, Nat.zero_add]
   exact append_srs hC hp he ht hs (ys := (ys.drop lo).take (hi - lo)) rl hls.symm hb0 hb hz hk
end
theorem ir_sr {H : Heap} {B : Option Nat} {v : Value} {xs : List Int} : IR H B v xs ↔ SR (fun x => [Value.int .i64 x]) 1 H B v xs := by
 unfold IR SR
 rw [List.map_eq_flatMap]
theorem whole_st (a : Option Addr) (c k : Nat) : a = if c = 0 then a else a.map (·.add (0 * k)) := by
 rw [Nat.zero_mul]
 cases a with
 | none => simp
 | some q => simp [Addr.add]
theorem append_irp {P : Program} {t e : TypeId} {te : TL} {H : Heap} {B By : Option Nat} {s : Value} {xs ys : List Int} {lo hi d c : Nat} {st a : Option Addr} {K : Value → Heap → Prop}
  (he : elems P t = some (none, e, 1)) (ht : tl P e = some te) (hs : IR H B s xs) (hy : IR H By (.slice a ys.length c) ys) (h1 : lo ≤ hi) (h2 : hi ≤ ys.length) (hst : st = if c = lo then a else a.map (·.add (lo * 1))) (hd : d = c - lo)
  (hb0 : 0 < te.bytes) (hb : 2 * (xs.length + (hi - lo)) * te.bytes ≤ 2 ^ 48) (hz : te.zero.cells.size = 1)
  (hk : ∀ v' H' B', IR H' B' v' (xs ++ (ys.drop lo).take (hi - lo)) → Fr (fun b => B = some b) H H' → (B' = B ∨ ∃ g, B' = some g ∧ H.size ≤ g) → K v' H') : appendX P t s (.slice st (hi - lo) d) H K :=
 append_part (C := fun x => [Value.int .i64 x]) (fun _ => rfl) (fun x u hu => by rw [List.mem_singleton.1 hu]; rfl) he ht (ir_sr.1 hs) (ir_sr.1 hy) h1 h2 hst hd hb0 hb hz fun v' H' B' h => hk v' H' B' (ir_sr.2 h)
end Go.Hp
namespace Go.Proofs.Ytafehbegoanajaa
open Go Go.Hp Go.Li Go.Br Go.Ms
set_option linter.all false
set_option maxRecDepth 100000
set_option maxHeartbeats 20000000
def Ord (k : Nat) (xs : List Int) : Prop := xs.Perm ((List.range k).map fun j : Nat => (j : Int))
theorem Ord.len {k : Nat} {xs : List Int} (h : Ord k xs) : xs.length = k := by have := List.Perm.length_eq h; simpa using this
theorem Ord.mem {k : Nat} {xs : List Int} (h : Ord k xs) {x : Int} : x ∈ xs ↔ ∃ j : Nat, j < k ∧ x = j := by
 rw [List.Perm.mem_iff h, List.mem_map]
 constructor
 ·rintro ⟨j, hj, rfl⟩; exact ⟨j, List.mem_range.1 hj, rfl⟩
 ·rintro ⟨j, hj, rfl⟩; exact ⟨j, List.mem_range.2 hj, rfl⟩
theorem Ord.nodup {k : Nat} {xs : List Int} (h : Ord k xs) : xs.Nodup := (List.Perm.nodup_iff h).2 (List.Pairwise.map _ (fun a b hab e => hab (by omega)) List.nodup_range)
theorem Ord.more {k : Nat} {xs : List Int} (h : Ord k xs) (a : Nat) : Ord (k + 1) (xs.take a ++ [(k : Int)] ++ xs.drop a) := by
 unfold Ord
 rw [List.range_succ, List.map_append, List.map_singleton]
 refine List.Perm.trans ?_ (List.Perm.append_right _ h)
 rw [List.append_assoc]
 refine (List.Perm.append_left _ List.perm_append_comm).trans ?_
 rw [← List.append_assoc, List.take_append_drop]
theorem Ord.at {k i : Nat} {xs : List Int} (h : Ord k xs) (hi : i < k) : ∃ j : Nat, j < k ∧ xs[i]? = some (j : Int) ∧ ¬ (j : Int) ∈ xs.take i ∧ ∀ y, y ∈ xs.take (i + 1) ↔ y ∈ xs.take i ∨ y = (j : Int) := by
 have hl := h.len
 obtain ⟨x, hx⟩ : ∃ x, xs[i]? = some x := ⟨_, List.getElem?_eq_getElem (by omega)⟩
 obtain ⟨j, hj, rfl⟩ := h.mem.1 (List.mem_of_getElem? hx)
 have tk : xs.take (i + 1) = xs.take i ++ [(j : Int)] := by rw [List.take_add_one, hx]; rfl
 refine ⟨j, hj, hx, fun hm => ?_, fun y => by rw [tk, List.mem_append, List.mem_singleton]⟩
 have hn : (xs.take (i + 1)).Nodup := h.nodup.sublist (List.take_sublist ..)
 rw [tk, List.nodup_append] at hn
 exact hn.2.2 _ hm _ (List.mem_singleton.2 rfl) rfl
section
variable {H : Heap} {L : Value → Heap → Prop}
theorem msfSame {c0 : Int} {ar ao ay : Option Addr} {lr cr lo co ly cy : Nat} {zs ys : Nat → Ed} {os : Nat → Int} (c1 : -9223372036854775808 ≤ c0) (c2 : c0 ≤ 9223372036854775807) (hr : InEds H ar lr cr zs) (hlr : lr ≤ 9223372036854775807) (ho : InInts H ao lo os) (hlo : lo ≤ 9223372036854775807) (hy : InEds H ay ly cy ys) (hly : ly ≤ 9223372036854775807)
  (fin : ∀ H', Fr (fun _ => False) H H' → L (.bool true) H') :
  CallsH Try.prog 5 #[.int .i64 c0, .slice ar lr cr, .slice ao lo co, .slice ay ly cy] H L := by
 refine call5 (by simp) ?_
 simp only [Try.f5, Option.getD_some]
 repeat' (first|(with_reducible first|refine jA ?_|(refine hK _ _ ?_;clear hK K)|refine jJ fun K hK=>?_|refine jK ?_|refine jL ?_|refine jM ?_|refine jN ?_|refine jO ?_|refine jP ?_|refine jQ ?_|(refine jB ?_;clear hK K)|(refine jC ?_;clear hK K)|refine jD ?_|refine jE ?_|refine jG ?_|refine jH ?_|refine jI ?_)|((with_reducible refine jR ?hq ?_);case hq=>rfl)|((first|(with_reducible first|refine jS fun K hK=>?_|refine jT ?_|refine jU ?_)|((with_reducible refine jV ?hy fun K hK=>?_);case hy=>rfl));simp only [go_sem, Nat.reduceEqDiff, Nat.reduceAdd, Nat.reduceMul, Nat.reduceLeDiff, Nat.reduceLT, Int.reduceLT, Int.reduceLE, Int.reduceEq, Int.reduceNeg, Int.reduceToNat, Nat.reducePow, reduceIte, reduceCtorEq])|((with_reducible first|refine jW ?hy ?_|refine jY ?hy ?_);case hy=>rfl)|((with_reducible first|refine jX ?hy ?_|refine jZ ?hy ?_);case hy=>rfl)|((with_reducible refine jF ?hy ?_);case hy=>decide))
 refine awake_ok fun H1 f1 => ?_
 repeat' (first|(with_reducible first|refine jA ?_|(refine hK _ _ ?_;clear hK K)|refine jJ fun K hK=>?_|refine jK ?_|refine jL ?_|refine jM ?_|refine jN ?_|refine jO ?_|refine jP ?_|refine jQ ?_|(refine jB ?_;clear hK K)|(refine jC ?_;clear hK K)|refine jD ?_|refine jE ?_|refine jG ?_|refine jH ?_|refine jI ?_)|((with_reducible refine jR ?hq ?_);case hq=>rfl)|((first|(with_reducible first|refine jS fun K hK=>?_|refine jT ?_|refine jU ?_)|((with_reducible refine jV ?hy fun K hK=>?_);case hy=>rfl));simp only [go_sem, Nat.reduceEqDiff, Nat.reduceAdd, Nat.reduceMul, Nat.reduceLeDiff, Nat.reduceLT, Int.reduceLT, Int.reduceLE, Int.reduceEq, Int.reduceNeg, Int.reduceToNat, Nat.reducePow, reduceIte, reduceCtorEq])|((with_reducible first|refine jW ?hy ?_|refine jY ?hy ?_);case hy=>rfl)|((with_reducible first|refine jX ?hy ?_|refine jZ ?hy ?_);case hy=>rfl)|((with_reducible refine jF ?hy ?_);case hy=>decide))
 refine pick_n (n := 63) ⟨c1, c2⟩ (by omega) fun j1 _ hj1 => ?_
 obtain ⟨n, hn⟩ : ∃ n, n = 2 + j1 := ⟨_, rfl⟩
 have ew1 : IntKind.i64.wrap (2 + (j1 : Int)) = (n : Int) := by rw [wrap_i64] <;> omega
 repeat' (first|(with_reducible first|refine jA ?_|(refine hK _ _ ?_;clear hK K)|refine jJ fun K hK=>?_|refine jK ?_|refine jL ?_|refine jM ?_|refine jN ?_|refine jO ?_|refine jP ?_|refine jQ ?_|(refine jB ?_;clear hK K)|(refine jC ?_;clear hK K)|refine jD ?_|refine jE ?_|refine jG ?_|refine jH ?_|refine jI ?_)|((with_reducible refine jR ?hq ?_);case hq=>rfl)|((first|(with_reducible first|refine jS fun K hK=>?_|refine jT ?_|refine jU ?_)|((with_reducible refine jV ?hy fun K hK=>?_);case hy=>rfl));simp only [go_sem, Nat.reduceEqDiff, Nat.reduceAdd, Nat.reduceMul, Nat.reduceLeDiff, Nat.reduceLT, Int.reduceLT, Int.reduceLE, Int.reduceEq, Int.reduceNeg, Int.reduceToNat, Nat.reducePow, reduceIte, reduceCtorEq, ew1])|((with_reducible first|refine jW ?hy ?_|refine jY ?hy ?_);case hy=>rfl)|((with_reducible first|refine jX ?hy ?_|refine jZ ?hy ?_);case hy=>rfl)|((with_reducible refine jF ?hy ?_);case hy=>decide))
 have hn1 : 1 ≤ n := by omega
 have hn64 : n ≤ 64 := by omega
 clear hn ew1
 have z0 : ((0 : Int) != 0) = false := rfl
 refine m_new hn1 hn64 fun H2 fa Ta hA2 f2 hTa => ?_
 repeat' (first|(with_reducible first|refine jA ?_|(refine hK _ _ ?_;clear hK K)|refine jJ fun K hK=>?_|refine jK ?_|refine jL ?_|refine jM ?_|refine jN ?_|refine jO ?_|refine jP ?_|refine jQ ?_|(refine jB ?_;clear hK K)|(refine jC ?_;clear hK K)|refine jD ?_|refine jE ?_|refine jG ?_|refine jH ?_|refine jI ?_)|((with_reducible refine jR ?hq ?_);case hq=>rfl)|((first|(with_reducible first|refine jS fun K hK=>?_|refine jT ?_|refine jU ?_)|((with_reducible refine jV ?hy fun K hK=>?_);case hy=>rfl));simp only [go_sem, Nat.reduceEqDiff, Nat.reduceAdd, Nat.reduceMul, Nat.reduceLeDiff, Nat.reduceLT, Int.reduceLT, Int.reduceLE, Int.reduceEq, Int.reduceNeg, Int.reduceToNat, Nat.reducePow, reduceIte, reduceCtorEq])|((with_reducible first|refine jW ?hy ?_|refine jY ?hy ?_);case hy=>rfl)|((with_reducible first|refine jX ?hy ?_|refine jZ ?hy ?_);case hy=>rfl)|((with_reducible refine jF ?hy ?_);case hy=>decide))
 refine m_new hn1 hn64 fun H3 fb Tb hB3 f3 hTb => ?_
 have W3 : Two H1 H3 n fa fb Ta Tb [] [] [] [] := ⟨⟨hA2.frame f3 fun _ _ h => h, f2.trans f3, hTa⟩, ⟨hB3, f2.trans f3, fun b hb => by have := hTb b hb; have := f2.size; omega⟩, fun x hx hb => by have := hA2.below x hx; have := hTb x hb; omega⟩
 repeat' (first|(with_reducible first|refine jA ?_|(refine hK _ _ ?_;clear hK K)|refine jJ fun K hK=>?_|refine jK ?_|refine jL ?_|refine jM ?_|refine jN ?_|refine jO ?_|refine jP ?_|refine jQ ?_|(refine jB ?_;clear hK K)|(refine jC ?_;clear hK K)|refine jD ?_|refine jE ?_|refine jG ?_|refine jH ?_|refine jI ?_)|((with_reducible refine jR ?hq ?_);case hq=>rfl)|((first|(with_reducible first|refine jS fun K hK=>?_|refine jT ?_|refine jU ?_)|((with_reducible refine jV ?hy fun K hK=>?_);case hy=>rfl));simp only [go_sem, Nat.reduceEqDiff, Nat.reduceAdd, Nat.reduceMul, Nat.reduceLeDiff, Nat.reduceLT, Int.reduceLT, Int.reduceLE, Int.reduceEq, Int.reduceNeg, Int.reduceToNat, Nat.reducePow, reduceIte, reduceCtorEq, z0, Bool.not_true])|((with_reducible first|refine jW ?hy ?_|refine jY ?hy ?_);case hy=>rfl)|((with_reducible first|refine jX ?hy ?_|refine jZ ?hy ?_);case hy=>rfl)|((with_reducible refine jF ?hy ?_);case hy=>decide))
 clear hA2 hB3 f2 f3 hTa hTb
 refine x_loop (fun m e' H' => ∃ (i : Nat) (Ta : Nat → Prop) (la Fa : List Ed) (B : Option Nat) (w : Value) (xs : List Int), e' 15 = .int .i64 (i : Nat) ∧ e' 14 = w ∧ i ≤ min lr 90 ∧ Two H1 H' n fa fb Ta Tb la Fa [] [] ∧ SetG n zs ys (fun j => j < i) la ∧ IR H' B w xs ∧ (∀ b, B = some b → H1.size ≤ b ∧ ¬ Ta b ∧ ¬ Tb b) ∧ Ord i xs ∧ m = lr - i) lr
  ⟨0, Ta, [], [], none, _, [], rfl, rfl, Nat.zero_le _, W3, SetG.nil.congr fun j => ⟨fun h => h.elim, fun h => by omega⟩, IR.nil _, nofun, List.Perm.refl _, rfl⟩ ?_
 rintro m e1 H2 ⟨i, Ta, la, Fa, B, w, xs, i15, i14, hi, W, hS, hx, hB, hO, hm⟩ hoff
 have i0 : e1 0 = .int .i64 (n : Nat) := (hoff 0 rfl).trans rfl
 have i1 : e1 1 = .slice ar lr cr := (hoff 1 rfl).trans rfl
 have i2 : e1 2 = .slice ao lo co := (hoff 2 rfl).trans rfl
 have i3 : e1 3 = .slice ay ly cy := (hoff 3 rfl).trans rfl
 have i10 : e1 10 = .pointer (some ⟨fa, 0, none⟩) := (hoff 10 rfl).trans rfl
 have i12 : e1 12 = .pointer (some ⟨fb, 0, none⟩) := (hoff 12 rfl).trans rfl
 clear hoff W3
 have hxl := hO.len
 obtain ⟨aw, cw, rfl⟩ := id hx.slice
 have tail : ∀ e' : Env, i = min lr 90 → e' 0 = .int .i64 (n : Nat) → e' 1 = .slice ar lr cr → e' 3 = .slice ay ly cy → e' 10 = .pointer (some ⟨fa, 0, none⟩) → e' 12 = .pointer (some ⟨fb, 0, none⟩) → e' 14 = .slice aw xs.length cw → K e' H2 := by
  intro e' hi90 j0 j1 j3 j10 j12 j14
  refine hK _ _ ?_
  clear hK K
  repeat' (first|(with_reducible first|refine jA ?_|(refine hK _ _ ?_;clear hK K)|refine jJ fun K hK=>?_|refine jK ?_|refine jL ?_|refine jM ?_|refine jN ?_|refine jO ?_|refine jP ?_|refine jQ ?_|(refine jB ?_;clear hK K)|(refine jC ?_;clear hK K)|refine jD ?_|refine jE ?_|refine jG ?_|refine jH ?_|refine jI ?_)|((with_reducible refine jR ?hq ?_);case hq=>rfl)|((first|(with_reducible first|refine jS fun K hK=>?_|refine jT ?_|refine jU ?_)|((with_reducible refine jV ?hy fun K hK=>?_);case hy=>rfl));simp only [go_sem, Nat.reduceEqDiff, Nat.reduceAdd, Nat.reduceMul, Nat.reduceLeDiff, Nat.reduceLT, Int.reduceLT, Int.reduceLE, Int.reduceEq, Int.reduceNeg, Int.reduceToNat, Nat.reducePow, reduceIte, reduceCtorEq])|((with_reducible first|refine jW ?hy ?_|refine jY ?hy ?_);case hy=>rfl)|((with_reducible first|refine jX ?hy ?_|refine jZ ?hy ?_);case hy=>rfl)|((with_reducible refine jF ?hy ?_);case hy=>decide))
  refine x_loop (fun m e' H' => ∃ (k : Nat) (Tb : Nat → Prop) (lb Fb : List Ed), e' 18 = .int .i64 (k : Nat) ∧ k ≤ min ly 90 ∧ Two H1 H' n fa fb Ta Tb la Fa lb Fb ∧ SetG n zs ys (fun j => 1000 ≤ j ∧ j < 1000 + k) lb ∧ IR H' B (.slice aw xs.length cw) xs ∧ (∀ b, B = some b → H1.size ≤ b ∧ ¬ Ta b ∧ ¬ Tb b) ∧ m = ly - k) ly ⟨0, Tb, [], [], rfl, Nat.zero_le _, W, SetG.nil.congr (fun j => ⟨fun h => h.elim, fun h => by omega⟩), hx, hB, rfl⟩ ?_
  clear hi W hx hB
  rintro m2 e2 H3 ⟨k, Tb, lb, Fb, k18, hk, W, hSb, hx, hB, hm2⟩ hoff
  have k0 : e2 0 = .int .i64 (n : Nat) := (hoff 0 rfl).trans j0
  have k1 : e2 1 = .slice ar lr cr := (hoff 1 rfl).trans j1
  have k3 : e2 3 = .slice ay ly cy := (hoff 3 rfl).trans j3
  have k10 : e2 10 = .pointer (some ⟨fa, 0, none⟩) := (hoff 10 rfl).trans j10
  have k12 : e2 12 = .pointer (some ⟨fb, 0, none⟩) := (hoff 12 rfl).trans j12
  have k14 : e2 14 = .slice aw xs.length cw := (hoff 14 rfl).trans j14
  clear hoff
  have tail2 : ∀ e' : Env, k = min ly 90 → e' 0 = .int .i64 (n : Nat) → e' 1 = .slice ar lr cr → e' 10 = .pointer (some ⟨fa, 0, none⟩) → e' 12 = .pointer (some ⟨fb, 0, none⟩) → e' 14 = .slice aw xs.length cw → K e' H3 := by
   clear k0 k1 k3 k10 k12 k14 j0 j1 j3 j10 j12 j14 k18
   intro e' hk90 j0 j1 j10 j12 j14
   refine hK _ _ ?_
   clear hK K
   repeat' (first|(with_reducible first|refine jA ?_|(refine hK _ _ ?_;clear hK K)|refine jJ fun K hK=>?_|refine jK ?_|refine jL ?_|refine jM ?_|refine jN ?_|refine jO ?_|refine jP ?_|refine jQ ?_|(refine jB ?_;clear hK K)|(refine jC ?_;clear hK K)|refine jD ?_|refine jE ?_|refine jG ?_|refine jH ?_|refine jI ?_)|((with_reducible refine jR ?hq ?_);case hq=>rfl)|((first|(with_reducible first|refine jS fun K hK=>?_|refine jT ?_|refine jU ?_)|((with_reducible refine jV ?hy fun K hK=>?_);case hy=>rfl));simp only [go_sem, Nat.reduceEqDiff, Nat.reduceAdd, Nat.reduceMul, Nat.reduceLeDiff, Nat.reduceLT, Int.reduceLT, Int.reduceLE, Int.reduceEq, Int.reduceNeg, Int.reduceToNat, Nat.reducePow, reduceIte, reduceCtorEq])|((with_reducible first|refine jW ?hy ?_|refine jY ?hy ?_);case hy=>rfl)|((with_reducible first|refine jX ?hy ?_|refine jZ ?hy ?_);case hy=>rfl)|((with_reducible refine jF ?hy ?_);case hy=>decide))
   refine x_loop (fun m e' H' => ∃ (p : Nat) (Tb : Nat → Prop) (lb Fb : List Ed), e' 19 = .int .i64 (p : Nat) ∧ p ≤ xs.length ∧ Two H1 H' n fa fb Ta Tb la Fa lb Fb ∧ SetG n zs ys (fun j => ((j : Nat) : Int) ∈ xs.take p ∨ (1000 + p ≤ j ∧ j < 1000 + k)) lb ∧ IR H' B (.slice aw xs.length cw) xs ∧ (∀ b, B = some b → H1.size ≤ b ∧ ¬ Ta b ∧ ¬ Tb b) ∧ m = xs.length - p) xs.length ⟨0, Tb, lb, Fb, rfl, Nat.zero_le _, W, hSb.congr (fun j => by rw [List.take_zero]; simp), hx, hB, rfl⟩ ?_
   clear W hx hB hSb lb Fb Tb
   rintro m3 e3 H4 ⟨p, Tb, lb, Fb, k19, hp, W, hSb, hx, hB, hm3⟩ hoff
   have k0 : e3 0 = .int .i64 (n : Nat) := (hoff 0 rfl).trans j0
   have k1 : e3 1 = .slice ar lr cr := (hoff 1 rfl).trans j1
   have k10 : e3 10 = .pointer (some ⟨fa, 0, none⟩) := (hoff 10 rfl).trans j10
   have k12 : e3 12 = .pointer (some ⟨fb, 0, none⟩) := (hoff 12 rfl).trans j12
   have k14 : e3 14 = .slice aw xs.length cw := (hoff 14 rfl).trans j14
   clear hoff
   have low : ∀ j : Nat, ((j : Nat) : Int) ∈ xs → j < i := fun j h => by
    obtain ⟨j', h1, h2⟩ := hO.mem.1 h
    omega
   by_cases hlt : p < xs.length
   ·have t1 : ((p : Int) < (xs.length : Int)) = True := eq_true (by omega)
    have t1' : (p < xs.length) = True := eq_true hlt
    have ew : IntKind.i64.wrap ((p : Int) + 1) = ((p + 1 : Nat) : Int) := by rw [wrap_i64] <;> omega
    have ewk : IntKind.i64.wrap (1000 + (p : Int)) = ((1000 + p : Nat) : Int) := by rw [wrap_i64] <;> omega
    obtain ⟨j, hj, hxj, hnj, htk⟩ := hO.at (i := p) (by omega)
    obtain ⟨g, c', hBg, hv, hc, _⟩ := hx.rowAt hlt
    simp only [Value.slice.injEq] at hv
    obtain ⟨rfl, _, rfl⟩ := hv
    have cj := hc p _ hxj
    obtain ⟨q, rfl, q0, q1, q2, q3⟩ := ((hr.frame f1).frame W.a.fr).at (show j < lr by omega)
    obtain ⟨⟨_, hu0, hu1⟩, ⟨hv0, hv1⟩, hw0, hw1⟩ : FitE (zs j) := hr.2 j (by omega)
    have t3' : (j < lr) = True := eq_true (by omega)
    have qS : Cells [((q.add (j * 4)).block, (q.add (j * 4)).off + 1, .int .i64 (zs j).u), ((q.add (j * 4)).block, (q.add (j * 4)).off + 2, .int .i64 (zs j).v), ((q.add (j * 4)).block, (q.add (j * 4)).off + 3, .int .i64 (zs j).w)] H4 := ⟨q1, q2, q3, trivial⟩
    repeat' (first|(with_reducible first|refine jA ?_|(refine hK _ _ ?_;clear hK K)|refine jJ fun K hK=>?_|refine jK ?_|refine jL ?_|refine jM ?_|refine jN ?_|refine jO ?_|refine jP ?_|refine jQ ?_|(refine jB ?_;clear hK K)|(refine jC ?_;clear hK K)|refine jD ?_|refine jE ?_|refine jG ?_|refine jH ?_|refine jI ?_)|((with_reducible refine jR ?hq ?_);case hq=>rfl)|((first|(with_reducible first|refine jS fun K hK=>?_|refine jT ?_|refine jU ?_)|((with_reducible refine jV ?hy fun K hK=>?_);case hy=>rfl));simp only [go_sem, Nat.reduceEqDiff, Nat.reduceAdd, Nat.reduceMul, Nat.reduceLeDiff, Nat.reduceLT, Int.reduceLT, Int.reduceLE, Int.reduceEq, Int.reduceNeg, Int.reduceToNat, Nat.reducePow, reduceIte, reduceCtorEq, k14, k19, t1, t1', cj])|((with_reducible first|refine jW ?hy ?_|refine jY ?hy ?_);case hy=>rfl)|((with_reducible first|refine jX ?hy ?_|refine jZ ?hy ?_);case hy=>rfl)|((with_reducible refine jF ?hy ?_);case hy=>decide))
    refine x_drawS [22] [0, 1, 2, 3, 4, 5, 6, 7, 9, 10, 11, 12, 13, 14, 16, 17, 18, 19, 20, 8, 15, 21, 22] rfl (by kernel_rfl) (Cells _) qS ?_
    repeat' (first|(with_reducible refine xs_nil ?_)|((first|((with_reducible apply xs_rd);case hi=>rfl)|((with_reducible apply xs_guard_yes);(case hi=>rfl);(case hy=>rfl)));(case hr=>rfl);(case h1=>intro H' hS'; (try simp only [Cells, and_true] at hS');simp only [go_sem, Nat.reduceEqDiff, Nat.reduceAdd, Nat.reduceMul, Nat.reduceLeDiff, Nat.reduceLT, Int.reduceLT, Int.reduceLE, Int.reduceEq, Int.reduceNeg, Int.reduceToNat, Nat.reducePow, reduceIte, reduceCtorEq, k0, k1, k12, t3', hS']; rfl))|((with_reducible refine xs_tail ?hz ?_);case hz=>rfl)|((with_reducible refine xs_keep ?hz ?_);case hz=>first|(with_reducible assumption)|(simp only [go_sem, Nat.reduceEqDiff, Nat.reduceAdd, Nat.reduceMul, Nat.reduceLeDiff, Nat.reduceLT, Int.reduceLT, Int.reduceLE, Int.reduceEq, Int.reduceNeg, Int.reduceToNat, Nat.reducePow, reduceIte, reduceCtorEq, Cells, and_true, k0, k1, k12, t3']; done)|assumption)|((with_reducible apply xs_guard_no);(case hi=>rfl);(case hy=>rfl);(case hS=>assumption))|((first|((with_reducible apply xs_op);(case hi=>rfl))|((with_reducible apply xs_op_yes);(case hi=>rfl);(case hy=>rfl)));(case hr=>rfl);intro K hK; simp only [go_sem, Nat.reduceEqDiff, Nat.reduceAdd, Nat.reduceMul, Nat.reduceLeDiff, Nat.reduceLT, Int.reduceLT, Int.reduceLE, Int.reduceEq, Int.reduceNeg, Int.reduceToNat, Nat.reducePow, reduceIte, reduceCtorEq, k0, k1, k12, t3'])|(with_reducible first|refine jA ?_|(refine hK _ _ ?_;clear hK K)|refine jJ fun K hK=>?_|refine jK ?_|refine jL ?_|refine jM ?_|refine jN ?_|refine jO ?_|refine jP ?_|refine jQ ?_|(refine jB ?_;clear hK K)|(refine jC ?_;clear hK K)|refine jD ?_|refine jE ?_|refine jG ?_|refine jH ?_|refine jI ?_)|((with_reducible refine jR ?hq ?_);case hq=>rfl)|((first|(with_reducible first|refine jS fun K hK=>?_|refine jT ?_|refine jU ?_)|((with_reducible refine jV ?hy fun K hK=>?_);case hy=>rfl));simp only [go_sem, Nat.reduceEqDiff, Nat.reduceAdd, Nat.reduceMul, Nat.reduceLeDiff, Nat.reduceLT, Int.reduceLT, Int.reduceLE, Int.reduceEq, Int.reduceNeg, Int.reduceToNat, Nat.reducePow, reduceIte, reduceCtorEq, k0, k1, k12, t3'])|((with_reducible first|refine jW ?hy ?_|refine jY ?hy ?_);case hy=>rfl)|((with_reducible first|refine jX ?hy ?_|refine jZ ?hy ?_);case hy=>rfl)|((with_reducible refine jF ?hy ?_);case hy=>decide))
    refine Pkisthmuslaw07.pick_ok (n := (n : Int)) hu0 hu1 (by omega) ?_
    repeat' (first|(with_reducible refine xs_nil ?_)|((first|((with_reducible apply xs_rd);case hi=>rfl)|((with_reducible apply xs_guard_yes);(case hi=>rfl);(case hy=>rfl)));(case hr=>rfl);(case h1=>intro H' hS'; (try simp only [Cells, and_true] at hS');simp only [go_sem, Nat.reduceEqDiff, Nat.reduceAdd, Nat.reduceMul, Nat.reduceLeDiff, Nat.reduceLT, Int.reduceLT, Int.reduceLE, Int.reduceEq, Int.reduceNeg, Int.reduceToNat, Nat.reducePow, reduceIte, reduceCtorEq, k0, k1, k12, t3', hS']; rfl))|((with_reducible refine xs_tail ?hz ?_);case hz=>rfl)|((with_reducible refine xs_keep ?hz ?_);case hz=>first|(with_reducible assumption)|(simp only [go_sem, Nat.reduceEqDiff, Nat.reduceAdd, Nat.reduceMul, Nat.reduceLeDiff, Nat.reduceLT, Int.reduceLT, Int.reduceLE, Int.reduceEq, Int.reduceNeg, Int.reduceToNat, Nat.reducePow, reduceIte, reduceCtorEq, Cells, and_true, k0, k1, k12, t3']; done)|assumption)|((with_reducible apply xs_guard_no);(case hi=>rfl);(case hy=>rfl);(case hS=>assumption))|((first|((with_reducible apply xs_op);(case hi=>rfl))|((with_reducible apply xs_op_yes);(case hi=>rfl);(case hy=>rfl)));(case hr=>rfl);intro K hK; simp only [go_sem, Nat.reduceEqDiff, Nat.reduceAdd, Nat.reduceMul, Nat.reduceLeDiff, Nat.reduceLT, Int.reduceLT, Int.reduceLE, Int.reduceEq, Int.reduceNeg, Int.reduceToNat, Nat.reducePow, reduceIte, reduceCtorEq, k0, k1, k12, t3'])|(with_reducible first|refine jA ?_|(refine hK _ _ ?_;clear hK K)|refine jJ fun K hK=>?_|refine jK ?_|refine jL ?_|refine jM ?_|refine jN ?_|refine jO ?_|refine jP ?_|refine jQ ?_|(refine jB ?_;clear hK K)|(refine jC ?_;clear hK K)|refine jD ?_|refine jE ?_|refine jG ?_|refine jH ?_|refine jI ?_)|((with_reducible refine jR ?hq ?_);case hq=>rfl)|((first|(with_reducible first|refine jS fun K hK=>?_|refine jT ?_|refine jU ?_)|((with_reducible refine jV ?hy fun K hK=>?_);case hy=>rfl));simp only [go_sem, Nat.reduceEqDiff, Nat.reduceAdd, Nat.reduceMul, Nat.reduceLeDiff, Nat.reduceLT, Int.reduceLT, Int.reduceLE, Int.reduceEq, Int.reduceNeg, Int.reduceToNat, Nat.reducePow, reduceIte, reduceCtorEq, k0, k1, k12, t3'])|((with_reducible first|refine jW ?hy ?_|refine jY ?hy ?_);case hy=>rfl)|((with_reducible first|refine jX ?hy ?_|refine jZ ?hy ?_);case hy=>rfl)|((with_reducible refine jF ?hy ?_);case hy=>decide))
    refine Pkisthmuslaw07.pick_ok (n := (n : Int)) hv0 hv1 (by omega) ?_
    repeat' (first|(with_reducible refine xs_nil ?_)|((first|((with_reducible apply xs_rd);case hi=>rfl)|((with_reducible apply xs_guard_yes);(case hi=>rfl);(case hy=>rfl)));(case hr=>rfl);(case h1=>intro H' hS'; (try simp only [Cells, and_true] at hS');simp only [go_sem, Nat.reduceEqDiff, Nat.reduceAdd, Nat.reduceMul, Nat.reduceLeDiff, Nat.reduceLT, Int.reduceLT, Int.reduceLE, Int.reduceEq, Int.reduceNeg, Int.reduceToNat, Nat.reducePow, reduceIte, reduceCtorEq, k0, k1, k12, t3', hS']; rfl))|((with_reducible refine xs_tail ?hz ?_);case hz=>rfl)|((with_reducible refine xs_keep ?hz ?_);case hz=>first|(with_reducible assumption)|(simp only [go_sem, Nat.reduceEqDiff, Nat.reduceAdd, Nat.reduceMul, Nat.reduceLeDiff, Nat.reduceLT, Int.reduceLT, Int.reduceLE, Int.reduceEq, Int.reduceNeg, Int.reduceToNat, Nat.reducePow, reduceIte, reduceCtorEq, Cells, and_true, k0, k1, k12, t3']; done)|assumption)|((with_reducible apply xs_guard_no);(case hi=>rfl);(case hy=>rfl);(case hS=>assumption))|((first|((with_reducible apply xs_op);(case hi=>rfl))|((with_reducible apply xs_op_yes);(case hi=>rfl);(case hy=>rfl)));(case hr=>rfl);intro K hK; simp only [go_sem, Nat.reduceEqDiff, Nat.reduceAdd, Nat.reduceMul, Nat.reduceLeDiff, Nat.reduceLT, Int.reduceLT, Int.reduceLE, Int.reduceEq, Int.reduceNeg, Int.reduceToNat, Nat.reducePow, reduceIte, reduceCtorEq, k0, k1, k12, t3'])|(with_reducible first|refine jA ?_|(refine hK _ _ ?_;clear hK K)|refine jJ fun K hK=>?_|refine jK ?_|refine jL ?_|refine jM ?_|refine jN ?_|refine jO ?_|refine jP ?_|refine jQ ?_|(refine jB ?_;clear hK K)|(refine jC ?_;clear hK K)|refine jD ?_|refine jE ?_|refine jG ?_|refine jH ?_|refine jI ?_)|((with_reducible refine jR ?hq ?_);case hq=>rfl)|((first|(with_reducible first|refine jS fun K hK=>?_|refine jT ?_|refine jU ?_)|((with_reducible refine jV ?hy fun K hK=>?_);case hy=>rfl));simp only [go_sem, Nat.reduceEqDiff, Nat.reduceAdd, Nat.reduceMul, Nat.reduceLeDiff, Nat.reduceLT, Int.reduceLT, Int.reduceLE, Int.reduceEq, Int.reduceNeg, Int.reduceToNat, Nat.reducePow, reduceIte, reduceCtorEq, k0, k1, k12, t3'])|((with_reducible first|refine jW ?hy ?_|refine jY ?hy ?_);case hy=>rfl)|((with_reducible first|refine jX ?hy ?_|refine jZ ?hy ?_);case hy=>rfl)|((with_reducible refine jF ?hy ?_);case hy=>decide))
    refine Pkisthmuslaw07.pick_ok (n := 9) hw0 hw1 (by omega) ?_
    repeat' (first|(with_reducible refine xs_nil ?_)|((first|((with_reducible apply xs_rd);case hi=>rfl)|((with_reducible apply xs_guard_yes);(case hi=>rfl);(case hy=>rfl)));(case hr=>rfl);(case h1=>intro H' hS'; (try simp only [Cells, and_true] at hS');simp only [go_sem, Nat.reduceEqDiff, Nat.reduceAdd, Nat.reduceMul, Nat.reduceLeDiff, Nat.reduceLT, Int.reduceLT, Int.reduceLE, Int.reduceEq, Int.reduceNeg, Int.reduceToNat, Nat.reducePow, reduceIte, reduceCtorEq, k0, k1, k12, t3', hS']; rfl))|((with_reducible refine xs_tail ?hz ?_);case hz=>rfl)|((with_reducible refine xs_keep ?hz ?_);case hz=>first|(with_reducible assumption)|(simp only [go_sem, Nat.reduceEqDiff, Nat.reduceAdd, Nat.reduceMul, Nat.reduceLeDiff, Nat.reduceLT, Int.reduceLT, Int.reduceLE, Int.reduceEq, Int.reduceNeg, Int.reduceToNat, Nat.reducePow, reduceIte, reduceCtorEq, Cells, and_true, k0, k1, k12, t3']; done)|assumption)|((with_reducible apply xs_guard_no);(case hi=>rfl);(case hy=>rfl);(case hS=>assumption))|((first|((with_reducible apply xs_op);(case hi=>rfl))|((with_reducible apply xs_op_yes);(case hi=>rfl);(case hy=>rfl)));(case hr=>rfl);intro K hK; simp only [go_sem, Nat.reduceEqDiff, Nat.reduceAdd, Nat.reduceMul, Nat.reduceLeDiff, Nat.reduceLT, Int.reduceLT, Int.reduceLE, Int.reduceEq, Int.reduceNeg, Int.reduceToNat, Nat.reducePow, reduceIte, reduceCtorEq, k0, k1, k12, t3'])|(with_reducible first|refine jA ?_|(refine hK _ _ ?_;clear hK K)|refine jJ fun K hK=>?_|refine jK ?_|refine jL ?_|refine jM ?_|refine jN ?_|refine jO ?_|refine jP ?_|refine jQ ?_|(refine jB ?_;clear hK K)|(refine jC ?_;clear hK K)|refine jD ?_|refine jE ?_|refine jG ?_|refine jH ?_|refine jI ?_)|((with_reducible refine jR ?hq ?_);case hq=>rfl)|((first|(with_reducible first|refine jS fun K hK=>?_|refine jT ?_|refine jU ?_)|((with_reducible refine jV ?hy fun K hK=>?_);case hy=>rfl));simp only [go_sem, Nat.reduceEqDiff, Nat.reduceAdd, Nat.reduceMul, Nat.reduceLeDiff, Nat.reduceLT, Int.reduceLT, Int.reduceLE, Int.reduceEq, Int.reduceNeg, Int.reduceToNat, Nat.reducePow, reduceIte, reduceCtorEq, k0, k1, k12, t3'])|((with_reducible first|refine jW ?hy ?_|refine jY ?hy ?_);case hy=>rfl)|((with_reducible first|refine jX ?hy ?_|refine jZ ?hy ?_);case hy=>rfl)|((with_reducible refine jF ?hy ?_);case hy=>decide))
    refine insG W.b.m hSb (.inl (by omega)) (fun h => h.elim hnj fun h => by omega) (gE_lo (by omega)) fun c H6 T6 l6 F6 hM6 hS6 hf6 hT6 => ?_
    have hlt6 := fun b hb => hx.lt (g := b) hb
    have W6 := W.opB hM6 hf6 hT6
    have hx6 := hx.frame hf6 fun b hb => (hB b hb).2.2
    have hB6 : ∀ b, B = some b → H1.size ≤ b ∧ ¬ Ta b ∧ ¬ T6 b := fun b hb => ⟨(hB b hb).1, (hB b hb).2.1, fun h => (hT6 b h).elim (hB b hb).2.2 fun h => by have := hlt6 b hb; omega⟩
    clear hB hx hSb W hlt6
    repeat' (first|(with_reducible refine xs_nil ?_)|((first|((with_reducible apply xs_rd);case hi=>rfl)|((with_reducible apply xs_guard_yes);(case hi=>rfl);(case hy=>rfl)));(case hr=>rfl);(case h1=>intro H' hS'; (try simp only [Cells, and_true] at hS');simp only [go_sem, Nat.reduceEqDiff, Nat.reduceAdd, Nat.reduceMul, Nat.reduceLeDiff, Nat.reduceLT, Int.reduceLT, Int.reduceLE, Int.reduceEq, Int.reduceNeg, Int.reduceToNat, Nat.reducePow, reduceIte, reduceCtorEq, k12, k19, ewk, hS']; rfl))|((with_reducible refine xs_tail ?hz ?_);case hz=>rfl)|((with_reducible refine xs_keep ?hz ?_);case hz=>first|(with_reducible assumption)|(simp only [go_sem, Nat.reduceEqDiff, Nat.reduceAdd, Nat.reduceMul, Nat.reduceLeDiff, Nat.reduceLT, Int.reduceLT, Int.reduceLE, Int.reduceEq, Int.reduceNeg, Int.reduceToNat, Nat.reducePow, reduceIte, reduceCtorEq, Cells, and_true, k12, k19, ewk]; done)|assumption)|((with_reducible apply xs_guard_no);(case hi=>rfl);(case hy=>rfl);(case hS=>assumption))|((first|((with_reducible apply xs_op);(case hi=>rfl))|((with_reducible apply xs_op_yes);(case hi=>rfl);(case hy=>rfl)));(case hr=>rfl);intro K hK; simp only [go_sem, Nat.reduceEqDiff, Nat.reduceAdd, Nat.reduceMul, Nat.reduceLeDiff, Nat.reduceLT, Int.reduceLT, Int.reduceLE, Int.reduceEq, Int.reduceNeg, Int.reduceToNat, Nat.reducePow, reduceIte, reduceCtorEq, k12, k19, ewk])|(with_reducible first|refine jA ?_|(refine hK _ _ ?_;clear hK K)|refine jJ fun K hK=>?_|refine jK ?_|refine jL ?_|refine jM ?_|refine jN ?_|refine jO ?_|refine jP ?_|refine jQ ?_|(refine jB ?_;clear hK K)|(refine jC ?_;clear hK K)|refine jD ?_|refine jE ?_|refine jG ?_|refine jH ?_|refine jI ?_)|((with_reducible refine jR ?hq ?_);case hq=>rfl)|((first|(with_reducible first|refine jS fun K hK=>?_|refine jT ?_|refine jU ?_)|((with_reducible refine jV ?hy fun K hK=>?_);case hy=>rfl));simp only [go_sem, Nat.reduceEqDiff, Nat.reduceAdd, Nat.reduceMul, Nat.reduceLeDiff, Nat.reduceLT, Int.reduceLT, Int.reduceLE, Int.reduceEq, Int.reduceNeg, Int.reduceToNat, Nat.reducePow, reduceIte, reduceCtorEq, k12, k19, ewk])|((with_reducible first|refine jW ?hy ?_|refine jY ?hy ?_);case hy=>rfl)|((with_reducible first|refine jX ?hy ?_|refine jZ ?hy ?_);case hy=>rfl)|((with_reducible refine jF ?hy ?_);case hy=>decide))
    refine delG (j := 1000 + p) W6.b.m hS6 fun c H7 T7 l7 F7 hM7 hS7 hf7 hT7 => ?_
    have hlt7 := fun b hb => hx6.lt (g := b) hb
    have hS8 : SetG n zs ys (fun j => ((j : Nat) : Int) ∈ xs.take (p + 1) ∨ (1000 + (p + 1) ≤ j ∧ j < 1000 + k)) l7 := hS7.congr fun j' => by
     rw [htk]
     constructor
     ·rintro ⟨(h | h) | h, hne⟩
      ·exact .inl (.inl h)
      ·exact .inr (by omega)
      ·exact .inl (.inr (by rw [h]))
     ·rintro ((h | h) | h)
      ·exact ⟨.inl (.inl h), by have := low j' (List.mem_of_mem_take h); omega⟩
      ·exact ⟨.inr (by omega), by omega⟩
      ·exact ⟨.inl (.inr (by omega)), by omega⟩
    repeat' (first|(with_reducible first|refine jA ?_|(refine hK _ _ ?_;clear hK K)|refine jJ fun K hK=>?_|refine jK ?_|refine jL ?_|refine jM ?_|refine jN ?_|refine jO ?_|refine jP ?_|refine jQ ?_|(refine jB ?_;clear hK K)|(refine jC ?_;clear hK K)|refine jD ?_|refine jE ?_|refine jG ?_|refine jH ?_|refine jI ?_)|((with_reducible refine jR ?hq ?_);case hq=>rfl)|((first|(with_reducible first|refine jS fun K hK=>?_|refine jT ?_|refine jU ?_)|((with_reducible refine jV ?hy fun K hK=>?_);case hy=>rfl));simp only [go_sem, Nat.reduceEqDiff, Nat.reduceAdd, Nat.reduceMul, Nat.reduceLeDiff, Nat.reduceLT, Int.reduceLT, Int.reduceLE, Int.reduceEq, Int.reduceNeg, Int.reduceToNat, Nat.reducePow, reduceIte, reduceCtorEq, k19, ew])|((with_reducible first|refine jW ?hy ?_|refine jY ?hy ?_);case hy=>rfl)|((with_reducible first|refine jX ?hy ?_|refine jZ ?hy ?_);case hy=>rfl)|((with_reducible refine jF ?hy ?_);case hy=>decide))
    exact loop_normal (m' := xs.length - (p + 1)) (by omega) ⟨p + 1, T7, l7, F7, rfl, by omega, W6.opB hM7 hf7 hT7, hS8, hx6.frame hf7 fun b hb => (hB6 b hb).2.2, fun b hb => ⟨(hB6 b hb).1, (hB6 b hb).2.1, fun h => (hT7 b h).elim (hB6 b hb).2.2 fun h => by have := hlt7 b hb; omega⟩, rfl⟩
   ·have t1 : ((p : Int) < (xs.length : Int)) = False := eq_false (by omega)
    have t1' : (p < xs.length) = False := eq_false hlt
    have hSb' : SetG n zs ys (fun j => j < i ∨ (1000 + i ≤ j ∧ 1000 ≤ j ∧ j < 1000 + k)) lb := hSb.congr fun j' => by
     rw [List.take_of_length_le (by omega)]
     constructor
     ·rintro (h | h)
      ·exact .inl (low j' h)
      ·exact .inr (by omega)
     ·rintro (h | h)
      ·exact .inl (hO.mem.2 ⟨j', h, rfl⟩)
      ·exact .inr (by omega)
    clear hSb hB hx
    repeat' (first|(with_reducible first|refine jA ?_|(refine hK _ _ ?_;clear hK K)|refine jJ fun K hK=>?_|refine jK ?_|refine jL ?_|refine jM ?_|refine jN ?_|refine jO ?_|refine jP ?_|refine jQ ?_|(refine jB ?_;clear hK K)|(refine jC ?_;clear hK K)|refine jD ?_|refine jE ?_|refine jG ?_|refine jH ?_|refine jI ?_)|((with_reducible refine jR ?hq ?_);case hq=>rfl)|((first|(with_reducible first|refine jS fun K hK=>?_|refine jT ?_|refine jU ?_)|((with_reducible refine jV ?hy fun K hK=>?_);case hy=>rfl));simp only [go_sem, Nat.reduceEqDiff, Nat.reduceAdd, Nat.reduceMul, Nat.reduceLeDiff, Nat.reduceLT, Int.reduceLT, Int.reduceLE, Int.reduceEq, Int.reduceNeg, Int.reduceToNat, Nat.reducePow, reduceIte, reduceCtorEq, k14, k19, t1, t1'])|((with_reducible first|refine jW ?hy ?_|refine jY ?hy ?_);case hy=>rfl)|((with_reducible first|refine jX ?hy ?_|refine jZ ?hy ?_);case hy=>rfl)|((with_reducible refine jF ?hy ?_);case hy=>decide))
    refine x_loop (fun m e' H' => ∃ (q : Nat) (Tb : Nat → Prop) (lb Fb : List Ed), e' 21 = .int .i64 (q : Nat) ∧ q ≤ 90 ∧ Two H1 H' n fa fb Ta Tb la Fa lb Fb ∧ SetG n zs ys (fun j => j < i ∨ (1000 + i ≤ j ∧ 1000 + q ≤ j ∧ j < 1000 + k)) lb ∧ m = 90 - q) 90 ⟨0, Tb, lb, Fb, rfl, Nat.zero_le _, W, hSb', rfl⟩ ?_
    clear W hSb' lb Fb Tb
    rintro m4 e4 H5 ⟨q, Tb, lb, Fb, l21, hq, W, hSb, hm4⟩ hoff
    have l0 : e4 0 = .int .i64 (n : Nat) := (hoff 0 rfl).trans k0
    have l10 : e4 10 = .pointer (some ⟨fa, 0, none⟩) := (hoff 10 rfl).trans k10
    have l12 : e4 12 = .pointer (some ⟨fb, 0, none⟩) := (hoff 12 rfl).trans k12
    clear hoff
    by_cases hlt : q < 90
    ·have t1 : ((q : Int) < 90) = True := eq_true (by omega)
     have t1' : (q < 90) = True := eq_true hlt
     have ew : IntKind.i64.wrap ((q : Int) + 1) = ((q + 1 : Nat) : Int) := by rw [wrap_i64] <;> omega
     have ewk : IntKind.i64.wrap (1000 + (q : Int)) = ((1000 + q : Nat) : Int) := by rw [wrap_i64] <;> omega
     repeat' (first|(with_reducible first|refine jA ?_|(refine hK _ _ ?_;clear hK K)|refine jJ fun K hK=>?_|refine jK ?_|refine jL ?_|refine jM ?_|refine jN ?_|refine jO ?_|refine jP ?_|refine jQ ?_|(refine jB ?_;clear hK K)|(refine jC ?_;clear hK K)|refine jD ?_|refine jE ?_|refine jG ?_|refine jH ?_|refine jI ?_)|((with_reducible refine jR ?hq ?_);case hq=>rfl)|((first|(with_reducible first|refine jS fun K hK=>?_|refine jT ?_|refine jU ?_)|((with_reducible refine jV ?hy fun K hK=>?_);case hy=>rfl));simp only [go_sem, Nat.reduceEqDiff, Nat.reduceAdd, Nat.reduceMul, Nat.reduceLeDiff, Nat.reduceLT, Int.reduceLT, Int.reduceLE, Int.reduceEq, Int.reduceNeg, Int.reduceToNat, Nat.reducePow, reduceIte, reduceCtorEq, l12, l21, t1, t1', ewk])|((with_reducible first|refine jW ?hy ?_|refine jY ?hy ?_);case hy=>rfl)|((with_reducible first|refine jX ?hy ?_|refine jZ ?hy ?_);case hy=>rfl)|((with_reducible refine jF ?hy ?_);case hy=>decide))
     refine delG (j := 1000 + q) W.b.m hSb fun c H7 T7 l7 F7 hM7 hS7 hf7 hT7 => ?_
     repeat' (first|(with_reducible first|refine jA ?_|(refine hK _ _ ?_;clear hK K)|refine jJ fun K hK=>?_|refine jK ?_|refine jL ?_|refine jM ?_|refine jN ?_|refine jO ?_|refine jP ?_|refine jQ ?_|(refine jB ?_;clear hK K)|(refine jC ?_;clear hK K)|refine jD ?_|refine jE ?_|refine jG ?_|refine jH ?_|refine jI ?_)|((with_reducible refine jR ?hq ?_);case hq=>rfl)|((first|(with_reducible first|refine jS fun K hK=>?_|refine jT ?_|refine jU ?_)|((with_reducible refine jV ?hy fun K hK=>?_);case hy=>rfl));simp only [go_sem, Nat.reduceEqDiff, Nat.reduceAdd, Nat.reduceMul, Nat.reduceLeDiff, Nat.reduceLT, Int.reduceLT, Int.reduceLE, Int.reduceEq, Int.reduceNeg, Int.reduceToNat, Nat.reducePow, reduceIte, reduceCtorEq, l21, ew])|((with_reducible first|refine jW ?hy ?_|refine jY ?hy ?_);case hy=>rfl)|((with_reducible first|refine jX ?hy ?_|refine jZ ?hy ?_);case hy=>rfl)|((with_reducible refine jF ?hy ?_);case hy=>decide))
     exact loop_normal (m' := 90 - (q + 1)) (by omega) ⟨q + 1, T7, l7, F7, rfl, by omega, W.opB hM7 hf7 hT7, hS7.congr (fun j => by omega), rfl⟩
    ·have t1 : ((q : Int) < 90) = False := eq_false (by omega)
     have t1' : (q < 90) = False := eq_false hlt
     have hl := hS.same hSb fun j => by omega
     have hpa := W.a.m.p
     have hpb := W.b.m.p
     repeat' (first|(with_reducible first|refine jA ?_|(refine hK _ _ ?_;clear hK K)|refine jJ fun K hK=>?_|refine jK ?_|refine jL ?_|refine jM ?_|refine jN ?_|refine jO ?_|refine jP ?_|refine jQ ?_|(refine jB ?_;clear hK K)|(refine jC ?_;clear hK K)|refine jD ?_|refine jE ?_|refine jG ?_|refine jH ?_|refine jI ?_)|((with_reducible refine jR ?hq ?_);case hq=>rfl)|((first|(with_reducible first|refine jS fun K hK=>?_|refine jT ?_|refine jU ?_)|((with_reducible refine jV ?hy fun K hK=>?_);case hy=>rfl));simp only [go_sem, Nat.reduceEqDiff, Nat.reduceAdd, Nat.reduceMul, Nat.reduceLeDiff, Nat.reduceLT, Int.reduceLT, Int.reduceLE, Int.reduceEq, Int.reduceNeg, Int.reduceToNat, Nat.reducePow, reduceIte, reduceCtorEq, l21, t1, t1'])|((with_reducible first|refine jW ?hy ?_|refine jY ?hy ?_);case hy=>rfl)|((with_reducible first|refine jX ?hy ?_|refine jZ ?hy ?_);case hy=>rfl)|((with_reducible refine jF ?hy ?_);case hy=>decide))
     refine x_loop (fun m e' H' => ∃ (v : Nat), e' 22 = .int .i64 (v : Nat) ∧ v + 1 ≤ n ∧ Two H1 H' n fa fb Ta Tb la Fa lb Fb ∧ m = n - v) n ⟨0, rfl, by omega, W, rfl⟩ ?_
     clear W hSb hS l21
     rintro m5 e5 H5 ⟨v, k22, hv, W, hm5⟩ hoff
     have k0 : e5 0 = .int .i64 (n : Nat) := (hoff 0 rfl).trans l0
     have k10 : e5 10 = .pointer (some ⟨fa, 0, none⟩) := (hoff 10 rfl).trans l10
     have k12 : e5 12 = .pointer (some ⟨fb, 0, none⟩) := (hoff 12 rfl).trans l12
     clear hoff
     have ew : IntKind.i64.wrap ((v : Int) + 1) = ((v + 1 : Nat) : Int) := by rw [wrap_i64] <;> omega
     by_cases hlt : v + 1 < n
     ·have t1 : (((v + 1 : Nat) : Int) < (n : Int)) = True := eq_true (by omega)
      have t1' : (v + 1 < n) = True := eq_true hlt
      repeat' (first|(with_reducible first|refine jA ?_|(refine hK _ _ ?_;clear hK K)|refine jJ fun K hK=>?_|refine jK ?_|refine jL ?_|refine jM ?_|refine jN ?_|refine jO ?_|refine jP ?_|refine jQ ?_|(refine jB ?_;clear hK K)|(refine jC ?_;clear hK K)|refine jD ?_|refine jE ?_|refine jG ?_|refine jH ?_|refine jI ?_)|((with_reducible refine jR ?hq ?_);case hq=>rfl)|((first|(with_reducible first|refine jS fun K hK=>?_|refine jT ?_|refine jU ?_)|((with_reducible refine jV ?hy fun K hK=>?_);case hy=>rfl));simp only [go_sem, Nat.reduceEqDiff, Nat.reduceAdd, Nat.reduceMul, Nat.reduceLeDiff, Nat.reduceLT, Int.reduceLT, Int.reduceLE, Int.reduceEq, Int.reduceNeg, Int.reduceToNat, Nat.reducePow, reduceIte, reduceCtorEq, k0, k10, k22, ew, t1, t1'])|((with_reducible first|refine jW ?hy ?_|refine jY ?hy ?_);case hy=>rfl)|((with_reducible first|refine jX ?hy ?_|refine jZ ?hy ?_);case hy=>rfl)|((with_reducible refine jF ?hy ?_);case hy=>decide))
      refine botR W.a.m (by omega) hlt fun y c H6 hy6 hM6 hf6 => ?_
      have W6 := W.opA hM6 hf6 fun _ h => .inl h
      simp only [Ed.val]
      repeat' (first|(with_reducible first|refine jA ?_|(refine hK _ _ ?_;clear hK K)|refine jJ fun K hK=>?_|refine jK ?_|refine jL ?_|refine jM ?_|refine jN ?_|refine jO ?_|refine jP ?_|refine jQ ?_|(refine jB ?_;clear hK K)|(refine jC ?_;clear hK K)|refine jD ?_|refine jE ?_|refine jG ?_|refine jH ?_|refine jI ?_)|((with_reducible refine jR ?hq ?_);case hq=>rfl)|((first|(with_reducible first|refine jS fun K hK=>?_|refine jT ?_|refine jU ?_)|((with_reducible refine jV ?hy fun K hK=>?_);case hy=>rfl));simp only [go_sem, Nat.reduceEqDiff, Nat.reduceAdd, Nat.reduceMul, Nat.reduceLeDiff, Nat.reduceLT, Int.reduceLT, Int.reduceLE, Int.reduceEq, Int.reduceNeg, Int.reduceToNat, Nat.reducePow, reduceIte, reduceCtorEq, k12, k22, ew, hcell_push, hcell_top, okW_push, okW_top, hcell_hset_ne, hcell_hset_off, hcell_hset_eq, okW_hset, hset_size, Array.size_push, Nat.lt_add_one, ne_add_one, add_one_ne, Nat.add_assoc, add_same, add_lt_same, Nat.reduceEqDiff, lt_add_k, add_k_ne, ne_add_k])|((with_reducible first|refine jW ?hy ?_|refine jY ?hy ?_);case hy=>rfl)|((with_reducible first|refine jX ?hy ?_|refine jZ ?hy ?_);case hy=>rfl)|((with_reducible refine jF ?hy ?_);case hy=>decide))
      obtain ⟨b7, f7⟩ := edge_box (H := H6) y (T0 := 30)
      generalize hset _ _ _ = H7 at b7 f7 ⊢
      have W7 := W6.grow f7
      have nT7 : ¬ Tb H6.size := fun h => by have := W6.b.m.below _ h; omega
      refine botR W7.b.m (by omega) hlt fun z d H8 hz8 hM8 hf8 => ?_
      obtain ⟨rfl, rfl⟩ := BotR.uniq hpa hpb hl hy6 hz8
      have W8 := W7.opB hM8 hf8 fun _ h => .inl h
      have b8 := b7.frame hf8 nT7
      simp only [Ed.val]
      obtain ⟨b9, f9⟩ := edge_box (H := H8) y (T0 := 30)
      have b8' := b8.frame f9 fun h => h
      have W9 := W8.grow f9
      have x0 := b8'.cellOf (i := 0) rfl
      have x1 := b8'.cellOf (i := 1) rfl
      have x2 := b8'.cellOf (i := 2) rfl
      have x3 := b8'.cellOf (i := 3) rfl
      have z0 := b9.cellOf (i := 0) rfl
      have z1 := b9.cellOf (i := 1) rfl
      have z2 := b9.cellOf (i := 2) rfl
      have z3 := b9.cellOf (i := 3) rfl
      have cc : (c != c) = false := by simp
      repeat' (first|(with_reducible first|refine jA ?_|(refine hK _ _ ?_;clear hK K)|refine jJ fun K hK=>?_|refine jK ?_|refine jL ?_|refine jM ?_|refine jN ?_|refine jO ?_|refine jP ?_|refine jQ ?_|(refine jB ?_;clear hK K)|(refine jC ?_;clear hK K)|refine jD ?_|refine jE ?_|refine jG ?_|refine jH ?_|refine jI ?_)|((with_reducible refine jR ?hq ?_);case hq=>rfl)|((first|(with_reducible first|refine jS fun K hK=>?_|refine jT ?_|refine jU ?_)|((with_reducible refine jV ?hy fun K hK=>?_);case hy=>rfl));simp only [go_sem, Nat.reduceEqDiff, Nat.reduceAdd, Nat.reduceMul, Nat.reduceLeDiff, Nat.reduceLT, Int.reduceLT, Int.reduceLE, Int.reduceEq, Int.reduceNeg, Int.reduceToNat, Nat.reducePow, reduceIte, reduceCtorEq, x0, x1, x2, x3, z0, z1, z2, z3, hcell_push, hcell_top, okW_push, okW_top, hcell_hset_ne, hcell_hset_off, hcell_hset_eq, okW_hset, hset_size, Array.size_push, Nat.lt_add_one, ne_add_one, add_one_ne, Nat.add_assoc, add_same, add_lt_same, Nat.reduceEqDiff, lt_add_k, add_k_ne, ne_add_k])|((with_reducible first|refine jW ?hy ?_|refine jY ?hy ?_);case hy=>rfl)|((with_reducible first|refine jX ?hy ?_|refine jZ ?hy ?_);case hy=>rfl)|((with_reducible refine jF ?hy ?_);case hy=>decide))
      refine edge_eq (a := y) (b := y) ?_
      simp only [decide_true, Bool.not_true]
      repeat' (first|(with_reducible first|refine jA ?_|(refine hK _ _ ?_;clear hK K)|refine jJ fun K hK=>?_|refine jK ?_|refine jL ?_|refine jM ?_|refine jN ?_|refine jO ?_|refine jP ?_|refine jQ ?_|(refine jB ?_;clear hK K)|(refine jC ?_;clear hK K)|refine jD ?_|refine jE ?_|refine jG ?_|refine jH ?_|refine jI ?_)|((with_reducible refine jR ?hq ?_);case hq=>rfl)|((first|(with_reducible first|refine jS fun K hK=>?_|refine jT ?_|refine jU ?_)|((with_reducible refine jV ?hy fun K hK=>?_);case hy=>rfl));simp only [go_sem, Nat.reduceEqDiff, Nat.reduceAdd, Nat.reduceMul, Nat.reduceLeDiff, Nat.reduceLT, Int.reduceLT, Int.reduceLE, Int.reduceEq, Int.reduceNeg, Int.reduceToNat, Nat.reducePow, reduceIte, reduceCtorEq, cc, k22, ew])|((with_reducible first|refine jW ?hy ?_|refine jY ?hy ?_);case hy=>rfl)|((with_reducible first|refine jX ?hy ?_|refine jZ ?hy ?_);case hy=>rfl)|((with_reducible refine jF ?hy ?_);case hy=>decide))
      exact loop_normal (m' := n - (v + 1)) (by omega) ⟨v + 1, rfl, by omega, W9, rfl⟩
     ·have t1 : (((v + 1 : Nat) : Int) < (n : Int)) = False := eq_false (by omega)
      have t1' : (v + 1 < n) = False := eq_false hlt
      repeat' (first|(with_reducible first|refine jA ?_|(refine hK _ _ ?_;clear hK K)|refine jJ fun K hK=>?_|refine jK ?_|refine jL ?_|refine jM ?_|refine jN ?_|refine jO ?_|refine jP ?_|refine jQ ?_|(refine jB ?_;clear hK K)|(refine jC ?_;clear hK K)|refine jD ?_|refine jE ?_|refine jG ?_|refine jH ?_|refine jI ?_)|((with_reducible refine jR ?hq ?_);case hq=>rfl)|((first|(with_reducible first|refine jS fun K hK=>?_|refine jT ?_|refine jU ?_)|((with_reducible refine jV ?hy fun K hK=>?_);case hy=>rfl));simp only [go_sem, Nat.reduceEqDiff, Nat.reduceAdd, Nat.reduceMul, Nat.reduceLeDiff, Nat.reduceLT, Int.reduceLT, Int.reduceLE, Int.reduceEq, Int.reduceNeg, Int.reduceToNat, Nat.reducePow, reduceIte, reduceCtorEq, k0, k10, k22, ew, t1, t1'])|((with_reducible first|refine jW ?hy ?_|refine jY ?hy ?_);case hy=>rfl)|((with_reducible first|refine jX ?hy ?_|refine jZ ?hy ?_);case hy=>rfl)|((with_reducible refine jF ?hy ?_);case hy=>decide))
      refine m_all W.a.m fun H6 B6 v6 as1 has hi6 hB6 f6 => ?_
      have W6 := W.grow f6
      repeat' (first|(with_reducible first|refine jA ?_|(refine hK _ _ ?_;clear hK K)|refine jJ fun K hK=>?_|refine jK ?_|refine jL ?_|refine jM ?_|refine jN ?_|refine jO ?_|refine jP ?_|refine jQ ?_|(refine jB ?_;clear hK K)|(refine jC ?_;clear hK K)|refine jD ?_|refine jE ?_|refine jG ?_|refine jH ?_|refine jI ?_)|((with_reducible refine jR ?hq ?_);case hq=>rfl)|((first|(with_reducible first|refine jS fun K hK=>?_|refine jT ?_|refine jU ?_)|((with_reducible refine jV ?hy fun K hK=>?_);case hy=>rfl));simp only [go_sem, Nat.reduceEqDiff, Nat.reduceAdd, Nat.reduceMul, Nat.reduceLeDiff, Nat.reduceLT, Int.reduceLT, Int.reduceLE, Int.reduceEq, Int.reduceNeg, Int.reduceToNat, Nat.reducePow, reduceIte, reduceCtorEq, k12])|((with_reducible first|refine jW ?hy ?_|refine jY ?hy ?_);case hy=>rfl)|((with_reducible first|refine jX ?hy ?_|refine jZ ?hy ?_);case hy=>rfl)|((with_reducible refine jF ?hy ?_);case hy=>decide))
      refine m_all W6.b.m fun H7 B7 v7 bs hbs hi7 hB7 f7 => ?_
      have W7 := W6.grow f7
      obtain rfl := has.uniq hbs fun e => hpa.msf.uniq hpb.msf hl e
      have hal := has.len hpa.fn
      have hFl := hpa.flen
      repeat' (first|(with_reducible first|refine jA ?_|(refine hK _ _ ?_;clear hK K)|refine jJ fun K hK=>?_|refine jK ?_|refine jL ?_|refine jM ?_|refine jN ?_|refine jO ?_|refine jP ?_|refine jQ ?_|(refine jB ?_;clear hK K)|(refine jC ?_;clear hK K)|refine jD ?_|refine jE ?_|refine jG ?_|refine jH ?_|refine jI ?_)|((with_reducible refine jR ?hq ?_);case hq=>rfl)|((first|(with_reducible first|refine jS fun K hK=>?_|refine jT ?_|refine jU ?_)|((with_reducible refine jV ?hy fun K hK=>?_);case hy=>rfl));simp only [go_sem, Nat.reduceEqDiff, Nat.reduceAdd, Nat.reduceMul, Nat.reduceLeDiff, Nat.reduceLT, Int.reduceLT, Int.reduceLE, Int.reduceEq, Int.reduceNeg, Int.reduceToNat, Nat.reducePow, reduceIte, reduceCtorEq])|((with_reducible first|refine jW ?hy ?_|refine jY ?hy ?_);case hy=>rfl)|((with_reducible first|refine jX ?hy ?_|refine jZ ?hy ?_);case hy=>rfl)|((with_reducible refine jF ?hy ?_);case hy=>decide))
      refine Pkisthmuslaw07.same_ok (hi6.rds.frame f7 fun _ _ h => h) hi7.rds (by omega) ?_
      rw [decide_eq_true rfl]
      repeat' (first|(with_reducible first|refine jA ?_|(refine hK _ _ ?_;clear hK K)|refine jJ fun K hK=>?_|refine jK ?_|refine jL ?_|refine jM ?_|refine jN ?_|refine jO ?_|refine jP ?_|refine jQ ?_|(refine jB ?_;clear hK K)|(refine jC ?_;clear hK K)|refine jD ?_|refine jE ?_|refine jG ?_|refine jH ?_|refine jI ?_)|((with_reducible refine jR ?hq ?_);case hq=>rfl)|((first|(with_reducible first|refine jS fun K hK=>?_|refine jT ?_|refine jU ?_)|((with_reducible refine jV ?hy fun K hK=>?_);case hy=>rfl));simp only [go_sem, Nat.reduceEqDiff, Nat.reduceAdd, Nat.reduceMul, Nat.reduceLeDiff, Nat.reduceLT, Int.reduceLT, Int.reduceLE, Int.reduceEq, Int.reduceNeg, Int.reduceToNat, Nat.reducePow, reduceIte, reduceCtorEq, k10])|((with_reducible first|refine jW ?hy ?_|refine jY ?hy ?_);case hy=>rfl)|((with_reducible first|refine jX ?hy ?_|refine jZ ?hy ?_);case hy=>rfl)|((with_reducible refine jF ?hy ?_);case hy=>decide))
      refine m_weight W7.a.m ?_
      repeat' (first|(with_reducible first|refine jA ?_|(refine hK _ _ ?_;clear hK K)|refine jJ fun K hK=>?_|refine jK ?_|refine jL ?_|refine jM ?_|refine jN ?_|refine jO ?_|refine jP ?_|refine jQ ?_|(refine jB ?_;clear hK K)|(refine jC ?_;clear hK K)|refine jD ?_|refine jE ?_|refine jG ?_|refine jH ?_|refine jI ?_)|((with_reducible refine jR ?hq ?_);case hq=>rfl)|((first|(with_reducible first|refine jS fun K hK=>?_|refine jT ?_|refine jU ?_)|((with_reducible refine jV ?hy fun K hK=>?_);case hy=>rfl));simp only [go_sem, Nat.reduceEqDiff, Nat.reduceAdd, Nat.reduceMul, Nat.reduceLeDiff, Nat.reduceLT, Int.reduceLT, Int.reduceLE, Int.reduceEq, Int.reduceNeg, Int.reduceToNat, Nat.reducePow, reduceIte, reduceCtorEq, k12])|((with_reducible first|refine jW ?hy ?_|refine jY ?hy ?_);case hy=>rfl)|((with_reducible first|refine jX ?hy ?_|refine jZ ?hy ?_);case hy=>rfl)|((with_reducible refine jF ?hy ?_);case hy=>decide))
      refine m_weight W7.b.m ?_
      have ss : (sumW Fa == sumW Fb) = true := by rw [hpa.sumEq hpb hl]; simp
      repeat' (first|(with_reducible first|refine jA ?_|(refine hK _ _ ?_;clear hK K)|refine jJ fun K hK=>?_|refine jK ?_|refine jL ?_|refine jM ?_|refine jN ?_|refine jO ?_|refine jP ?_|refine jQ ?_|(refine jB ?_;clear hK K)|(refine jC ?_;clear hK K)|refine jD ?_|refine jE ?_|refine jG ?_|refine jH ?_|refine jI ?_)|((with_reducible refine jR ?hq ?_);case hq=>rfl)|((first|(with_reducible first|refine jS fun K hK=>?_|refine jT ?_|refine jU ?_)|((with_reducible refine jV ?hy fun K hK=>?_);case hy=>rfl));simp only [go_sem, Nat.reduceEqDiff, Nat.reduceAdd, Nat.reduceMul, Nat.reduceLeDiff, Nat.reduceLT, Int.reduceLT, Int.reduceLE, Int.reduceEq, Int.reduceNeg, Int.reduceToNat, Nat.reducePow, reduceIte, reduceCtorEq, ss])|((with_reducible first|refine jW ?hy ?_|refine jY ?hy ?_);case hy=>rfl)|((with_reducible first|refine jX ?hy ?_|refine jZ ?hy ?_);case hy=>rfl)|((with_reducible refine jF ?hy ?_);case hy=>decide))
      exact fin H7 (f1.trans W7.a.fr)
  by_cases hlt : k < ly
  ·have t1 : ((k : Int) < (ly : Int)) = True := eq_true (by omega)
   have t1' : (k < ly) = True := eq_true hlt
   by_cases h90 : k < 90
   ·have t2 : ((k : Int) < 90) = True := eq_true (by omega)
    have t2' : (k < 90) = True := eq_true h90
    have ew : IntKind.i64.wrap ((k : Int) + 1) = ((k + 1 : Nat) : Int) := by rw [wrap_i64] <;> omega
    have ewk : IntKind.i64.wrap (1000 + (k : Int)) = ((1000 + k : Nat) : Int) := by rw [wrap_i64] <;> omega
    obtain ⟨q, rfl, q0, q1, q2, q3⟩ := ((hy.frame f1).frame W.a.fr).at hlt
    obtain ⟨⟨_, hu0, hu1⟩, ⟨hv0, hv1⟩, hw0, hw1⟩ : FitE (ys k) := hy.2 k hlt
    obtain ⟨p0, p1⟩ := pickN_range (ys k).w (n := 9) (by omega)
    have ew4 : IntKind.i64.wrap (pickN (ys k).w 9 - 4) = pickN (ys k).w 9 - 4 := by rw [wrap_i64] <;> omega
    have qS : Cells [((q.add (k * 4)).block, (q.add (k * 4)).off + 1, .int .i64 (ys k).u), ((q.add (k * 4)).block, (q.add (k * 4)).off + 2, .int .i64 (ys k).v), ((q.add (k * 4)).block, (q.add (k * 4)).off + 3, .int .i64 (ys k).w)] H3 := ⟨q1, q2, q3, trivial⟩
    repeat' (first|(with_reducible first|refine jA ?_|(refine hK _ _ ?_;clear hK K)|refine jJ fun K hK=>?_|refine jK ?_|refine jL ?_|refine jM ?_|refine jN ?_|refine jO ?_|refine jP ?_|refine jQ ?_|(refine jB ?_;clear hK K)|(refine jC ?_;clear hK K)|refine jD ?_|refine jE ?_|refine jG ?_|refine jH ?_|refine jI ?_)|((with_reducible refine jR ?hq ?_);case hq=>rfl)|((first|(with_reducible first|refine jS fun K hK=>?_|refine jT ?_|refine jU ?_)|((with_reducible refine jV ?hy fun K hK=>?_);case hy=>rfl));simp only [go_sem, Nat.reduceEqDiff, Nat.reduceAdd, Nat.reduceMul, Nat.reduceLeDiff, Nat.reduceLT, Int.reduceLT, Int.reduceLE, Int.reduceEq, Int.reduceNeg, Int.reduceToNat, Nat.reducePow, reduceIte, reduceCtorEq, k3, k18, t1, t1', t2, t2'])|((with_reducible first|refine jW ?hy ?_|refine jY ?hy ?_);case hy=>rfl)|((with_reducible first|refine jX ?hy ?_|refine jZ ?hy ?_);case hy=>rfl)|((with_reducible refine jF ?hy ?_);case hy=>decide))
    refine x_drawS [24] [0, 1, 2, 3, 4, 5, 6, 7, 8, 10, 11, 12, 13, 14, 15, 17, 18, 19, 20, 21, 9, 16, 22, 23, 24] rfl (by kernel_rfl) (Cells _) qS ?_
    repeat' (first|(with_reducible refine xs_nil ?_)|((first|((with_reducible apply xs_rd);case hi=>rfl)|((with_reducible apply xs_guard_yes);(case hi=>rfl);(case hy=>rfl)));(case hr=>rfl);(case h1=>intro H' hS'; (try simp only [Cells, and_true] at hS');simp only [go_sem, Nat.reduceEqDiff, Nat.reduceAdd, Nat.reduceMul, Nat.reduceLeDiff, Nat.reduceLT, Int.reduceLT, Int.reduceLE, Int.reduceEq, Int.reduceNeg, Int.reduceToNat, Nat.reducePow, reduceIte, reduceCtorEq, k0, k3, k12, k18, t1', ewk, hS']; rfl))|((with_reducible refine xs_tail ?hz ?_);case hz=>rfl)|((with_reducible refine xs_keep ?hz ?_);case hz=>first|(with_reducible assumption)|(simp only [go_sem, Nat.reduceEqDiff, Nat.reduceAdd, Nat.reduceMul, Nat.reduceLeDiff, Nat.reduceLT, Int.reduceLT, Int.reduceLE, Int.reduceEq, Int.reduceNeg, Int.reduceToNat, Nat.reducePow, reduceIte, reduceCtorEq, Cells, and_true, k0, k3, k12, k18, t1', ewk]; done)|assumption)|((with_reducible apply xs_guard_no);(case hi=>rfl);(case hy=>rfl);(case hS=>assumption))|((first|((with_reducible apply xs_op);(case hi=>rfl))|((with_reducible apply xs_op_yes);(case hi=>rfl);(case hy=>rfl)));(case hr=>rfl);intro K hK; simp only [go_sem, Nat.reduceEqDiff, Nat.reduceAdd, Nat.reduceMul, Nat.reduceLeDiff, Nat.reduceLT, Int.reduceLT, Int.reduceLE, Int.reduceEq, Int.reduceNeg, Int.reduceToNat, Nat.reducePow, reduceIte, reduceCtorEq, k0, k3, k12, k18, t1', ewk])|(with_reducible first|refine jA ?_|(refine hK _ _ ?_;clear hK K)|refine jJ fun K hK=>?_|refine jK ?_|refine jL ?_|refine jM ?_|refine jN ?_|refine jO ?_|refine jP ?_|refine jQ ?_|(refine jB ?_;clear hK K)|(refine jC ?_;clear hK K)|refine jD ?_|refine jE ?_|refine jG ?_|refine jH ?_|refine jI ?_)|((with_reducible refine jR ?hq ?_);case hq=>rfl)|((first|(with_reducible first|refine jS fun K hK=>?_|refine jT ?_|refine jU ?_)|((with_reducible refine jV ?hy fun K hK=>?_);case hy=>rfl));simp only [go_sem, Nat.reduceEqDiff, Nat.reduceAdd, Nat.reduceMul, Nat.reduceLeDiff, Nat.reduceLT, Int.reduceLT, Int.reduceLE, Int.reduceEq, Int.reduceNeg, Int.reduceToNat, Nat.reducePow, reduceIte, reduceCtorEq, k0, k3, k12, k18, t1', ewk])|((with_reducible first|refine jW ?hy ?_|refine jY ?hy ?_);case hy=>rfl)|((with_reducible first|refine jX ?hy ?_|refine jZ ?hy ?_);case hy=>rfl)|((with_reducible refine jF ?hy ?_);case hy=>decide))
    refine Pkisthmuslaw07.pick_ok (n := (n : Int)) hu0 hu1 (by omega) ?_
    repeat' (first|(with_reducible refine xs_nil ?_)|((first|((with_reducible apply xs_rd);case hi=>rfl)|((with_reducible apply xs_guard_yes);(case hi=>rfl);(case hy=>rfl)));(case hr=>rfl);(case h1=>intro H' hS'; (try simp only [Cells, and_true] at hS');simp only [go_sem, Nat.reduceEqDiff, Nat.reduceAdd, Nat.reduceMul, Nat.reduceLeDiff, Nat.reduceLT, Int.reduceLT, Int.reduceLE, Int.reduceEq, Int.reduceNeg, Int.reduceToNat, Nat.reducePow, reduceIte, reduceCtorEq, k0, k3, k12, k18, t1', ewk, hS']; rfl))|((with_reducible refine xs_tail ?hz ?_);case hz=>rfl)|((with_reducible refine xs_keep ?hz ?_);case hz=>first|(with_reducible assumption)|(simp only [go_sem, Nat.reduceEqDiff, Nat.reduceAdd, Nat.reduceMul, Nat.reduceLeDiff, Nat.reduceLT, Int.reduceLT, Int.reduceLE, Int.reduceEq, Int.reduceNeg, Int.reduceToNat, Nat.reducePow, reduceIte, reduceCtorEq, Cells, and_true, k0, k3, k12, k18, t1', ewk]; done)|assumption)|((with_reducible apply xs_guard_no);(case hi=>rfl);(case hy=>rfl);(case hS=>assumption))|((first|((with_reducible apply xs_op);(case hi=>rfl))|((with_reducible apply xs_op_yes);(case hi=>rfl);(case hy=>rfl)));(case hr=>rfl);intro K hK; simp only [go_sem, Nat.reduceEqDiff, Nat.reduceAdd, Nat.reduceMul, Nat.reduceLeDiff, Nat.reduceLT, Int.reduceLT, Int.reduceLE, Int.reduceEq, Int.reduceNeg, Int.reduceToNat, Nat.reducePow, reduceIte, reduceCtorEq, k0, k3, k12, k18, t1', ewk])|(with_reducible first|refine jA ?_|(refine hK _ _ ?_;clear hK K)|refine jJ fun K hK=>?_|refine jK ?_|refine jL ?_|refine jM ?_|refine jN ?_|refine jO ?_|refine jP ?_|refine jQ ?_|(refine jB ?_;clear hK K)|(refine jC ?_;clear hK K)|refine jD ?_|refine jE ?_|refine jG ?_|refine jH ?_|refine jI ?_)|((with_reducible refine jR ?hq ?_);case hq=>rfl)|((first|(with_reducible first|refine jS fun K hK=>?_|refine jT ?_|refine jU ?_)|((with_reducible refine jV ?hy fun K hK=>?_);case hy=>rfl));simp only [go_sem, Nat.reduceEqDiff, Nat.reduceAdd, Nat.reduceMul, Nat.reduceLeDiff, Nat.reduceLT, Int.reduceLT, Int.reduceLE, Int.reduceEq, Int.reduceNeg, Int.reduceToNat, Nat.reducePow, reduceIte, reduceCtorEq, k0, k3, k12, k18, t1', ewk])|((with_reducible first|refine jW ?hy ?_|refine jY ?hy ?_);case hy=>rfl)|((with_reducible first|refine jX ?hy ?_|refine jZ ?hy ?_);case hy=>rfl)|((with_reducible refine jF ?hy ?_);case hy=>decide))
    refine Pkisthmuslaw07.pick_ok (n := (n : Int)) hv0 hv1 (by omega) ?_
    repeat' (first|(with_reducible refine xs_nil ?_)|((first|((with_reducible apply xs_rd);case hi=>rfl)|((with_reducible apply xs_guard_yes);(case hi=>rfl);(case hy=>rfl)));(case hr=>rfl);(case h1=>intro H' hS'; (try simp only [Cells, and_true] at hS');simp only [go_sem, Nat.reduceEqDiff, Nat.reduceAdd, Nat.reduceMul, Nat.reduceLeDiff, Nat.reduceLT, Int.reduceLT, Int.reduceLE, Int.reduceEq, Int.reduceNeg, Int.reduceToNat, Nat.reducePow, reduceIte, reduceCtorEq, k0, k3, k12, k18, t1', ewk, hS']; rfl))|((with_reducible refine xs_tail ?hz ?_);case hz=>rfl)|((with_reducible refine xs_keep ?hz ?_);case hz=>first|(with_reducible assumption)|(simp only [go_sem, Nat.reduceEqDiff, Nat.reduceAdd, Nat.reduceMul, Nat.reduceLeDiff, Nat.reduceLT, Int.reduceLT, Int.reduceLE, Int.reduceEq, Int.reduceNeg, Int.reduceToNat, Nat.reducePow, reduceIte, reduceCtorEq, Cells, and_true, k0, k3, k12, k18, t1', ewk]; done)|assumption)|((with_reducible apply xs_guard_no);(case hi=>rfl);(case hy=>rfl);(case hS=>assumption))|((first|((with_reducible apply xs_op);(case hi=>rfl))|((with_reducible apply xs_op_yes);(case hi=>rfl);(case hy=>rfl)));(case hr=>rfl);intro K hK; simp only [go_sem, Nat.reduceEqDiff, Nat.reduceAdd, Nat.reduceMul, Nat.reduceLeDiff, Nat.reduceLT, Int.reduceLT, Int.reduceLE, Int.reduceEq, Int.reduceNeg, Int.reduceToNat, Nat.reducePow, reduceIte, reduceCtorEq, k0, k3, k12, k18, t1', ewk])|(with_reducible first|refine jA ?_|(refine hK _ _ ?_;clear hK K)|refine jJ fun K hK=>?_|refine jK ?_|refine jL ?_|refine jM ?_|refine jN ?_|refine jO ?_|refine jP ?_|refine jQ ?_|(refine jB ?_;clear hK K)|(refine jC ?_;clear hK K)|refine jD ?_|refine jE ?_|refine jG ?_|refine jH ?_|refine jI ?_)|((with_reducible refine jR ?hq ?_);case hq=>rfl)|((first|(with_reducible first|refine jS fun K hK=>?_|refine jT ?_|refine jU ?_)|((with_reducible refine jV ?hy fun K hK=>?_);case hy=>rfl));simp only [go_sem, Nat.reduceEqDiff, Nat.reduceAdd, Nat.reduceMul, Nat.reduceLeDiff, Nat.reduceLT, Int.reduceLT, Int.reduceLE, Int.reduceEq, Int.reduceNeg, Int.reduceToNat, Nat.reducePow, reduceIte, reduceCtorEq, k0, k3, k12, k18, t1', ewk])|((with_reducible first|refine jW ?hy ?_|refine jY ?hy ?_);case hy=>rfl)|((with_reducible first|refine jX ?hy ?_|refine jZ ?hy ?_);case hy=>rfl)|((with_reducible refine jF ?hy ?_);case hy=>decide))
    refine Pkisthmuslaw07.pick_ok (n := 9) hw0 hw1 (by omega) ?_
    repeat' (first|(with_reducible refine xs_nil ?_)|((first|((with_reducible apply xs_rd);case hi=>rfl)|((with_reducible apply xs_guard_yes);(case hi=>rfl);(case hy=>rfl)));(case hr=>rfl);(case h1=>intro H' hS'; (try simp only [Cells, and_true] at hS');simp only [go_sem, Nat.reduceEqDiff, Nat.reduceAdd, Nat.reduceMul, Nat.reduceLeDiff, Nat.reduceLT, Int.reduceLT, Int.reduceLE, Int.reduceEq, Int.reduceNeg, Int.reduceToNat, Nat.reducePow, reduceIte, reduceCtorEq, k0, k3, k12, k18, t1', ewk, ew4, hS']; rfl))|((with_reducible refine xs_tail ?hz ?_);case hz=>rfl)|((with_reducible refine xs_keep ?hz ?_);case hz=>first|(with_reducible assumption)|(simp only [go_sem, Nat.reduceEqDiff, Nat.reduceAdd, Nat.reduceMul, Nat.reduceLeDiff, Nat.reduceLT, Int.reduceLT, Int.reduceLE, Int.reduceEq, Int.reduceNeg, Int.reduceToNat, Nat.reducePow, reduceIte, reduceCtorEq, Cells, and_true, k0, k3, k12, k18, t1', ewk, ew4]; done)|assumption)|((with_reducible apply xs_guard_no);(case hi=>rfl);(case hy=>rfl);(case hS=>assumption))|((first|((with_reducible apply xs_op);(case hi=>rfl))|((with_reducible apply xs_op_yes);(case hi=>rfl);(case hy=>rfl)));(case hr=>rfl);intro K hK; simp only [go_sem, Nat.reduceEqDiff, Nat.reduceAdd, Nat.reduceMul, Nat.reduceLeDiff, Nat.reduceLT, Int.reduceLT, Int.reduceLE, Int.reduceEq, Int.reduceNeg, Int.reduceToNat, Nat.reducePow, reduceIte, reduceCtorEq, k0, k3, k12, k18, t1', ewk, ew4])|(with_reducible first|refine jA ?_|(refine hK _ _ ?_;clear hK K)|refine jJ fun K hK=>?_|refine jK ?_|refine jL ?_|refine jM ?_|refine jN ?_|refine jO ?_|refine jP ?_|refine jQ ?_|(refine jB ?_;clear hK K)|(refine jC ?_;clear hK K)|refine jD ?_|refine jE ?_|refine jG ?_|refine jH ?_|refine jI ?_)|((with_reducible refine jR ?hq ?_);case hq=>rfl)|((first|(with_reducible first|refine jS fun K hK=>?_|refine jT ?_|refine jU ?_)|((with_reducible refine jV ?hy fun K hK=>?_);case hy=>rfl));simp only [go_sem, Nat.reduceEqDiff, Nat.reduceAdd, Nat.reduceMul, Nat.reduceLeDiff, Nat.reduceLT, Int.reduceLT, Int.reduceLE, Int.reduceEq, Int.reduceNeg, Int.reduceToNat, Nat.reducePow, reduceIte, reduceCtorEq, k0, k3, k12, k18, t1', ewk, ew4])|((with_reducible first|refine jW ?hy ?_|refine jY ?hy ?_);case hy=>rfl)|((with_reducible first|refine jX ?hy ?_|refine jZ ?hy ?_);case hy=>rfl)|((with_reducible refine jF ?hy ?_);case hy=>decide))
    refine insG W.b.m hSb (.inr ⟨by omega, by omega⟩) (fun h => by omega) gE_hi fun c H6 T6 l6 F6 hM6 hS6 hf6 hT6 => ?_
    have hlt6 := fun b hb => hx.lt (g := b) hb
    repeat' (first|(with_reducible refine xs_nil ?_)|((first|((with_reducible apply xs_rd);case hi=>rfl)|((with_reducible apply xs_guard_yes);(case hi=>rfl);(case hy=>rfl)));(case hr=>rfl);(case h1=>intro H' hS'; (try simp only [Cells, and_true] at hS');simp only [go_sem, Nat.reduceEqDiff, Nat.reduceAdd, Nat.reduceMul, Nat.reduceLeDiff, Nat.reduceLT, Int.reduceLT, Int.reduceLE, Int.reduceEq, Int.reduceNeg, Int.reduceToNat, Nat.reducePow, reduceIte, reduceCtorEq, k18, ew, hS']; rfl))|((with_reducible refine xs_tail ?hz ?_);case hz=>rfl)|((with_reducible refine xs_keep ?hz ?_);case hz=>first|(with_reducible assumption)|(simp only [go_sem, Nat.reduceEqDiff, Nat.reduceAdd, Nat.reduceMul, Nat.reduceLeDiff, Nat.reduceLT, Int.reduceLT, Int.reduceLE, Int.reduceEq, Int.reduceNeg, Int.reduceToNat, Nat.reducePow, reduceIte, reduceCtorEq, Cells, and_true, k18, ew]; done)|assumption)|((with_reducible apply xs_guard_no);(case hi=>rfl);(case hy=>rfl);(case hS=>assumption))|((first|((with_reducible apply xs_op);(case hi=>rfl))|((with_reducible apply xs_op_yes);(case hi=>rfl);(case hy=>rfl)));(case hr=>rfl);intro K hK; simp only [go_sem, Nat.reduceEqDiff, Nat.reduceAdd, Nat.reduceMul, Nat.reduceLeDiff, Nat.reduceLT, Int.reduceLT, Int.reduceLE, Int.reduceEq, Int.reduceNeg, Int.reduceToNat, Nat.reducePow, reduceIte, reduceCtorEq, k18, ew])|(with_reducible first|refine jA ?_|(refine hK _ _ ?_;clear hK K)|refine jJ fun K hK=>?_|refine jK ?_|refine jL ?_|refine jM ?_|refine jN ?_|refine jO ?_|refine jP ?_|refine jQ ?_|(refine jB ?_;clear hK K)|(refine jC ?_;clear hK K)|refine jD ?_|refine jE ?_|refine jG ?_|refine jH ?_|refine jI ?_)|((with_reducible refine jR ?hq ?_);case hq=>rfl)|((first|(with_reducible first|refine jS fun K hK=>?_|refine jT ?_|refine jU ?_)|((with_reducible refine jV ?hy fun K hK=>?_);case hy=>rfl));simp only [go_sem, Nat.reduceEqDiff, Nat.reduceAdd, Nat.reduceMul, Nat.reduceLeDiff, Nat.reduceLT, Int.reduceLT, Int.reduceLE, Int.reduceEq, Int.reduceNeg, Int.reduceToNat, Nat.reducePow, reduceIte, reduceCtorEq, k18, ew])|((with_reducible first|refine jW ?hy ?_|refine jY ?hy ?_);case hy=>rfl)|((with_reducible first|refine jX ?hy ?_|refine jZ ?hy ?_);case hy=>rfl)|((with_reducible refine jF ?hy ?_);case hy=>decide))
    exact loop_normal (m' := ly - (k + 1)) (by omega) ⟨k + 1, T6, l6, F6, rfl, by omega, W.opB hM6 hf6 hT6, hS6.congr (fun j => by omega), hx.frame hf6 fun b hb => (hB b hb).2.2, fun b hb => ⟨(hB b hb).1, (hB b hb).2.1, fun h => (hT6 b h).elim (hB b hb).2.2 fun h => by have := hlt6 b hb; omega⟩, rfl⟩
   ·have t2 : ((k : Int) < 90) = False := eq_false (by omega)
    have t2' : (k < 90) = False := eq_false h90
    repeat' (first|(with_reducible first|refine jA ?_|(refine hK _ _ ?_;clear hK K)|refine jJ fun K hK=>?_|refine jK ?_|refine jL ?_|refine jM ?_|refine jN ?_|refine jO ?_|refine jP ?_|refine jQ ?_|(refine jB ?_;clear hK K)|(refine jC ?_;clear hK K)|refine jD ?_|refine jE ?_|refine jG ?_|refine jH ?_|refine jI ?_)|((with_reducible refine jR ?hq ?_);case hq=>rfl)|((first|(with_reducible first|refine jS fun K hK=>?_|refine jT ?_|refine jU ?_)|((with_reducible refine jV ?hy fun K hK=>?_);case hy=>rfl));simp only [go_sem, Nat.reduceEqDiff, Nat.reduceAdd, Nat.reduceMul, Nat.reduceLeDiff, Nat.reduceLT, Int.reduceLT, Int.reduceLE, Int.reduceEq, Int.reduceNeg, Int.reduceToNat, Nat.reducePow, reduceIte, reduceCtorEq, k3, k18, t1, t1', t2, t2'])|((with_reducible first|refine jW ?hy ?_|refine jY ?hy ?_);case hy=>rfl)|((with_reducible first|refine jX ?hy ?_|refine jZ ?hy ?_);case hy=>rfl)|((with_reducible refine jF ?hy ?_);case hy=>decide))
    exact tail2 _ (by omega) k0 k1 k10 k12 k14
  ·have t1 : ((k : Int) < (ly : Int)) = False := eq_false (by omega)
   have t1' : (k < ly) = False := eq_false hlt
   repeat' (first|(with_reducible first|refine jA ?_|(refine hK _ _ ?_;clear hK K)|refine jJ fun K hK=>?_|refine jK ?_|refine jL ?_|refine jM ?_|refine jN ?_|refine jO ?_|refine jP ?_|refine jQ ?_|(refine jB ?_;clear hK K)|(refine jC ?_;clear hK K)|refine jD ?_|refine jE ?_|refine jG ?_|refine jH ?_|refine jI ?_)|((with_reducible refine jR ?hq ?_);case hq=>rfl)|((first|(with_reducible first|refine jS fun K hK=>?_|refine jT ?_|refine jU ?_)|((with_reducible refine jV ?hy fun K hK=>?_);case hy=>rfl));simp only [go_sem, Nat.reduceEqDiff, Nat.reduceAdd, Nat.reduceMul, Nat.reduceLeDiff, Nat.reduceLT, Int.reduceLT, Int.reduceLE, Int.reduceEq, Int.reduceNeg, Int.reduceToNat, Nat.reducePow, reduceIte, reduceCtorEq, k3, k18, t1, t1'])|((with_reducible first|refine jW ?hy ?_|refine jY ?hy ?_);case hy=>rfl)|((with_reducible first|refine jX ?hy ?_|refine jZ ?hy ?_);case hy=>rfl)|((with_reducible refine jF ?hy ?_);case hy=>decide))
   exact tail2 _ (by omega) k0 k1 k10 k12 k14
 by_cases hlt : i < lr
 ·have t1 : ((i : Int) < (lr : Int)) = True := eq_true (by omega)
  have t1' : (i < lr) = True := eq_true hlt
  by_cases h90 : i < 90
  ·have t2 : ((i : Int) < 90) = True := eq_true (by omega)
   have t2' : (i < 90) = True := eq_true h90
   have ew : IntKind.i64.wrap ((i : Int) + 1) = ((i + 1 : Nat) : Int) := by rw [wrap_i64] <;> omega
   have ewl : IntKind.i64.wrap ((xs.length : Int) + 1) = ((xs.length + 1 : Nat) : Int) := by rw [wrap_i64] <;> omega
   have hcap := (ir_sr.1 hx).cap.1
   have t7 : ((xs.length : Int) ≤ (cw : Int)) = True := eq_true (by omega)
   have t7' : (xs.length ≤ cw) = True := eq_true hcap
   repeat' (first|(with_reducible first|refine jA ?_|(refine hK _ _ ?_;clear hK K)|refine jJ fun K hK=>?_|refine jK ?_|refine jL ?_|refine jM ?_|refine jN ?_|refine jO ?_|refine jP ?_|refine jQ ?_|(refine jB ?_;clear hK K)|(refine jC ?_;clear hK K)|refine jD ?_|refine jE ?_|refine jG ?_|refine jH ?_|refine jI ?_)|((with_reducible refine jR ?hq ?_);case hq=>rfl)|((first|(with_reducible first|refine jS fun K hK=>?_|refine jT ?_|refine jU ?_)|((with_reducible refine jV ?hy fun K hK=>?_);case hy=>rfl));simp only [go_sem, Nat.reduceEqDiff, Nat.reduceAdd, Nat.reduceMul, Nat.reduceLeDiff, Nat.reduceLT, Int.reduceLT, Int.reduceLE, Int.reduceEq, Int.reduceNeg, Int.reduceToNat, Nat.reducePow, reduceIte, reduceCtorEq, i1, i14, i15, t1, t1', t2, t2'])|((with_reducible first|refine jW ?hy ?_|refine jY ?hy ?_);case hy=>rfl)|((with_reducible first|refine jX ?hy ?_|refine jZ ?hy ?_);case hy=>rfl)|((with_reducible refine jF ?hy ?_);case hy=>decide))
   rename_i KT hKT KI hKI
   have put : ∀ (e' : Env) (at' : Nat), at' ≤ xs.length → e' 0 = .int .i64 (n : Nat) → e' 1 = .slice ar lr cr → e' 2 = .slice ao lo co → e' 3 = .slice ay ly cy → e' 10 = .pointer (some ⟨fa, 0, none⟩) → e' 12 = .pointer (some ⟨fb, 0, none⟩) → e' 14 = .slice aw xs.length cw → e' 15 = .int .i64 (i : Nat) → e' 16 = .int .i64 (at' : Nat) → KT e' H2 := by
    intro e' at' hat j0 j1 j2 j3 j10 j12 j14 j15 j16
    refine hKT _ _ ?_
    clear hK K hKI KI hKT KT tail
    have q1 : (at' ≤ cw) = True := eq_true (by omega)
    have q2 : (at' ≤ xs.length) = True := eq_true hat
    repeat' (first|(with_reducible first|refine jA ?_|(refine hK _ _ ?_;clear hK K)|refine jJ fun K hK=>?_|refine jK ?_|refine jL ?_|refine jM ?_|refine jN ?_|refine jO ?_|refine jP ?_|refine jQ ?_|(refine jB ?_;clear hK K)|(refine jC ?_;clear hK K)|refine jD ?_|refine jE ?_|refine jG ?_|refine jH ?_|refine jI ?_)|((with_reducible refine jR ?hq ?_);case hq=>rfl)|((first|(with_reducible first|refine jS fun K hK=>?_|refine jT ?_|refine jU ?_)|((with_reducible refine jV ?hy fun K hK=>?_);case hy=>rfl));simp only [go_sem, Nat.reduceEqDiff, Nat.reduceAdd, Nat.reduceMul, Nat.reduceLeDiff, Nat.reduceLT, Int.reduceLT, Int.reduceLE, Int.reduceEq, Int.reduceNeg, Int.reduceToNat, Nat.reducePow, reduceIte, reduceCtorEq, j14, j16, q1])|((with_reducible first|refine jW ?hy ?_|refine jY ?hy ?_);case hy=>rfl)|((with_reducible first|refine jX ?hy ?_|refine jZ ?hy ?_);case hy=>rfl)|((with_reducible refine jF ?hy ?_);case hy=>decide))
    refine append_irp (lo := 0) (hi := at') (ys := xs) elems34 tl3 (IR.nil H2) hx (Nat.zero_le _) hat (by first | rfl | simp) (by first | rfl | simp) (by decide) (by simp; omega) rfl fun w3 H3 B3 h3 hf3 hB3 => ?_
    rw [List.drop_zero, Nat.sub_zero, List.nil_append] at h3
    have f3 : Fr (fun _ => False) H2 H3 := hf3.mono fun b _ h => by cases h
    have hB3' : ∀ b, B3 = some b → H2.size ≤ b := fun b hb => by
     rcases hB3 with e | ⟨g', hg, hge⟩
     ·rw [e] at hb; cases hb
     ·rw [hg] at hb
      obtain rfl := Option.some.inj hb
      exact hge
    have s3 := f3.size
    repeat' (first|(with_reducible first|refine jA ?_|(refine hK _ _ ?_;clear hK K)|refine jJ fun K hK=>?_|refine jK ?_|refine jL ?_|refine jM ?_|refine jN ?_|refine jO ?_|refine jP ?_|refine jQ ?_|(refine jB ?_;clear hK K)|(refine jC ?_;clear hK K)|refine jD ?_|refine jE ?_|refine jG ?_|refine jH ?_|refine jI ?_)|((with_reducible refine jR ?hq ?_);case hq=>rfl)|((first|(with_reducible first|refine jS fun K hK=>?_|refine jT ?_|refine jU ?_)|((with_reducible refine jV ?hy fun K hK=>?_);case hy=>rfl));simp only [go_sem, Nat.reduceEqDiff, Nat.reduceAdd, Nat.reduceMul, Nat.reduceLeDiff, Nat.reduceLT, Int.reduceLT, Int.reduceLE, Int.reduceEq, Int.reduceNeg, Int.reduceToNat, Nat.reducePow, reduceIte, reduceCtorEq, j15])|((with_reducible first|refine jW ?hy ?_|refine jY ?hy ?_);case hy=>rfl)|((with_reducible first|refine jX ?hy ?_|refine jZ ?hy ?_);case hy=>rfl)|((with_reducible refine jF ?hy ?_);case hy=>decide))
    refine append_ir (x := ((i : Nat) : Int)) elems34 tl3 h3 rfl (by decide) (by simp; omega) rfl fun w4 H4 B4 h4 hf4 hB4 => ?_
    have f4 : Fr (fun _ => False) H2 H4 := f3.trans' hf4 fun b hb e => by have := hB3' b e; omega
    have hB4' : ∀ b, B4 = some b → H2.size ≤ b := fun b hb => by
     rcases hB4 with e | ⟨g', hg, hge⟩
     ·exact hB3' b (by rw [← e]; exact hb)
     ·rw [hg] at hb
      obtain rfl := Option.some.inj hb
      omega
    have s4 := f4.size
    repeat' (first|(with_reducible first|refine jA ?_|(refine hK _ _ ?_;clear hK K)|refine jJ fun K hK=>?_|refine jK ?_|refine jL ?_|refine jM ?_|refine jN ?_|refine jO ?_|refine jP ?_|refine jQ ?_|(refine jB ?_;clear hK K)|(refine jC ?_;clear hK K)|refine jD ?_|refine jE ?_|refine jG ?_|refine jH ?_|refine jI ?_)|((with_reducible refine jR ?hq ?_);case hq=>rfl)|((first|(with_reducible first|refine jS fun K hK=>?_|refine jT ?_|refine jU ?_)|((with_reducible refine jV ?hy fun K hK=>?_);case hy=>rfl));simp only [go_sem, Nat.reduceEqDiff, Nat.reduceAdd, Nat.reduceMul, Nat.reduceLeDiff, Nat.reduceLT, Int.reduceLT, Int.reduceLE, Int.reduceEq, Int.reduceNeg, Int.reduceToNat, Nat.reducePow, reduceIte, reduceCtorEq, j14, j16, q2, t7, t7'])|((with_reducible first|refine jW ?hy ?_|refine jY ?hy ?_);case hy=>rfl)|((with_reducible first|refine jX ?hy ?_|refine jZ ?hy ?_);case hy=>rfl)|((with_reducible refine jF ?hy ?_);case hy=>decide))
    refine append_irp (lo := at') (hi := xs.length) (ys := xs) elems34 tl3 h4 (hx.frame f4 fun _ _ h => h) hat (Nat.le_refl _) (by first | rfl | simp) (by first | rfl | simp) (by decide) (by simp; omega) rfl fun w5 H5 B5 h5 hf5 hB5 => ?_
    have f5 : Fr (fun _ => False) H2 H5 := f4.trans' hf5 fun b hb e => by have := hB4' b e; omega
    have hB5' : ∀ b, B5 = some b → H2.size ≤ b := fun b hb => by
     rcases hB5 with e | ⟨g', hg, hge⟩
     ·exact hB4' b (by rw [← e]; exact hb)
     ·rw [hg] at hb
      obtain rfl := Option.some.inj hb
      omega
    have e6 : (xs.drop at').take (xs.length - at') = xs.drop at' := List.take_of_length_le (by rw [List.length_drop]; exact Nat.le_refl _)
    rw [e6] at h5
    have hO5 := hO.more at'
    have W5 := W.grow f5
    have hB6 : ∀ b, B5 = some b → H1.size ≤ b ∧ ¬ Ta b ∧ ¬ Tb b := fun b hb => by
     have h1 := hB5' b hb
     have h2 := W.a.fr.size
     exact ⟨by omega, fun h => by have := W.a.m.below b h; omega, fun h => by have := W.b.m.below b h; omega⟩
    clear hB3 hB3' hB4 hB4' hB5 hB5' h3 h4 hf3 hf4 hf5 f3 f4 W hx hB
    obtain ⟨a5, c5, rfl⟩ := id h5.slice
    obtain ⟨q, rfl, q0, q1, q2, q3⟩ := ((hr.frame f1).frame W5.a.fr).at hlt
    obtain ⟨⟨_, hu0, hu1⟩, ⟨hv0, hv1⟩, hw0, hw1⟩ : FitE (zs i) := hr.2 i hlt
    have qS : Cells [((q.add (i * 4)).block, (q.add (i * 4)).off + 1, .int .i64 (zs i).u), ((q.add (i * 4)).block, (q.add (i * 4)).off + 2, .int .i64 (zs i).v), ((q.add (i * 4)).block, (q.add (i * 4)).off + 3, .int .i64 (zs i).w)] H5 := ⟨q1, q2, q3, trivial⟩
    repeat' (first|(with_reducible first|refine jA ?_|(refine hK _ _ ?_;clear hK K)|refine jJ fun K hK=>?_|refine jK ?_|refine jL ?_|refine jM ?_|refine jN ?_|refine jO ?_|refine jP ?_|refine jQ ?_|(refine jB ?_;clear hK K)|(refine jC ?_;clear hK K)|refine jD ?_|refine jE ?_|refine jG ?_|refine jH ?_|refine jI ?_)|((with_reducible refine jR ?hq ?_);case hq=>rfl)|((first|(with_reducible first|refine jS fun K hK=>?_|refine jT ?_|refine jU ?_)|((with_reducible refine jV ?hy fun K hK=>?_);case hy=>rfl));simp only [go_sem, Nat.reduceEqDiff, Nat.reduceAdd, Nat.reduceMul, Nat.reduceLeDiff, Nat.reduceLT, Int.reduceLT, Int.reduceLE, Int.reduceEq, Int.reduceNeg, Int.reduceToNat, Nat.reducePow, reduceIte, reduceCtorEq])|((with_reducible first|refine jW ?hy ?_|refine jY ?hy ?_);case hy=>rfl)|((with_reducible first|refine jX ?hy ?_|refine jZ ?hy ?_);case hy=>rfl)|((with_reducible refine jF ?hy ?_);case hy=>decide))
    refine x_drawS [22] [0, 1, 2, 3, 4, 5, 6, 7, 9, 10, 11, 12, 13, 14, 16, 17, 18, 19, 20, 8, 15, 21, 22] rfl (by kernel_rfl) (Cells _) qS ?_
    repeat' (first|(with_reducible refine xs_nil ?_)|((first|((with_reducible apply xs_rd);case hi=>rfl)|((with_reducible apply xs_guard_yes);(case hi=>rfl);(case hy=>rfl)));(case hr=>rfl);(case h1=>intro H' hS'; (try simp only [Cells, and_true] at hS');simp only [go_sem, Nat.reduceEqDiff, Nat.reduceAdd, Nat.reduceMul, Nat.reduceLeDiff, Nat.reduceLT, Int.reduceLT, Int.reduceLE, Int.reduceEq, Int.reduceNeg, Int.reduceToNat, Nat.reducePow, reduceIte, reduceCtorEq, j0, j1, j10, j15, t1', hS']; rfl))|((with_reducible refine xs_tail ?hz ?_);case hz=>rfl)|((with_reducible refine xs_keep ?hz ?_);case hz=>first|(with_reducible assumption)|(simp only [go_sem, Nat.reduceEqDiff, Nat.reduceAdd, Nat.reduceMul, Nat.reduceLeDiff, Nat.reduceLT, Int.reduceLT, Int.reduceLE, Int.reduceEq, Int.reduceNeg, Int.reduceToNat, Nat.reducePow, reduceIte, reduceCtorEq, Cells, and_true, j0, j1, j10, j15, t1']; done)|assumption)|((with_reducible apply xs_guard_no);(case hi=>rfl);(case hy=>rfl);(case hS=>assumption))|((first|((with_reducible apply xs_op);(case hi=>rfl))|((with_reducible apply xs_op_yes);(case hi=>rfl);(case hy=>rfl)));(case hr=>rfl);intro K hK; simp only [go_sem, Nat.reduceEqDiff, Nat.reduceAdd, Nat.reduceMul, Nat.reduceLeDiff, Nat.reduceLT, Int.reduceLT, Int.reduceLE, Int.reduceEq, Int.reduceNeg, Int.reduceToNat, Nat.reducePow, reduceIte, reduceCtorEq, j0, j1, j10, j15, t1'])|(with_reducible first|refine jA ?_|(refine hK _ _ ?_;clear hK K)|refine jJ fun K hK=>?_|refine jK ?_|refine jL ?_|refine jM ?_|refine jN ?_|refine jO ?_|refine jP ?_|refine jQ ?_|(refine jB ?_;clear hK K)|(refine jC ?_;clear hK K)|refine jD ?_|refine jE ?_|refine jG ?_|refine jH ?_|refine jI ?_)|((with_reducible refine jR ?hq ?_);case hq=>rfl)|((first|(with_reducible first|refine jS fun K hK=>?_|refine jT ?_|refine jU ?_)|((with_reducible refine jV ?hy fun K hK=>?_);case hy=>rfl));simp only [go_sem, Nat.reduceEqDiff, Nat.reduceAdd, Nat.reduceMul, Nat.reduceLeDiff, Nat.reduceLT, Int.reduceLT, Int.reduceLE, Int.reduceEq, Int.reduceNeg, Int.reduceToNat, Nat.reducePow, reduceIte, reduceCtorEq, j0, j1, j10, j15, t1'])|((with_reducible first|refine jW ?hy ?_|refine jY ?hy ?_);case hy=>rfl)|((with_reducible first|refine jX ?hy ?_|refine jZ ?hy ?_);case hy=>rfl)|((with_reducible refine jF ?hy ?_);case hy=>decide))
    refine Pkisthmuslaw07.pick_ok (n := (n : Int)) hu0 hu1 (by omega) ?_
    repeat' (first|(with_reducible refine xs_nil ?_)|((first|((with_reducible apply xs_rd);case hi=>rfl)|((with_reducible apply xs_guard_yes);(case hi=>rfl);(case hy=>rfl)));(case hr=>rfl);(case h1=>intro H' hS'; (try simp only [Cells, and_true] at hS');simp only [go_sem, Nat.reduceEqDiff, Nat.reduceAdd, Nat.reduceMul, Nat.reduceLeDiff, Nat.reduceLT, Int.reduceLT, Int.reduceLE, Int.reduceEq, Int.reduceNeg, Int.reduceToNat, Nat.reducePow, reduceIte, reduceCtorEq, j0, j1, j10, j15, t1', hS']; rfl))|((with_reducible refine xs_tail ?hz ?_);case hz=>rfl)|((with_reducible refine xs_keep ?hz ?_);case hz=>first|(with_reducible assumption)|(simp only [go_sem, Nat.reduceEqDiff, Nat.reduceAdd, Nat.reduceMul, Nat.reduceLeDiff, Nat.reduceLT, Int.reduceLT, Int.reduceLE, Int.reduceEq, Int.reduceNeg, Int.reduceToNat, Nat.reducePow, reduceIte, reduceCtorEq, Cells, and_true, j0, j1, j10, j15, t1']; done)|assumption)|((with_reducible apply xs_guard_no);(case hi=>rfl);(case hy=>rfl);(case hS=>assumption))|((first|((with_reducible apply xs_op);(case hi=>rfl))|((with_reducible apply xs_op_yes);(case hi=>rfl);(case hy=>rfl)));(case hr=>rfl);intro K hK; simp only [go_sem, Nat.reduceEqDiff, Nat.reduceAdd, Nat.reduceMul, Nat.reduceLeDiff, Nat.reduceLT, Int.reduceLT, Int.reduceLE, Int.reduceEq, Int.reduceNeg, Int.reduceToNat, Nat.reducePow, reduceIte, reduceCtorEq, j0, j1, j10, j15, t1'])|(with_reducible first|refine jA ?_|(refine hK _ _ ?_;clear hK K)|refine jJ fun K hK=>?_|refine jK ?_|refine jL ?_|refine jM ?_|refine jN ?_|refine jO ?_|refine jP ?_|refine jQ ?_|(refine jB ?_;clear hK K)|(refine jC ?_;clear hK K)|refine jD ?_|refine jE ?_|refine jG ?_|refine jH ?_|refine jI ?_)|((with_reducible refine jR ?hq ?_);case hq=>rfl)|((first|(with_reducible first|refine jS fun K hK=>?_|refine jT ?_|refine jU ?_)|((with_reducible refine jV ?hy fun K hK=>?_);case hy=>rfl));simp only [go_sem, Nat.reduceEqDiff, Nat.reduceAdd, Nat.reduceMul, Nat.reduceLeDiff, Nat.reduceLT, Int.reduceLT, Int.reduceLE, Int.reduceEq, Int.reduceNeg, Int.reduceToNat, Nat.reducePow, reduceIte, reduceCtorEq, j0, j1, j10, j15, t1'])|((with_reducible first|refine jW ?hy ?_|refine jY ?hy ?_);case hy=>rfl)|((with_reducible first|refine jX ?hy ?_|refine jZ ?hy ?_);case hy=>rfl)|((with_reducible refine jF ?hy ?_);case hy=>decide))
    refine Pkisthmuslaw07.pick_ok (n := (n : Int)) hv0 hv1 (by omega) ?_
    repeat' (first|(with_reducible refine xs_nil ?_)|((first|((with_reducible apply xs_rd);case hi=>rfl)|((with_reducible apply xs_guard_yes);(case hi=>rfl);(case hy=>rfl)));(case hr=>rfl);(case h1=>intro H' hS'; (try simp only [Cells, and_true] at hS');simp only [go_sem, Nat.reduceEqDiff, Nat.reduceAdd, Nat.reduceMul, Nat.reduceLeDiff, Nat.reduceLT, Int.reduceLT, Int.reduceLE, Int.reduceEq, Int.reduceNeg, Int.reduceToNat, Nat.reducePow, reduceIte, reduceCtorEq, j0, j1, j10, j15, t1', hS']; rfl))|((with_reducible refine xs_tail ?hz ?_);case hz=>rfl)|((with_reducible refine xs_keep ?hz ?_);case hz=>first|(with_reducible assumption)|(simp only [go_sem, Nat.reduceEqDiff, Nat.reduceAdd, Nat.reduceMul, Nat.reduceLeDiff, Nat.reduceLT, Int.reduceLT, Int.reduceLE, Int.reduceEq, Int.reduceNeg, Int.reduceToNat, Nat.reducePow, reduceIte, reduceCtorEq, Cells, and_true, j0, j1, j10, j15, t1']; done)|assumption)|((with_reducible apply xs_guard_no);(case hi=>rfl);(case hy=>rfl);(case hS=>assumption))|((first|((with_reducible apply xs_op);(case hi=>rfl))|((with_reducible apply xs_op_yes);(case hi=>rfl);(case hy=>rfl)));(case hr=>rfl);intro K hK; simp only [go_sem, Nat.reduceEqDiff, Nat.reduceAdd, Nat.reduceMul, Nat.reduceLeDiff, Nat.reduceLT, Int.reduceLT, Int.reduceLE, Int.reduceEq, Int.reduceNeg, Int.reduceToNat, Nat.reducePow, reduceIte, reduceCtorEq, j0, j1, j10, j15, t1'])|(with_reducible first|refine jA ?_|(refine hK _ _ ?_;clear hK K)|refine jJ fun K hK=>?_|refine jK ?_|refine jL ?_|refine jM ?_|refine jN ?_|refine jO ?_|refine jP ?_|refine jQ ?_|(refine jB ?_;clear hK K)|(refine jC ?_;clear hK K)|refine jD ?_|refine jE ?_|refine jG ?_|refine jH ?_|refine jI ?_)|((with_reducible refine jR ?hq ?_);case hq=>rfl)|((first|(with_reducible first|refine jS fun K hK=>?_|refine jT ?_|refine jU ?_)|((with_reducible refine jV ?hy fun K hK=>?_);case hy=>rfl));simp only [go_sem, Nat.reduceEqDiff, Nat.reduceAdd, Nat.reduceMul, Nat.reduceLeDiff, Nat.reduceLT, Int.reduceLT, Int.reduceLE, Int.reduceEq, Int.reduceNeg, Int.reduceToNat, Nat.reducePow, reduceIte, reduceCtorEq, j0, j1, j10, j15, t1'])|((with_reducible first|refine jW ?hy ?_|refine jY ?hy ?_);case hy=>rfl)|((with_reducible first|refine jX ?hy ?_|refine jZ ?hy ?_);case hy=>rfl)|((with_reducible refine jF ?hy ?_);case hy=>decide))
    refine Pkisthmuslaw07.pick_ok (n := 9) hw0 hw1 (by omega) ?_
    repeat' (first|(with_reducible refine xs_nil ?_)|((first|((with_reducible apply xs_rd);case hi=>rfl)|((with_reducible apply xs_guard_yes);(case hi=>rfl);(case hy=>rfl)));(case hr=>rfl);(case h1=>intro H' hS'; (try simp only [Cells, and_true] at hS');simp only [go_sem, Nat.reduceEqDiff, Nat.reduceAdd, Nat.reduceMul, Nat.reduceLeDiff, Nat.reduceLT, Int.reduceLT, Int.reduceLE, Int.reduceEq, Int.reduceNeg, Int.reduceToNat, Nat.reducePow, reduceIte, reduceCtorEq, j0, j1, j10, j15, t1', hS']; rfl))|((with_reducible refine xs_tail ?hz ?_);case hz=>rfl)|((with_reducible refine xs_keep ?hz ?_);case hz=>first|(with_reducible assumption)|(simp only [go_sem, Nat.reduceEqDiff, Nat.reduceAdd, Nat.reduceMul, Nat.reduceLeDiff, Nat.reduceLT, Int.reduceLT, Int.reduceLE, Int.reduceEq, Int.reduceNeg, Int.reduceToNat, Nat.reducePow, reduceIte, reduceCtorEq, Cells, and_true, j0, j1, j10, j15, t1']; done)|assumption)|((with_reducible apply xs_guard_no);(case hi=>rfl);(case hy=>rfl);(case hS=>assumption))|((first|((with_reducible apply xs_op);(case hi=>rfl))|((with_reducible apply xs_op_yes);(case hi=>rfl);(case hy=>rfl)));(case hr=>rfl);intro K hK; simp only [go_sem, Nat.reduceEqDiff, Nat.reduceAdd, Nat.reduceMul, Nat.reduceLeDiff, Nat.reduceLT, Int.reduceLT, Int.reduceLE, Int.reduceEq, Int.reduceNeg, Int.reduceToNat, Nat.reducePow, reduceIte, reduceCtorEq, j0, j1, j10, j15, t1'])|(with_reducible first|refine jA ?_|(refine hK _ _ ?_;clear hK K)|refine jJ fun K hK=>?_|refine jK ?_|refine jL ?_|refine jM ?_|refine jN ?_|refine jO ?_|refine jP ?_|refine jQ ?_|(refine jB ?_;clear hK K)|(refine jC ?_;clear hK K)|refine jD ?_|refine jE ?_|refine jG ?_|refine jH ?_|refine jI ?_)|((with_reducible refine jR ?hq ?_);case hq=>rfl)|((first|(with_reducible first|refine jS fun K hK=>?_|refine jT ?_|refine jU ?_)|((with_reducible refine jV ?hy fun K hK=>?_);case hy=>rfl));simp only [go_sem, Nat.reduceEqDiff, Nat.reduceAdd, Nat.reduceMul, Nat.reduceLeDiff, Nat.reduceLT, Int.reduceLT, Int.reduceLE, Int.reduceEq, Int.reduceNeg, Int.reduceToNat, Nat.reducePow, reduceIte, reduceCtorEq, j0, j1, j10, j15, t1'])|((with_reducible first|refine jW ?hy ?_|refine jY ?hy ?_);case hy=>rfl)|((with_reducible first|refine jX ?hy ?_|refine jZ ?hy ?_);case hy=>rfl)|((with_reducible refine jF ?hy ?_);case hy=>decide))
    refine insG W5.a.m hS (.inl (by omega)) (Nat.lt_irrefl _) (gE_lo (by omega)) fun c H6 T6 l6 F6 hM6 hS6 hf6 hT6 => ?_
    have hlt6 := fun b hb => h5.lt (g := b) hb
    repeat' (first|(with_reducible refine xs_nil ?_)|((first|((with_reducible apply xs_rd);case hi=>rfl)|((with_reducible apply xs_guard_yes);(case hi=>rfl);(case hy=>rfl)));(case hr=>rfl);(case h1=>intro H' hS'; (try simp only [Cells, and_true] at hS');simp only [go_sem, Nat.reduceEqDiff, Nat.reduceAdd, Nat.reduceMul, Nat.reduceLeDiff, Nat.reduceLT, Int.reduceLT, Int.reduceLE, Int.reduceEq, Int.reduceNeg, Int.reduceToNat, Nat.reducePow, reduceIte, reduceCtorEq, j15, ew, hS']; rfl))|((with_reducible refine xs_tail ?hz ?_);case hz=>rfl)|((with_reducible refine xs_keep ?hz ?_);case hz=>first|(with_reducible assumption)|(simp only [go_sem, Nat.reduceEqDiff, Nat.reduceAdd, Nat.reduceMul, Nat.reduceLeDiff, Nat.reduceLT, Int.reduceLT, Int.reduceLE, Int.reduceEq, Int.reduceNeg, Int.reduceToNat, Nat.reducePow, reduceIte, reduceCtorEq, Cells, and_true, j15, ew]; done)|assumption)|((with_reducible apply xs_guard_no);(case hi=>rfl);(case hy=>rfl);(case hS=>assumption))|((first|((with_reducible apply xs_op);(case hi=>rfl))|((with_reducible apply xs_op_yes);(case hi=>rfl);(case hy=>rfl)));(case hr=>rfl);intro K hK; simp only [go_sem, Nat.reduceEqDiff, Nat.reduceAdd, Nat.reduceMul, Nat.reduceLeDiff, Nat.reduceLT, Int.reduceLT, Int.reduceLE, Int.reduceEq, Int.reduceNeg, Int.reduceToNat, Nat.reducePow, reduceIte, reduceCtorEq, j15, ew])|(with_reducible first|refine jA ?_|(refine hK _ _ ?_;clear hK K)|refine jJ fun K hK=>?_|refine jK ?_|refine jL ?_|refine jM ?_|refine jN ?_|refine jO ?_|refine jP ?_|refine jQ ?_|(refine jB ?_;clear hK K)|(refine jC ?_;clear hK K)|refine jD ?_|refine jE ?_|refine jG ?_|refine jH ?_|refine jI ?_)|((with_reducible refine jR ?hq ?_);case hq=>rfl)|((first|(with_reducible first|refine jS fun K hK=>?_|refine jT ?_|refine jU ?_)|((with_reducible refine jV ?hy fun K hK=>?_);case hy=>rfl));simp only [go_sem, Nat.reduceEqDiff, Nat.reduceAdd, Nat.reduceMul, Nat.reduceLeDiff, Nat.reduceLT, Int.reduceLT, Int.reduceLE, Int.reduceEq, Int.reduceNeg, Int.reduceToNat, Nat.reducePow, reduceIte, reduceCtorEq, j15, ew])|((with_reducible first|refine jW ?hy ?_|refine jY ?hy ?_);case hy=>rfl)|((with_reducible first|refine jX ?hy ?_|refine jZ ?hy ?_);case hy=>rfl)|((with_reducible refine jF ?hy ?_);case hy=>decide))
    exact loop_normal (m' := lr - (i + 1)) (by omega) ⟨i + 1, T6, l6, F6, B5, _, _, rfl, rfl, by omega, W5.opA hM6 hf6 hT6, hS6.congr (fun j => by omega), h5.frame hf6 fun b hb => (hB6 b hb).2.1, fun b hb => ⟨(hB6 b hb).1, fun h => (hT6 b h).elim (hB6 b hb).2.1 fun h => by have := hlt6 b hb; omega, (hB6 b hb).2.2⟩, hO5, rfl⟩
   by_cases h3 : i < lo
   ·have t3 : ((i : Int) < (lo : Int)) = True := eq_true (by omega)
    have t3' : (i < lo) = True := eq_true h3
    obtain ⟨p, rfl, hp, p1, p2⟩ := (ho.frame (f1.trans W.a.fr)) i h3
    simp only [go_sem, Nat.reduceEqDiff, Nat.reduceAdd, Nat.reduceMul, Nat.reduceLeDiff, Nat.reduceLT, Int.reduceLT, Int.reduceLE, Int.reduceEq, Int.reduceNeg, Int.reduceToNat, Nat.reducePow, reduceIte, reduceCtorEq, i2]
    repeat' (first|(with_reducible first|refine jA ?_|(refine hK _ _ ?_;clear hK K)|refine jJ fun K hK=>?_|refine jK ?_|refine jL ?_|refine jM ?_|refine jN ?_|refine jO ?_|refine jP ?_|refine jQ ?_|(refine jB ?_;clear hK K)|(refine jC ?_;clear hK K)|refine jD ?_|refine jE ?_|refine jG ?_|refine jH ?_|refine jI ?_)|((with_reducible refine jR ?hq ?_);case hq=>rfl)|((first|(with_reducible first|refine jS fun K hK=>?_|refine jT ?_|refine jU ?_)|((with_reducible refine jV ?hy fun K hK=>?_);case hy=>rfl));simp only [go_sem, Nat.reduceEqDiff, Nat.reduceAdd, Nat.reduceMul, Nat.reduceLeDiff, Nat.reduceLT, Int.reduceLT, Int.reduceLE, Int.reduceEq, Int.reduceNeg, Int.reduceToNat, Nat.reducePow, reduceIte, reduceCtorEq, i15, t3, t3'])|((with_reducible first|refine jW ?hy ?_|refine jY ?hy ?_);case hy=>rfl)|((with_reducible first|refine jX ?hy ?_|refine jZ ?hy ?_);case hy=>rfl)|((with_reducible refine jF ?hy ?_);case hy=>decide))
    refine hKI _ _ ?_
    clear hKI KI
    repeat' (first|(with_reducible first|refine jA ?_|(refine hK _ _ ?_;clear hK K)|refine jJ fun K hK=>?_|refine jK ?_|refine jL ?_|refine jM ?_|refine jN ?_|refine jO ?_|refine jP ?_|refine jQ ?_|(refine jB ?_;clear hK K)|(refine jC ?_;clear hK K)|refine jD ?_|refine jE ?_|refine jG ?_|refine jH ?_|refine jI ?_)|((with_reducible refine jR ?hq ?_);case hq=>rfl)|((first|(with_reducible first|refine jS fun K hK=>?_|refine jT ?_|refine jU ?_)|((with_reducible refine jV ?hy fun K hK=>?_);case hy=>rfl));simp only [go_sem, Nat.reduceEqDiff, Nat.reduceAdd, Nat.reduceMul, Nat.reduceLeDiff, Nat.reduceLT, Int.reduceLT, Int.reduceLE, Int.reduceEq, Int.reduceNeg, Int.reduceToNat, Nat.reducePow, reduceIte, reduceCtorEq, i2, i14, i15, t3, t3', hp, ewl])|((with_reducible first|refine jW ?hy ?_|refine jY ?hy ?_);case hy=>rfl)|((with_reducible first|refine jX ?hy ?_|refine jZ ?hy ?_);case hy=>rfl)|((with_reducible refine jF ?hy ?_);case hy=>decide))
    refine pick_n (n := xs.length + 1) ⟨p1, p2⟩ (by omega) fun at' _ hat => ?_
    repeat' (first|(with_reducible first|refine jA ?_|(refine hK _ _ ?_;clear hK K)|refine jJ fun K hK=>?_|refine jK ?_|refine jL ?_|refine jM ?_|refine jN ?_|refine jO ?_|refine jP ?_|refine jQ ?_|(refine jB ?_;clear hK K)|(refine jC ?_;clear hK K)|refine jD ?_|refine jE ?_|refine jG ?_|refine jH ?_|refine jI ?_)|((with_reducible refine jR ?hq ?_);case hq=>rfl)|((first|(with_reducible first|refine jS fun K hK=>?_|refine jT ?_|refine jU ?_)|((with_reducible refine jV ?hy fun K hK=>?_);case hy=>rfl));simp only [go_sem, Nat.reduceEqDiff, Nat.reduceAdd, Nat.reduceMul, Nat.reduceLeDiff, Nat.reduceLT, Int.reduceLT, Int.reduceLE, Int.reduceEq, Int.reduceNeg, Int.reduceToNat, Nat.reducePow, reduceIte, reduceCtorEq])|((with_reducible first|refine jW ?hy ?_|refine jY ?hy ?_);case hy=>rfl)|((with_reducible first|refine jX ?hy ?_|refine jZ ?hy ?_);case hy=>rfl)|((with_reducible refine jF ?hy ?_);case hy=>decide))
    exact put _ at' (by omega) i0 i1 i2 i3 i10 i12 i14 i15 rfl
   ·have t3 : ((i : Int) < (lo : Int)) = False := eq_false (by omega)
    have t3' : (i < lo) = False := eq_false h3
    simp only [go_sem, Nat.reduceEqDiff, Nat.reduceAdd, Nat.reduceMul, Nat.reduceLeDiff, Nat.reduceLT, Int.reduceLT, Int.reduceLE, Int.reduceEq, Int.reduceNeg, Int.reduceToNat, Nat.reducePow, reduceIte, reduceCtorEq, i2]
    repeat' (first|(with_reducible first|refine jA ?_|(refine hK _ _ ?_;clear hK K)|refine jJ fun K hK=>?_|refine jK ?_|refine jL ?_|refine jM ?_|refine jN ?_|refine jO ?_|refine jP ?_|refine jQ ?_|(refine jB ?_;clear hK K)|(refine jC ?_;clear hK K)|refine jD ?_|refine jE ?_|refine jG ?_|refine jH ?_|refine jI ?_)|((with_reducible refine jR ?hq ?_);case hq=>rfl)|((first|(with_reducible first|refine jS fun K hK=>?_|refine jT ?_|refine jU ?_)|((with_reducible refine jV ?hy fun K hK=>?_);case hy=>rfl));simp only [go_sem, Nat.reduceEqDiff, Nat.reduceAdd, Nat.reduceMul, Nat.reduceLeDiff, Nat.reduceLT, Int.reduceLT, Int.reduceLE, Int.reduceEq, Int.reduceNeg, Int.reduceToNat, Nat.reducePow, reduceIte, reduceCtorEq, i15, t3, t3'])|((with_reducible first|refine jW ?hy ?_|refine jY ?hy ?_);case hy=>rfl)|((with_reducible first|refine jX ?hy ?_|refine jZ ?hy ?_);case hy=>rfl)|((with_reducible refine jF ?hy ?_);case hy=>decide))
    refine hKI _ _ ?_
    clear hKI KI
    repeat' (first|(with_reducible first|refine jA ?_|(refine hK _ _ ?_;clear hK K)|refine jJ fun K hK=>?_|refine jK ?_|refine jL ?_|refine jM ?_|refine jN ?_|refine jO ?_|refine jP ?_|refine jQ ?_|(refine jB ?_;clear hK K)|(refine jC ?_;clear hK K)|refine jD ?_|refine jE ?_|refine jG ?_|refine jH ?_|refine jI ?_)|((with_reducible refine jR ?hq ?_);case hq=>rfl)|((first|(with_reducible first|refine jS fun K hK=>?_|refine jT ?_|refine jU ?_)|((with_reducible refine jV ?hy fun K hK=>?_);case hy=>rfl));simp only [go_sem, Nat.reduceEqDiff, Nat.reduceAdd, Nat.reduceMul, Nat.reduceLeDiff, Nat.reduceLT, Int.reduceLT, Int.reduceLE, Int.reduceEq, Int.reduceNeg, Int.reduceToNat, Nat.reducePow, reduceIte, reduceCtorEq])|((with_reducible first|refine jW ?hy ?_|refine jY ?hy ?_);case hy=>rfl)|((with_reducible first|refine jX ?hy ?_|refine jZ ?hy ?_);case hy=>rfl)|((with_reducible refine jF ?hy ?_);case hy=>decide))
    exact put _ xs.length (Nat.le_refl _) i0 i1 i2 i3 i10 i12 i14 i15 rfl
  ·have t2 : ((i : Int) < 90) = False := eq_false (by omega)
   have t2' : (i < 90) = False := eq_false h90
   repeat' (first|(with_reducible first|refine jA ?_|(refine hK _ _ ?_;clear hK K)|refine jJ fun K hK=>?_|refine jK ?_|refine jL ?_|refine jM ?_|refine jN ?_|refine jO ?_|refine jP ?_|refine jQ ?_|(refine jB ?_;clear hK K)|(refine jC ?_;clear hK K)|refine jD ?_|refine jE ?_|refine jG ?_|refine jH ?_|refine jI ?_)|((with_reducible refine jR ?hq ?_);case hq=>rfl)|((first|(with_reducible first|refine jS fun K hK=>?_|refine jT ?_|refine jU ?_)|((with_reducible refine jV ?hy fun K hK=>?_);case hy=>rfl));simp only [go_sem, Nat.reduceEqDiff, Nat.reduceAdd, Nat.reduceMul, Nat.reduceLeDiff, Nat.reduceLT, Int.reduceLT, Int.reduceLE, Int.reduceEq, Int.reduceNeg, Int.reduceToNat, Nat.reducePow, reduceIte, reduceCtorEq, i1, i15, t1, t1', t2, t2'])|((with_reducible first|refine jW ?hy ?_|refine jY ?hy ?_);case hy=>rfl)|((with_reducible first|refine jX ?hy ?_|refine jZ ?hy ?_);case hy=>rfl)|((with_reducible refine jF ?hy ?_);case hy=>decide))
   exact tail _ (by omega) i0 i1 i3 i10 i12 i14
 ·have t1 : ((i : Int) < (lr : Int)) = False := eq_false (by omega)
  have t1' : (i < lr) = False := eq_false hlt
  repeat' (first|(with_reducible first|refine jA ?_|(refine hK _ _ ?_;clear hK K)|refine jJ fun K hK=>?_|refine jK ?_|refine jL ?_|refine jM ?_|refine jN ?_|refine jO ?_|refine jP ?_|refine jQ ?_|(refine jB ?_;clear hK K)|(refine jC ?_;clear hK K)|refine jD ?_|refine jE ?_|refine jG ?_|refine jH ?_|refine jI ?_)|((with_reducible refine jR ?hq ?_);case hq=>rfl)|((first|(with_reducible first|refine jS fun K hK=>?_|refine jT ?_|refine jU ?_)|((with_reducible refine jV ?hy fun K hK=>?_);case hy=>rfl));simp only [go_sem, Nat.reduceEqDiff, Nat.reduceAdd, Nat.reduceMul, Nat.reduceLeDiff, Nat.reduceLT, Int.reduceLT, Int.reduceLE, Int.reduceEq, Int.reduceNeg, Int.reduceToNat, Nat.reducePow, reduceIte, reduceCtorEq, i1, i15, t1, t1'])|((with_reducible first|refine jW ?hy ?_|refine jY ?hy ?_);case hy=>rfl)|((with_reducible first|refine jX ?hy ?_|refine jZ ?hy ?_);case hy=>rfl)|((with_reducible refine jF ?hy ?_);case hy=>decide))
  exact tail _ (by omega) i0 i1 i3 i10 i12 i14
end
end Go.Proofs.Ytafehbegoanajaa
namespace Go.Hp
open Go Go.ChangeShapes Go.WideShapes Go.RowKit
set_option linter.unusedVariables false
section
variable {E : Type} {enc : TypeId × Value → E} {P : Program} {w : World} {base : Nat} {spare : Nat → Bool} {held : Bool}
theorem cells_in {t e : TypeId} {a : Option Addr} {len cap : Nat} {d : DataW E} {p : List MemPlace} (ht : P.underlying t = some (.slice e)) (h : DataW.Trod enc P w base spare held t (.slice a len cap) d p) :
  len ≤ 9223372036854775807 ∧ ∀ i, i < len → ∃ (q : Addr) (cs : List Value) (m : Nat) (y : DataW E × List MemPlace), a = some q ∧ w.cells? base (q.add (i * P.cellsOf e)) (P.cellsOf e) = some cs ∧ DataW.trod enc P w base spare held m e cs = some y := by
 obtain ⟨fuel, hf⟩ := h
 rcases DataW.trod_slice ht hf with ⟨h0, _⟩ | ⟨a', len', cap', elems, rest, n, _, h0, _, hb, hl, hm, hlen, hel, hsp, hns⟩
 ·simp [Value.cells] at h0
  obtain ⟨rfl, rfl, rfl⟩ := h0
  exact ⟨by omega, fun i hi => absurd hi (by omega)⟩
 ·simp [Value.cells] at h0
  obtain ⟨rfl, rfl, rfl⟩ := h0
  refine ⟨by unfold maxLen at hm; omega, fun i hi => ?_⟩
  have h1 := hel i hi
  rw [List.getElem?_eq_getElem (by omega)] at h1
  obtain ⟨cs, hcs, hy⟩ := Option.bind_eq_some_iff.1 h1
  exact ⟨a', cs, n, _, rfl, hcs, hy⟩
theorem fit_of_wf {n : Int} (h : (Lit.int .i64 n).wf = true) : -9223372036854775808 ≤ n ∧ n ≤ 9223372036854775807 := by
 have hb := bounds_i64 h
 omega
theorem ints_in {t e : TypeId} {a : Option Addr} {len cap : Nat} {d : DataW E} {p : List MemPlace} (ht : P.underlying t = some (.slice e)) (he : P.underlying e = some (.int .i64)) (hc : P.cellsOf e = 1) (h : DataW.Trod enc P w base spare held t (.slice a len cap) d p) :
  len ≤ 9223372036854775807 ∧ ∃ zs, InInts w.heap a len zs := by
 obtain ⟨hl, hi⟩ := cells_in ht h
 refine ⟨hl, ?_⟩
 have each : ∀ i, i < len → ∃ (q : Addr) (n : Int), a = some q ∧ w.cell? (q.add i) = some (.int .i64 n) ∧ (Lit.int .i64 n).wf = true := fun i hlt => by
  obtain ⟨q, cs, m, y, h1, h2, h3⟩ := hi i hlt
  obtain ⟨n, rfl, _, hw⟩ := DataW.trod_int he h3
  rw [hc, Nat.mul_one] at h2
  obtain ⟨_, _, h4⟩ := World.cells?_some h2
  refine ⟨q, n, h1, ?_, hw⟩
  have := h4 0 (by omega)
  simpa [Addr.add] using this
 refine ⟨fun i => if h : i < len then (each i h).choose_spec.choose else 0, fun i hlt => ?_⟩
 have e := (each i hlt).choose_spec.choose_spec
 refine ⟨_, e.1, ?_, ?_⟩
 ·simp only [hlt, dif_pos]
  exact e.2.1
 ·simp only [hlt, dif_pos]
  exact fit_of_wf e.2.2
theorem field_in {e : TypeId} {fs : Array Field} {q : Addr} {n : Nat} {cs : List Value} {m : Nat} {y : DataW E × List MemPlace} (he : P.underlying e = some (.struct fs)) (h2 : w.cells? base q n = some cs) (h3 : DataW.trod enc P w base spare held m e cs = some y)
  (i : Nat) {f : Field} (hf : fs[i]? = some f) (hc : P.cellsOf f.type = 1) (ho : f.offset < n) :
  ∃ (v : Value) (z : DataW E × List MemPlace) (m' : Nat), w.cell? (q.add f.offset) = some v ∧ DataW.trod enc P w base spare held m' f.type [v] = some z := by
 obtain ⟨xs, n', _, _, hlen, hxl, hfs⟩ := DataW.trod_struct he h3
 obtain ⟨_, hcl, hcell⟩ := World.cells?_some h2
 have h4 := hfs i f hf
 have hlt : i < fs.size := (Array.getElem?_eq_some_iff.1 hf).1
 rw [hc, List.getElem?_eq_getElem (by omega)] at h4
 have hd : (cs.drop f.offset).take 1 = [cs[f.offset]'(by omega)] := by
  rw [List.drop_eq_getElem_cons (by omega)]; rfl
 rw [hd] at h4
 refine ⟨_, _, n', ?_, h4⟩
 rw [hcell f.offset ho, List.getElem?_eq_getElem (by omega)]
end
theorem add_zero_addr (q : Addr) : q.add 0 = q := rfl
theorem add_succ_addr (q : Addr) (n : Nat) : q.add (n + 1) = ⟨q.block, q.off + (n + 1), none⟩ := by
 unfold Addr.add; rw [if_neg (by omega)]
end Go.Hp
namespace Go.Proofs.Ytafehbegoanajaa
open Go Go.Hp Go.Li Go.Br Go.ChangeShapes Go.WideShapes Go.RowKit
set_option linter.unusedVariables false
section
variable {E : Type} {enc : TypeId × Value → E} {P : Program} {w : World} {base : Nat} {spare : Nat → Bool} {held : Bool}
theorem part_in {e : TypeId} {fs : Array Field} {cs : List Value} {m : Nat} {y : DataW E × List MemPlace} (he : P.underlying e = some (.struct fs)) (h3 : DataW.trod enc P w base spare held m e cs = some y) (i : Nat) {f : Field} (hf : fs[i]? = some f) :
  ∃ (z : DataW E × List MemPlace) (m' : Nat), DataW.trod enc P w base spare held m' f.type ((cs.drop f.offset).take (P.cellsOf f.type)) = some z := by
 obtain ⟨xs, n', _, _, hlen, hxl, hfs⟩ := DataW.trod_struct he h3
 have hlt : i < fs.size := (Array.getElem?_eq_some_iff.1 hf).1
 exact ⟨_, n', (hfs i f hf).trans (List.getElem?_eq_getElem (by omega))⟩
theorem one_at {cs : List Value} {o : Nat} {v : Value} (h : (cs.drop o).take 1 = [v]) : cs[o]? = some v := by
 have := congrArg (fun l => l[0]?) h
 simp only [List.getElem?_cons_zero] at this
 rw [List.getElem?_take_of_lt (by omega), List.getElem?_drop] at this
 exact this
theorem cap_in {t e : TypeId} {a : Option Addr} {len cap : Nat} {d : DataW E} {p : List MemPlace} (ht : P.underlying t = some (.slice e)) (h : DataW.Trod enc P w base spare held t (.slice a len cap) d p) : len ≤ cap ∧ (a = none → cap = 0) := by
 obtain ⟨fuel, hf⟩ := h
 rcases DataW.trod_slice ht hf with ⟨h0, _⟩ | ⟨a', len', cap', elems, rest, n, _, h0, _, hb, hl, hm, hlen, hel, hsp, hns⟩
 ·simp [Value.cells] at h0
  obtain ⟨rfl, rfl, rfl⟩ := h0
  exact ⟨Nat.le_refl _, fun _ => rfl⟩
 ·simp [Value.cells] at h0
  obtain ⟨rfl, rfl, rfl⟩ := h0
  exact ⟨hl, nofun⟩
theorem eds_in {t : TypeId} {a : Option Addr} {len cap : Nat} {d : DataW E} {p : List MemPlace} (ht : Try.prog.underlying t = some (.slice 30)) (h : DataW.Trod enc Try.prog w base spare held t (.slice a len cap) d p) :
  len ≤ 9223372036854775807 ∧ ∃ zs, InEds w.heap a len cap zs := by
 obtain ⟨hl, hi⟩ := cells_in ht h
 obtain ⟨hcap, hnil⟩ := cap_in ht h
 have hc : Try.prog.cellsOf 30 = 4 := by kernel_rfl
 have c1 : Try.prog.cellsOf 3 = 1 := by kernel_rfl
 rw [hc] at hi
 have each : ∀ i, i < len → ∃ (q : Addr) (o : Ed), a = some q ∧ (∀ j v, o.cells[j]? = some v → hcell w.heap (q.add (i * 4 + j)) = some v) ∧ FitE o := fun i hlt => by
  obtain ⟨q, cs, m, y, h1, h2, h3⟩ := hi i hlt
  obtain ⟨_, hcl, hcell'⟩ := World.cells?_some h2
  obtain ⟨z0, m0, t0⟩ := part_in Try.underlying30 h3 0 rfl
  obtain ⟨z1, m1, t1⟩ := part_in Try.underlying30 h3 1 rfl
  obtain ⟨z2, m2, t2⟩ := part_in Try.underlying30 h3 2 rfl
  obtain ⟨z3, m3, t3⟩ := part_in Try.underlying30 h3 3 rfl
  obtain ⟨k0, e0, _, w0⟩ := DataW.trod_int Try.underlying3 t0
  obtain ⟨k1, e1, _, w1⟩ := DataW.trod_int Try.underlying3 t1
  obtain ⟨k2, e2, _, w2⟩ := DataW.trod_int Try.underlying3 t2
  obtain ⟨k3, e3, _, w3⟩ := DataW.trod_int Try.underlying3 t3
  have e0 : (cs.drop 0).take (Try.prog.cellsOf 3) = [.int .i64 k0] := e0
  have e1 : (cs.drop 1).take (Try.prog.cellsOf 3) = [.int .i64 k1] := e1
  have e2 : (cs.drop 2).take (Try.prog.cellsOf 3) = [.int .i64 k2] := e2
  have e3 : (cs.drop 3).take (Try.prog.cellsOf 3) = [.int .i64 k3] := e3
  rw [c1] at e0 e1 e2 e3
  have r0 := one_at e0
  have r1 := one_at e1
  have r2 := one_at e2
  have r3 := one_at e3
  refine ⟨q, ⟨k0, k1, k2, k3⟩, h1, fun j v hj => ?_, ⟨fit_of_wf w0, fit_of_wf w1⟩, fit_of_wf w2, fit_of_wf w3⟩
  have g : ∀ j v, j < 4 → cs[j]? = some v → hcell w.heap (q.add (i * 4 + j)) = some v := fun j v hj hv => by
   have := hcell' j hj
   rw [hv, add_add] at this
   exact this
  unfold Ed.cells at hj
  match j with
  | 0 => obtain rfl := Option.some.inj hj; exact g 0 _ (by omega) r0
  | 1 => obtain rfl := Option.some.inj hj; exact g 1 _ (by omega) r1
  | 2 => obtain rfl := Option.some.inj hj; exact g 2 _ (by omega) r2
  | 3 => obtain rfl := Option.some.inj hj; exact g 3 _ (by omega) r3
  | j + 4 => simp at hj
 refine ⟨hl, fun i => if h : i < len then (each i h).choose_spec.choose else ⟨0, 0, 0, 0⟩, ⟨by simpa using hcap, hnil, fun i x hx => ?_⟩, fun i hlt => ?_⟩
 ·have hlt := (List.getElem?_eq_some_iff.1 hx).1
  rw [List.length_map, List.length_range] at hlt
  rw [List.getElem?_map, List.getElem?_range hlt] at hx
  simp only [Option.map_some, hlt, dif_pos, Option.some.injEq] at hx
  subst hx
  exact ⟨_, (each i hlt).choose_spec.choose_spec.1, (each i hlt).choose_spec.choose_spec.2.1⟩
 ·simp only [hlt, dif_pos]
  exact (each i hlt).choose_spec.choose_spec.2.2
end
end Go.Proofs.Ytafehbegoanajaa
