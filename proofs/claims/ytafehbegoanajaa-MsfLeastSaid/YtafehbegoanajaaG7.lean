/-
  MsfShift.
-/
import Derived.Test.YtafehbegoanajaaG6
namespace Go.Ms
open Go Go.Hp Go.Li Go.Br
def phi (tm mo : Int) (e : Ed) : Ed := ⟨e.id, e.u, e.v, e.w * tm + mo⟩
section
variable {tm mo : Int} {l F G : List Ed} {a b n k : Nat} {x y z : Ed} {zs : Nat → Ed}
theorem eLs_phi : eLs n zs tm mo k = (eLs n zs 1 0 k).map (phi tm mo) := by
 have e1 : eOf n zs tm mo = phi tm mo ∘ eOf n zs 1 0 := funext fun i => by simp [phi, eOf]
 unfold eLs
 rw [e1, ← List.map_map, List.filter_map]
 rfl
theorem phi_inj (ht : 1 ≤ tm) (h : phi tm mo x = phi tm mo y) : x = y := by
 obtain ⟨x1, x2, x3, x4⟩ := x
 obtain ⟨y1, y2, y3, y4⟩ := y
 simp only [phi, Ed.mk.injEq] at h ⊢
 refine ⟨h.1, h.2.1, h.2.2.1, ?_⟩
 have : x4 * tm = y4 * tm := by omega
 exact Int.eq_of_mul_eq_mul_right (by omega) this
theorem phi_heavy (ht : 1 ≤ tm) : heavy (phi tm mo x) (phi tm mo y) = heavy x y := by
 have h : ∀ p q : Int, p * tm + mo < q * tm + mo ↔ p < q := fun p q => by
  constructor
  ·intro h
   exact Int.lt_of_mul_lt_mul_right (show p * tm < q * tm by omega) (by omega)
  ·intro h
   have := Int.mul_lt_mul_of_pos_right h (show 0 < tm by omega)
   omega
 have he : ∀ p q : Int, p * tm + mo = q * tm + mo ↔ p = q := fun p q => by
  constructor
  ·intro h
   exact Int.eq_of_mul_eq_mul_right (show tm ≠ 0 by omega) (by omega)
  ·rintro rfl; rfl
 have : ∀ {p q : Bool}, (p = true ↔ q = true) → p = q := fun {p q} h => by cases p <;> cases q <;> simp_all
 refine this ?_
 rw [hv_iff, hv_iff]
 simp only [phi]
 rw [h, he]
theorem cn_phi {S S' : Ed → Prop} (h : ∀ e, S' (phi tm mo e) ↔ S e) (hi : ∀ e, S' e → ∃ y, e = phi tm mo y) : Cn S' a b ↔ Cn S a b := by
 constructor
 ·refine Cn.of fun e he => ?_
  obtain ⟨y, rfl⟩ := hi e he
  show Cn S y.u.toNat y.v.toNat
  exact Cn.edge ((h y).1 he)
 ·refine Cn.of fun e he => ?_
  exact Cn.edge (S := S') (e := phi tm mo e) ((h e).2 he)
theorem mem_phi (ht : 1 ≤ tm) : phi tm mo x ∈ l.map (phi tm mo) ↔ x ∈ l := by
 rw [List.mem_map]
 constructor
 ·rintro ⟨y, hy, e⟩; rw [← phi_inj ht e]; exact hy
 ·intro h; exact ⟨x, h, rfl⟩
theorem Msf.phi (ht : 1 ≤ tm) (h : Msf l (In F)) : Msf (l.map (phi tm mo)) (In (F.map (phi tm mo))) := by
 have key : ∀ y, Cn (Lo (In (l.map (Ms.phi tm mo))) (Ms.phi tm mo y)) (Ms.phi tm mo y).u.toNat (Ms.phi tm mo y).v.toNat ↔ Cn (Lo (In l) y) y.u.toNat y.v.toNat := fun y => by
  refine cn_phi (tm := tm) (mo := mo) (a := y.u.toNat) (b := y.v.toNat) (fun e => ?_) fun e he => ?_
  ·unfold Lo In
   rw [mem_phi ht, phi_heavy ht]
  ·obtain ⟨z, _, rfl⟩ := List.mem_map.1 he.1
   exact ⟨z, rfl⟩
 intro e
 constructor
 ·intro he
  obtain ⟨y, hy, rfl⟩ := List.mem_map.1 he
  have := (h y).1 hy
  exact ⟨(mem_phi ht).2 this.1, fun k => this.2 ((key y).1 k)⟩
 ·rintro ⟨he, hn⟩
  obtain ⟨y, hy, rfl⟩ := List.mem_map.1 he
  exact (mem_phi ht).2 ((h y).2 ⟨hy, fun k => hn ((key y).2 k)⟩)
structure Shf (tm mo : Int) (n : Nat) (l F G : List Ed) : Prop where
 p : Fp n l F
 q : Fp n (l.map (phi tm mo)) G
 ht : 1 ≤ tm
theorem Shf.mem (h : Shf tm mo n l F G) (e : Ed) : e ∈ G ↔ e ∈ F.map (phi tm mo) := h.q.msf.uniq (h.p.msf.phi h.ht) (fun _ => Iff.rfl) e
theorem Shf.memp (h : Shf tm mo n l F G) : phi tm mo x ∈ G ↔ x ∈ F := (h.mem _).trans (mem_phi h.ht)
theorem Shf.inv (h : Shf tm mo n l F G) (hx : x ∈ G) : ∃ y, x = phi tm mo y := by
 obtain ⟨y, _, e⟩ := List.mem_map.1 ((h.mem x).1 hx)
 exact ⟨y, e.symm⟩
theorem Shf.cn (h : Shf tm mo n l F G) : Cn (In G) a b ↔ Cn (In F) a b := cn_phi (fun e => h.memp) fun e he => h.inv he
theorem Shf.mx (h : Shf tm mo n l F G) (hy : Mx (In F) a b y) : Mx (In G) a b (phi tm mo y) := by
 refine ⟨h.memp.2 hy.of, fun k => hy.cut ((cn_phi (tm := tm) (mo := mo) (S := fun e => In F e ∧ e ≠ y) (fun e => ?_) fun e he => h.inv he.1).1 k), (cn_phi (tm := tm) (mo := mo) (S := Le (In F) y) (fun e => ?_) fun e he => h.inv he.1).2 hy.le⟩
 ·exact and_congr h.memp ⟨fun hn e' => hn (by rw [e']), fun hn e' => hn (phi_inj h.ht e')⟩
 ·unfold Le
  refine and_congr h.memp (or_congr ⟨fun e' => phi_inj h.ht e', fun e' => by rw [e']⟩ (by rw [phi_heavy h.ht]))
theorem Shf.ids (h : Shf tm mo n l F G) {xs ys : List Int} (hx : IdsOf F xs) (hy : IdsOf G ys) : xs = ys := srt_uniq hx.srt hy.srt fun i => by
 rw [hx.mem, hy.mem]
 constructor
 ·rintro ⟨e, he, rfl⟩; exact ⟨phi tm mo e, h.memp.2 he, rfl⟩
 ·rintro ⟨e, he, rfl⟩
  obtain ⟨y, rfl⟩ := h.inv he
  exact ⟨y, h.memp.1 he, rfl⟩
theorem sum_phi : sumW (F.map (phi tm mo)) = sumW F * tm + mo * F.length := by
 induction F with
 | nil => simp [sumW]
 | cons x F ih =>
  have e1 : sumW ((x :: F).map (phi tm mo)) = (x.w * tm + mo) + sumW (F.map (phi tm mo)) := by unfold sumW; simp [phi]
  have e2 : sumW (x :: F) = x.w + sumW F := by unfold sumW; simp
  have e3 : ((x :: F).length : Int) = F.length + 1 := by simp
  rw [e1, ih, e2, e3, Int.add_mul, Int.mul_add, Int.mul_one]
  omega
theorem Shf.sum (h : Shf tm mo n l F G) : sumW G = sumW F * tm + mo * F.length := by
 rw [← sum_phi]
 refine sum_perm (perm_of h.q.fn ?_ h.mem)
 rw [List.map_map]
 exact h.p.fn
end
end Go.Ms
namespace Go.Proofs.Ytafehbegoanajaa
open Go Go.Hp Go.Li Go.Br Go.Ms
set_option linter.all false
set_option maxRecDepth 100000
set_option maxHeartbeats 3200000
section
variable {H : Heap} {L : Value → Heap → Prop}
theorem mul_rg2 {c t : Int} (h1 : -1000000 ≤ c) (h2 : c ≤ 1000000) (h3 : 0 ≤ t) (h4 : t ≤ 192) : -192000000 ≤ c * t ∧ c * t ≤ 192000000 := by
 have a := Int.mul_le_mul_of_nonneg_right h2 h3
 have b := Int.mul_le_mul_of_nonneg_right h1 h3
 omega
theorem pick_nat {c : Int} {n : Nat} (h : -9223372036854775808 ≤ c ∧ c ≤ 9223372036854775807) (hn : 0 < n) (fin : ∀ k : Nat, pickN c n = k → k < n → L (.int .i64 (k : Nat)) H) : CallsH Try.prog 10 #[.int .i64 c, .int .i64 (n : Nat)] H L := by
 refine Pkisthmuslaw07.pick_ok h.1 h.2 (by omega) ?_
 obtain ⟨u0, u1⟩ := pickN_range c (n := (n : Int)) (by omega)
 obtain ⟨u, eu⟩ := Int.eq_ofNat_of_zero_le u0
 rw [eu] at u1 ⊢
 exact fin u eu (Int.ofNat_lt.1 u1)
theorem msfShift {c0 t0 m0 : Int} {a : Option Addr} {len ca : Nat} {zs : Nat → Ed} (c1 : -9223372036854775808 ≤ c0) (c2 : c0 ≤ 9223372036854775807) (hin : InEds H a len ca zs) (hlen : len ≤ 9223372036854775807) (t1 : -9223372036854775808 ≤ t0) (t2 : t0 ≤ 9223372036854775807) (m1 : -9223372036854775808 ≤ m0) (m2 : m0 ≤ 9223372036854775807)
  (fin : ∀ H', Fr (fun _ => False) H H' → L (.bool true) H') :
  CallsH Try.prog 4 #[.int .i64 c0, .slice a len ca, .int .i64 t0, .int .i64 m0] H L := by
 refine call4 (by simp) ?_
 simp only [Try.f4, Option.getD_some]
 repeat' (first|(with_reducible first|refine jA ?_|(refine hK _ _ ?_;clear hK K)|refine jJ fun K hK=>?_|refine jK ?_|refine jL ?_|refine jM ?_|refine jN ?_|refine jO ?_|refine jP ?_|refine jQ ?_|(refine jB ?_;clear hK K)|(refine jC ?_;clear hK K)|refine jD ?_|refine jE ?_|refine jG ?_|refine jH ?_|refine jI ?_)|((with_reducible refine jR ?hq ?_);case hq=>rfl)|((first|(with_reducible first|refine jS fun K hK=>?_|refine jT ?_|refine jU ?_)|((with_reducible refine jV ?hy fun K hK=>?_);case hy=>rfl));simp only [go_sem, Nat.reduceEqDiff, Nat.reduceAdd, Nat.reduceMul, Nat.reduceLeDiff, Nat.reduceLT, Int.reduceLT, Int.reduceLE, Int.reduceEq, Int.reduceNeg, Int.reduceToNat, Nat.reducePow, reduceIte, reduceCtorEq])|((with_reducible first|refine jW ?hy ?_|refine jY ?hy ?_);case hy=>rfl)|((with_reducible first|refine jX ?hy ?_|refine jZ ?hy ?_);case hy=>rfl)|((with_reducible refine jF ?hy ?_);case hy=>decide))
 refine awake_ok fun H1 f1 => ?_
 repeat' (first|(with_reducible first|refine jA ?_|(refine hK _ _ ?_;clear hK K)|refine jJ fun K hK=>?_|refine jK ?_|refine jL ?_|refine jM ?_|refine jN ?_|refine jO ?_|refine jP ?_|refine jQ ?_|(refine jB ?_;clear hK K)|(refine jC ?_;clear hK K)|refine jD ?_|refine jE ?_|refine jG ?_|refine jH ?_|refine jI ?_)|((with_reducible refine jR ?hq ?_);case hq=>rfl)|((first|(with_reducible first|refine jS fun K hK=>?_|refine jT ?_|refine jU ?_)|((with_reducible refine jV ?hy fun K hK=>?_);case hy=>rfl));simp only [go_sem, Nat.reduceEqDiff, Nat.reduceAdd, Nat.reduceMul, Nat.reduceLeDiff, Nat.reduceLT, Int.reduceLT, Int.reduceLE, Int.reduceEq, Int.reduceNeg, Int.reduceToNat, Nat.reducePow, reduceIte, reduceCtorEq])|((with_reducible first|refine jW ?hy ?_|refine jY ?hy ?_);case hy=>rfl)|((with_reducible first|refine jX ?hy ?_|refine jZ ?hy ?_);case hy=>rfl)|((with_reducible refine jF ?hy ?_);case hy=>decide))
 refine pick_nat (n := 40) ⟨c1, c2⟩ (by omega) fun k1 _ hk1 => ?_
 obtain ⟨n, hn⟩ : ∃ n, n = 2 + k1 := ⟨_, rfl⟩
 have ew1 : IntKind.i64.wrap (2 + (k1 : Int)) = (n : Int) := by rw [wrap_i64] <;> omega
 repeat' (first|(with_reducible first|refine jA ?_|(refine hK _ _ ?_;clear hK K)|refine jJ fun K hK=>?_|refine jK ?_|refine jL ?_|refine jM ?_|refine jN ?_|refine jO ?_|refine jP ?_|refine jQ ?_|(refine jB ?_;clear hK K)|(refine jC ?_;clear hK K)|refine jD ?_|refine jE ?_|refine jG ?_|refine jH ?_|refine jI ?_)|((with_reducible refine jR ?hq ?_);case hq=>rfl)|((first|(with_reducible first|refine jS fun K hK=>?_|refine jT ?_|refine jU ?_)|((with_reducible refine jV ?hy fun K hK=>?_);case hy=>rfl));simp only [go_sem, Nat.reduceEqDiff, Nat.reduceAdd, Nat.reduceMul, Nat.reduceLeDiff, Nat.reduceLT, Int.reduceLT, Int.reduceLE, Int.reduceEq, Int.reduceNeg, Int.reduceToNat, Nat.reducePow, reduceIte, reduceCtorEq, ew1])|((with_reducible first|refine jW ?hy ?_|refine jY ?hy ?_);case hy=>rfl)|((with_reducible first|refine jX ?hy ?_|refine jZ ?hy ?_);case hy=>rfl)|((with_reducible refine jF ?hy ?_);case hy=>decide))
 refine pick_nat (n := 1000) ⟨t1, t2⟩ (by omega) fun k2 _ hk2 => ?_
 obtain ⟨tm, htm⟩ : ∃ tm : Int, tm = 1 + (k2 : Int) := ⟨_, rfl⟩
 have ew2 : IntKind.i64.wrap (1 + (k2 : Int)) = tm := by rw [wrap_i64] <;> omega
 repeat' (first|(with_reducible first|refine jA ?_|(refine hK _ _ ?_;clear hK K)|refine jJ fun K hK=>?_|refine jK ?_|refine jL ?_|refine jM ?_|refine jN ?_|refine jO ?_|refine jP ?_|refine jQ ?_|(refine jB ?_;clear hK K)|(refine jC ?_;clear hK K)|refine jD ?_|refine jE ?_|refine jG ?_|refine jH ?_|refine jI ?_)|((with_reducible refine jR ?hq ?_);case hq=>rfl)|((first|(with_reducible first|refine jS fun K hK=>?_|refine jT ?_|refine jU ?_)|((with_reducible refine jV ?hy fun K hK=>?_);case hy=>rfl));simp only [go_sem, Nat.reduceEqDiff, Nat.reduceAdd, Nat.reduceMul, Nat.reduceLeDiff, Nat.reduceLT, Int.reduceLT, Int.reduceLE, Int.reduceEq, Int.reduceNeg, Int.reduceToNat, Nat.reducePow, reduceIte, reduceCtorEq, ew2])|((with_reducible first|refine jW ?hy ?_|refine jY ?hy ?_);case hy=>rfl)|((with_reducible first|refine jX ?hy ?_|refine jZ ?hy ?_);case hy=>rfl)|((with_reducible refine jF ?hy ?_);case hy=>decide))
 refine pick_nat (n := 2000001) ⟨m1, m2⟩ (by omega) fun k3 _ hk3 => ?_
 obtain ⟨mo, hmo⟩ : ∃ mo : Int, mo = (k3 : Int) - 1000000 := ⟨_, rfl⟩
 have ew3 : IntKind.i64.wrap ((k3 : Int) - 1000000) = mo := by rw [wrap_i64] <;> omega
 repeat' (first|(with_reducible first|refine jA ?_|(refine hK _ _ ?_;clear hK K)|refine jJ fun K hK=>?_|refine jK ?_|refine jL ?_|refine jM ?_|refine jN ?_|refine jO ?_|refine jP ?_|refine jQ ?_|(refine jB ?_;clear hK K)|(refine jC ?_;clear hK K)|refine jD ?_|refine jE ?_|refine jG ?_|refine jH ?_|refine jI ?_)|((with_reducible refine jR ?hq ?_);case hq=>rfl)|((first|(with_reducible first|refine jS fun K hK=>?_|refine jT ?_|refine jU ?_)|((with_reducible refine jV ?hy fun K hK=>?_);case hy=>rfl));simp only [go_sem, Nat.reduceEqDiff, Nat.reduceAdd, Nat.reduceMul, Nat.reduceLeDiff, Nat.reduceLT, Int.reduceLT, Int.reduceLE, Int.reduceEq, Int.reduceNeg, Int.reduceToNat, Nat.reducePow, reduceIte, reduceCtorEq, ew3])|((with_reducible first|refine jW ?hy ?_|refine jY ?hy ?_);case hy=>rfl)|((with_reducible first|refine jX ?hy ?_|refine jZ ?hy ?_);case hy=>rfl)|((with_reducible refine jF ?hy ?_);case hy=>decide))
 have htm1 : 1 ≤ tm ∧ tm ≤ 1000 := by omega
 have hmo1 : -1000000 ≤ mo ∧ mo ≤ 1000000 := by omega
 clear ew1 ew2 ew3 htm hmo
 refine filled_ok (tm := 1) (mo := 0) (by omega) (by omega) (hin.frame f1) hlen (by omega) (by omega) fun H2 f T F S2 => ?_
 repeat' (first|(with_reducible first|refine jA ?_|(refine hK _ _ ?_;clear hK K)|refine jJ fun K hK=>?_|refine jK ?_|refine jL ?_|refine jM ?_|refine jN ?_|refine jO ?_|refine jP ?_|refine jQ ?_|(refine jB ?_;clear hK K)|(refine jC ?_;clear hK K)|refine jD ?_|refine jE ?_|refine jG ?_|refine jH ?_|refine jI ?_)|((with_reducible refine jR ?hq ?_);case hq=>rfl)|((first|(with_reducible first|refine jS fun K hK=>?_|refine jT ?_|refine jU ?_)|((with_reducible refine jV ?hy fun K hK=>?_);case hy=>rfl));simp only [go_sem, Nat.reduceEqDiff, Nat.reduceAdd, Nat.reduceMul, Nat.reduceLeDiff, Nat.reduceLT, Int.reduceLT, Int.reduceLE, Int.reduceEq, Int.reduceNeg, Int.reduceToNat, Nat.reducePow, reduceIte, reduceCtorEq])|((with_reducible first|refine jW ?hy ?_|refine jY ?hy ?_);case hy=>rfl)|((with_reducible first|refine jX ?hy ?_|refine jZ ?hy ?_);case hy=>rfl)|((with_reducible refine jF ?hy ?_);case hy=>decide))
 refine filled_ok (by omega) (by omega) (hin.frame (f1.trans S2.fr)) hlen htm1 hmo1 fun H3 g T' G S3 => ?_
 obtain ⟨l, hl⟩ : ∃ l, l = eLs n zs 1 0 (min len 150) := ⟨_, rfl⟩
 have S3' := S3
 rw [eLs_phi, ← hl] at S3
 rw [← hl] at S2
 have hS : Shf tm mo n l F G := ⟨S2.m.p, S3.m.p, htm1.1⟩
 have hb2 := S2.m.below
 have dis : ∀ b, T b → ¬ T' b := fun b h h' => by have := hb2 b h; have := S3.new b h'; omega
 have hMf := S2.m.frame S3.fr fun _ _ h => h
 have hMg := S3.m
 have f13 := (f1.trans S2.fr).trans S3.fr
 have new1 : ∀ b, T b ∨ T' b → H.size ≤ b := fun b hb => by
  have := f1.size
  have := S2.fr.size
  rcases hb with h | h
  ·have := S2.new b h; omega
  ·have := S3.new b h; omega
 clear S2 S3 S3' hl
 repeat' (first|(with_reducible first|refine jA ?_|(refine hK _ _ ?_;clear hK K)|refine jJ fun K hK=>?_|refine jK ?_|refine jL ?_|refine jM ?_|refine jN ?_|refine jO ?_|refine jP ?_|refine jQ ?_|(refine jB ?_;clear hK K)|(refine jC ?_;clear hK K)|refine jD ?_|refine jE ?_|refine jG ?_|refine jH ?_|refine jI ?_)|((with_reducible refine jR ?hq ?_);case hq=>rfl)|((first|(with_reducible first|refine jS fun K hK=>?_|refine jT ?_|refine jU ?_)|((with_reducible refine jV ?hy fun K hK=>?_);case hy=>rfl));simp only [go_sem, Nat.reduceEqDiff, Nat.reduceAdd, Nat.reduceMul, Nat.reduceLeDiff, Nat.reduceLT, Int.reduceLT, Int.reduceLE, Int.reduceEq, Int.reduceNeg, Int.reduceToNat, Nat.reducePow, reduceIte, reduceCtorEq, Bool.not_true])|((with_reducible first|refine jW ?hy ?_|refine jY ?hy ?_);case hy=>rfl)|((with_reducible first|refine jX ?hy ?_|refine jZ ?hy ?_);case hy=>rfl)|((with_reducible refine jF ?hy ?_);case hy=>decide))
 refine m_all hMf fun H4 B4 v4 xs hxs hi4 hB4 f4 => ?_
 have hMf4 := hMf.frame f4 fun _ _ h => h
 have hMg4 := hMg.frame f4 fun _ _ h => h
 obtain ⟨av, cv, rfl⟩ := id hi4.slice
 repeat' (first|(with_reducible first|refine jA ?_|(refine hK _ _ ?_;clear hK K)|refine jJ fun K hK=>?_|refine jK ?_|refine jL ?_|refine jM ?_|refine jN ?_|refine jO ?_|refine jP ?_|refine jQ ?_|(refine jB ?_;clear hK K)|(refine jC ?_;clear hK K)|refine jD ?_|refine jE ?_|refine jG ?_|refine jH ?_|refine jI ?_)|((with_reducible refine jR ?hq ?_);case hq=>rfl)|((first|(with_reducible first|refine jS fun K hK=>?_|refine jT ?_|refine jU ?_)|((with_reducible refine jV ?hy fun K hK=>?_);case hy=>rfl));simp only [go_sem, Nat.reduceEqDiff, Nat.reduceAdd, Nat.reduceMul, Nat.reduceLeDiff, Nat.reduceLT, Int.reduceLT, Int.reduceLE, Int.reduceEq, Int.reduceNeg, Int.reduceToNat, Nat.reducePow, reduceIte, reduceCtorEq])|((with_reducible first|refine jW ?hy ?_|refine jY ?hy ?_);case hy=>rfl)|((with_reducible first|refine jX ?hy ?_|refine jZ ?hy ?_);case hy=>rfl)|((with_reducible refine jF ?hy ?_);case hy=>decide))
 refine m_all hMg4 fun H5 B5 v5 ys hys hi5 hB5 f5 => ?_
 obtain rfl := hS.ids hxs hys
 have hxl := hxs.len hS.p.fn
 have hFl := hS.p.flen
 repeat' (first|(with_reducible first|refine jA ?_|(refine hK _ _ ?_;clear hK K)|refine jJ fun K hK=>?_|refine jK ?_|refine jL ?_|refine jM ?_|refine jN ?_|refine jO ?_|refine jP ?_|refine jQ ?_|(refine jB ?_;clear hK K)|(refine jC ?_;clear hK K)|refine jD ?_|refine jE ?_|refine jG ?_|refine jH ?_|refine jI ?_)|((with_reducible refine jR ?hq ?_);case hq=>rfl)|((first|(with_reducible first|refine jS fun K hK=>?_|refine jT ?_|refine jU ?_)|((with_reducible refine jV ?hy fun K hK=>?_);case hy=>rfl));simp only [go_sem, Nat.reduceEqDiff, Nat.reduceAdd, Nat.reduceMul, Nat.reduceLeDiff, Nat.reduceLT, Int.reduceLT, Int.reduceLE, Int.reduceEq, Int.reduceNeg, Int.reduceToNat, Nat.reducePow, reduceIte, reduceCtorEq])|((with_reducible first|refine jW ?hy ?_|refine jY ?hy ?_);case hy=>rfl)|((with_reducible first|refine jX ?hy ?_|refine jZ ?hy ?_);case hy=>rfl)|((with_reducible refine jF ?hy ?_);case hy=>decide))
 refine Pkisthmuslaw07.same_ok (hi4.rds.frame f5 fun _ _ h => h) hi5.rds (by omega) ?_
 rw [decide_eq_true rfl]
 have hMf5 := hMf4.frame f5 fun _ _ h => h
 have hMg5 := hMg4.frame f5 fun _ _ h => h
 have f15 := (f13.trans f4).trans f5
 clear hMf hMf4 hMg hMg4 hi4 hi5
 repeat' (first|(with_reducible first|refine jA ?_|(refine hK _ _ ?_;clear hK K)|refine jJ fun K hK=>?_|refine jK ?_|refine jL ?_|refine jM ?_|refine jN ?_|refine jO ?_|refine jP ?_|refine jQ ?_|(refine jB ?_;clear hK K)|(refine jC ?_;clear hK K)|refine jD ?_|refine jE ?_|refine jG ?_|refine jH ?_|refine jI ?_)|((with_reducible refine jR ?hq ?_);case hq=>rfl)|((first|(with_reducible first|refine jS fun K hK=>?_|refine jT ?_|refine jU ?_)|((with_reducible refine jV ?hy fun K hK=>?_);case hy=>rfl));simp only [go_sem, Nat.reduceEqDiff, Nat.reduceAdd, Nat.reduceMul, Nat.reduceLeDiff, Nat.reduceLT, Int.reduceLT, Int.reduceLE, Int.reduceEq, Int.reduceNeg, Int.reduceToNat, Nat.reducePow, reduceIte, reduceCtorEq])|((with_reducible first|refine jW ?hy ?_|refine jY ?hy ?_);case hy=>rfl)|((with_reducible first|refine jX ?hy ?_|refine jZ ?hy ?_);case hy=>rfl)|((with_reducible refine jF ?hy ?_);case hy=>decide))
 refine x_loop (fun m e' H' => ∃ v : Nat, e' 14 = .int .i64 (v : Nat) ∧ v ≤ n ∧ MsM H' f T n l F ∧ MsM H' g T' n (l.map (phi tm mo)) G ∧ Fr (fun _ => False) H H' ∧ m = n - v) n ⟨0, rfl, Nat.zero_le _, hMf5, hMg5, f15, rfl⟩ ?_
 rintro m e1 H6 ⟨v, i14, hv, hMf6, hMg6, f16, hm⟩ hoff
 have i0 : e1 0 = .int .i64 (n : Nat) := (hoff 0 rfl).trans rfl
 have i2 : e1 2 = .int .i64 tm := (hoff 2 rfl).trans rfl
 have i3 : e1 3 = .int .i64 mo := (hoff 3 rfl).trans rfl
 have i10 : e1 10 = .pointer (some ⟨f, 0, none⟩) := (hoff 10 rfl).trans rfl
 have i11 : e1 11 = .pointer (some ⟨g, 0, none⟩) := (hoff 11 rfl).trans rfl
 have i12 : e1 12 = .slice av xs.length cv := (hoff 12 rfl).trans rfl
 have i13 : e1 13 = .bool true := (hoff 13 rfl).trans rfl
 clear hoff hMf5 hMg5 f15 f13 f4 f5
 by_cases hlt : v < n
 ·have y1 : ((v : Int) < (n : Int)) = True := eq_true (by omega)
  have y1' : (v < n) = True := eq_true hlt
  have w1 : IntKind.i64.wrap ((n : Int) - 1) = ((n - 1 : Nat) : Int) := by rw [wrap_i64] <;> omega
  have w2 : IntKind.i64.wrap (((n - 1 : Nat) : Int) - (v : Int)) = ((n - 1 - v : Nat) : Int) := by rw [wrap_i64] <;> omega
  have w3 : IntKind.i64.wrap ((v : Int) + 1) = ((v + 1 : Nat) : Int) := by rw [wrap_i64] <;> omega
  have inn : ¬ ((inB n (v : Int) && inB n ((n - 1 - v : Nat) : Int)) = false) := by rw [inB_of hlt, inB_of (by omega)]; decide
  repeat' (first|(with_reducible first|refine jA ?_|(refine hK _ _ ?_;clear hK K)|refine jJ fun K hK=>?_|refine jK ?_|refine jL ?_|refine jM ?_|refine jN ?_|refine jO ?_|refine jP ?_|refine jQ ?_|(refine jB ?_;clear hK K)|(refine jC ?_;clear hK K)|refine jD ?_|refine jE ?_|refine jG ?_|refine jH ?_|refine jI ?_)|((with_reducible refine jR ?hq ?_);case hq=>rfl)|((first|(with_reducible first|refine jS fun K hK=>?_|refine jT ?_|refine jU ?_)|((with_reducible refine jV ?hy fun K hK=>?_);case hy=>rfl));simp only [go_sem, Nat.reduceEqDiff, Nat.reduceAdd, Nat.reduceMul, Nat.reduceLeDiff, Nat.reduceLT, Int.reduceLT, Int.reduceLE, Int.reduceEq, Int.reduceNeg, Int.reduceToNat, Nat.reducePow, reduceIte, reduceCtorEq, i0, i10, i14, y1, y1', w1, w2])|((with_reducible first|refine jW ?hy ?_|refine jY ?hy ?_);case hy=>rfl)|((with_reducible first|refine jX ?hy ?_|refine jZ ?hy ?_);case hy=>rfl)|((with_reducible refine jF ?hy ?_);case hy=>decide))
  refine m_bot hMf6 (fun h => absurd h inn) (fun p q hp hq hpn hqn hor H7 hM7 hf7 => ?_) fun p q hp hq hpn hqn H7 y hy hM7 hf7 => ?_
  ·obtain rfl : p = v := by omega
   obtain rfl : q = n - 1 - p := by omega
   obtain ⟨y, hy0⟩ : ∃ y, y = Ed.zero := ⟨_, rfl⟩
   rw [← hy0]
   have hMg7 := hMg6.frame hf7 fun b h' h => dis b h h'
   simp only [Ed.val]
   repeat' (first|(with_reducible first|refine jA ?_|(refine hK _ _ ?_;clear hK K)|refine jJ fun K hK=>?_|refine jK ?_|refine jL ?_|refine jM ?_|refine jN ?_|refine jO ?_|refine jP ?_|refine jQ ?_|(refine jB ?_;clear hK K)|(refine jC ?_;clear hK K)|refine jD ?_|refine jE ?_|refine jG ?_|refine jH ?_|refine jI ?_)|((with_reducible refine jR ?hq ?_);case hq=>rfl)|((first|(with_reducible first|refine jS fun K hK=>?_|refine jT ?_|refine jU ?_)|((with_reducible refine jV ?hy fun K hK=>?_);case hy=>rfl));simp only [go_sem, Nat.reduceEqDiff, Nat.reduceAdd, Nat.reduceMul, Nat.reduceLeDiff, Nat.reduceLT, Int.reduceLT, Int.reduceLE, Int.reduceEq, Int.reduceNeg, Int.reduceToNat, Nat.reducePow, reduceIte, reduceCtorEq, i0, i11, i14, w1, w2, hcell_push, hcell_top, okW_push, okW_top, hcell_hset_ne, hcell_hset_off, hcell_hset_eq, okW_hset, hset_size, Array.size_push, Nat.lt_add_one, ne_add_one, add_one_ne, Nat.add_assoc, add_same, add_lt_same, Nat.reduceEqDiff, lt_add_k, add_k_ne, ne_add_k])|((with_reducible first|refine jW ?hy ?_|refine jY ?hy ?_);case hy=>rfl)|((with_reducible first|refine jX ?hy ?_|refine jZ ?hy ?_);case hy=>rfl)|((with_reducible refine jF ?hy ?_);case hy=>decide))
   obtain ⟨b8, f8⟩ := edge_box (H := H7) y (T0 := 30)
   generalize hset _ _ _ = H8 at b8 f8 ⊢
   have hM8 := hM7.frame f8 fun _ _ h => h
   have hMg8 := hMg7.frame f8 fun _ _ h => h
   have f18 := (f16.trans' hf7 fun b hb h => by have := new1 b (.inl h); omega).trans f8
   have nT8 : ¬ T' H7.size := fun h => by have := hMg7.below _ h; omega
   refine m_bot hMg8 (fun h => absurd h inn) (fun p' q' hp' hq' _ _ _ H9 hMg9 hf9 => ?_) fun p' q' hp' hq' _ _ H9 z hz hMg9 hf9 => ?_
   ·obtain ⟨z, hz0⟩ : ∃ z, z = Ed.zero := ⟨_, rfl⟩
    rw [← hz0]
    have b9 := b8.frame hf9 nT8
    have hM9 := hM8.frame hf9 fun b h h' => dis b h h'
    simp only [Ed.val]
    obtain ⟨b10, f10⟩ := edge_box (H := H9) z (T0 := 30)
    have b9' := b9.frame f10 fun h => h
    have x0 := b9'.cellOf (i := 0) rfl
    have x3 := b9'.cellOf (i := 3) rfl
    have z0 := b10.cellOf (i := 0) rfl
    have z3 := b10.cellOf (i := 3) rfl
    have f110 := (f18.trans' hf9 fun b hb h => by have := new1 b (.inr h); omega).trans f10
    have hMf10 := hM9.frame f10 fun _ _ h => h
    have hMg10 := hMg9.frame f10 fun _ _ h => h
    have e1 : ((75 : Int) != 75) = false := rfl
    have e2 : ((75 : Int) == 0) = false := rfl
    have e3 : (y.id != z.id) = false := by rw [hy0, hz0]; rfl
    repeat' (first|(with_reducible first|refine jA ?_|(refine hK _ _ ?_;clear hK K)|refine jJ fun K hK=>?_|refine jK ?_|refine jL ?_|refine jM ?_|refine jN ?_|refine jO ?_|refine jP ?_|refine jQ ?_|(refine jB ?_;clear hK K)|(refine jC ?_;clear hK K)|refine jD ?_|refine jE ?_|refine jG ?_|refine jH ?_|refine jI ?_)|((with_reducible refine jR ?hq ?_);case hq=>rfl)|((first|(with_reducible first|refine jS fun K hK=>?_|refine jT ?_|refine jU ?_)|((with_reducible refine jV ?hy fun K hK=>?_);case hy=>rfl));simp only [go_sem, Nat.reduceEqDiff, Nat.reduceAdd, Nat.reduceMul, Nat.reduceLeDiff, Nat.reduceLT, Int.reduceLT, Int.reduceLE, Int.reduceEq, Int.reduceNeg, Int.reduceToNat, Nat.reducePow, reduceIte, reduceCtorEq, e1, e2, e3, x0, z0, i14, w3, hcell_push, hcell_top, okW_push, okW_top, hcell_hset_ne, hcell_hset_off, hcell_hset_eq, okW_hset, hset_size, Array.size_push, Nat.lt_add_one, ne_add_one, add_one_ne, Nat.add_assoc, add_same, add_lt_same, Nat.reduceEqDiff, lt_add_k, add_k_ne, ne_add_k])|((with_reducible first|refine jW ?hy ?_|refine jY ?hy ?_);case hy=>rfl)|((with_reducible first|refine jX ?hy ?_|refine jZ ?hy ?_);case hy=>rfl)|((with_reducible refine jF ?hy ?_);case hy=>decide))
    exact loop_normal (m' := n - (p + 1)) (by omega) ⟨p + 1, rfl, hlt, hMf10, hMg10, f110, rfl⟩
   ·exfalso
    obtain rfl : p' = p := by omega
    obtain rfl : q' = n - 1 - p' := by omega
    rcases hor with h | h
    ·rw [← h] at hz
     exact hz.cut (.refl _)
    ·exact h (hS.cn.1 (hz.le.sub fun e he => he.1))
  ·obtain rfl : p = v := by omega
   obtain rfl : q = n - 1 - p := by omega
   have hMg7 := hMg6.frame hf7 fun b h' h => dis b h h'
   simp only [Ed.val]
   repeat' (first|(with_reducible first|refine jA ?_|(refine hK _ _ ?_;clear hK K)|refine jJ fun K hK=>?_|refine jK ?_|refine jL ?_|refine jM ?_|refine jN ?_|refine jO ?_|refine jP ?_|refine jQ ?_|(refine jB ?_;clear hK K)|(refine jC ?_;clear hK K)|refine jD ?_|refine jE ?_|refine jG ?_|refine jH ?_|refine jI ?_)|((with_reducible refine jR ?hq ?_);case hq=>rfl)|((first|(with_reducible first|refine jS fun K hK=>?_|refine jT ?_|refine jU ?_)|((with_reducible refine jV ?hy fun K hK=>?_);case hy=>rfl));simp only [go_sem, Nat.reduceEqDiff, Nat.reduceAdd, Nat.reduceMul, Nat.reduceLeDiff, Nat.reduceLT, Int.reduceLT, Int.reduceLE, Int.reduceEq, Int.reduceNeg, Int.reduceToNat, Nat.reducePow, reduceIte, reduceCtorEq, i0, i11, i14, w1, w2, hcell_push, hcell_top, okW_push, okW_top, hcell_hset_ne, hcell_hset_off, hcell_hset_eq, okW_hset, hset_size, Array.size_push, Nat.lt_add_one, ne_add_one, add_one_ne, Nat.add_assoc, add_same, add_lt_same, Nat.reduceEqDiff, lt_add_k, add_k_ne, ne_add_k])|((with_reducible first|refine jW ?hy ?_|refine jY ?hy ?_);case hy=>rfl)|((with_reducible first|refine jX ?hy ?_|refine jZ ?hy ?_);case hy=>rfl)|((with_reducible refine jF ?hy ?_);case hy=>decide))
   obtain ⟨b8, f8⟩ := edge_box (H := H7) y (T0 := 30)
   generalize hset _ _ _ = H8 at b8 f8 ⊢
   have hM8 := hM7.frame f8 fun _ _ h => h
   have hMg8 := hMg7.frame f8 fun _ _ h => h
   have f18 := (f16.trans' hf7 fun b hb h => by have := new1 b (.inl h); omega).trans f8
   have nT8 : ¬ T' H7.size := fun h => by have := hMg7.below _ h; omega
   refine m_bot hMg8 (fun h => absurd h inn) (fun p' q' hp' hq' _ _ hor H9 hMg9 hf9 => ?_) fun p' q' hp' hq' _ _ H9 z hz hMg9 hf9 => ?_
   ·exfalso
    obtain rfl : p' = p := by omega
    obtain rfl : q' = n - 1 - p' := by omega
    rcases hor with h | h
    ·rw [← h] at hy
     exact hy.cut (.refl _)
    ·exact h (hS.cn.2 (hy.le.sub fun e he => he.1))
   ·obtain rfl : p' = p := by omega
    obtain rfl : q' = n - 1 - p' := by omega
    obtain rfl := Mx.uniq hS.q.msf (uq_of hS.q.uq) hz (hS.mx hy)
    have hzw := (hS.q.ok _ (hS.q.sub _ hz.of)).w
    have hzw1 : -1099511627776 ≤ y.w * tm + mo ∧ y.w * tm + mo ≤ 1099511627776 := hzw
    obtain ⟨z, hz0⟩ : ∃ z, z = phi tm mo y := ⟨_, rfl⟩
    rw [← hz0]
    have b9 := b8.frame hf9 nT8
    have hM9 := hM8.frame hf9 fun b h h' => dis b h h'
    simp only [Ed.val]
    obtain ⟨b10, f10⟩ := edge_box (H := H9) z (T0 := 30)
    have b9' := b9.frame f10 fun h => h
    have x0 := b9'.cellOf (i := 0) rfl
    have x3 := b9'.cellOf (i := 3) rfl
    have z0 := b10.cellOf (i := 0) rfl
    have z3 := b10.cellOf (i := 3) rfl
    have f110 := (f18.trans' hf9 fun b hb h => by have := new1 b (.inr h); omega).trans f10
    have hMf10 := hM9.frame f10 fun _ _ h => h
    have hMg10 := hMg9.frame f10 fun _ _ h => h
    have e1 : ((0 : Int) != 0) = false := rfl
    have e2 : ((0 : Int) == 0) = true := rfl
    have e3 : (y.id != z.id) = false := by rw [hz0]; show (y.id != y.id) = false; simp
    have e4 : IntKind.i64.wrap (y.w * tm) = y.w * tm := by rw [wrap_i64] <;> omega
    have e5 : IntKind.i64.wrap (y.w * tm + mo) = z.w := by rw [hz0]; show _ = y.w * tm + mo; rw [wrap_i64] <;> omega
    have e6 : (z.w != z.w) = false := by simp
    repeat' (first|(with_reducible first|refine jA ?_|(refine hK _ _ ?_;clear hK K)|refine jJ fun K hK=>?_|refine jK ?_|refine jL ?_|refine jM ?_|refine jN ?_|refine jO ?_|refine jP ?_|refine jQ ?_|(refine jB ?_;clear hK K)|(refine jC ?_;clear hK K)|refine jD ?_|refine jE ?_|refine jG ?_|refine jH ?_|refine jI ?_)|((with_reducible refine jR ?hq ?_);case hq=>rfl)|((first|(with_reducible first|refine jS fun K hK=>?_|refine jT ?_|refine jU ?_)|((with_reducible refine jV ?hy fun K hK=>?_);case hy=>rfl));simp only [go_sem, Nat.reduceEqDiff, Nat.reduceAdd, Nat.reduceMul, Nat.reduceLeDiff, Nat.reduceLT, Int.reduceLT, Int.reduceLE, Int.reduceEq, Int.reduceNeg, Int.reduceToNat, Nat.reducePow, reduceIte, reduceCtorEq, e1, e2, e3, e4, e5, e6, x0, x3, z0, z3, i2, i3, i14, w3, hcell_push, hcell_top, okW_push, okW_top, hcell_hset_ne, hcell_hset_off, hcell_hset_eq, okW_hset, hset_size, Array.size_push, Nat.lt_add_one, ne_add_one, add_one_ne, Nat.add_assoc, add_same, add_lt_same, Nat.reduceEqDiff, lt_add_k, add_k_ne, ne_add_k])|((with_reducible first|refine jW ?hy ?_|refine jY ?hy ?_);case hy=>rfl)|((with_reducible first|refine jX ?hy ?_|refine jZ ?hy ?_);case hy=>rfl)|((with_reducible refine jF ?hy ?_);case hy=>decide))
    exact loop_normal (m' := n - (p' + 1)) (by omega) ⟨p' + 1, rfl, hlt, hMf10, hMg10, f110, rfl⟩
 ·have y1 : ((v : Int) < (n : Int)) = False := eq_false (by omega)
  have y1' : (v < n) = False := eq_false hlt
  have hsF := hS.p.sum
  have hsG := hS.q.sum
  have hsum := hS.sum
  obtain ⟨r0, r1⟩ := mul_rg2 (c := mo) (t := (F.length : Int)) hmo1.1 hmo1.2 (by omega) (by omega)
  have e1 : IntKind.i64.wrap (sumW F * tm) = sumW F * tm := by rw [wrap_i64] <;> omega
  have e2 : IntKind.i64.wrap (mo * (xs.length : Int)) = mo * (F.length : Int) := by rw [hxl, wrap_i64] <;> omega
  have e3 : IntKind.i64.wrap (sumW F * tm + mo * (F.length : Int)) = sumW G := by rw [wrap_i64] <;> omega
  have e4 : (sumW G == sumW G) = true := by simp
  repeat' (first|(with_reducible first|refine jA ?_|(refine hK _ _ ?_;clear hK K)|refine jJ fun K hK=>?_|refine jK ?_|refine jL ?_|refine jM ?_|refine jN ?_|refine jO ?_|refine jP ?_|refine jQ ?_|(refine jB ?_;clear hK K)|(refine jC ?_;clear hK K)|refine jD ?_|refine jE ?_|refine jG ?_|refine jH ?_|refine jI ?_)|((with_reducible refine jR ?hq ?_);case hq=>rfl)|((first|(with_reducible first|refine jS fun K hK=>?_|refine jT ?_|refine jU ?_)|((with_reducible refine jV ?hy fun K hK=>?_);case hy=>rfl));simp only [go_sem, Nat.reduceEqDiff, Nat.reduceAdd, Nat.reduceMul, Nat.reduceLeDiff, Nat.reduceLT, Int.reduceLT, Int.reduceLE, Int.reduceEq, Int.reduceNeg, Int.reduceToNat, Nat.reducePow, reduceIte, reduceCtorEq, i0, i11, i13, i14, y1, y1'])|((with_reducible first|refine jW ?hy ?_|refine jY ?hy ?_);case hy=>rfl)|((with_reducible first|refine jX ?hy ?_|refine jZ ?hy ?_);case hy=>rfl)|((with_reducible refine jF ?hy ?_);case hy=>decide))
  refine m_weight hMg6 ?_
  repeat' (first|(with_reducible first|refine jA ?_|(refine hK _ _ ?_;clear hK K)|refine jJ fun K hK=>?_|refine jK ?_|refine jL ?_|refine jM ?_|refine jN ?_|refine jO ?_|refine jP ?_|refine jQ ?_|(refine jB ?_;clear hK K)|(refine jC ?_;clear hK K)|refine jD ?_|refine jE ?_|refine jG ?_|refine jH ?_|refine jI ?_)|((with_reducible refine jR ?hq ?_);case hq=>rfl)|((first|(with_reducible first|refine jS fun K hK=>?_|refine jT ?_|refine jU ?_)|((with_reducible refine jV ?hy fun K hK=>?_);case hy=>rfl));simp only [go_sem, Nat.reduceEqDiff, Nat.reduceAdd, Nat.reduceMul, Nat.reduceLeDiff, Nat.reduceLT, Int.reduceLT, Int.reduceLE, Int.reduceEq, Int.reduceNeg, Int.reduceToNat, Nat.reducePow, reduceIte, reduceCtorEq, i10])|((with_reducible first|refine jW ?hy ?_|refine jY ?hy ?_);case hy=>rfl)|((with_reducible first|refine jX ?hy ?_|refine jZ ?hy ?_);case hy=>rfl)|((with_reducible refine jF ?hy ?_);case hy=>decide))
  refine m_weight hMf6 ?_
  repeat' (first|(with_reducible first|refine jA ?_|(refine hK _ _ ?_;clear hK K)|refine jJ fun K hK=>?_|refine jK ?_|refine jL ?_|refine jM ?_|refine jN ?_|refine jO ?_|refine jP ?_|refine jQ ?_|(refine jB ?_;clear hK K)|(refine jC ?_;clear hK K)|refine jD ?_|refine jE ?_|refine jG ?_|refine jH ?_|refine jI ?_)|((with_reducible refine jR ?hq ?_);case hq=>rfl)|((first|(with_reducible first|refine jS fun K hK=>?_|refine jT ?_|refine jU ?_)|((with_reducible refine jV ?hy fun K hK=>?_);case hy=>rfl));simp only [go_sem, Nat.reduceEqDiff, Nat.reduceAdd, Nat.reduceMul, Nat.reduceLeDiff, Nat.reduceLT, Int.reduceLT, Int.reduceLE, Int.reduceEq, Int.reduceNeg, Int.reduceToNat, Nat.reducePow, reduceIte, reduceCtorEq, i2, i3, i12, e1, e2, e3, e4])|((with_reducible first|refine jW ?hy ?_|refine jY ?hy ?_);case hy=>rfl)|((with_reducible first|refine jX ?hy ?_|refine jZ ?hy ?_);case hy=>rfl)|((with_reducible refine jF ?hy ?_);case hy=>decide))
  exact fin H6 f16
end
end Go.Proofs.Ytafehbegoanajaa
