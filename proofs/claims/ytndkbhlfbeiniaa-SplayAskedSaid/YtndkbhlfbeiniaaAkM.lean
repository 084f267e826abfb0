/-
  SplayAsked returns true, whatever it is given, and writes nothing that was there.
-/
import Derived.Test.YtndkbhlfbeiniaaAsM
import Derived.Test.YtndkbhlfbeiniaaStM
namespace Go.Proofs.Ytndkbhlfbeiniaa
open Go Go.Hp Go.Sp
set_option linter.all false
set_option maxRecDepth 100000
set_option maxHeartbeats 1600000

/-- A slice of calls that came in reads as zs. -/
def InOps (H : Heap) (a : Option Addr) (len : Nat) (zs : Nat → OpR) : Prop :=
  ∀ i, i < len → ∃ p : Addr, a = some p ∧ (hcell H (p.add (i * 7)) = some (.int .i64 (zs i).kind) ∧ hcell H ⟨(p.add (i * 7)).block, (p.add (i * 7)).off + 1, none⟩ = some (.int .i64 (zs i).a) ∧ hcell H ⟨(p.add (i * 7)).block, (p.add (i * 7)).off + 2, none⟩ = some (.int .i64 (zs i).b) ∧
    hcell H ⟨(p.add (i * 7)).block, (p.add (i * 7)).off + 3, none⟩ = some (.int .i64 (zs i).x.value) ∧ hcell H ⟨(p.add (i * 7)).block, (p.add (i * 7)).off + 4, none⟩ = some (.bool (zs i).x.counts) ∧ hcell H ⟨(p.add (i * 7)).block, (p.add (i * 7)).off + 5, none⟩ = some (.int .i64 (zs i).x.flags) ∧
    hcell H ⟨(p.add (i * 7)).block, (p.add (i * 7)).off + 6, none⟩ = some (.bool (zs i).other)) ∧ (zs i).Fit
theorem InOps.frame {H H' : Heap} {a : Option Addr} {len : Nat} {zs : Nat → OpR} (h : InOps H a len zs) (hf : Fr (fun _ => False) H H') : InOps H' a len zs := fun i hi => by
  obtain ⟨p, h1, ⟨c0, c1, c2, c3, c4, c5, c6⟩, h5⟩ := h i hi
  have mv : ∀ {a : Addr} {v : Value}, hcell H a = some v → hcell H' a = some v := fun h => by rw [hf.cell (hcell_lt h) (fun h => h)]; exact h
  exact ⟨p, h1, ⟨mv c0, mv c1, mv c2, mv c3, mv c4, mv c5, mv c6⟩, h5⟩
/-- Two forests apart. -/
structure AS (H0 H : Heap) (fa fb : Nat) (Ta Tb : Nat → Prop) (Sa Sb : Sq) : Prop where
  a : FoM H fa Ta Sa
  b : FoM H fb Tb Sb
  fr : Fr (fun _ => False) H0 H
  ta : ∀ b, Ta b → H0.size ≤ b
  tb : ∀ b, Tb b → H0.size ≤ b
  ap : ∀ b, Ta b → ¬ Tb b
section
variable {H0 H H' : Heap} {fa fb : Nat} {Ta Tb T' : Nat → Prop} {Sa Sb S' : Sq}
theorem AS.opA (h : AS H0 H fa fb Ta Tb Sa Sb) (hf : FoM H' fa T' S') (hfr : Fr Ta H H') (hT : ∀ b, T' b → Ta b ∨ H.size ≤ b) : AS H0 H' fa fb T' Tb S' Sb :=
  ⟨hf, h.b.frame hfr fun b hb e => h.ap b e hb, h.fr.trans' hfr (fun b hb e => by have := h.ta b e; omega), fun b hb => by
    rcases hT b hb with hb | hb
    · exact h.ta b hb
    · exact Nat.le_trans h.fr.size hb, h.tb, fun b hb e => by
    rcases hT b hb with hb | hb
    · exact h.ap b hb e
    · have := h.b.lt e; omega⟩
theorem AS.opB (h : AS H0 H fa fb Ta Tb Sa Sb) (hf : FoM H' fb T' S') (hfr : Fr Tb H H') (hT : ∀ b, T' b → Tb b ∨ H.size ≤ b) : AS H0 H' fa fb Ta T' Sa S' :=
  ⟨h.a.frame hfr fun b hb e => h.ap b hb e, hf, h.fr.trans' hfr (fun b hb e => by have := h.tb b e; omega), h.ta, fun b hb => by
    rcases hT b hb with hb | hb
    · exact h.tb b hb
    · exact Nat.le_trans h.fr.size hb, fun b hb e => by
    rcases hT b e with e | e
    · exact h.ap b hb e
    · have := h.a.lt hb; omega⟩
theorem AS.grow (h : AS H0 H fa fb Ta Tb Sa Sb) (hf : Fr (fun _ => False) H H') : AS H0 H' fa fb Ta Tb Sa Sb := ⟨h.a.grow hf, h.b.grow hf, h.fr.trans hf, h.ta, h.tb, h.ap⟩
end
theorem two_ne {op : BinOp} {ox oy : Operand} {a b : Int} {H : Heap} {K : Value → Prop} (hK : K (.bool false)) : binX Try.prog .neq 71 ox oy (.agg #[.int .i64 a, .int .i64 b]) (.agg #[.int .i64 a, .int .i64 b]) H K :=
  binX_two elems71 tl3 rfl (by kernel_rfl) (by simpa using hK)
section
variable {H0 H : Heap} {e : Env} {Q : HX → Env → Heap → Prop} {fa fb : Nat} {Ta Tb : Nat → Prop} {S Sa : Sq}
/-- Much is asked of the one. -/
theorem askInner {a1 : Option Addr} {n1 c1 i b11 : Nat} {l11 : List Value} {z1 : Nat → OpR} (hin : InOps H0 a1 n1 z1) (hl : n1 ≤ 9223372036854775807) (hi : i < 200) (hM : AS H0 H fa fb Ta Tb Sa S) (h11 : Blk H b11 l11) (hn11 : ¬ Ta b11 ∧ ¬ Tb b11)
    (e8 : e 8 = .pointer (some ⟨fb, 0, none⟩)) (e1 : e 1 = .slice a1 n1 c1) (e10 : e 10 = .int .i64 (i : Nat)) (e12 : e 12 = .int .i64 0)
    (hQ : ∀ e' H' Tb', (e' 0 = e 0 ∧ e' 1 = e 1 ∧ e' 6 = e 6 ∧ e' 8 = e 8 ∧ e' 10 = e 10 ∧ e' 11 = e 11) → AS H0 H' fa fb Ta Tb' Sa S → Blk H' b11 l11 → ¬ Tb' b11 → Q .normal e' H') :
    codeX Try.prog [] (loopAt Try.f10.body 1) (blockQ 2 Q) e H := by
  refine x_loop (fun m e' H' => ∃ (k : Nat) (Tb' : Nat → Prop), e' 12 = .int .i64 (k : Nat) ∧ AS H0 H' fa fb Ta Tb' Sa S ∧ Blk H' b11 l11 ∧ ¬ Tb' b11 ∧ k ≤ 3 ∧ m = 3 - k) 3 ⟨0, Tb, e12, hM, h11, hn11.2, by omega, rfl⟩ ?_
  rintro m e1' H1 ⟨k, Tb1, i12, hM1, h111, hnb, hk, rfl⟩ hoff
  have i8 := (hoff 8 rfl).trans e8
  have i1 := (hoff 1 rfl).trans e1
  have i10 := (hoff 10 rfl).trans e10
  have keep : e1' 0 = e 0 ∧ e1' 1 = e 1 ∧ e1' 6 = e 6 ∧ e1' 8 = e 8 ∧ e1' 10 = e 10 ∧ e1' 11 = e 11 := ⟨hoff 0 rfl, hoff 1 rfl, hoff 6 rfl, hoff 8 rfl, hoff 10 rfl, hoff 11 rfl⟩
  clear hoff e8 e1 e10 e12
  by_cases hgo : k < 3 ∧ 0 < n1
  · have t1 : ((k : Int) < 3) = True := by simp; omega
    have t2 : (0 < n1) = True := by simp; omega
    have t2' : ((0 : Int) < (n1 : Int)) = True := by simp; omega
    obtain ⟨r, hr⟩ : ∃ r, r = (3 * i + k) % n1 := ⟨_, rfl⟩
    have hrl : r < n1 := by rw [hr]; exact Nat.mod_lt _ hgo.2
    have w1 : IntKind.i64.wrap (3 * (i : Int)) = ((3 * i : Nat) : Int) := by rw [wrap_i64] <;> omega
    have w2 : IntKind.i64.wrap (((3 * i : Nat) : Int) + (k : Int)) = ((3 * i + k : Nat) : Int) := by rw [wrap_i64] <;> omega
    have er : ((3 * i + k : Nat) : Int).tmod (n1 : Int) = (r : Int) := by rw [Int.tmod_eq_emod_of_nonneg (by omega), hr]; rfl
    have n0 : ((n1 : Int) = 0) = False := by simp only [eq_iff_iff, iff_false]; omega
    have ew : IntKind.i64.wrap ((k : Int) + 1) = ((k + 1 : Nat) : Int) := by rw [wrap_i64] <;> omega
    obtain ⟨p, rfl, ⟨c0, c1', c2, c3, c4, c5, c6⟩, hfit⟩ := (hin.frame hM1.fr) r hrl
    repeat' (first
      | (with_reducible first | refine seq_normal ?_ | (refine hK _ _ ?_; clear hK K) | refine x_seq (fun K hK => ?_) | refine x_nil ?_ | refine x_block ?_ | refine x_skip ?_ | refine x_exit ?_ | refine x_ret ?_ | refine x_label ?_ | refine x_scope ?_ | (refine seq_ret ?_; clear hK K) | (refine seq_exit ?_; clear hK K) | refine block_normal ?_ | refine block_ret ?_ | refine block_exit ?_ | refine loop_exit ?_ | refine loop_ret ?_)
      | ((with_reducible refine x_reg_lit ?hq ?_); case hq => rfl)
      | ((first | (with_reducible first | refine x_op (fun K hK => ?_) | refine end_ret ?_ | refine end_normal ?_) | ((with_reducible refine x_guard_yes ?hy (fun K hK => ?_)); case hy => rfl)); simp only [go_sem, Int.cast_ofNat_Int, Nat.reduceEqDiff, Nat.reduceAdd, Nat.reduceMul, Nat.reduceLeDiff, Nat.reduceLT, Int.reduceLT, Int.reduceLE, Int.reduceEq, Int.reduceNeg, Int.reduceToNat, Nat.reducePow, reduceIte, reduceCtorEq, i1, i8, i10, i12, t1, t2, t2', w1, w2, er, n0, hrl, c0, c1', c2, c3, c4, c5, c6])
      | ((with_reducible first | refine x_guard_no ?hy ?_ | refine x_cond_true ?hy ?_); case hy => rfl)
      | ((with_reducible first | refine x_guard_none ?hy ?_ | refine x_cond_false ?hy ?_); case hy => rfl)
      | ((with_reducible refine block_exit_ne ?hy ?_); case hy => decide))
    refine told_ok (o := z1 r) (ch := false) hM1.b hfit ?_
    intro H2 T2 hF2 hf2 hT2
    have h112 := h111.frame hf2 hnb
    have hM2 : AS H0 H2 fa fb Ta T2 Sa S := hM1.opB hF2 hf2 hT2
    have hl11 := h111.lt
    repeat' (first
      | (with_reducible first | refine seq_normal ?_ | (refine hK _ _ ?_; clear hK K) | refine x_seq (fun K hK => ?_) | refine x_nil ?_ | refine x_block ?_ | refine x_skip ?_ | refine x_exit ?_ | refine x_ret ?_ | refine x_label ?_ | refine x_scope ?_ | (refine seq_ret ?_; clear hK K) | (refine seq_exit ?_; clear hK K) | refine block_normal ?_ | refine block_ret ?_ | refine block_exit ?_ | refine loop_exit ?_ | refine loop_ret ?_)
      | ((with_reducible refine x_reg_lit ?hq ?_); case hq => rfl)
      | ((first | (with_reducible first | refine x_op (fun K hK => ?_) | refine end_ret ?_ | refine end_normal ?_) | ((with_reducible refine x_guard_yes ?hy (fun K hK => ?_)); case hy => rfl)); simp only [go_sem, Int.cast_ofNat_Int, Nat.reduceEqDiff, Nat.reduceAdd, Nat.reduceMul, Nat.reduceLeDiff, Nat.reduceLT, Int.reduceLT, Int.reduceLE, Int.reduceEq, Int.reduceNeg, Int.reduceToNat, Nat.reducePow, reduceIte, reduceCtorEq, i12, ew])
      | ((with_reducible first | refine x_guard_no ?hy ?_ | refine x_cond_true ?hy ?_); case hy => rfl)
      | ((with_reducible first | refine x_guard_none ?hy ?_ | refine x_cond_false ?hy ?_); case hy => rfl)
      | ((with_reducible refine block_exit_ne ?hy ?_); case hy => decide))
    exact loop_normal (m' := 3 - (k + 1)) (by omega) ⟨k + 1, T2, rfl, hM2, h112, (fun h => (hT2 _ h).elim hnb fun h => by omega), by omega, rfl⟩
  · have hor : ¬ k < 3 ∨ (k < 3 ∧ ¬ 0 < n1) := by omega
    rcases hor with h | ⟨h, h2⟩
    case' inl =>
      have t1 : ((k : Int) < 3) = False := by simp; omega
      repeat' (first
        | (with_reducible first | refine seq_normal ?_ | (refine hK _ _ ?_; clear hK K) | refine x_seq (fun K hK => ?_) | refine x_nil ?_ | refine x_block ?_ | refine x_skip ?_ | refine x_exit ?_ | refine x_ret ?_ | refine x_label ?_ | refine x_scope ?_ | (refine seq_ret ?_; clear hK K) | (refine seq_exit ?_; clear hK K) | refine block_normal ?_ | refine block_ret ?_ | refine block_exit ?_ | refine loop_exit ?_ | refine loop_ret ?_)
        | ((with_reducible refine x_reg_lit ?hq ?_); case hq => rfl)
        | ((first | (with_reducible first | refine x_op (fun K hK => ?_) | refine end_ret ?_ | refine end_normal ?_) | ((with_reducible refine x_guard_yes ?hy (fun K hK => ?_)); case hy => rfl)); simp only [go_sem, Int.cast_ofNat_Int, Nat.reduceEqDiff, Nat.reduceAdd, Nat.reduceMul, Nat.reduceLeDiff, Nat.reduceLT, Int.reduceLT, Int.reduceLE, Int.reduceEq, Int.reduceNeg, Int.reduceToNat, Nat.reducePow, reduceIte, reduceCtorEq, i1, i12, t1])
        | ((with_reducible first | refine x_guard_no ?hy ?_ | refine x_cond_true ?hy ?_); case hy => rfl)
        | ((with_reducible first | refine x_guard_none ?hy ?_ | refine x_cond_false ?hy ?_); case hy => rfl)
        | ((with_reducible refine block_exit_ne ?hy ?_); case hy => decide))
    case' inr =>
      have t1 : ((k : Int) < 3) = True := by simp; omega
      have n10 : n1 = 0 := by omega
      have t2 : ((0 : Int) < ((0 : Nat) : Int)) = False := by simp
      subst n10
      repeat' (first
        | (with_reducible first | refine seq_normal ?_ | (refine hK _ _ ?_; clear hK K) | refine x_seq (fun K hK => ?_) | refine x_nil ?_ | refine x_block ?_ | refine x_skip ?_ | refine x_exit ?_ | refine x_ret ?_ | refine x_label ?_ | refine x_scope ?_ | (refine seq_ret ?_; clear hK K) | (refine seq_exit ?_; clear hK K) | refine block_normal ?_ | refine block_ret ?_ | refine block_exit ?_ | refine loop_exit ?_ | refine loop_ret ?_)
        | ((with_reducible refine x_reg_lit ?hq ?_); case hq => rfl)
        | ((first | (with_reducible first | refine x_op (fun K hK => ?_) | refine end_ret ?_ | refine end_normal ?_) | ((with_reducible refine x_guard_yes ?hy (fun K hK => ?_)); case hy => rfl)); simp only [go_sem, Int.cast_ofNat_Int, Nat.reduceEqDiff, Nat.reduceAdd, Nat.reduceMul, Nat.reduceLeDiff, Nat.reduceLT, Int.reduceLT, Int.reduceLE, Int.reduceEq, Int.reduceNeg, Int.reduceToNat, Nat.reducePow, reduceIte, reduceCtorEq, i1, i12, t1, t2])
        | ((with_reducible first | refine x_guard_no ?hy ?_ | refine x_cond_true ?hy ?_); case hy => rfl)
        | ((with_reducible first | refine x_guard_none ?hy ?_ | refine x_cond_false ?hy ?_); case hy => rfl)
        | ((with_reducible refine block_exit_ne ?hy ?_); case hy => decide))
    all_goals exact hQ _ _ _ keep hM1 h111 hnb
theorem askOuter {a0 a1 : Option Addr} {n0 c0 n1 c1 : Nat} {z0 z1 : Nat → OpR} (hin0 : InOps H0 a0 n0 z0) (hl0 : n0 ≤ 9223372036854775807) (hin : InOps H0 a1 n1 z1) (hl : n1 ≤ 9223372036854775807) (hM : AS H0 H fa fb Ta Tb S S)
    (e0 : e 0 = .slice a0 n0 c0) (e1 : e 1 = .slice a1 n1 c1) (e6 : e 6 = .pointer (some ⟨fa, 0, none⟩)) (e8 : e 8 = .pointer (some ⟨fb, 0, none⟩)) (e10 : e 10 = .int .i64 0)
    (hQ : ∀ e' H' Ta' Tb' S', e' 6 = .pointer (some ⟨fa, 0, none⟩) → e' 8 = .pointer (some ⟨fb, 0, none⟩) → AS H0 H' fa fb Ta' Tb' S' S' → Q .normal e' H') :
    codeX Try.prog [] (loopAt Try.f10.body 0) (blockQ 0 Q) e H := by
  refine x_loop (fun m e' H' => ∃ (i : Nat) (Ta' Tb' : Nat → Prop) (S' : Sq), e' 10 = .int .i64 (i : Nat) ∧ AS H0 H' fa fb Ta' Tb' S' S' ∧ i ≤ 200 ∧ i ≤ n0 ∧ m = 200 - i) 200 ⟨0, Ta, Tb, S, e10, hM, by omega, by omega, rfl⟩ ?_
  rintro m e1' H1 ⟨i, Ta1, Tb1, S1, i10, hM1, hi200, hil, rfl⟩ hoff
  have i0 := (hoff 0 rfl).trans e0
  have i1 := (hoff 1 rfl).trans e1
  have i6 := (hoff 6 rfl).trans e6
  have i8 := (hoff 8 rfl).trans e8
  clear hoff e0 e1 e6 e8 e10
  by_cases hgo : i < n0 ∧ i < 200
  · have t1 : (i < n0) = True := by simp [hgo.1]
    have t2 : ((i : Int) < 200) = True := by simp; omega
    have ew : IntKind.i64.wrap ((i : Int) + 1) = ((i + 1 : Nat) : Int) := by rw [wrap_i64] <;> omega
    obtain ⟨p, rfl, ⟨c0', c1', c2, c3, c4, c5, c6⟩, hfit⟩ := (hin0.frame hM1.fr) i hgo.1
    repeat' (first
      | (with_reducible first | refine seq_normal ?_ | (refine hK _ _ ?_; clear hK K) | refine x_seq (fun K hK => ?_) | refine x_nil ?_ | refine x_block ?_ | refine x_skip ?_ | refine x_exit ?_ | refine x_ret ?_ | refine x_label ?_ | refine x_scope ?_ | (refine seq_ret ?_; clear hK K) | (refine seq_exit ?_; clear hK K) | refine block_normal ?_ | refine block_ret ?_ | refine block_exit ?_ | refine loop_exit ?_ | refine loop_ret ?_)
      | ((with_reducible refine x_reg_lit ?hq ?_); case hq => rfl)
      | ((first | (with_reducible first | refine x_op (fun K hK => ?_) | refine end_ret ?_ | refine end_normal ?_) | ((with_reducible refine x_guard_yes ?hy (fun K hK => ?_)); case hy => rfl)); simp only [go_sem, Int.cast_ofNat_Int, Nat.reduceEqDiff, Nat.reduceAdd, Nat.reduceMul, Nat.reduceLeDiff, Nat.reduceLT, Int.reduceLT, Int.reduceLE, Int.reduceEq, Int.reduceNeg, Int.reduceToNat, Nat.reducePow, reduceIte, reduceCtorEq, i0, i6, i10, t1, t2, c0', c1', c2, c3, c4, c5, c6])
      | ((with_reducible first | refine x_guard_no ?hy ?_ | refine x_cond_true ?hy ?_); case hy => rfl)
      | ((with_reducible first | refine x_guard_none ?hy ?_ | refine x_cond_false ?hy ?_); case hy => rfl)
      | ((with_reducible refine block_exit_ne ?hy ?_); case hy => decide))
    refine told_ok (o := z0 i) (ch := true) hM1.a hfit ?_
    intro H2 T2 hF2 hf2 hT2
    have hM2 := hM1.opA hF2 hf2 hT2
    obtain ⟨R, hR⟩ : ∃ R, R = Sq.toldQ S1 (z0 i).kind (z0 i).a (z0 i).b (z0 i).x true := ⟨_, rfl⟩
    rw [← hR]
    rw [← hR] at hM2
    repeat' (first
      | (with_reducible first | refine seq_normal ?_ | (refine hK _ _ ?_; clear hK K) | refine x_seq (fun K hK => ?_) | refine x_nil ?_ | refine x_block ?_ | refine x_skip ?_ | refine x_exit ?_ | refine x_ret ?_ | refine x_label ?_ | refine x_scope ?_ | (refine seq_ret ?_; clear hK K) | (refine seq_exit ?_; clear hK K) | refine block_normal ?_ | refine block_ret ?_ | refine block_exit ?_ | refine loop_exit ?_ | refine loop_ret ?_)
      | ((with_reducible refine x_reg_lit ?hq ?_); case hq => rfl)
      | ((first | (with_reducible first | refine x_op (fun K hK => ?_) | refine end_ret ?_ | refine end_normal ?_) | ((with_reducible refine x_guard_yes ?hy (fun K hK => ?_)); case hy => rfl)); simp only [go_sem, Int.cast_ofNat_Int, Nat.reduceEqDiff, Nat.reduceAdd, Nat.reduceMul, Nat.reduceLeDiff, Nat.reduceLT, Int.reduceLT, Int.reduceLE, Int.reduceEq, Int.reduceNeg, Int.reduceToNat, Nat.reducePow, reduceIte, reduceCtorEq, i0, i1, i6, i8, i10, hcell_push, hcell_top, okW_push, okW_top, hcell_hset_ne, hcell_hset_off, hcell_hset_eq, okW_hset, hset_size, Array.size_push, Nat.lt_add_one, ne_add_one, add_one_ne, Nat.add_assoc, add_same, add_lt_same, Nat.reduceEqDiff, lt_add_k, add_k_ne, ne_add_k])
      | ((with_reducible first | refine x_guard_no ?hy ?_ | refine x_cond_true ?hy ?_); case hy => rfl)
      | ((with_reducible first | refine x_guard_none ?hy ?_ | refine x_cond_false ?hy ?_); case hy => rfl)
      | ((with_reducible refine block_exit_ne ?hy ?_); case hy => decide))
    generalize hH3 : hset _ _ _ = H3
    have hb3 : Blk H3 H2.size [.int .i64 R.1.1, .int .i64 R.1.2] := by rw [← hH3]; exact (((Blk.new H2 [.int .i64 0, .int .i64 0] _).set_same 0 _).set_same 1 _)
    have hf3 : Fr (fun _ => False) H2 H3 := by rw [← hH3]; exact (by ((repeat (first | refine Fr.set ?_ (by simp) _ | refine Fr.push ?_ _)); exact Fr.refl _ _))
    clear hH3
    have hM3 := hM2.grow hf3
    have hna : ¬ T2 H2.size := fun h => by have := hM2.a.lt h; omega
    have hnb : ¬ Tb1 H2.size := fun h => by have := hM2.b.lt h; omega
    refine askInner hin hl hgo.2 hM3 hb3 ⟨hna, hnb⟩ (by exact i8) (by exact i1) (by exact i10) rfl ?_
    rintro e4 H4 Tb4 ⟨k0, k1, k6, k8, k10, k11⟩ hM4 hb4 hnb4
    have j0 : e4 0 = .slice (some p) n0 c0 := k0.trans (by exact i0)
    have j1 : e4 1 = .slice a1 n1 c1 := k1.trans (by exact i1)
    have j6 : e4 6 = .pointer (some ⟨fa, 0, none⟩) := k6.trans (by exact i6)
    have j8 : e4 8 = .pointer (some ⟨fb, 0, none⟩) := k8.trans (by exact i8)
    have j10 : e4 10 = .int .i64 (i : Nat) := k10.trans (by exact i10)
    have j11 : e4 11 = .pointer (some ⟨H2.size, 0, none⟩) := k11
    obtain ⟨d0, d1, d2, d3, d4, d5, d6⟩ : hcell H4 (p.add (i * 7)) = some (.int .i64 (z0 i).kind) ∧ hcell H4 ⟨(p.add (i * 7)).block, (p.add (i * 7)).off + 1, none⟩ = some (.int .i64 (z0 i).a) ∧ hcell H4 ⟨(p.add (i * 7)).block, (p.add (i * 7)).off + 2, none⟩ = some (.int .i64 (z0 i).b) ∧
        hcell H4 ⟨(p.add (i * 7)).block, (p.add (i * 7)).off + 3, none⟩ = some (.int .i64 (z0 i).x.value) ∧ hcell H4 ⟨(p.add (i * 7)).block, (p.add (i * 7)).off + 4, none⟩ = some (.bool (z0 i).x.counts) ∧ hcell H4 ⟨(p.add (i * 7)).block, (p.add (i * 7)).off + 5, none⟩ = some (.int .i64 (z0 i).x.flags) ∧
        hcell H4 ⟨(p.add (i * 7)).block, (p.add (i * 7)).off + 6, none⟩ = some (.bool (z0 i).other) := by
      obtain ⟨p', h1, h2, _⟩ := (hin0.frame hM4.fr) i hgo.1
      obtain rfl := Option.some.inj h1
      exact h2
    clear k0 k1 k6 k8 k10 k11
    repeat' (first
      | (with_reducible first | refine seq_normal ?_ | (refine hK _ _ ?_; clear hK K) | refine x_seq (fun K hK => ?_) | refine x_nil ?_ | refine x_block ?_ | refine x_skip ?_ | refine x_exit ?_ | refine x_ret ?_ | refine x_label ?_ | refine x_scope ?_ | (refine seq_ret ?_; clear hK K) | (refine seq_exit ?_; clear hK K) | refine block_normal ?_ | refine block_ret ?_ | refine block_exit ?_ | refine loop_exit ?_ | refine loop_ret ?_)
      | ((with_reducible refine x_reg_lit ?hq ?_); case hq => rfl)
      | ((first | (with_reducible first | refine x_op (fun K hK => ?_) | refine end_ret ?_ | refine end_normal ?_) | ((with_reducible refine x_guard_yes ?hy (fun K hK => ?_)); case hy => rfl)); simp only [go_sem, Int.cast_ofNat_Int, Nat.reduceEqDiff, Nat.reduceAdd, Nat.reduceMul, Nat.reduceLeDiff, Nat.reduceLT, Int.reduceLT, Int.reduceLE, Int.reduceEq, Int.reduceNeg, Int.reduceToNat, Nat.reducePow, reduceIte, reduceCtorEq, j0, j8, j10, hgo.1, d0, d1, d2, d3, d4, d5, d6])
      | ((with_reducible first | refine x_guard_no ?hy ?_ | refine x_cond_true ?hy ?_); case hy => rfl)
      | ((with_reducible first | refine x_guard_none ?hy ?_ | refine x_cond_false ?hy ?_); case hy => rfl)
      | ((with_reducible refine block_exit_ne ?hy ?_); case hy => decide))
    refine told_ok (o := z0 i) (ch := true) hM4.b hfit ?_
    intro H5 T5 hF5 hf5 hT5
    have hM5 := hM4.opB hF5 hf5 hT5
    rw [← hR]
    rw [← hR] at hM5
    have hb5 := hb4.frame hf5 hnb4
    have hl5 := hb5.lt
    have a0 := hb5.cellOf (i := 0) rfl
    have a1' := hb5.cellOf (i := 1) rfl
    have hne : ¬ H2.size = H5.size := by omega
    have hne' : ¬ H5.size = H2.size := by omega
    repeat' (first
      | (with_reducible first | refine seq_normal ?_ | (refine hK _ _ ?_; clear hK K) | refine x_seq (fun K hK => ?_) | refine x_nil ?_ | refine x_block ?_ | refine x_skip ?_ | refine x_exit ?_ | refine x_ret ?_ | refine x_label ?_ | refine x_scope ?_ | (refine seq_ret ?_; clear hK K) | (refine seq_exit ?_; clear hK K) | refine block_normal ?_ | refine block_ret ?_ | refine block_exit ?_ | refine loop_exit ?_ | refine loop_ret ?_)
      | ((with_reducible refine x_reg_lit ?hq ?_); case hq => rfl)
      | ((first | (with_reducible first | refine x_op (fun K hK => ?_) | refine end_ret ?_ | refine end_normal ?_) | ((with_reducible refine x_guard_yes ?hy (fun K hK => ?_)); case hy => rfl)); simp only [go_sem, Int.cast_ofNat_Int, Nat.reduceEqDiff, Nat.reduceAdd, Nat.reduceMul, Nat.reduceLeDiff, Nat.reduceLT, Int.reduceLT, Int.reduceLE, Int.reduceEq, Int.reduceNeg, Int.reduceToNat, Nat.reducePow, reduceIte, reduceCtorEq, j11, j10, a0, a1', hne, hne', hl5, hcell_push, hcell_top, okW_push, okW_top, hcell_hset_ne, hcell_hset_off, hcell_hset_eq, okW_hset, hset_size, Array.size_push, Nat.lt_add_one, ne_add_one, add_one_ne, Nat.add_assoc, add_same, add_lt_same, Nat.reduceEqDiff, lt_add_k, add_k_ne, ne_add_k])
      | ((with_reducible first | refine x_guard_no ?hy ?_ | refine x_cond_true ?hy ?_); case hy => rfl)
      | ((with_reducible first | refine x_guard_none ?hy ?_ | refine x_cond_false ?hy ?_); case hy => rfl)
      | ((with_reducible refine block_exit_ne ?hy ?_); case hy => decide))
    refine two_ne (op := .neq) ?_
    repeat' (first
      | (with_reducible first | refine seq_normal ?_ | (refine hK _ _ ?_; clear hK K) | refine x_seq (fun K hK => ?_) | refine x_nil ?_ | refine x_block ?_ | refine x_skip ?_ | refine x_exit ?_ | refine x_ret ?_ | refine x_label ?_ | refine x_scope ?_ | (refine seq_ret ?_; clear hK K) | (refine seq_exit ?_; clear hK K) | refine block_normal ?_ | refine block_ret ?_ | refine block_exit ?_ | refine loop_exit ?_ | refine loop_ret ?_)
      | ((with_reducible refine x_reg_lit ?hq ?_); case hq => rfl)
      | ((first | (with_reducible first | refine x_op (fun K hK => ?_) | refine end_ret ?_ | refine end_normal ?_) | ((with_reducible refine x_guard_yes ?hy (fun K hK => ?_)); case hy => rfl)); simp only [go_sem, Int.cast_ofNat_Int, Nat.reduceEqDiff, Nat.reduceAdd, Nat.reduceMul, Nat.reduceLeDiff, Nat.reduceLT, Int.reduceLT, Int.reduceLE, Int.reduceEq, Int.reduceNeg, Int.reduceToNat, Nat.reducePow, reduceIte, reduceCtorEq, j10, ew])
      | ((with_reducible first | refine x_guard_no ?hy ?_ | refine x_cond_true ?hy ?_); case hy => rfl)
      | ((with_reducible first | refine x_guard_none ?hy ?_ | refine x_cond_false ?hy ?_); case hy => rfl)
      | ((with_reducible refine block_exit_ne ?hy ?_); case hy => decide))
    refine loop_normal (m' := 200 - (i + 1)) (by omega) ⟨i + 1, T2, T5, R.2, rfl, hM5.grow ?_, by omega, by omega, rfl⟩
    exact (by ((repeat (first | refine Fr.set ?_ (by simp) _ | refine Fr.push ?_ _)); exact Fr.refl _ _))
  · have hor : ¬ i < n0 ∨ (i < n0 ∧ ¬ i < 200) := by
      by_cases h : i < n0
      · exact .inr ⟨h, fun h2 => hgo ⟨h, h2⟩⟩
      · exact .inl h
    rcases hor with h | ⟨h, h2⟩
    case' inl =>
      have t1 : (i < n0) = False := by simp [h]
      repeat' (first
        | (with_reducible first | refine seq_normal ?_ | (refine hK _ _ ?_; clear hK K) | refine x_seq (fun K hK => ?_) | refine x_nil ?_ | refine x_block ?_ | refine x_skip ?_ | refine x_exit ?_ | refine x_ret ?_ | refine x_label ?_ | refine x_scope ?_ | (refine seq_ret ?_; clear hK K) | (refine seq_exit ?_; clear hK K) | refine block_normal ?_ | refine block_ret ?_ | refine block_exit ?_ | refine loop_exit ?_ | refine loop_ret ?_)
        | ((with_reducible refine x_reg_lit ?hq ?_); case hq => rfl)
        | ((first | (with_reducible first | refine x_op (fun K hK => ?_) | refine end_ret ?_ | refine end_normal ?_) | ((with_reducible refine x_guard_yes ?hy (fun K hK => ?_)); case hy => rfl)); simp only [go_sem, Int.cast_ofNat_Int, Nat.reduceEqDiff, Nat.reduceAdd, Nat.reduceMul, Nat.reduceLeDiff, Nat.reduceLT, Int.reduceLT, Int.reduceLE, Int.reduceEq, Int.reduceNeg, Int.reduceToNat, Nat.reducePow, reduceIte, reduceCtorEq, i0, i10, t1])
        | ((with_reducible first | refine x_guard_no ?hy ?_ | refine x_cond_true ?hy ?_); case hy => rfl)
        | ((with_reducible first | refine x_guard_none ?hy ?_ | refine x_cond_false ?hy ?_); case hy => rfl)
        | ((with_reducible refine block_exit_ne ?hy ?_); case hy => decide))
    case' inr =>
      have t1 : (i < n0) = True := by simp [h]
      have t2 : ((i : Int) < 200) = False := by simp; omega
      repeat' (first
        | (with_reducible first | refine seq_normal ?_ | (refine hK _ _ ?_; clear hK K) | refine x_seq (fun K hK => ?_) | refine x_nil ?_ | refine x_block ?_ | refine x_skip ?_ | refine x_exit ?_ | refine x_ret ?_ | refine x_label ?_ | refine x_scope ?_ | (refine seq_ret ?_; clear hK K) | (refine seq_exit ?_; clear hK K) | refine block_normal ?_ | refine block_ret ?_ | refine block_exit ?_ | refine loop_exit ?_ | refine loop_ret ?_)
        | ((with_reducible refine x_reg_lit ?hq ?_); case hq => rfl)
        | ((first | (with_reducible first | refine x_op (fun K hK => ?_) | refine end_ret ?_ | refine end_normal ?_) | ((with_reducible refine x_guard_yes ?hy (fun K hK => ?_)); case hy => rfl)); simp only [go_sem, Int.cast_ofNat_Int, Nat.reduceEqDiff, Nat.reduceAdd, Nat.reduceMul, Nat.reduceLeDiff, Nat.reduceLT, Int.reduceLT, Int.reduceLE, Int.reduceEq, Int.reduceNeg, Int.reduceToNat, Nat.reducePow, reduceIte, reduceCtorEq, i0, i10, t1, t2])
        | ((with_reducible first | refine x_guard_no ?hy ?_ | refine x_cond_true ?hy ?_); case hy => rfl)
        | ((with_reducible first | refine x_guard_none ?hy ?_ | refine x_cond_false ?hy ?_); case hy => rfl)
        | ((with_reducible refine block_exit_ne ?hy ?_); case hy => decide))
    all_goals exact hQ _ _ _ _ _ i6 i8 hM1
theorem askEnd (hM : AS H0 H fa fb Ta Tb S S) (e6 : e 6 = .pointer (some ⟨fa, 0, none⟩)) (e8 : e 8 = .pointer (some ⟨fb, 0, none⟩)) (e14 : e 14 = .int .i64 0) (hQ : ∀ e' H', Fr (fun _ => False) H0 H' → Q .normal e' H') :
    codeX Try.prog [] (loopAt Try.f10.body 2) (blockQ 4 Q) e H := by
  have sub : ∀ {T : Nat → Prop} {H : Heap}, ∀ b, T b → T b ∨ H.size ≤ b := fun b hb => .inl hb
  refine x_loop (fun m e' H' => ∃ i : Nat, e' 14 = .int .i64 (i : Nat) ∧ AS H0 H' fa fb Ta Tb S S ∧ i ≤ 62 ∧ m = 62 - i) 62 ⟨0, e14, hM, by omega, rfl⟩ ?_
  rintro m e1' H1 ⟨i, i14, hM1, hi, rfl⟩ hoff
  have i6 := (hoff 6 rfl).trans e6
  have i8 := (hoff 8 rfl).trans e8
  clear hoff e6 e8 e14
  by_cases hlt : i < 62
  · have t1 : ((i : Int) < 62) = True := by simp; omega
    have ew : IntKind.i64.wrap ((i : Int) + 1) = ((i + 1 : Nat) : Int) := by rw [wrap_i64] <;> omega
    obtain ⟨G, hG⟩ : ∃ G, G = S.getQ (i : Int) := ⟨_, rfl⟩
    obtain ⟨U, hU⟩ : ∃ G, G = S.sumQ (i : Int) := ⟨_, rfl⟩
    obtain ⟨L, hL⟩ : ∃ G, G = S.allQ (i : Int) := ⟨_, rfl⟩
    repeat' (first
      | (with_reducible first | refine seq_normal ?_ | (refine hK _ _ ?_; clear hK K) | refine x_seq (fun K hK => ?_) | refine x_nil ?_ | refine x_block ?_ | refine x_skip ?_ | refine x_exit ?_ | refine x_ret ?_ | refine x_label ?_ | refine x_scope ?_ | (refine seq_ret ?_; clear hK K) | (refine seq_exit ?_; clear hK K) | refine block_normal ?_ | refine block_ret ?_ | refine block_exit ?_ | refine loop_exit ?_ | refine loop_ret ?_)
      | ((with_reducible refine x_reg_lit ?hq ?_); case hq => rfl)
      | ((first | (with_reducible first | refine x_op (fun K hK => ?_) | refine end_ret ?_ | refine end_normal ?_) | ((with_reducible refine x_guard_yes ?hy (fun K hK => ?_)); case hy => rfl)); simp only [go_sem, Int.cast_ofNat_Int, Nat.reduceEqDiff, Nat.reduceAdd, Nat.reduceMul, Nat.reduceLeDiff, Nat.reduceLT, Int.reduceLT, Int.reduceLE, Int.reduceEq, Int.reduceNeg, Int.reduceToNat, Nat.reducePow, reduceIte, reduceCtorEq, i6, i8, i14, t1])
      | ((with_reducible first | refine x_guard_no ?hy ?_ | refine x_cond_true ?hy ?_); case hy => rfl)
      | ((with_reducible first | refine x_guard_none ?hy ?_ | refine x_cond_false ?hy ?_); case hy => rfl)
      | ((with_reducible refine block_exit_ne ?hy ?_); case hy => decide))
    refine q_get hM1.a ?_
    intro H2 hF2 hf2
    have hM2 := hM1.opA hF2 hf2 sub
    rw [← hG]
    repeat' (first
      | (with_reducible first | refine seq_normal ?_ | (refine hK _ _ ?_; clear hK K) | refine x_seq (fun K hK => ?_) | refine x_nil ?_ | refine x_block ?_ | refine x_skip ?_ | refine x_exit ?_ | refine x_ret ?_ | refine x_label ?_ | refine x_scope ?_ | (refine seq_ret ?_; clear hK K) | (refine seq_exit ?_; clear hK K) | refine block_normal ?_ | refine block_ret ?_ | refine block_exit ?_ | refine loop_exit ?_ | refine loop_ret ?_)
      | ((with_reducible refine x_reg_lit ?hq ?_); case hq => rfl)
      | ((first | (with_reducible first | refine x_op (fun K hK => ?_) | refine end_ret ?_ | refine end_normal ?_) | ((with_reducible refine x_guard_yes ?hy (fun K hK => ?_)); case hy => rfl)); simp only [go_sem, Int.cast_ofNat_Int, Nat.reduceEqDiff, Nat.reduceAdd, Nat.reduceMul, Nat.reduceLeDiff, Nat.reduceLT, Int.reduceLT, Int.reduceLE, Int.reduceEq, Int.reduceNeg, Int.reduceToNat, Nat.reducePow, reduceIte, reduceCtorEq, Sp.Item.val, i6, i8, i14, hcell_push, hcell_top, okW_push, okW_top, hcell_hset_ne, hcell_hset_off, hcell_hset_eq, okW_hset, hset_size, Array.size_push, Nat.lt_add_one, ne_add_one, add_one_ne, Nat.add_assoc, add_same, add_lt_same, Nat.reduceEqDiff, lt_add_k, add_k_ne, ne_add_k])
      | ((with_reducible first | refine x_guard_no ?hy ?_ | refine x_cond_true ?hy ?_); case hy => rfl)
      | ((with_reducible first | refine x_guard_none ?hy ?_ | refine x_cond_false ?hy ?_); case hy => rfl)
      | ((with_reducible refine block_exit_ne ?hy ?_); case hy => decide))
    generalize hH3 : hset _ _ _ = H3
    have hb3 : Blk H3 H2.size G.1.cells := by rw [← hH3]; exact item_new H2 G.1 _
    have hf3 : Fr (fun _ => False) H2 H3 := by rw [← hH3]; exact (by ((repeat (first | refine Fr.set ?_ (by simp) _ | refine Fr.push ?_ _)); exact Fr.refl _ _))
    clear hH3
    have hM3 := hM2.grow hf3
    have na3 : ¬ Ta H2.size := fun h => by have := hM2.a.lt h; omega
    have nb3 : ¬ Tb H2.size := fun h => by have := hM2.b.lt h; omega
    refine q_get hM3.b ?_
    intro H4 hF4 hf4
    have hM4 := hM3.opB hF4 hf4 sub
    have hb4 := hb3.frame hf4 nb3
    rw [← hG]
    repeat' (first
      | (with_reducible first | refine seq_normal ?_ | (refine hK _ _ ?_; clear hK K) | refine x_seq (fun K hK => ?_) | refine x_nil ?_ | refine x_block ?_ | refine x_skip ?_ | refine x_exit ?_ | refine x_ret ?_ | refine x_label ?_ | refine x_scope ?_ | (refine seq_ret ?_; clear hK K) | (refine seq_exit ?_; clear hK K) | refine block_normal ?_ | refine block_ret ?_ | refine block_exit ?_ | refine loop_exit ?_ | refine loop_ret ?_)
      | ((with_reducible refine x_reg_lit ?hq ?_); case hq => rfl)
      | ((first | (with_reducible first | refine x_op (fun K hK => ?_) | refine end_ret ?_ | refine end_normal ?_) | ((with_reducible refine x_guard_yes ?hy (fun K hK => ?_)); case hy => rfl)); simp only [go_sem, Int.cast_ofNat_Int, Nat.reduceEqDiff, Nat.reduceAdd, Nat.reduceMul, Nat.reduceLeDiff, Nat.reduceLT, Int.reduceLT, Int.reduceLE, Int.reduceEq, Int.reduceNeg, Int.reduceToNat, Nat.reducePow, reduceIte, reduceCtorEq, Sp.Item.val, i6, i8, i14, hcell_push, hcell_top, okW_push, okW_top, hcell_hset_ne, hcell_hset_off, hcell_hset_eq, okW_hset, hset_size, Array.size_push, Nat.lt_add_one, ne_add_one, add_one_ne, Nat.add_assoc, add_same, add_lt_same, Nat.reduceEqDiff, lt_add_k, add_k_ne, ne_add_k])
      | ((with_reducible first | refine x_guard_no ?hy ?_ | refine x_cond_true ?hy ?_); case hy => rfl)
      | ((with_reducible first | refine x_guard_none ?hy ?_ | refine x_cond_false ?hy ?_); case hy => rfl)
      | ((with_reducible refine block_exit_ne ?hy ?_); case hy => decide))
    generalize hH5 : hset _ _ _ = H5
    have hc5 : Blk H5 H4.size G.1.cells := by rw [← hH5]; exact item_new H4 G.1 _
    have hf5 : Fr (fun _ => False) H4 H5 := by rw [← hH5]; exact (by ((repeat (first | refine Fr.set ?_ (by simp) _ | refine Fr.push ?_ _)); exact Fr.refl _ _))
    clear hH5
    have hM5 := hM4.grow hf5
    have hb5 := hb4.frame hf5 fun h => h
    have na5 : ¬ Ta H4.size := fun h => by have := hM4.a.lt h; omega
    have nb5 : ¬ Tb H4.size := fun h => by have := hM4.b.lt h; omega
    refine q_sum hM5.a ?_
    intro H6 hF6 hf6
    have hM6 := hM5.opA hF6 hf6 sub
    have hb6 := hb5.frame hf6 na3
    have hc6 := hc5.frame hf6 na5
    rw [← hU]
    repeat' (first
      | (with_reducible first | refine seq_normal ?_ | (refine hK _ _ ?_; clear hK K) | refine x_seq (fun K hK => ?_) | refine x_nil ?_ | refine x_block ?_ | refine x_skip ?_ | refine x_exit ?_ | refine x_ret ?_ | refine x_label ?_ | refine x_scope ?_ | (refine seq_ret ?_; clear hK K) | (refine seq_exit ?_; clear hK K) | refine block_normal ?_ | refine block_ret ?_ | refine block_exit ?_ | refine loop_exit ?_ | refine loop_ret ?_)
      | ((with_reducible refine x_reg_lit ?hq ?_); case hq => rfl)
      | ((first | (with_reducible first | refine x_op (fun K hK => ?_) | refine end_ret ?_ | refine end_normal ?_) | ((with_reducible refine x_guard_yes ?hy (fun K hK => ?_)); case hy => rfl)); simp only [go_sem, Int.cast_ofNat_Int, Nat.reduceEqDiff, Nat.reduceAdd, Nat.reduceMul, Nat.reduceLeDiff, Nat.reduceLT, Int.reduceLT, Int.reduceLE, Int.reduceEq, Int.reduceNeg, Int.reduceToNat, Nat.reducePow, reduceIte, reduceCtorEq, Agg.val, i6, i8, i14, hcell_push, hcell_top, okW_push, okW_top, hcell_hset_ne, hcell_hset_off, hcell_hset_eq, okW_hset, hset_size, Array.size_push, Nat.lt_add_one, ne_add_one, add_one_ne, Nat.add_assoc, add_same, add_lt_same, Nat.reduceEqDiff, lt_add_k, add_k_ne, ne_add_k])
      | ((with_reducible first | refine x_guard_no ?hy ?_ | refine x_cond_true ?hy ?_); case hy => rfl)
      | ((with_reducible first | refine x_guard_none ?hy ?_ | refine x_cond_false ?hy ?_); case hy => rfl)
      | ((with_reducible refine block_exit_ne ?hy ?_); case hy => decide))
    generalize hH7 : hset _ _ _ = H7
    have hd7 : Blk H7 H6.size (aggCells U.1) := by rw [← hH7]; exact (agg_new H6 _ _).1
    have hf7 : Fr (fun _ => False) H6 H7 := by rw [← hH7]; exact (by ((repeat (first | refine Fr.set ?_ (by simp) _ | refine Fr.push ?_ _)); exact Fr.refl _ _))
    clear hH7
    have hM7 := hM6.grow hf7
    have hb7 := hb6.frame hf7 fun h => h
    have hc7 := hc6.frame hf7 fun h => h
    have na7 : ¬ Ta H6.size := fun h => by have := hM6.a.lt h; omega
    have nb7 : ¬ Tb H6.size := fun h => by have := hM6.b.lt h; omega
    refine q_sum hM7.b ?_
    intro H8 hF8 hf8
    have hM8 := hM7.opB hF8 hf8 sub
    have hb8 := hb7.frame hf8 nb3
    have hc8 := hc7.frame hf8 nb5
    have hd8 := hd7.frame hf8 nb7
    rw [← hU]
    repeat' (first
      | (with_reducible first | refine seq_normal ?_ | (refine hK _ _ ?_; clear hK K) | refine x_seq (fun K hK => ?_) | refine x_nil ?_ | refine x_block ?_ | refine x_skip ?_ | refine x_exit ?_ | refine x_ret ?_ | refine x_label ?_ | refine x_scope ?_ | (refine seq_ret ?_; clear hK K) | (refine seq_exit ?_; clear hK K) | refine block_normal ?_ | refine block_ret ?_ | refine block_exit ?_ | refine loop_exit ?_ | refine loop_ret ?_)
      | ((with_reducible refine x_reg_lit ?hq ?_); case hq => rfl)
      | ((first | (with_reducible first | refine x_op (fun K hK => ?_) | refine end_ret ?_ | refine end_normal ?_) | ((with_reducible refine x_guard_yes ?hy (fun K hK => ?_)); case hy => rfl)); simp only [go_sem, Int.cast_ofNat_Int, Nat.reduceEqDiff, Nat.reduceAdd, Nat.reduceMul, Nat.reduceLeDiff, Nat.reduceLT, Int.reduceLT, Int.reduceLE, Int.reduceEq, Int.reduceNeg, Int.reduceToNat, Nat.reducePow, reduceIte, reduceCtorEq, Agg.val, i6, i8, i14, hcell_push, hcell_top, okW_push, okW_top, hcell_hset_ne, hcell_hset_off, hcell_hset_eq, okW_hset, hset_size, Array.size_push, Nat.lt_add_one, ne_add_one, add_one_ne, Nat.add_assoc, add_same, add_lt_same, Nat.reduceEqDiff, lt_add_k, add_k_ne, ne_add_k])
      | ((with_reducible first | refine x_guard_no ?hy ?_ | refine x_cond_true ?hy ?_); case hy => rfl)
      | ((with_reducible first | refine x_guard_none ?hy ?_ | refine x_cond_false ?hy ?_); case hy => rfl)
      | ((with_reducible refine block_exit_ne ?hy ?_); case hy => decide))
    generalize hH9 : hset _ _ _ = H9
    have he9 : Blk H9 H8.size (aggCells U.1) := by rw [← hH9]; exact (agg_new H8 _ _).1
    have hf9 : Fr (fun _ => False) H8 H9 := by rw [← hH9]; exact (by ((repeat (first | refine Fr.set ?_ (by simp) _ | refine Fr.push ?_ _)); exact Fr.refl _ _))
    clear hH9
    have hM9 := hM8.grow hf9
    have hb9 := hb8.frame hf9 fun h => h
    have hc9 := hc8.frame hf9 fun h => h
    have hd9 := hd8.frame hf9 fun h => h
    have na9 : ¬ Ta H8.size := fun h => by have := hM8.a.lt h; omega
    have nb9 : ¬ Tb H8.size := fun h => by have := hM8.b.lt h; omega
    refine q_all hM9.a ?_
    intro H10 B10 v10 hF10 hi10 hB10 hf10
    have hM10 := hM9.opA hF10 hf10 sub
    rw [← hL] at hi10 ⊢
    repeat' (first
      | (with_reducible first | refine seq_normal ?_ | (refine hK _ _ ?_; clear hK K) | refine x_seq (fun K hK => ?_) | refine x_nil ?_ | refine x_block ?_ | refine x_skip ?_ | refine x_exit ?_ | refine x_ret ?_ | refine x_label ?_ | refine x_scope ?_ | (refine seq_ret ?_; clear hK K) | (refine seq_exit ?_; clear hK K) | refine block_normal ?_ | refine block_ret ?_ | refine block_exit ?_ | refine loop_exit ?_ | refine loop_ret ?_)
      | ((with_reducible refine x_reg_lit ?hq ?_); case hq => rfl)
      | ((first | (with_reducible first | refine x_op (fun K hK => ?_) | refine end_ret ?_ | refine end_normal ?_) | ((with_reducible refine x_guard_yes ?hy (fun K hK => ?_)); case hy => rfl)); simp only [go_sem, Int.cast_ofNat_Int, Nat.reduceEqDiff, Nat.reduceAdd, Nat.reduceMul, Nat.reduceLeDiff, Nat.reduceLT, Int.reduceLT, Int.reduceLE, Int.reduceEq, Int.reduceNeg, Int.reduceToNat, Nat.reducePow, reduceIte, reduceCtorEq, i6, i8, i14])
      | ((with_reducible first | refine x_guard_no ?hy ?_ | refine x_cond_true ?hy ?_); case hy => rfl)
      | ((with_reducible first | refine x_guard_none ?hy ?_ | refine x_cond_false ?hy ?_); case hy => rfl)
      | ((with_reducible refine block_exit_ne ?hy ?_); case hy => decide))
    refine q_all hM10.b ?_
    intro H11 B11 v11 hF11 hi11 hB11 hf11
    have hM11 := hM10.opB hF11 hf11 sub
    rw [← hL] at hi11 ⊢
    have hi10' := hi10.frame hf11 fun b hb h => by have := hM9.b.lt h; have := hB10 b hb; omega
    have hb11 := (hb9.frame hf10 na3).frame hf11 nb3
    have hc11 := (hc9.frame hf10 na5).frame hf11 nb5
    have hd11 := (hd9.frame hf10 na7).frame hf11 nb7
    have he11 := (he9.frame hf10 na9).frame hf11 nb9
    have hlen : L.1.length ≤ 4096 := by
      rw [hL]
      unfold Sq.allQ
      split
      · rename_i h
        obtain ⟨k, hk, h2, e⟩ := has_nat h
        have h3 := (Sq.rowOf_spec h2).1
        have h4 := hM11.a.len
        have h5 := (List.sublist_flatten_of_mem h3).length_le
        rw [e]
        simp only []
        omega
      · simp
    have g0 := hb11.cellOf (i := 0) rfl
    have g1 := hb11.cellOf (i := 1) rfl
    have g2 := hb11.cellOf (i := 2) rfl
    have h0 := hc11.cellOf (i := 0) rfl
    have h1 := hc11.cellOf (i := 1) rfl
    have h2 := hc11.cellOf (i := 2) rfl
    have u0 := hd11.cellOf (i := 0) rfl
    have u1 := hd11.cellOf (i := 1) rfl
    have u2 := hd11.cellOf (i := 2) rfl
    have u3 := hd11.cellOf (i := 3) rfl
    have u4 := hd11.cellOf (i := 4) rfl
    have v0 := he11.cellOf (i := 0) rfl
    have v1 := he11.cellOf (i := 1) rfl
    have v2 := he11.cellOf (i := 2) rfl
    have v3 := he11.cellOf (i := 3) rfl
    have v4 := he11.cellOf (i := 4) rfl
    repeat' (first
      | (with_reducible first | refine seq_normal ?_ | (refine hK _ _ ?_; clear hK K) | refine x_seq (fun K hK => ?_) | refine x_nil ?_ | refine x_block ?_ | refine x_skip ?_ | refine x_exit ?_ | refine x_ret ?_ | refine x_label ?_ | refine x_scope ?_ | (refine seq_ret ?_; clear hK K) | (refine seq_exit ?_; clear hK K) | refine block_normal ?_ | refine block_ret ?_ | refine block_exit ?_ | refine loop_exit ?_ | refine loop_ret ?_)
      | ((with_reducible refine x_reg_lit ?hq ?_); case hq => rfl)
      | ((first | (with_reducible first | refine x_op (fun K hK => ?_) | refine end_ret ?_ | refine end_normal ?_) | ((with_reducible refine x_guard_yes ?hy (fun K hK => ?_)); case hy => rfl)); simp only [go_sem, Int.cast_ofNat_Int, Nat.reduceEqDiff, Nat.reduceAdd, Nat.reduceMul, Nat.reduceLeDiff, Nat.reduceLT, Int.reduceLT, Int.reduceLE, Int.reduceEq, Int.reduceNeg, Int.reduceToNat, Nat.reducePow, reduceIte, reduceCtorEq])
      | ((with_reducible first | refine x_guard_no ?hy ?_ | refine x_cond_true ?hy ?_); case hy => rfl)
      | ((with_reducible first | refine x_guard_none ?hy ?_ | refine x_cond_false ?hy ?_); case hy => rfl)
      | ((with_reducible refine block_exit_ne ?hy ?_); case hy => decide))
    refine Pkisthmuslaw03.same_ok hi10'.rds hi11.rds (by simp; omega) ?_
    have dt : decide (List.map Int.ofNat L.1 = List.map Int.ofNat L.1) = true := by simp
    rw [dt]
    repeat' (first
      | (with_reducible first | refine seq_normal ?_ | (refine hK _ _ ?_; clear hK K) | refine x_seq (fun K hK => ?_) | refine x_nil ?_ | refine x_block ?_ | refine x_skip ?_ | refine x_exit ?_ | refine x_ret ?_ | refine x_label ?_ | refine x_scope ?_ | (refine seq_ret ?_; clear hK K) | (refine seq_exit ?_; clear hK K) | refine block_normal ?_ | refine block_ret ?_ | refine block_exit ?_ | refine loop_exit ?_ | refine loop_ret ?_)
      | ((with_reducible refine x_reg_lit ?hq ?_); case hq => rfl)
      | ((first | (with_reducible first | refine x_op (fun K hK => ?_) | refine end_ret ?_ | refine end_normal ?_) | ((with_reducible refine x_guard_yes ?hy (fun K hK => ?_)); case hy => rfl)); simp only [go_sem, Int.cast_ofNat_Int, Nat.reduceEqDiff, Nat.reduceAdd, Nat.reduceMul, Nat.reduceLeDiff, Nat.reduceLT, Int.reduceLT, Int.reduceLE, Int.reduceEq, Int.reduceNeg, Int.reduceToNat, Nat.reducePow, reduceIte, reduceCtorEq, g0, g1, g2, h0, h1, h2])
      | ((with_reducible first | refine x_guard_no ?hy ?_ | refine x_cond_true ?hy ?_); case hy => rfl)
      | ((with_reducible first | refine x_guard_none ?hy ?_ | refine x_cond_false ?hy ?_); case hy => rfl)
      | ((with_reducible refine block_exit_ne ?hy ?_); case hy => decide))
    refine item_eq (op := .neq) (a := G.1) (b := G.1) ?_
    simp only [decide_true, Bool.not_true]
    repeat' (first
      | (with_reducible first | refine seq_normal ?_ | (refine hK _ _ ?_; clear hK K) | refine x_seq (fun K hK => ?_) | refine x_nil ?_ | refine x_block ?_ | refine x_skip ?_ | refine x_exit ?_ | refine x_ret ?_ | refine x_label ?_ | refine x_scope ?_ | (refine seq_ret ?_; clear hK K) | (refine seq_exit ?_; clear hK K) | refine block_normal ?_ | refine block_ret ?_ | refine block_exit ?_ | refine loop_exit ?_ | refine loop_ret ?_)
      | ((with_reducible refine x_reg_lit ?hq ?_); case hq => rfl)
      | ((first | (with_reducible first | refine x_op (fun K hK => ?_) | refine end_ret ?_ | refine end_normal ?_) | ((with_reducible refine x_guard_yes ?hy (fun K hK => ?_)); case hy => rfl)); simp only [go_sem, Int.cast_ofNat_Int, Nat.reduceEqDiff, Nat.reduceAdd, Nat.reduceMul, Nat.reduceLeDiff, Nat.reduceLT, Int.reduceLT, Int.reduceLE, Int.reduceEq, Int.reduceNeg, Int.reduceToNat, Nat.reducePow, reduceIte, reduceCtorEq, u0, u1, u2, u3, u4, v0, v1, v2, v3, v4])
      | ((with_reducible first | refine x_guard_no ?hy ?_ | refine x_cond_true ?hy ?_); case hy => rfl)
      | ((with_reducible first | refine x_guard_none ?hy ?_ | refine x_cond_false ?hy ?_); case hy => rfl)
      | ((with_reducible refine block_exit_ne ?hy ?_); case hy => decide))
    refine agg_eq (op := .neq) (a := U.1) (b := U.1) ?_
    simp only [decide_true, Bool.not_true]
    repeat' (first
      | (with_reducible first | refine seq_normal ?_ | (refine hK _ _ ?_; clear hK K) | refine x_seq (fun K hK => ?_) | refine x_nil ?_ | refine x_block ?_ | refine x_skip ?_ | refine x_exit ?_ | refine x_ret ?_ | refine x_label ?_ | refine x_scope ?_ | (refine seq_ret ?_; clear hK K) | (refine seq_exit ?_; clear hK K) | refine block_normal ?_ | refine block_ret ?_ | refine block_exit ?_ | refine loop_exit ?_ | refine loop_ret ?_)
      | ((with_reducible refine x_reg_lit ?hq ?_); case hq => rfl)
      | ((first | (with_reducible first | refine x_op (fun K hK => ?_) | refine end_ret ?_ | refine end_normal ?_) | ((with_reducible refine x_guard_yes ?hy (fun K hK => ?_)); case hy => rfl)); simp only [go_sem, Int.cast_ofNat_Int, Nat.reduceEqDiff, Nat.reduceAdd, Nat.reduceMul, Nat.reduceLeDiff, Nat.reduceLT, Int.reduceLT, Int.reduceLE, Int.reduceEq, Int.reduceNeg, Int.reduceToNat, Nat.reducePow, reduceIte, reduceCtorEq, i14, ew])
      | ((with_reducible first | refine x_guard_no ?hy ?_ | refine x_cond_true ?hy ?_); case hy => rfl)
      | ((with_reducible first | refine x_guard_none ?hy ?_ | refine x_cond_false ?hy ?_); case hy => rfl)
      | ((with_reducible refine block_exit_ne ?hy ?_); case hy => decide))
    exact loop_normal (m' := 62 - (i + 1)) (by omega) ⟨i + 1, rfl, hM11, by omega, rfl⟩
  · have t1 : ((i : Int) < 62) = False := by simp; omega
    repeat' (first
      | (with_reducible first | refine seq_normal ?_ | (refine hK _ _ ?_; clear hK K) | refine x_seq (fun K hK => ?_) | refine x_nil ?_ | refine x_block ?_ | refine x_skip ?_ | refine x_exit ?_ | refine x_ret ?_ | refine x_label ?_ | refine x_scope ?_ | (refine seq_ret ?_; clear hK K) | (refine seq_exit ?_; clear hK K) | refine block_normal ?_ | refine block_ret ?_ | refine block_exit ?_ | refine loop_exit ?_ | refine loop_ret ?_)
      | ((with_reducible refine x_reg_lit ?hq ?_); case hq => rfl)
      | ((first | (with_reducible first | refine x_op (fun K hK => ?_) | refine end_ret ?_ | refine end_normal ?_) | ((with_reducible refine x_guard_yes ?hy (fun K hK => ?_)); case hy => rfl)); simp only [go_sem, Int.cast_ofNat_Int, Nat.reduceEqDiff, Nat.reduceAdd, Nat.reduceMul, Nat.reduceLeDiff, Nat.reduceLT, Int.reduceLT, Int.reduceLE, Int.reduceEq, Int.reduceNeg, Int.reduceToNat, Nat.reducePow, reduceIte, reduceCtorEq, i14, t1])
      | ((with_reducible first | refine x_guard_no ?hy ?_ | refine x_cond_true ?hy ?_); case hy => rfl)
      | ((with_reducible first | refine x_guard_none ?hy ?_ | refine x_cond_false ?hy ?_); case hy => rfl)
      | ((with_reducible refine block_exit_ne ?hy ?_); case hy => decide))
    exact hQ _ _ hM1.fr
end
theorem splayAsked {H : Heap} {a0 a1 : Option Addr} {n0 c0 n1 c1 : Nat} {z0 z1 : Nat → OpR} {K : Value → Heap → Prop} (h0 : InOps H a0 n0 z0) (l0 : n0 ≤ 9223372036854775807) (h1 : InOps H a1 n1 z1) (l1 : n1 ≤ 9223372036854775807)
    (fin : ∀ H', Fr (fun _ => False) H H' → K (.bool true) H') :
    CallsH Try.prog 10 #[.slice a0 n0 c0, .slice a1 n1 c1] H K := by
  refine call10 (by simp) ?_
  simp only [Try.f10, Option.getD_some]
  repeat' (first
    | (with_reducible first | refine seq_normal ?_ | (refine hK _ _ ?_; clear hK K) | refine x_seq (fun K hK => ?_) | refine x_nil ?_ | refine x_block ?_ | refine x_skip ?_ | refine x_exit ?_ | refine x_ret ?_ | refine x_label ?_ | refine x_scope ?_ | (refine seq_ret ?_; clear hK K) | (refine seq_exit ?_; clear hK K) | refine block_normal ?_ | refine block_ret ?_ | refine block_exit ?_ | refine loop_exit ?_ | refine loop_ret ?_)
    | ((with_reducible refine x_reg_lit ?hq ?_); case hq => rfl)
    | ((first | (with_reducible first | refine x_op (fun K hK => ?_) | refine end_ret ?_ | refine end_normal ?_) | ((with_reducible refine x_guard_yes ?hy (fun K hK => ?_)); case hy => rfl)); simp only [go_sem, Int.cast_ofNat_Int, Nat.reduceEqDiff, Nat.reduceAdd, Nat.reduceMul, Nat.reduceLeDiff, Nat.reduceLT, Int.reduceLT, Int.reduceLE, Int.reduceEq, Int.reduceNeg, Int.reduceToNat, Nat.reducePow, reduceIte, reduceCtorEq])
    | ((with_reducible first | refine x_guard_no ?hy ?_ | refine x_cond_true ?hy ?_); case hy => rfl)
    | ((with_reducible first | refine x_guard_none ?hy ?_ | refine x_cond_false ?hy ?_); case hy => rfl)
    | ((with_reducible refine block_exit_ne ?hy ?_); case hy => decide))
  refine awake_ok ?_
  intro H1 hf1
  repeat' (first
    | (with_reducible first | refine seq_normal ?_ | (refine hK _ _ ?_; clear hK K) | refine x_seq (fun K hK => ?_) | refine x_nil ?_ | refine x_block ?_ | refine x_skip ?_ | refine x_exit ?_ | refine x_ret ?_ | refine x_label ?_ | refine x_scope ?_ | (refine seq_ret ?_; clear hK K) | (refine seq_exit ?_; clear hK K) | refine block_normal ?_ | refine block_ret ?_ | refine block_exit ?_ | refine loop_exit ?_ | refine loop_ret ?_)
    | ((with_reducible refine x_reg_lit ?hq ?_); case hq => rfl)
    | ((first | (with_reducible first | refine x_op (fun K hK => ?_) | refine end_ret ?_ | refine end_normal ?_) | ((with_reducible refine x_guard_yes ?hy (fun K hK => ?_)); case hy => rfl)); simp only [go_sem, Int.cast_ofNat_Int, Nat.reduceEqDiff, Nat.reduceAdd, Nat.reduceMul, Nat.reduceLeDiff, Nat.reduceLT, Int.reduceLT, Int.reduceLE, Int.reduceEq, Int.reduceNeg, Int.reduceToNat, Nat.reducePow, reduceIte, reduceCtorEq])
    | ((with_reducible first | refine x_guard_no ?hy ?_ | refine x_cond_true ?hy ?_); case hy => rfl)
    | ((with_reducible first | refine x_guard_none ?hy ?_ | refine x_cond_false ?hy ?_); case hy => rfl)
    | ((with_reducible refine block_exit_ne ?hy ?_); case hy => decide))
  refine new_ok (n := 60) (by omega) ?_
  intro H2 fa Ta hFa hf2 hTa _
  repeat' (first
    | (with_reducible first | refine seq_normal ?_ | (refine hK _ _ ?_; clear hK K) | refine x_seq (fun K hK => ?_) | refine x_nil ?_ | refine x_block ?_ | refine x_skip ?_ | refine x_exit ?_ | refine x_ret ?_ | refine x_label ?_ | refine x_scope ?_ | (refine seq_ret ?_; clear hK K) | (refine seq_exit ?_; clear hK K) | refine block_normal ?_ | refine block_ret ?_ | refine block_exit ?_ | refine loop_exit ?_ | refine loop_ret ?_)
    | ((with_reducible refine x_reg_lit ?hq ?_); case hq => rfl)
    | ((first | (with_reducible first | refine x_op (fun K hK => ?_) | refine end_ret ?_ | refine end_normal ?_) | ((with_reducible refine x_guard_yes ?hy (fun K hK => ?_)); case hy => rfl)); simp only [go_sem, Int.cast_ofNat_Int, Nat.reduceEqDiff, Nat.reduceAdd, Nat.reduceMul, Nat.reduceLeDiff, Nat.reduceLT, Int.reduceLT, Int.reduceLE, Int.reduceEq, Int.reduceNeg, Int.reduceToNat, Nat.reducePow, reduceIte, reduceCtorEq])
    | ((with_reducible first | refine x_guard_no ?hy ?_ | refine x_cond_true ?hy ?_); case hy => rfl)
    | ((with_reducible first | refine x_guard_none ?hy ?_ | refine x_cond_false ?hy ?_); case hy => rfl)
    | ((with_reducible refine block_exit_ne ?hy ?_); case hy => decide))
  refine new_ok (n := 60) (by omega) ?_
  intro H3 fb Tb hFb hf3 hTb _
  have hs1 := hf1.size
  have hs2 := hf2.size
  have hM : AS H H3 fa fb Ta Tb (Sq.new 60) (Sq.new 60) := ⟨hFa.grow hf3, hFb, (hf1.trans hf2).trans hf3, fun b hb => by have := hTa b hb; omega, fun b hb => by have := hTb b hb; omega, fun b hb h => by have := hFa.lt hb; have := hTb b h; omega⟩
  repeat' (first
    | (with_reducible first | refine seq_normal ?_ | (refine hK _ _ ?_; clear hK K) | refine x_seq (fun K hK => ?_) | refine x_nil ?_ | refine x_block ?_ | refine x_skip ?_ | refine x_exit ?_ | refine x_ret ?_ | refine x_label ?_ | refine x_scope ?_ | (refine seq_ret ?_; clear hK K) | (refine seq_exit ?_; clear hK K) | refine block_normal ?_ | refine block_ret ?_ | refine block_exit ?_ | refine loop_exit ?_ | refine loop_ret ?_)
    | ((with_reducible refine x_reg_lit ?hq ?_); case hq => rfl)
    | ((first | (with_reducible first | refine x_op (fun K hK => ?_) | refine end_ret ?_ | refine end_normal ?_) | ((with_reducible refine x_guard_yes ?hy (fun K hK => ?_)); case hy => rfl)); simp only [go_sem, Int.cast_ofNat_Int, Nat.reduceEqDiff, Nat.reduceAdd, Nat.reduceMul, Nat.reduceLeDiff, Nat.reduceLT, Int.reduceLT, Int.reduceLE, Int.reduceEq, Int.reduceNeg, Int.reduceToNat, Nat.reducePow, reduceIte, reduceCtorEq])
    | ((with_reducible first | refine x_guard_no ?hy ?_ | refine x_cond_true ?hy ?_); case hy => rfl)
    | ((with_reducible first | refine x_guard_none ?hy ?_ | refine x_cond_false ?hy ?_); case hy => rfl)
    | ((with_reducible refine block_exit_ne ?hy ?_); case hy => decide))
  refine askOuter h0 l0 h1 l1 hM rfl rfl rfl rfl rfl ?_
  intro e4 H4 Ta4 Tb4 S4 j6 j8 hM4
  repeat' (first
    | (with_reducible first | refine seq_normal ?_ | (refine hK _ _ ?_; clear hK K) | refine x_seq (fun K hK => ?_) | refine x_nil ?_ | refine x_block ?_ | refine x_skip ?_ | refine x_exit ?_ | refine x_ret ?_ | refine x_label ?_ | refine x_scope ?_ | (refine seq_ret ?_; clear hK K) | (refine seq_exit ?_; clear hK K) | refine block_normal ?_ | refine block_ret ?_ | refine block_exit ?_ | refine loop_exit ?_ | refine loop_ret ?_)
    | ((with_reducible refine x_reg_lit ?hq ?_); case hq => rfl)
    | ((first | (with_reducible first | refine x_op (fun K hK => ?_) | refine end_ret ?_ | refine end_normal ?_) | ((with_reducible refine x_guard_yes ?hy (fun K hK => ?_)); case hy => rfl)); simp only [go_sem, Int.cast_ofNat_Int, Nat.reduceEqDiff, Nat.reduceAdd, Nat.reduceMul, Nat.reduceLeDiff, Nat.reduceLT, Int.reduceLT, Int.reduceLE, Int.reduceEq, Int.reduceNeg, Int.reduceToNat, Nat.reducePow, reduceIte, reduceCtorEq])
    | ((with_reducible first | refine x_guard_no ?hy ?_ | refine x_cond_true ?hy ?_); case hy => rfl)
    | ((with_reducible first | refine x_guard_none ?hy ?_ | refine x_cond_false ?hy ?_); case hy => rfl)
    | ((with_reducible refine block_exit_ne ?hy ?_); case hy => decide))
  refine askEnd hM4 (by exact j6) (by exact j8) rfl ?_
  intro e5 H5 hf5
  repeat' (first
    | (with_reducible first | refine seq_normal ?_ | (refine hK _ _ ?_; clear hK K) | refine x_seq (fun K hK => ?_) | refine x_nil ?_ | refine x_block ?_ | refine x_skip ?_ | refine x_exit ?_ | refine x_ret ?_ | refine x_label ?_ | refine x_scope ?_ | (refine seq_ret ?_; clear hK K) | (refine seq_exit ?_; clear hK K) | refine block_normal ?_ | refine block_ret ?_ | refine block_exit ?_ | refine loop_exit ?_ | refine loop_ret ?_)
    | ((with_reducible refine x_reg_lit ?hq ?_); case hq => rfl)
    | ((first | (with_reducible first | refine x_op (fun K hK => ?_) | refine end_ret ?_ | refine end_normal ?_) | ((with_reducible refine x_guard_yes ?hy (fun K hK => ?_)); case hy => rfl)); simp only [go_sem, Int.cast_ofNat_Int, Nat.reduceEqDiff, Nat.reduceAdd, Nat.reduceMul, Nat.reduceLeDiff, Nat.reduceLT, Int.reduceLT, Int.reduceLE, Int.reduceEq, Int.reduceNeg, Int.reduceToNat, Nat.reducePow, reduceIte, reduceCtorEq])
    | ((with_reducible first | refine x_guard_no ?hy ?_ | refine x_cond_true ?hy ?_); case hy => rfl)
    | ((with_reducible first | refine x_guard_none ?hy ?_ | refine x_cond_false ?hy ?_); case hy => rfl)
    | ((with_reducible refine block_exit_ne ?hy ?_); case hy => decide))
  exact fin _ hf5
end Go.Proofs.Ytndkbhlfbeiniaa
